/- part of a proof; what it has no use for was struck out -/
import Derived.Test.YtnikfeaggppmpaaDoorLwB
namespace Go.Proofs.YtnikfeaggppmpaaDoor.Rdr
open Go.RowKit Go.Proofs.YtnikfeaggppmpaaDoor.PM Go.Proofs.YtnikfeaggppmpaaDoorW Go.Proofs.YtnikfeaggppmpaaDoorW.PrintWords Go.Proofs.YtnikfeaggppmpaaDoorW.PrintLast Go.Proofs.YtnikfeaggppmpaaDoorW.PrintMore Go.Proofs.YtnikfeaggppmpaaDoor.Base Go.Proofs.YtnikfeaggppmpaaDoor.Trn Go.Proofs.YtnikfeaggppmpaaDoor.QM Go.Proofs.YtnikfeaggppmpaaDoor.Nam Go.Proofs.YtnikfeaggppmpaaDoor.Rd Go.Proofs.YtnikfeaggppmpaaDoor.Wr Go.Proofs.YtnikfeaggppmpaaDoor.MapS
set_option linter.unusedVariables false
set_option linter.unusedSimpArgs false
set_option maxRecDepth 100000
section
variable {s s' : ByteArray} {t : List Int}
theorem nmR_some {p : Int} (h : (nmR s p).2.2 = true) : ∃ L E, rdF s p = some (L, E) ∧ mkOk L = true ∧ nmR s p = (mkL L, E, true) := by
  unfold nmR at h ⊢
  cases hr : rdF s p with
  | none => rw [hr] at h; cases h
  | some r =>
    obtain ⟨L, E⟩ := r
    rw [hr] at h
    unfold rdV at h ⊢
    simp only at h ⊢
    split at h
    · rename_i hk
      exact ⟨L, E, rfl, hk, by rw [if_pos hk]⟩
    · cases h
theorem rc_ok {p : Int} (h : (rcR s p false).2.2.2 = false) : (nmR s p).2.2 = true ∧ (g16 s (nmR s p).2.1).2 = true ∧ (g16 s ((nmR s p).2.1 + 2)).2 = true ∧ (g32 s ((nmR s p).2.1 + 4)).2 = true ∧ (g16 s ((nmR s p).2.1 + 8)).2 = true ∧ (dR s ((nmR s p).2.1 + 10) (g16 s ((nmR s p).2.1 + 8)).1 (g16 s (nmR s p).2.1).1).2 = true ∧
    rcR s p false = (⟨strOfNums (nmR s p).1, (g16 s (nmR s p).2.1).1, (g32 s ((nmR s p).2.1 + 4)).1, (dR s ((nmR s p).2.1 + 10) (g16 s ((nmR s p).2.1 + 8)).1 (g16 s (nmR s p).2.1).1).1⟩, (g16 s ((nmR s p).2.1 + 2)).1, (nmR s p).2.1 + 10 + (g16 s ((nmR s p).2.1 + 8)).1, false) := by
  have hd : hdB s p false = false := by
    unfold rcR at h
    cases hb : hdB s p false with
    | false => rfl
    | true => rw [if_pos hb] at h; cases h
  have hd' := hd
  have h' := h
  unfold rcR at h h' ⊢
  rw [if_neg (by rw [hd]; decide)] at h h' ⊢
  simp only [Bool.not_eq_false'] at h'
  unfold hdB at hd'
  simp only [Bool.or_eq_false_iff, Bool.not_eq_false', Bool.false_or] at hd'
  obtain ⟨⟨⟨⟨h1, h2⟩, h3⟩, h4⟩, h5⟩ := hd'
  refine ⟨h1, h2, h3, h4, h5, h', ?_⟩
  rw [h']
  rfl
theorem ptR_bad (has : Bool) : ∀ (d : Nat) (p : Int) (out : List R) (sz : Int), ptR s has d p true out sz = (out, p, true, sz)
  | 0, _, _, _ => rfl
  | d + 1, p, out, sz => by rw [ptR, if_pos rfl]
theorem ptR_fall (has : Bool) (d : Nat) (p : Int) (out : List R) (sz : Int) (h : (rcR s p false).2.2.2 = true) : (ptR s has (d + 1) p false out sz).2.2.1 = true := by
  rw [ptR, if_neg (by decide), h]
  split
  · rw [ptR_bad]
  split
  · rw [ptR_bad]
  · rw [ptR_bad]
theorem dec_ok {m : Msg} (h : decR s = some m) : s.size ≤ 4096 ∧ 12 ≤ s.size ∧ (g16 s 4).1 = 1 ∧ (g16 s 2).1 / 16 % 8 = 0 ∧ (g16 s (qP s + 2)).1 = 1 ∧ qB s = false ∧ bA s = false ∧ bN s = false ∧ bE s = false ∧ (pE s).2.1 = s.size ∧ m = msgR s := by
  unfold decR at h
  split at h
  · cases h
  split at h
  · cases h
  split at h
  · cases h
  split at h
  · cases h
  rename_i c1 c2 c3 c4
  have hE : bE s = false := by
    cases hb : bE s with
    | false => rfl
    | true => exact absurd (.inl hb) c4
  have hN : bN s = false := by
    cases hb : bN s with
    | false => rfl
    | true =>
      unfold bE pE at hE
      rw [hb, ptR_bad] at hE
      cases hE
  have hA : bA s = false := by
    cases hb : bA s with
    | false => rfl
    | true =>
      unfold bN pN at hN
      rw [hb, ptR_bad] at hN
      cases hN
  have hQ : qB s = false := by
    cases hb : qB s with
    | false => rfl
    | true =>
      unfold bA pA at hA
      rw [hb, ptR_bad] at hA
      cases hA
  refine ⟨by omega, by omega, ?_, ?_, ?_, hQ, hA, hN, hE, ?_, (Option.some.inj h).symm⟩
  · exact Classical.byContradiction fun h => c2 (.inr (.inl h))
  · exact Classical.byContradiction fun h => c2 (.inr (.inr h))
  · exact Classical.byContradiction fun h => c3 h
  · exact Classical.byContradiction fun h => c4 (.inr h)
end
theorem rdC_b8 (m : ByteArray) : ∀ (k : Nat) (p e low : Int) (ls L : List (List Int)) (E : Int), rdC m k p e low ls = some (some (L, E)) → (∀ l ∈ ls, B8 l) → ∀ l ∈ L, B8 l
  | 0, _, _, _, _, _, _, h => by cases h
  | k + 1, p, e, low, ls, L, E, h => by
    intro hl
    unfold rdC at h
    split at h
    · cases h
    split at h
    · have h := Option.some.inj (Option.some.inj h)
      rw [← (Prod.mk.inj h).1]
      exact hl
    split at h
    · refine rdC_b8 m k _ _ _ _ _ _ h ?_
      intro l hm
      rcases List.mem_append.1 hm with hm | hm
      · exact hl l hm
      · rw [List.mem_singleton] at hm
        subst hm
        exact ((of_b8 m).take _).drop _
    split at h
    · exact rdC_b8 m k _ _ _ _ _ _ h hl
    · cases h
theorem nmR_nm (m : ByteArray) (p : Int) : nm (nmR m p).1 = true ∧ B8 (nmR m p).1 := by
  cases h : (nmR m p).2.2 with
  | false => rw [nmR_no m p h]; exact ⟨nam_empty, B8.nil⟩
  | true =>
    obtain ⟨L, E, h1, h2, h3⟩ := nmR_some h
    have k := rdF_eq m p
    rw [h1] at k
    have h8 := rdC_b8 m _ _ _ _ _ _ _ k (by simp)
    rw [h3]
    refine ⟨mk_nm h2 h8, ?_⟩
    have := mk_b8 h8
    unfold mk at this
    rw [if_pos h2] at this
    exact this
theorem g32_rng (s : ByteArray) (p : Int) : 0 ≤ (g32 s p).1 ∧ (g32 s p).1 < 4294967296 := by
  unfold g32
  have h0 := bt_range s p
  have h1 := bt_range s (p + 1)
  have h2 := bt_range s (p + 2)
  have h3 := bt_range s (p + 3)
  split
  · show 0 ≤ ((bt s p * 256 + bt s (p + 1)) * 256 + bt s (p + 2)) * 256 + bt s (p + 3) ∧ _ < (4294967296 : Int)
    omega
  · show (0 : Int) ≤ 0 ∧ (0 : Int) < 4294967296
    decide
theorem dR_may {s : ByteArray} {p n ty : Int} (h0 : 0 ≤ p) (h : (dR s p n ty).2 = true) : mayB ty (dR s p n ty).1 = true := by
  have hle := dR_ok h
  unfold dR at h ⊢
  rw [if_neg (by omega)] at h ⊢
  split at h
  · rename_i c
    split at h
    · rename_i c2
      rw [if_pos c, if_pos c2]
      simp only
      unfold mayB
      rw [if_neg (by omega), if_neg (by omega), if_pos c, bytes_str (nmR_nm s p).2]
      exact (nmR_nm s p).1
    · cases h
  · rename_i c
    split at h
    · rename_i c1
      split at h
      · rename_i c2
        rw [if_neg c, if_pos c1, if_pos c2]
        simp only
        unfold mayB
        rw [if_neg (by omega), if_neg (by omega), if_neg c, if_pos c1]
        have n1 := nmR_nm s p
        have n2 := nmR_nm s (nmR s p).2.1
        have e2 := nmR_end s _ c2.2.1
        have hl : (bytesOf (sub s (nmR s (nmR s p).2.1).2.1 20)).length = 20 := by
          unfold sub
          rw [of_size, ByteArray.size_extract]
          omega
        have e : bytesOf ((strOfNums (nmR s p).1 ++ ⟨#[0]⟩) ++ (strOfNums (nmR s (nmR s p).2.1).1 ++ ⟨#[0]⟩) ++ sub s (nmR s (nmR s p).2.1).2.1 20) = (nmR s p).1 ++ 0 :: ((nmR s (nmR s p).2.1).1 ++ 0 :: bytesOf (sub s (nmR s (nmR s p).2.1).2.1 20)) := by
          rw [bytes_app, bytes_app, bytes_app, bytes_app, bytes_str n1.2, bytes_str n2.2]
          simp [bytesOf]
        rw [e, soaP_of n1.1 n2.1 hl]
      · cases h
    · rename_i c1
      split at h
      · rename_i c2
        rw [if_neg c, if_neg c1, if_pos c2]
        exact c2
      · cases h
theorem rc_may {s : ByteArray} {p : Int} (h : (rcR s p false).2.2.2 = false) (h41 : (rcR s p false).1.f1 ≠ 41) : mayR (rcR s p false).1 = true ∧ WfR (rcR s p false).1 := by
  obtain ⟨h1, h2, h3, h4, h5, h6, h7⟩ := rc_ok h
  have n := nmR_nm s p
  have e := nmR_end s p h1
  rw [h7] at h41 ⊢
  simp only at h41 ⊢
  have hm := dR_may (by omega) h6
  have hl := mayB_len hm
  have hn := nmR_len s p
  refine ⟨?_, g16_rng _ _, g32_rng _ _, by show (strOfNums (nmR s p).1).size ≤ _; rw [str_size]; omega, by show ByteArray.size (dR s _ _ _).1 ≤ _; omega⟩
  unfold mayR
  simp only
  rw [bytes_str n.2, n.1, decide_eq_true h41, hm]
  rfl
theorem pt_may {s : ByteArray} (has : Bool) : ∀ (d : Nat) (p : Int) (bad : Bool) (out : List R) (sz : Int), (ptR s has d p bad out sz).2.2.1 = false → (∀ r ∈ out, mayR r = true ∧ WfR r) → (0 ≤ sz ∧ sz < 65536) → (∀ r ∈ (ptR s has d p bad out sz).1, mayR r = true ∧ WfR r) ∧ 0 ≤ (ptR s has d p bad out sz).2.2.2 ∧ (ptR s has d p bad out sz).2.2.2 < 65536
  | 0, _, _, _, _, _, ho, hz => ⟨ho, hz⟩
  | d + 1, p, bad, out, sz, hr, ho, hz => by
    cases bad with
    | true => rw [ptR_bad] at hr; cases hr
    | false =>
      have hb : (rcR s p false).2.2.2 = false := by
        cases hb : (rcR s p false).2.2.2 with
        | false => rfl
        | true => rw [ptR_fall has d p out sz hb] at hr; cases hr
      rw [ptR, if_neg (by decide)] at hr ⊢
      split at hr
      · rename_i c
        rw [if_pos c]
        refine pt_may has d _ _ _ _ hr ho ?_
        obtain ⟨-, -, -, -, -, -, h7⟩ := rc_ok hb
        rw [h7]
        exact g16_rng _ _
      · rename_i c
        rw [if_neg c]
        split at hr
        · rw [ptR_bad] at hr
          cases hr
        · rename_i c2
          rw [if_neg c2]
          refine pt_may has d _ _ _ _ hr ?_ hz
          intro r hm
          rcases List.mem_append.1 hm with hm | hm
          · exact ho r hm
          · rw [List.mem_singleton] at hm
            subst hm
            exact rc_may hb (fun h => c2 (.inl h))
theorem part_len {b : Bool} {l : List R} (h : (b || decide (64 < l.length)) = false) : b = false ∧ l.length ≤ 64 := by
  rw [Bool.or_eq_false_iff] at h
  have := of_decide_eq_false h.2
  exact ⟨h.1, by omega⟩
theorem dec_may {s : ByteArray} {m : Msg} (h : decR s = some m) : mayM m = true ∧ WfM m := by
  obtain ⟨h1, h2, h3, h4, h5, hQ, hA, hN, hE, hP, rfl⟩ := dec_ok h
  obtain ⟨a1, a2⟩ := part_len hA
  obtain ⟨b1, b2⟩ := part_len hN
  obtain ⟨c1, c2⟩ := part_len hE
  obtain ⟨a3, -⟩ := pt_may false _ _ _ [] 0 a1 (by simp) (by decide)
  obtain ⟨b3, -⟩ := pt_may false _ _ _ [] 0 b1 (by simp) (by decide)
  obtain ⟨c3, c4⟩ := pt_may true _ _ _ [] 0 c1 (by simp) (by decide)
  have n := nmR_nm s 12
  have hn := nmR_len s 12
  have g2 := g16_rng s 2
  have part : ∀ l : List R, l.length ≤ 64 → (∀ r ∈ l, mayR r = true ∧ WfR r) → partOk l = true := fun l h1 h2 => by
    unfold partOk
    rw [decide_eq_true h1, Bool.true_and, List.all_eq_true]
    exact fun r hr => (h2 r hr).1
  refine ⟨?_, ⟨fun r hr => (a3 r hr).2, fun r hr => (b3 r hr).2, fun r hr => (c3 r hr).2⟩, by show (strOfNums (nmR s 12).1).size ≤ _; rw [str_size]; omega, by show (pE s).1.length ≤ _; omega, by show (pA s).1.length ≤ _; omega, by show (pN s).1.length ≤ _; omega, g16_rng _ _, g16_rng _ _⟩
  unfold mayM
  rw [Bool.and_eq_true]
  refine ⟨?_, ?_⟩
  · unfold headOk
    have e : nm (bytesOf (msgR s).qn) = true := by
      show nm (bytesOf (strOfNums (nmR s 12).1)) = true
      rw [bytes_str n.2]
      exact n.1
    rw [e, Bool.and_true]
    refine decide_eq_true ?_
    show 0 ≤ (g16 s 2).1 / 2048 % 16 ∧ (g16 s 2).1 / 2048 % 16 < 16 ∧ 0 ≤ (g16 s 2).1 % 16 ∧ (g16 s 2).1 % 16 < 16 ∧ 0 ≤ (pE s).2.2.2 ∧ (pE s).2.2.2 < 65536
    refine ⟨by omega, by omega, by omega, by omega, c4.1, c4.2⟩
  · show [(pA s).1, (pN s).1, (pE s).1].all partOk = true
    rw [List.all_cons, part _ a2 a3, List.all_cons, part _ b2 b3, List.all_cons, part _ c2 c3]
    rfl
end Go.Proofs.YtnikfeaggppmpaaDoor.Rdr
