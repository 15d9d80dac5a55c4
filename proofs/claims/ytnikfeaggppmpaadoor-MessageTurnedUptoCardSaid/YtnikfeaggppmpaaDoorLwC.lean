/- part of a proof; what it has no use for was struck out -/
import Derived.Test.YtnikfeaggppmpaaDoorLwB
namespace Go.Proofs.YtnikfeaggppmpaaDoor.Rdr
open Go.RowKit Go.Proofs.YtnikfeaggppmpaaDoor.PM Go.Proofs.YtnikfeaggppmpaaDoorW Go.Proofs.YtnikfeaggppmpaaDoorW.PrintWords Go.Proofs.YtnikfeaggppmpaaDoorW.PrintLast Go.Proofs.YtnikfeaggppmpaaDoorW.PrintMore Go.Proofs.YtnikfeaggppmpaaDoor.Base Go.Proofs.YtnikfeaggppmpaaDoor.Trn Go.Proofs.YtnikfeaggppmpaaDoor.QM Go.Proofs.YtnikfeaggppmpaaDoor.Nam Go.Proofs.YtnikfeaggppmpaaDoor.Rd Go.Proofs.YtnikfeaggppmpaaDoor.Wr Go.Proofs.YtnikfeaggppmpaaDoor.MapS
set_option linter.unusedVariables false
set_option linter.unusedSimpArgs false
set_option maxRecDepth 100000
section
variable {s s' : ByteArray} {t : List Int}
theorem pre_size (h : bytesOf s' = bytesOf s ++ t) : s'.size = s.size + t.length := by rw [size_of h, List.length_append, of_size]
theorem bt_pre (h : bytesOf s' = bytesOf s ++ t) {p : Int} (h0 : 0 ≤ p) (h1 : p < s.size) : bt s' p = bt s p := by
  have hz := pre_size h
  rw [← of_rd s h0 h1, ← of_rd s' h0 (by omega), h, rd_left _ _ h0 (by rw [of_size]; exact h1)]
theorem g16_pre (h : bytesOf s' = bytesOf s ++ t) {p : Int} (hp : (g16 s p).2 = true) : g16 s' p = g16 s p := by
  have hz := pre_size h
  obtain ⟨h0, h1⟩ := g16_ok hp
  unfold g16
  rw [if_pos ⟨h0, by omega⟩, if_pos ⟨h0, h1⟩, bt_pre h h0 (by omega), bt_pre h (by omega) (by omega)]
theorem g32_ok {p : Int} (h : (g32 s p).2 = true) : 0 ≤ p ∧ p + 4 ≤ s.size := by
  unfold g32 at h
  split at h
  · assumption
  · cases h
theorem g32_pre (h : bytesOf s' = bytesOf s ++ t) {p : Int} (hp : (g32 s p).2 = true) : g32 s' p = g32 s p := by
  have hz := pre_size h
  obtain ⟨h0, h1⟩ := g32_ok hp
  unfold g32
  rw [if_pos ⟨h0, by omega⟩, if_pos ⟨h0, h1⟩, bt_pre h h0 (by omega), bt_pre h (by omega) (by omega), bt_pre h (p := p + 2) (by omega) (by omega), bt_pre h (p := p + 3) (by omega) (by omega)]
theorem rdC_pre (h : bytesOf s' = bytesOf s ++ t) : ∀ (k : Nat) (p e low : Int) (ls : List (List Int)) (r : List (List Int) × Int), rdC s k p e low ls = some (some r) → rdC s' k p e low ls = some (some r)
  | 0, _, _, _, _, _, hr => by cases hr
  | k + 1, p, e, low, ls, r, hr => by
    have hz := pre_size h
    unfold rdC at hr ⊢
    have r0 := bt_range s p
    have r1 := bt_range s (p + 1)
    split at hr
    · cases hr
    rename_i c1
    have b0 := bt_pre h (p := p) (by omega) (by omega)
    rw [if_neg (by omega), b0]
    split at hr
    · rename_i c2
      rw [if_pos c2]
      exact hr
    rename_i c2
    rw [if_neg c2]
    split at hr
    · rename_i c3
      rw [if_pos ⟨c3.1, by omega, c3.2.2⟩]
      have e1 : ((bytesOf s').take (p + 1 + bt s p).toNat) = ((bytesOf s).take (p + 1 + bt s p).toNat) := by
        rw [h, List.take_append_of_le_length]
        rw [of_size]
        omega
      rw [e1]
      exact rdC_pre h k _ _ _ _ _ hr
    rename_i c3
    split at hr
    · rename_i c4
      have b1 := bt_pre h (p := p + 1) (by omega) (by omega)
      rw [if_neg (by omega), b1, if_pos ⟨c4.1, by omega, c4.2.2⟩]
      exact rdC_pre h k _ _ _ _ _ hr
    · cases hr
theorem nmR_some {p : Int} (h : (nmR s p).2.2 = true) : ∃ L E, rdF s p = some (L, E) ∧ mkOk L = true ∧ nmR s p = (mkL L, E, true) := by
  unfold nmR at h ⊢
  cases hr : rdF s p with
  | none => rw [hr] at h; cases h
  | some r =>
    obtain ⟨L, E⟩ := r
    rw [hr] at h
    unfold rdV at h ⊢
    simp only at h ⊢
    split at h
    · rename_i hk
      exact ⟨L, E, rfl, hk, by rw [if_pos hk]⟩
    · cases h
theorem nmR_pre (h : bytesOf s' = bytesOf s ++ t) {p : Int} (hp : (nmR s p).2.2 = true) : nmR s' p = nmR s p := by
  obtain ⟨L, E, h1, h2, h3⟩ := nmR_some hp
  have k := rdF_eq s p
  rw [h1] at k
  have k2 := rdF_of (rdC_pre h _ _ _ _ _ _ k)
  unfold nmR
  rw [h1, k2]
theorem sub_pre (h : bytesOf s' = bytesOf s ++ t) {p n : Int} (h1 : p + n ≤ s.size) : sub s' p n = sub s p n := by
  apply str_inj'
  unfold sub
  rw [bytes_ex, bytes_ex, h, List.take_append_of_le_length]
  rw [of_size]
  omega
theorem dR_pre (h : bytesOf s' = bytesOf s ++ t) {p n ty : Int} (hp : (dR s p n ty).2 = true) : dR s' p n ty = dR s p n ty := by
  have hz := pre_size h
  have hle := dR_ok hp
  have n1 : ¬ ((s.size : Int) - n < p) := by omega
  have n2 : ¬ ((s'.size : Int) - n < p) := by omega
  unfold dR at hp ⊢
  rw [if_neg n1] at hp
  rw [if_neg n2, if_neg n1]
  split at hp
  · rename_i c
    rw [if_pos c, if_pos c]
    split at hp
    · rename_i c2
      rw [nmR_pre h c2.1]
    · cases hp
  · rename_i c
    rw [if_neg c, if_neg c]
    split at hp
    · rename_i c1
      rw [if_pos c1, if_pos c1]
      split at hp
      · rename_i c2
        rw [nmR_pre h c2.1, nmR_pre h c2.2.1]
        rw [sub_pre h (p := (nmR s (nmR s p).2.1).2.1) (n := 20) (by omega)]
      · cases hp
    · rename_i c1
      rw [if_neg c1, if_neg c1, sub_pre h (by omega)]
theorem rc_ok {p : Int} (h : (rcR s p false).2.2.2 = false) : (nmR s p).2.2 = true ∧ (g16 s (nmR s p).2.1).2 = true ∧ (g16 s ((nmR s p).2.1 + 2)).2 = true ∧ (g32 s ((nmR s p).2.1 + 4)).2 = true ∧ (g16 s ((nmR s p).2.1 + 8)).2 = true ∧ (dR s ((nmR s p).2.1 + 10) (g16 s ((nmR s p).2.1 + 8)).1 (g16 s (nmR s p).2.1).1).2 = true ∧
    rcR s p false = (⟨strOfNums (nmR s p).1, (g16 s (nmR s p).2.1).1, (g32 s ((nmR s p).2.1 + 4)).1, (dR s ((nmR s p).2.1 + 10) (g16 s ((nmR s p).2.1 + 8)).1 (g16 s (nmR s p).2.1).1).1⟩, (g16 s ((nmR s p).2.1 + 2)).1, (nmR s p).2.1 + 10 + (g16 s ((nmR s p).2.1 + 8)).1, false) := by
  have hd : hdB s p false = false := by
    unfold rcR at h
    cases hb : hdB s p false with
    | false => rfl
    | true => rw [if_pos hb] at h; cases h
  have hd' := hd
  have h' := h
  unfold rcR at h h' ⊢
  rw [if_neg (by rw [hd]; decide)] at h h' ⊢
  simp only [Bool.not_eq_false'] at h'
  unfold hdB at hd'
  simp only [Bool.or_eq_false_iff, Bool.not_eq_false', Bool.false_or] at hd'
  obtain ⟨⟨⟨⟨h1, h2⟩, h3⟩, h4⟩, h5⟩ := hd'
  refine ⟨h1, h2, h3, h4, h5, h', ?_⟩
  rw [h']
  rfl
theorem rcR_pre (h : bytesOf s' = bytesOf s ++ t) {p : Int} (hp : (rcR s p false).2.2.2 = false) : rcR s' p false = rcR s p false := by
  obtain ⟨h1, h2, h3, h4, h5, h6, h7⟩ := rc_ok hp
  have e1 := nmR_pre h h1
  have e2 := g16_pre h h2
  have e3 := g16_pre h h3
  have e4 := g32_pre h h4
  have e5 := g16_pre h h5
  have e6 := dR_pre h h6
  have hh : hdB s' p false = false := by
    unfold hdB
    rw [e1, e2, e3, e4, e5, h1, h2, h3, h4, h5]
    rfl
  rw [h7]
  unfold rcR
  rw [if_neg (by rw [hh]; decide), e1, e2, e3, e4, e5, e6, h6]
  rfl
theorem rc_lt {p : Int} (hp : (rcR s p false).2.2.2 = false) : p < (rcR s p false).2.2.1 := by
  obtain ⟨h1, h2, h3, h4, h5, h6, h7⟩ := rc_ok hp
  have e := nmR_end s p h1
  have g := (g16_rng s ((nmR s p).2.1 + 8)).1
  rw [h7]
  show p < (nmR s p).2.1 + 10 + (g16 s ((nmR s p).2.1 + 8)).1
  omega
theorem ptR_bad (has : Bool) : ∀ (d : Nat) (p : Int) (out : List R) (sz : Int), ptR s has d p true out sz = (out, p, true, sz)
  | 0, _, _, _ => rfl
  | d + 1, p, out, sz => by rw [ptR, if_pos rfl]
theorem ptR_fall (has : Bool) (d : Nat) (p : Int) (out : List R) (sz : Int) (h : (rcR s p false).2.2.2 = true) : (ptR s has (d + 1) p false out sz).2.2.1 = true := by
  rw [ptR, if_neg (by decide), h]
  split
  · rw [ptR_bad]
  split
  · rw [ptR_bad]
  · rw [ptR_bad]
theorem ptR_pre (h : bytesOf s' = bytesOf s ++ t) (has : Bool) : ∀ (d : Nat) (p : Int) (bad : Bool) (out : List R) (sz : Int), (ptR s has d p bad out sz).2.2.1 = false → ptR s' has d p bad out sz = ptR s has d p bad out sz
  | 0, _, _, _, _, _ => rfl
  | d + 1, p, bad, out, sz, hr => by
    cases bad with
    | true => rw [ptR_bad] at hr; cases hr
    | false =>
      have hb : (rcR s p false).2.2.2 = false := by
        cases hb : (rcR s p false).2.2.2 with
        | false => rfl
        | true => rw [ptR_fall has d p out sz hb] at hr; cases hr
      have e := rcR_pre h hb
      have bf : ¬ (false = true) := by decide
      rw [ptR, if_neg bf] at hr
      conv => lhs; rw [ptR, if_neg bf, e]
      conv => rhs; rw [ptR, if_neg bf]
      split at hr
      · rename_i c
        rw [if_pos c, if_pos c]
        exact ptR_pre h has d _ _ _ _ hr
      · rename_i c
        rw [if_neg c, if_neg c]
        split at hr
        · rw [ptR_bad] at hr
          cases hr
        · rename_i c2
          rw [if_neg c2, if_neg c2]
          exact ptR_pre h has d _ _ _ _ hr
theorem dec_ok {m : Msg} (h : decR s = some m) : s.size ≤ 4096 ∧ 12 ≤ s.size ∧ (g16 s 4).1 = 1 ∧ (g16 s 2).1 / 16 % 8 = 0 ∧ (g16 s (qP s + 2)).1 = 1 ∧ qB s = false ∧ bA s = false ∧ bN s = false ∧ bE s = false ∧ (pE s).2.1 = s.size ∧ m = msgR s := by
  unfold decR at h
  split at h
  · cases h
  split at h
  · cases h
  split at h
  · cases h
  split at h
  · cases h
  rename_i c1 c2 c3 c4
  have hE : bE s = false := by
    cases hb : bE s with
    | false => rfl
    | true => exact absurd (.inl hb) c4
  have hN : bN s = false := by
    cases hb : bN s with
    | false => rfl
    | true =>
      unfold bE pE at hE
      rw [hb, ptR_bad] at hE
      cases hE
  have hA : bA s = false := by
    cases hb : bA s with
    | false => rfl
    | true =>
      unfold bN pN at hN
      rw [hb, ptR_bad] at hN
      cases hN
  have hQ : qB s = false := by
    cases hb : qB s with
    | false => rfl
    | true =>
      unfold bA pA at hA
      rw [hb, ptR_bad] at hA
      cases hA
  refine ⟨by omega, by omega, ?_, ?_, ?_, hQ, hA, hN, hE, ?_, (Option.some.inj h).symm⟩
  · exact Classical.byContradiction fun h => c2 (.inr (.inl h))
  · exact Classical.byContradiction fun h => c2 (.inr (.inr h))
  · exact Classical.byContradiction fun h => c3 h
  · exact Classical.byContradiction fun h => c4 (.inr h)
theorem q_ok (h : qB s = false) : (nmR s 12).2.2 = true ∧ (g16 s (qP s)).2 = true ∧ (g16 s (qP s + 2)).2 = true := by
  unfold qB at h
  simp only [Bool.or_eq_false_iff, Bool.not_eq_false'] at h
  exact ⟨h.1.1, h.1.2, h.2⟩
theorem dec_long (h : bytesOf s' = bytesOf s ++ t) (ht : t ≠ []) {m : Msg} (hd : decR s = some m) : decR s' = none := by
  have hz := pre_size h
  have htl : 0 < t.length := List.length_pos_iff.2 ht
  obtain ⟨h1, h2, h3, h4, h5, hQ, hA, hN, hE, hP, -⟩ := dec_ok hd
  obtain ⟨q1, q2, q3⟩ := q_ok hQ
  have g (p : Int) (h0 : 0 ≤ p) (h1 : p + 2 ≤ 12) : g16 s' p = g16 s p := g16_pre h (by rw [g16_flag]; exact decide_eq_true ⟨h0, by omega⟩)
  have eq : qP s' = qP s := by unfold qP; rw [nmR_pre h q1]
  have eB : qB s' = qB s := by
    unfold qB
    rw [eq, nmR_pre h q1, g16_pre h q2, g16_pre h q3]
  have eA : pA s' = pA s := by
    unfold pA
    rw [g 6 (by decide) (by decide), eq, eB]
    refine ptR_pre h false _ _ _ _ _ ?_
    unfold bA at hA
    rw [Bool.or_eq_false_iff] at hA
    exact hA.1
  have eBA : bA s' = bA s := by unfold bA; rw [eA]
  have eN : pN s' = pN s := by
    unfold pN
    rw [g 8 (by decide) (by decide), eA, eBA]
    refine ptR_pre h false _ _ _ _ _ ?_
    unfold bN at hN
    rw [Bool.or_eq_false_iff] at hN
    exact hN.1
  have eBN : bN s' = bN s := by unfold bN; rw [eN]
  have eE : pE s' = pE s := by
    unfold pE
    rw [g 10 (by decide) (by decide), eN, eBN]
    refine ptR_pre h true _ _ _ _ _ ?_
    unfold bE at hE
    rw [Bool.or_eq_false_iff] at hE
    exact hE.1
  unfold decR
  split
  · rfl
  split
  · rfl
  split
  · rfl
  rw [if_pos (.inr (by rw [eE, hP]; omega))]
theorem dec_short (h : bytesOf s' = bytesOf s ++ t) (ht : t ≠ []) {m : Msg} (hd : decR s' = some m) : decR s = none := by
  cases hs : decR s with
  | none => rfl
  | some x => rw [dec_long h ht hs] at hd; cases hd
end
theorem part_len {b : Bool} {l : List R} (h : (b || decide (64 < l.length)) = false) : b = false ∧ l.length ≤ 64 := by
  rw [Bool.or_eq_false_iff] at h
  have := of_decide_eq_false h.2
  exact ⟨h.1, by omega⟩
end Go.Proofs.YtnikfeaggppmpaaDoor.Rdr
