/- part of a proof; what it has no use for was struck out -/
import Derived.Test.YtnikfeaggppmpaaGoes
import Derived.Test.YtnikfeaggppmpaaCut
import Derived.Test.YtnikfeaggppmpaaQMGet32
import Derived.Test.YtnikfeaggppmpaaPMx5
namespace Go.Proofs.Ytnikfeaggppmpaa.Wr
open Go.RowKit Go.Proofs.Ytnikfeaggppmpaa.PM Go.Proofs.YtnikfeaggppmpaaW.PrintWords Go.Proofs.YtnikfeaggppmpaaW.PrintLast Go.Proofs.Ytnikfeaggppmpaa.Base Go.Proofs.Ytnikfeaggppmpaa.Nam Go.Proofs.Ytnikfeaggppmpaa.Trn Go.Proofs.Ytnikfeaggppmpaa.MapS Go.Proofs.Ytnikfeaggppmpaa.QM
set_option linter.unusedVariables false
set_option linter.unusedSimpArgs false
set_option maxRecDepth 100000
theorem Ev_one {α : Type} {f : Nat → Option α} {a b : α} (h1 : Ev f a) (h2 : Ev f b) : a = b := by
  obtain ⟨K1, g1⟩ := h1
  obtain ⟨K2, g2⟩ := h2
  have e1 := g1 (max K1 K2) (by omega)
  have e2 := g2 (max K1 K2) (by omega)
  rw [e1] at e2
  exact Option.some.inj e2
theorem rsoa_ev (s : ByteArray) (hs : s.size ≤ 1000000000000) : Ev (fun k => rdata_soa.f k s) (strOfNums (soaP (bytesOf s)).1, strOfNums (soaP (bytesOf s)).2.1, strOfNums (soaP (bytesOf s)).2.2.1, (soaP (bytesOf s)).2.2.2) := by
  obtain ⟨a, b, ok, hc⟩ : ∃ a b ok, cut (bytesOf s) = (a, b, ok) := ⟨_, _, _, rfl⟩
  obtain ⟨a2, b2, ok2, hc2⟩ : ∃ x y z, cut b = (x, y, z) := ⟨_, _, _, rfl⟩
  have hb8 := cut_b8 (of_b8 s) hc
  have hb82 := cut_b8 hb8.2 hc2
  have hl := cut_len hc
  have e1 := Cut_ev s hs
  rw [hc] at e1
  have e2 := Cut_ev (strOfNums b) (by rw [str_size]; rw [of_size] at hl; omega)
  rw [bytes_str hb8.2, hc2] at e2
  simp only at e1 e2
  obtain ⟨K1, h1⟩ := e1
  obtain ⟨K2, h2⟩ := e2
  refine ⟨max K1 K2, fun n hn => ?_⟩
  have h1' := h1 n (by omega)
  have h2' := h2 n (by omega)
  simp only at h1' h2'
  have hsz := str_size b2
  unfold soaP
  simp only [rdata_soa.f, h1', h2', Option.bind_some, hc, hc2]
  cases ok <;> cases ok2 <;> simp only [Bool.false_eq_true, if_false, if_true, true_and, false_and]
  · rfl
  · rfl
  · rfl
  · by_cases h20 : b2.length = 20
    · rw [if_pos (by omega), if_pos h20]
    · rw [if_neg (by omega), if_neg h20]
      rfl
theorem w64i {x : Int} (h0 : -1000000000000 ≤ x) (h1 : x ≤ 1000000000000) : wrap64 x = x := by unfold wrap64; omega
theorem texts_loop (s : ByteArray) (hs : s.size ≤ 1000000000) : ∀ (d i : Nat), s.size < i + d → i ≤ s.size + 1000 → ∃ b, Ev (fun k => rdata_texts.l0 k s (i : Int)) b := by
  intro d
  induction d with
  | zero =>
    intro i h1 h2
    refine ⟨false, 1, fun k hk => ?_⟩
    obtain ⟨k, rfl⟩ : ∃ k', k = k' + 1 := ⟨k - 1, by omega⟩
    simp only [rdata_texts.l0]
    rw [if_pos (by omega), if_neg (by omega)]
  | succ d ih =>
    intro i h1 h2
    by_cases hge : s.size ≤ i
    · by_cases he : i = s.size
      · refine ⟨decide ((i : Int) > 0), 1, fun k hk => ?_⟩
        obtain ⟨k, rfl⟩ : ∃ k', k = k' + 1 := ⟨k - 1, by omega⟩
        simp only [rdata_texts.l0]
        rw [if_pos (by omega), if_pos (by omega)]
      · refine ⟨false, 1, fun k hk => ?_⟩
        obtain ⟨k, rfl⟩ : ∃ k', k = k' + 1 := ⟨k - 1, by omega⟩
        simp only [rdata_texts.l0]
        rw [if_pos (by omega), if_neg (by omega)]
    · have hr := bt_range s (i : Int)
      obtain ⟨t, ht⟩ := Int.eq_ofNat_of_zero_le hr.1
      have ht2 : t ≤ 255 := by have := hr.2; omega
      obtain ⟨b, K, g⟩ := ih (i + 1 + t) (by omega) (by omega)
      refine ⟨b, K + 1, fun k hk => ?_⟩
      obtain ⟨k, rfl⟩ : ∃ k', k = k' + 1 := ⟨k - 1, by omega⟩
      have e := g k (by omega)
      simp only at e
      simp only [rdata_texts.l0]
      rw [if_neg (by omega), if_pos (by omega), if_pos (by omega), ht, w64i (x := ((t : Nat) : Int)) (by omega) (by omega), w64i (x := 1 + ((t : Nat) : Int)) (by omega) (by omega), w64i (x := (i : Int) + (1 + ((t : Nat) : Int))) (by omega) (by omega), show ((i : Int) + (1 + ((t : Nat) : Int))) = ((i + 1 + t : Nat) : Int) by omega]
      exact e
open Classical in
noncomputable def txtB (s : ByteArray) : Bool := if h : ∃ b, Ev (fun k => rdata_texts.f k s) b then Classical.choose h else false
theorem txtB_ev (s : ByteArray) (hs : s.size ≤ 1000000000) : Ev (fun k => rdata_texts.f k s) (txtB s) := by
  have h : ∃ b, Ev (fun k => rdata_texts.f k s) b := texts_loop s hs (s.size + 1) 0 (by omega) (by omega)
  unfold txtB
  rw [dif_pos h]
  exact Classical.choose_spec h
noncomputable def mayB (t : Int) (s : ByteArray) : Bool :=
  if t = 1 then decide (s.size = 4) else if t = 28 then decide (s.size = 16) else if t = 2 ∨ t = 5 then nm (bytesOf s) else if t = 6 then (soaP (bytesOf s)).2.2.2 else if t = 16 then txtB s && decide (s.size ≤ 512) else decide (s.size ≤ 512)
theorem mayB_ev (t : Int) (s : ByteArray) (hs : s.size ≤ 1000000000) : Ev (fun k => rdata_May.f k t s) (mayB t s) := by
  obtain ⟨K1, g1⟩ := May_ev s (by omega)
  obtain ⟨K2, g2⟩ := rsoa_ev s (by omega)
  obtain ⟨K3, g3⟩ := txtB_ev s hs
  unfold mayB
  by_cases h1 : t = 1
  · rw [if_pos h1]
    refine ⟨0, fun k _ => ?_⟩
    show rdata_May.f k t s = _
    unfold rdata_May.f
    rw [if_pos h1]
    refine congrArg some ?_
    by_cases h : s.size = 4
    · simp [h]
    · simp only [h]
      simp
      omega
  by_cases h2 : t = 28
  · rw [if_neg h1, if_pos h2]
    refine ⟨0, fun k _ => ?_⟩
    show rdata_May.f k t s = _
    unfold rdata_May.f
    rw [if_neg h1, if_pos h2]
    refine congrArg some ?_
    by_cases h : s.size = 16
    · simp [h]
    · simp only [h]
      simp
      omega
  rw [if_neg h1, if_neg h2]
  have kT : Ev (fun k => rdata_May.j0 k s t true) (nm (bytesOf s)) := by
    refine ⟨K1 + 1, fun k hk => ?_⟩
    obtain ⟨k, rfl⟩ : ∃ k', k = k' + 1 := ⟨k - 1, by omega⟩
    have e := g1 k (by omega)
    simp only at e
    simp only [rdata_May.j0, if_true]
    rw [e]
    rfl
  have kF : Ev (fun k => rdata_May.j0 k s t false) (if t = 6 then (soaP (bytesOf s)).2.2.2 else if t = 16 then txtB s && decide (s.size ≤ 512) else decide (s.size ≤ 512)) := by
    by_cases h6 : t = 6
    · rw [if_pos h6]
      refine ⟨K2 + 1, fun k hk => ?_⟩
      obtain ⟨k, rfl⟩ : ∃ k', k = k' + 1 := ⟨k - 1, by omega⟩
      have e := g2 k (by omega)
      simp only at e
      simp only [rdata_May.j0]
      rw [if_neg (by decide), if_pos h6, e]
      rfl
    · rw [if_neg h6]
      by_cases h16 : t = 16
      · rw [if_pos h16]
        refine ⟨K3 + 1, fun k hk => ?_⟩
        obtain ⟨k, rfl⟩ : ∃ k', k = k' + 1 := ⟨k - 1, by omega⟩
        have e := g3 k (by omega)
        simp only at e
        simp only [rdata_May.j0]
        rw [if_neg (by decide), if_neg h6, if_pos h16, e]
        cases txtB s with
        | false => rfl
        | true =>
          refine congrArg some ?_
          by_cases h : s.size ≤ 512
          · simp [h]
            omega
          · simp [h]
            omega
      · rw [if_neg h16]
        refine ⟨1, fun k hk => ?_⟩
        obtain ⟨k, rfl⟩ : ∃ k', k = k' + 1 := ⟨k - 1, by omega⟩
        simp only [rdata_May.j0]
        rw [if_neg (by decide), if_neg h6, if_neg h16]
        refine congrArg some ?_
        by_cases h : s.size ≤ 512
        · simp [h]
          omega
        · simp [h]
          omega
  by_cases h3 : t = 2
  · rw [if_pos (.inl h3)]
    obtain ⟨K, g⟩ := kT
    refine ⟨K, fun k hk => ?_⟩
    have e := g k hk
    show rdata_May.f k t s = _
    unfold rdata_May.f
    rw [if_neg h1, if_neg h2, if_pos h3]
    rw [show (t == 2) = true from beq_iff_eq.2 h3]
    exact e
  · by_cases h5 : t = 5
    · rw [if_pos (.inr h5)]
      obtain ⟨K, g⟩ := kT
      refine ⟨K, fun k hk => ?_⟩
      have e := g k hk
      show rdata_May.f k t s = _
      unfold rdata_May.f
      rw [if_neg h1, if_neg h2, if_neg h3]
      rw [show (t == 5) = true from beq_iff_eq.2 h5]
      exact e
    · rw [if_neg (by rintro (h | h); exact h3 h; exact h5 h)]
      obtain ⟨K, g⟩ := kF
      refine ⟨K, fun k hk => ?_⟩
      have e := g k hk
      show rdata_May.f k t s = _
      unfold rdata_May.f
      rw [if_neg h1, if_neg h2, if_neg h3]
      rw [show (t == 5) = false from beq_eq_false_iff_ne.2 h5]
      exact e
theorem mayB_len {t : Int} {s : ByteArray} (h : mayB t s = true) : s.size ≤ 600 := by
  unfold mayB at h
  split at h
  · have := of_decide_eq_true h; omega
  split at h
  · have := of_decide_eq_true h; omega
  split at h
  · have := ((nm_iff _).1 h).1
    rw [of_size] at this
    omega
  split at h
  · obtain ⟨a, b, r, hs⟩ : ∃ a b r, soaP (bytesOf s) = (a, b, r, true) := ⟨_, _, _, by rw [← h]⟩
    obtain ⟨h1, h2, h3, h4⟩ := soaP_yes hs
    have e1 := ((nm_iff _).1 h1).1
    have e2 := ((nm_iff _).1 h2).1
    have e3 := congrArg List.length h4
    rw [of_size] at e3
    simp at e3
    omega
  split at h
  · simp only [Bool.and_eq_true, decide_eq_true_eq] at h
    omega
  · have := of_decide_eq_true h; omega
abbrev St := List Int × (List Int → Option Int)
def put2 (l : List Int) (i : Nat) (a b : Int) : List Int := (l.set i a).set (i + 1) b
noncomputable def datW (t : Int) (d : ByteArray) (s : St) : St :=
  if t = 2 ∨ t = 5 then namW (bytesOf d) s
  else if t = 6 then ((namW (soaP (bytesOf d)).2.1 (namW (soaP (bytesOf d)).1 s)).1 ++ (soaP (bytesOf d)).2.2.1, (namW (soaP (bytesOf d)).2.1 (namW (soaP (bytesOf d)).1 s)).2)
  else (s.1 ++ bytesOf d, s.2)
noncomputable def wrD (t : Int) (d : ByteArray) (s : St) : St :=
  if mayB t d = true then
    (put2 (datW t d (s.1 ++ be16 0, s.2)).1 s.1.length ((((datW t d (s.1 ++ be16 0, s.2)).1.length : Int) - s.1.length - 2) % 65536 / 256) ((((datW t d (s.1 ++ be16 0, s.2)).1.length : Int) - s.1.length - 2) % 65536 % 256), (datW t d (s.1 ++ be16 0, s.2)).2)
  else s
theorem datW_len {t : Int} {d : ByteArray} (h : mayB t d = true) (s : St) : s.1.length ≤ (datW t d s).1.length ∧ (datW t d s).1.length ≤ s.1.length + 1200 := by
  have hl := mayB_len h
  unfold datW
  split
  · have := namW_len (bytesOf d) s
    omega
  split
  · have h1 := namW_len (soaP (bytesOf d)).1 s
    have h2 := namW_len (soaP (bytesOf d)).2.1 (namW (soaP (bytesOf d)).1 s)
    have h3 : (soaP (bytesOf d)).2.2.1.length ≤ d.size := by
      obtain ⟨a, b, r, ok, hs⟩ : ∃ a b r ok, soaP (bytesOf d) = (a, b, r, ok) := ⟨_, _, _, _, rfl⟩
      rw [hs]
      cases ok with
      | true =>
        have e3 := congrArg List.length (soaP_yes hs).2.2.2
        rw [of_size] at e3
        simp at e3
        show r.length ≤ _
        omega
      | false =>
        rw [(soaP_no hs).2.2]
        exact Nat.zero_le _
    rw [List.length_append]
    omega
  · rw [List.length_append, of_size]
    omega
theorem wrD_len (t : Int) (d : ByteArray) (s : St) : s.1.length ≤ (wrD t d s).1.length ∧ (wrD t d s).1.length ≤ s.1.length + 1202 := by
  unfold wrD
  split
  · rename_i h
    have := datW_len h (s.1 ++ be16 0, s.2)
    simp only [put2, List.length_set, List.length_append, be16_len] at this ⊢
    omega
  · omega
abbrev R := S37
noncomputable def recW (r : R) (s : St) : St := wrD r.f1 r.f3 ((namW (bytesOf r.f0) s).1 ++ all16 [r.f1, 1] ++ all32 [r.f2], (namW (bytesOf r.f0) s).2)
theorem recW_len (r : R) (s : St) : s.1.length ≤ (recW r s).1.length ∧ (recW r s).1.length ≤ s.1.length + 1500 := by
  unfold recW
  have h1 := namW_len (bytesOf r.f0) s
  have h2 := wrD_len r.f1 r.f3 ((namW (bytesOf r.f0) s).1 ++ all16 [r.f1, 1] ++ all32 [r.f2], (namW (bytesOf r.f0) s).2)
  simp only [List.length_append, all16_len, all32_len, List.length_cons, List.length_nil] at h2
  omega
noncomputable def recsW (rs : List R) (s : St) : St := rs.foldl (fun s r => recW r s) s
theorem recsW_len (rs : List R) (s : St) : s.1.length ≤ (recsW rs s).1.length ∧ (recsW rs s).1.length ≤ s.1.length + 1500 * rs.length := by
  induction rs generalizing s with
  | nil => exact ⟨Nat.le_refl _, Nat.le_refl _⟩
  | cons r rs ih =>
    have h1 := recW_len r s
    have h2 := ih (recW r s)
    have e : recsW (r :: rs) s = recsW rs (recW r s) := rfl
    rw [e, List.length_cons]
    omega
theorem recsW_take {rs : List R} {i : Nat} {r : R} (h : rs[i]? = some r) (s : St) : recsW (rs.take (i + 1)) s = recW r (recsW (rs.take i) s) := by
  unfold recsW
  rw [List.take_add_one, h]
  simp
end Go.Proofs.Ytnikfeaggppmpaa.Wr
