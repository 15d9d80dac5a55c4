/- part of a proof; what it has no use for was struck out -/
import Derived.Test.YtnikfeaggppmpaaDoorRdr
import Derived.Test.YtnikfeaggppmpaaDoorRd
namespace Go.Proofs.YtnikfeaggppmpaaDoor.Rdr
open Go.RowKit Go.Proofs.YtnikfeaggppmpaaDoor.PM Go.Proofs.YtnikfeaggppmpaaDoorW Go.Proofs.YtnikfeaggppmpaaDoorW.PrintWords Go.Proofs.YtnikfeaggppmpaaDoorW.PrintLast Go.Proofs.YtnikfeaggppmpaaDoorW.PrintMore Go.Proofs.YtnikfeaggppmpaaDoor.Base Go.Proofs.YtnikfeaggppmpaaDoor.Trn Go.Proofs.YtnikfeaggppmpaaDoor.QM Go.Proofs.YtnikfeaggppmpaaDoor.Nam Go.Proofs.YtnikfeaggppmpaaDoor.Rd
set_option linter.unusedVariables false
set_option linter.unusedSimpArgs false
set_option maxRecDepth 100000
def rdF (m : ByteArray) (p : Int) : Option (List (List Int) × Int) := (rdC m (p.toNat * 128 + 128) p (-1) p []).getD none
theorem rdF_eq (m : ByteArray) (p : Int) : rdC m (p.toNat * 128 + 128) p (-1) p [] = some (rdF m p) := by
  obtain ⟨r, hr⟩ := rdC_total m (p.toNat * 128 + 128) p (-1) p [] (by simp)
  unfold rdF
  rw [hr]
  rfl
theorem rdC_mono (m : ByteArray) : ∀ (k k' : Nat) (p e low : Int) (ls : List (List Int)) (r : Option (List (List Int) × Int)), k ≤ k' → rdC m k p e low ls = some r → rdC m k' p e low ls = some r
  | 0, _, _, _, _, _, _, _, h => by cases h
  | k + 1, 0, _, _, _, _, _, hk, _ => absurd hk (by omega)
  | k + 1, k' + 1, p, e, low, ls, r, hk, h => by
    unfold rdC at h ⊢
    split at h
    · rename_i c
      rw [if_pos c]
      exact h
    rename_i c
    rw [if_neg c]
    split at h
    · rename_i c
      rw [if_pos c]
      exact h
    rename_i c
    rw [if_neg c]
    split at h
    · rename_i c
      rw [if_pos c]
      exact rdC_mono m k k' _ _ _ _ _ (by omega) h
    rename_i c
    rw [if_neg c]
    split at h
    · rename_i c
      rw [if_pos c]
      exact rdC_mono m k k' _ _ _ _ _ (by omega) h
    rename_i c
    rw [if_neg c]
    exact h
theorem rdF_of {m : ByteArray} {p : Int} {k : Nat} {r : Option (List (List Int) × Int)} (h : rdC m k p (-1) p [] = some r) : rdF m p = r := by
  have h1 := rdC_mono m _ (max k (p.toNat * 128 + 128)) _ _ _ _ _ (by omega) h
  have h2 := rdC_mono m _ (max k (p.toNat * 128 + 128)) _ _ _ _ _ (by omega) (rdF_eq m p)
  rw [h1] at h2
  exact (Option.some.inj h2).symm
theorem rdC_end (m : ByteArray) : ∀ (k : Nat) (p e low : Int) (ls L : List (List Int)) (E : Int), rdC m k p e low ls = some (some (L, E)) → (0 ≤ e → E = e) ∧ (e < 0 → p < E ∧ E ≤ m.size ∧ 0 ≤ p)
  | 0, _, _, _, _, _, _, h => by cases h
  | k + 1, p, e, low, ls, L, E, h => by
    unfold rdC at h
    have r0 := bt_range m p
    split at h
    · cases h
    split at h
    · have h := Option.some.inj (Option.some.inj h)
      have hE := (Prod.mk.inj h).2
      split at hE <;> constructor <;> intro h1 <;> first | omega | (refine ⟨?_, ?_, ?_⟩ <;> omega)
    split at h
    · have ih := rdC_end m k _ _ _ _ _ _ h
      refine ⟨ih.1, fun h1 => ?_⟩
      have := ih.2 h1
      omega
    split at h
    · have ih := rdC_end m k _ _ _ _ _ _ h
      split at ih
      · have := ih.1 (by omega)
        exact ⟨fun h1 => by omega, fun h1 => by omega⟩
      · have := ih.1 (by omega)
        exact ⟨fun h1 => by omega, fun h1 => by omega⟩
    cases h
def nmR (m : ByteArray) (p : Int) : List Int × Int × Bool := rdV (rdF m p)
theorem nmR_end (m : ByteArray) (p : Int) : (nmR m p).2.2 = true → p < (nmR m p).2.1 ∧ (nmR m p).2.1 ≤ m.size ∧ 0 ≤ p := by
  intro h
  unfold nmR at h ⊢
  have he := rdF_eq m p
  cases hr : rdF m p with
  | none => rw [hr] at h; cases h
  | some r =>
    obtain ⟨L, E⟩ := r
    rw [hr] at h he
    have := (rdC_end m _ _ _ _ _ _ _ he).2 (by omega)
    unfold rdV at h ⊢
    simp only at h ⊢
    split at h
    · rename_i hk
      rw [if_pos hk]
      exact this
    · cases h
theorem nmR_no (m : ByteArray) (p : Int) (h : (nmR m p).2.2 = false) : nmR m p = ([], 0, false) := by
  unfold nmR at h ⊢
  cases hr : rdF m p with
  | none => rfl
  | some r =>
    obtain ⟨L, E⟩ := r
    rw [hr] at h
    unfold rdV at h ⊢
    simp only at h ⊢
    split at h
    · cases h
    · rename_i hk
      rw [if_neg hk]
theorem nmR_rng (m : ByteArray) (p : Int) : 0 ≤ (nmR m p).2.1 ∧ (nmR m p).2.1 ≤ m.size := by
  cases h : (nmR m p).2.2 with
  | true => have := nmR_end m p h; omega
  | false => rw [nmR_no m p h]; simp
theorem readV_ (m : ByteArray) (p : Int) (hm : m.size ≤ 1000000000) (hp : -9223372036854775808 ≤ p ∧ p ≤ 9223372036854775807) (w : World) :
    Calls Tryd.prog 27 #[.string m, .int .i64 p] w fun e w' => e = .returned (.tuple #[.string (strOfNums (nmR m p).1), .int .i64 (nmR m p).2.1, .bool (nmR m p).2.2]) ∧ Below w.heap.size w w' :=
  read_ m p _ (rdF m p) (rdF_eq m p) hm hp w
def rnm_T1 : Bool × List (List Nat × List Nat) := (true, [([], []), ([0], [0]), ([1], [1]), ([2], [2]), ([], []), ([4], [4]), ([5], [5]), ([6], [6]), ([3, 7], [3, 7]), ([8], [8]), ([9], [9]), ([9], [9]), ([9], [9]), ([10, 8, 0, 1, 2, 3, 4, 5, 6, 7, 8, 9, 10], [10]), ([11, 13, 0, 1, 2, 3, 4, 5, 6, 7, 8, 9, 10, 11, 13], [11]), ([12, 14, 0, 1, 2, 3, 4, 5, 6, 7, 8, 9, 10, 11, 12, 13, 14], [12])])
def rnm_B1 : List Nat := [0, 1, 3, 7, 0, 16, 48, 112, 255, 511, 1023, 1023, 1023, 2047, 12287, 32767]
theorem rnm_tab1 : rtab .any (opsOf Tryd.f16 1) = rnm_T1 := by kernel_rfl
theorem rnm_bits1 : waitsOk rnm_T1.2 rnm_B1 = true := by kernel_rfl
set_option maxHeartbeats 4000000 in
theorem rname_ {w : World} {g : Nat} {s : ByteArray} {p : Int} {bad : Bool} (h : RV w g s p bad) (hs : s.size ≤ 1000000000) (hp : -1000000000000 ≤ p ∧ p ≤ 1000000000000) :
    Calls Tryd.prog 16 #[.pointer (some ⟨g, 0, none⟩)] w fun e w' => e = .returned (.string (strOfNums (nmR s p).1)) ∧ RV w' g s (nmR s p).2.1 (bad || !(nmR s p).2.2) ∧ Turned [g] w w' := by
  have HV := Lib.hid h
  have HT := Lib.hid (Turned.refl [g] w)
  clear h
  go_enter Tryd.func16, Tryd.ntmps16
  go_upto_region 1 with fail
  refine start_ (n := 16) (ds := ([] : List Nat)) (S := fun W => Below w.heap.size w W) #[false, false, false, false, false, false, false, false, false, false, false, false, false, false, false, false] (by kernel_rfl) rfl rfl (below_drew1 (Below.refl w.heap.size w)) (fun hHeld => ?_)
  refine with_tabW rnm_tab1 rnm_bits1 (fun HT_ HW_ => ?_)
  refine pure_ (i := 0) (N := (some 7)) (v := ?_) (a' := ?_) #[true, false, false, false, false, false, false, false, false, false, false, false, false, false, false, false] rfl rfl (any_of HT_.out (by kernel_rfl)) (fun _ _ _ h => h) (Or.inl ⟨by rfl, ?_⟩) ?_ ?_
  rotate_left
  · intro w'
    go_simp
    with_reducible rfl
  rotate_left
  · simp only [Act.put, List.setIfInBounds_toArray, List.set_cons_zero, List.set_cons_succ, i64_w, i32_w]
    rfl
  refine pure_ (i := 1) (N := (some 8)) (v := ?_) (a' := ?_) #[true, true, false, false, false, false, false, false, false, false, false, false, false, false, false, false] rfl rfl (any_of HT_.out (by kernel_rfl)) (fun _ _ _ h => h) (Or.inl ⟨by rfl, ?_⟩) ?_ ?_
  rotate_left
  · intro w'
    go_simp
    with_reducible rfl
  rotate_left
  · simp only [Act.put, List.setIfInBounds_toArray, List.set_cons_zero, List.set_cons_succ, i64_w, i32_w]
    rfl
  refine pure_ (i := 2) (N := (some 9)) (v := ?_) (a' := ?_) #[true, true, true, false, false, false, false, false, false, false, false, false, false, false, false, false] rfl rfl (any_of HT_.out (by kernel_rfl)) (fun _ _ _ h => h) (Or.inl ⟨by rfl, ?_⟩) ?_ ?_
  rotate_left
  · intro w'
    go_simp
    with_reducible rfl
  rotate_left
  · simp only [Act.put, List.setIfInBounds_toArray, List.set_cons_zero, List.set_cons_succ, i64_w, i32_w]
    rfl
  refine take_ (i := 3) (N := (some 10)) (v := ?_) (a' := ?_) #[true, true, true, true, false, false, false, false, false, false, false, false, false, false, false, false] rfl rfl (take_ofW HT_.out HW_.out (by kernel_rfl)) (fun _ _ _ h => h) (Or.inl ⟨by rfl, ?_⟩) hHeld ?_ ?_
  rotate_left
  · intro w' hS
    have hb := (blk_cell (blk_below HV.out hS) 0).trans rfl
    go_simp
    with_reducible rfl
  rotate_left
  · simp only [Act.put, List.setIfInBounds_toArray, List.set_cons_zero, List.set_cons_succ, i64_w, i32_w]
    rfl
  refine pure_ (i := 4) (N := (some 11)) (v := ?_) (a' := ?_) #[true, true, true, true, true, false, false, false, false, false, false, false, false, false, false, false] rfl rfl (any_of HT_.out (by kernel_rfl)) (fun _ _ _ h => h) (Or.inl ⟨by rfl, ?_⟩) ?_ ?_
  rotate_left
  · intro w'
    go_simp
    with_reducible rfl
  rotate_left
  · simp only [Act.put, List.setIfInBounds_toArray, List.set_cons_zero, List.set_cons_succ, i64_w, i32_w]
    rfl
  refine pure_ (i := 5) (N := (some 12)) (v := ?_) (a' := ?_) #[true, true, true, true, true, true, false, false, false, false, false, false, false, false, false, false] rfl rfl (any_of HT_.out (by kernel_rfl)) (fun _ _ _ h => h) (Or.inl ⟨by rfl, ?_⟩) ?_ ?_
  rotate_left
  · intro w'
    go_simp
    with_reducible rfl
  rotate_left
  · simp only [Act.put, List.setIfInBounds_toArray, List.set_cons_zero, List.set_cons_succ, i64_w, i32_w]
    rfl
  refine pure_ (i := 6) (N := (some 13)) (v := ?_) (a' := ?_) #[true, true, true, true, true, true, true, false, false, false, false, false, false, false, false, false] rfl rfl (any_of HT_.out (by kernel_rfl)) (fun _ _ _ h => h) (Or.inl ⟨by rfl, ?_⟩) ?_ ?_
  rotate_left
  · intro w'
    go_simp
    with_reducible rfl
  rotate_left
  · simp only [Act.put, List.setIfInBounds_toArray, List.set_cons_zero, List.set_cons_succ, i64_w, i32_w]
    rfl
  refine take_ (i := 7) (N := (some 14)) (v := ?_) (a' := ?_) #[true, true, true, true, true, true, true, true, false, false, false, false, false, false, false, false] rfl rfl (take_ofW HT_.out HW_.out (by kernel_rfl)) (fun _ _ _ h => h) (Or.inl ⟨by rfl, ?_⟩) hHeld ?_ ?_
  rotate_left
  · intro w' hS
    have hb := (blk_cell (blk_below HV.out hS) 1).trans rfl
    go_simp
    with_reducible rfl
  rotate_left
  · simp only [Act.put, List.setIfInBounds_toArray, List.set_cons_zero, List.set_cons_succ, i64_w, i32_w]
    rfl
  refine one_ (i := 8) (N := (some 15)) #[true, true, true, true, true, true, true, true, true, false, false, false, false, false, false, false] rfl rfl (one_of HT_.out (by kernel_rfl)) (by decide) (fun K hK => ?_)
  refine goes_ Tryd.func27 (by kernel_rfl) rfl #[.string s, .int .i64 p] (by rfl) rfl rfl (by (try simp only [List.map_toArray, List.map_cons, List.map_nil]); rfl) ?_
  refine (readV_ s p hs (by omega) _).mono ?_
  rintro e wq ⟨rfl, hb⟩
  refine ⟨_, rfl, ?_⟩
  refine hK.out _ _ (hHeld.trans (hb.mono hHeld.size)) (fun hHeld => ?_)
  clear hb
  clear hK K
  refine norm_ (a' := ?_) ?_ ?_
  rotate_left
  · show Act.put _ (some 15) _ = _
    simp only [Act.put, List.setIfInBounds_toArray, List.set_cons_zero, List.set_cons_succ, i64_w, i32_w]
    rfl
  refine pure_ (i := 9) (N := (some 6)) (v := ?_) (a' := ?_) #[true, true, true, true, true, true, true, true, true, true, false, false, false, false, false, false] rfl rfl (any_of HT_.out (by kernel_rfl)) (fun _ _ _ h => h) (Or.inl ⟨by rfl, ?_⟩) ?_ ?_
  rotate_left
  · intro w'
    go_simp
    with_reducible rfl
  rotate_left
  · simp only [Act.put, List.setIfInBounds_toArray, List.set_cons_zero, List.set_cons_succ, i64_w, i32_w]
    rfl
  refine pure_ (i := 10) (N := (some 16)) (v := ?_) (a' := ?_) #[true, true, true, true, true, true, true, true, true, true, true, false, false, false, false, false] rfl rfl (any_of HT_.out (by kernel_rfl)) (fun _ _ _ h => h) (Or.inl ⟨by rfl, ?_⟩) ?_ ?_
  rotate_left
  · intro w'
    go_simp
    with_reducible rfl
  rotate_left
  · simp only [Act.put, List.setIfInBounds_toArray, List.set_cons_zero, List.set_cons_succ, i64_w, i32_w]
    rfl
  refine pure_ (i := 11) (N := (some 17)) (v := ?_) (a' := ?_) #[true, true, true, true, true, true, true, true, true, true, true, true, false, false, false, false] rfl rfl (any_of HT_.out (by kernel_rfl)) (fun _ _ _ h => h) (Or.inl ⟨by rfl, ?_⟩) ?_ ?_
  rotate_left
  · intro w'
    go_simp
    with_reducible rfl
  rotate_left
  · simp only [Act.put, List.setIfInBounds_toArray, List.set_cons_zero, List.set_cons_succ, i64_w, i32_w]
    rfl
  refine pure_ (i := 12) (N := (some 18)) (v := ?_) (a' := ?_) #[true, true, true, true, true, true, true, true, true, true, true, true, true, false, false, false] rfl rfl (any_of HT_.out (by kernel_rfl)) (fun _ _ _ h => h) (Or.inl ⟨by rfl, ?_⟩) ?_ ?_
  rotate_left
  · intro w'
    go_simp
    with_reducible rfl
  rotate_left
  · simp only [Act.put, List.setIfInBounds_toArray, List.set_cons_zero, List.set_cons_succ, i64_w, i32_w]
    rfl
  refine pure_ (i := 13) (N := (some 3)) (v := ?_) (a' := ?_) #[true, true, true, true, true, true, true, true, true, true, true, true, true, true, false, false] rfl rfl (any_of HT_.out (by kernel_rfl)) (fun _ _ _ h => h) (Or.inl ⟨by rfl, ?_⟩) ?_ ?_
  rotate_left
  · intro w'
    go_simp
    with_reducible rfl
  rotate_left
  · simp only [Act.put, List.setIfInBounds_toArray, List.set_cons_zero, List.set_cons_succ, i64_w, i32_w]
    rfl
  refine pure_ (i := 14) (N := (some 4)) (v := ?_) (a' := ?_) #[true, true, true, true, true, true, true, true, true, true, true, true, true, true, true, false] rfl rfl (any_of HT_.out (by kernel_rfl)) (fun _ _ _ h => h) (Or.inl ⟨by rfl, ?_⟩) ?_ ?_
  rotate_left
  · intro w'
    go_simp
    with_reducible rfl
  rotate_left
  · simp only [Act.put, List.setIfInBounds_toArray, List.set_cons_zero, List.set_cons_succ, i64_w, i32_w]
    rfl
  refine pure_ (i := 15) (N := (some 5)) (v := ?_) (a' := ?_) #[true, true, true, true, true, true, true, true, true, true, true, true, true, true, true, true] rfl rfl (any_of HT_.out (by kernel_rfl)) (fun _ _ _ h => h) (Or.inl ⟨by rfl, ?_⟩) ?_ ?_
  rotate_left
  · intro w'
    go_simp
    with_reducible rfl
  rotate_left
  · simp only [Act.put, List.setIfInBounds_toArray, List.set_cons_zero, List.set_cons_succ, i64_w, i32_w]
    rfl
  refine done_ (done_of HT_.out (by kernel_rfl)) ?_
  go_upto_region 2 with fail
  obtain ⟨w2, hw2⟩ : ∃ x, wq = x := ⟨_, rfl⟩
  rw [hw2] at hHeld ⊢
  have hV2 := blk_below HV.out hHeld
  have hT2 := Turned.of_below hHeld [g]
  obtain ⟨nv, hnv⟩ : ∃ n, (nmR s p).1 = n := ⟨_, rfl⟩
  obtain ⟨E, hE⟩ : ∃ n, (nmR s p).2.1 = n := ⟨_, rfl⟩
  obtain ⟨ok, hokk⟩ : ∃ b, (nmR s p).2.2 = b := ⟨_, rfl⟩
  have HNV : Hid (nmR s p = (nv, E, ok)) := Lib.hid (by rw [← hnv, ← hE, ← hokk])
  rw [hnv, hE, hokk]
  clear hHeld hw2 HV hnv hokk hE
  have hc1 := (blk_cell hV2 1).trans rfl
  have hf1 := blk_frozen hV2 1
  have hb2 := (blk_cell hV2 2).trans rfl
  have hV3 := blk_set hV2 1 (.int .i64 E)
  have hc2 := (blk_cell hV3 2).trans rfl
  have hf2 := blk_frozen hV3 2
  have HV4 := Lib.hid (blk_set hV3 2 (.bool (bad || !ok)))
  have HT4 := Lib.hid ((hT2.setCell (p := ⟨g, 1, none⟩) (.inl (by simp)) (.int .i64 E)).setCell (p := ⟨g, 2, none⟩) (.inl (by simp)) (.bool (bad || !ok)))
  clear hV2 hV3 hT2
  cases bad
  · go_wp2
    go_ret
    rw [HNV.out]
    exact ⟨rfl, HV4.out, HT4.out⟩
  · go_wp2
    go_ret
    rw [HNV.out]
    exact ⟨rfl, HV4.out, HT4.out⟩
end Go.Proofs.YtnikfeaggppmpaaDoor.Rdr
