/-
  The entry of an act (bolterlaw26.Act.entry) walked. No macro, syntax, notation, axiom, sorry.
-/
import Derived.Test.YtecpginkacaebaaDoorEntS
import Derived.Test.YtecpginkacaebaaDoorWrd
namespace Go.Proofs.YtecpginkacaebaaDoor.Ent
open Go.RowKit Go.Proofs.YtecpginkacaebaaDoorW Go.Proofs.YtecpginkacaebaaDoorW.PrintWords Go.Proofs.YtecpginkacaebaaDoorW.PrintLast Go.Proofs.YtecpginkacaebaaDoorW.PrintMore Go.Proofs.YtecpginkacaebaaDoor.Base Go.Proofs.YtecpginkacaebaaDoor.Heap Go.Proofs.YtecpginkacaebaaDoor.Nam Go.Proofs.YtecpginkacaebaaDoor.PP
attribute [local go_sem] max2_int min2_int max_two min_two max_three min_three max_four min_four
set_option linter.unusedVariables false
set_option linter.unusedSimpArgs false
set_option maxRecDepth 100000

def entryOf (id : Int) (nm : List Int) (ty tm : Int) : E := ⟨(id % 24 - 4) % 65536, strOfNums (nameL (nm.take 1)), ty % 2, strOfNums [97 + ty % 9], ty, tm⟩
def entry_T1 : Bool × List (List Nat × List Nat) := (true, [([], []), ([0], [0]), ([], []), ([2], [2]), ([3], [3]), ([4], [4]), ([1, 5], [1, 5]), ([6], [6]), ([], []), ([8], [8]), ([9], [9]), ([10], [10]), ([7, 11], [7, 11]), ([], []), ([13, 12, 7, 0, 1, 2, 3, 4, 5, 6, 7, 8, 9, 10, 11, 12, 13], [12, 13])])
def entry_B1 : List Nat := [0, 1, 0, 4, 12, 28, 63, 127, 0, 256, 768, 1792, 4095, 0, 16383]
theorem entry_tab1 : rtab .any (opsOf Tryd.f10 1) = entry_T1 := by kernel_rfl
theorem entry_bits1 : waitsOk entry_T1.2 entry_B1 = true := by kernel_rfl
theorem rune0 (W : World) : (convert 21 9 (.int .i32 (97 + 0))).run Tryd.prog W = .ok (.string (strOfNums [97 + 0])) W := by kernel_rfl
theorem rune1 (W : World) : (convert 21 9 (.int .i32 (97 + 1))).run Tryd.prog W = .ok (.string (strOfNums [97 + 1])) W := by kernel_rfl
theorem rune2 (W : World) : (convert 21 9 (.int .i32 (97 + 2))).run Tryd.prog W = .ok (.string (strOfNums [97 + 2])) W := by kernel_rfl
theorem rune3 (W : World) : (convert 21 9 (.int .i32 (97 + 3))).run Tryd.prog W = .ok (.string (strOfNums [97 + 3])) W := by kernel_rfl
theorem rune4 (W : World) : (convert 21 9 (.int .i32 (97 + 4))).run Tryd.prog W = .ok (.string (strOfNums [97 + 4])) W := by kernel_rfl
theorem rune5 (W : World) : (convert 21 9 (.int .i32 (97 + 5))).run Tryd.prog W = .ok (.string (strOfNums [97 + 5])) W := by kernel_rfl
theorem rune6 (W : World) : (convert 21 9 (.int .i32 (97 + 6))).run Tryd.prog W = .ok (.string (strOfNums [97 + 6])) W := by kernel_rfl
theorem rune7 (W : World) : (convert 21 9 (.int .i32 (97 + 7))).run Tryd.prog W = .ok (.string (strOfNums [97 + 7])) W := by kernel_rfl
theorem rune8 (W : World) : (convert 21 9 (.int .i32 (97 + 8))).run Tryd.prog W = .ok (.string (strOfNums [97 + 8])) W := by kernel_rfl
theorem rune_ (ty : Int) (W : World) : (convert 21 9 (.int .i32 (97 + ty % 9))).run Tryd.prog W = .ok (.string (strOfNums [97 + ty % 9])) W := by
  have h : ty % 9 = 0 ∨ ty % 9 = 1 ∨ ty % 9 = 2 ∨ ty % 9 = 3 ∨ ty % 9 = 4 ∨ ty % 9 = 5 ∨ ty % 9 = 6 ∨ ty % 9 = 7 ∨ ty % 9 = 8 := by omega
  obtain ⟨n, hn⟩ : ∃ n, ty % 9 = n := ⟨_, rfl⟩
  rw [hn] at h ⊢
  rcases h with rfl | rfl | rfl | rfl | rfl | rfl | rfl | rfl | rfl
  · exact rune0 W
  · exact rune1 W
  · exact rune2 W
  · exact rune3 W
  · exact rune4 W
  · exact rune5 W
  · exact rune6 W
  · exact rune7 W
  · exact rune8 W
set_option maxHeartbeats 4000000 in
theorem entry_ (op id ty tm : Int) (A : Option Addr) (c : Nat) (nm : List Int) (w : World) (hC : Kd.C (Kd.int .u8) w A nm.length nm) (hc : nm.length ≤ c) (hb8 : B8 nm) (hlen : nm.length ≤ 1048576) (hid : 0 ≤ id ∧ id < 256) (hty : 0 ≤ ty ∧ ty < 256) (htm : -128 ≤ tm ∧ tm < 128) :
    Calls Tryd.prog 10 #[.agg #[.int .u8 op, .int .u8 id, .slice A nm.length c, .int .u8 ty, .int .i8 tm]] w fun x w' => x = .returned (.agg #[.int .u16 (entryOf id nm ty tm).id, .int .u16 0, .bool false, .int .i64 0, .bool false, .bool false, .bool false, .bool false, .int .i64 0, .string (entryOf id nm ty tm).nm, .int .u16 (entryOf id nm ty tm).ty, .slice none 0 0, .slice none 0 0, .slice none 0 0, .int .i64 0, .string (entryOf id nm ty tm).cl, .int .i64 (entryOf id nm ty tm).po, .bool false, .int .i64 (entryOf id nm ty tm).un]) ∧ Below w.heap.size w w' := by
  have HC := Lib.hid hC
  clear hC
  have hbx := blk_new w (.cells #[.int .u8 op, .int .u8 id, .slice A nm.length c, .int .u8 ty, .int .i8 tm] 52)
  have hbb := below_alloc (Below.refl w.heap.size w) (.cells #[.int .u8 op, .int .u8 id, .slice A nm.length c, .int .u8 ty, .int .i8 tm] 52)
  obtain ⟨b, hb⟩ : ∃ b, w.heap.size = b := ⟨_, rfl⟩
  have HBX := Lib.hid hbx
  have HBB := Lib.hid hbb
  clear hbx hbb
  have HT9 := Lib.hid hty
  have HI9 := Lib.hid hid
  have HM9 := Lib.hid htm
  go_enter Tryd.func10, Tryd.ntmps10
  go_wp2_with ((with_reducible refine gate_al (t := 42) rfl ?_); refine ev_new rfl rfl ?_; intro g w1 hg hV hbg hs)
  have HB1 := Lib.hid (HBB.out.trans (hbg.mono (by simp)))
  have HX1 := Lib.hid (blk_below HBX.out hbg)
  have HV1 := Lib.hid hV
  have HC1 := Lib.hid (Kd.C_below HC.out HB1.out)
  have HG := Lib.hid (show w.heap.size ≤ g by rw [hg]; simp)
  clear hV hbg hs hg HBX HBB
  (try rw [hb])
  rw [hb] at HX1
  have HBE := Lib.hid hb
  clear hb
  obtain ⟨m, hm⟩ : ∃ m, (nm.take 1).length = m := ⟨_, rfl⟩
  have hmin : (if (1 : Int) < (nm.length : Int) then (1 : Int) else (nm.length : Int)) = (m : Int) := by
    rw [← hm, List.length_take]
    split <;> omega
  have hm2 : m ≤ nm.length := by rw [← hm, List.length_take]; omega
  have hmc : (m : Int) ≤ (c : Int) := by omega
  have hsl : ∀ W : World, (Instr.slice 49 (.slice A nm.length c) none (some (.int .i64 (m : Int))) none).run Tryd.prog W = .ok (.slice A m c) W := by
    obtain ⟨i8, hi8, hz80, hz81, hz82⟩ := info_parts (show (Tryd.prog.info? 5).map (fun i => (i.zero, i.size, i.bytes)) = some (some (.int .u8 0), 1, 1) by kernel_rfl)
    have h := (print_take_int (P := Tryd.prog) (k := .u8) 49 5 Tryd.underlying49 hi8 hz81 A c nm (m : Int) (by omega) (by omega) hc).1
    rw [show (nm.take (m : Int).toNat).length = m by rw [List.length_take]; omega] at h
    exact h
  have hn1 : nm.take m = nm.take 1 := by
    rw [← hm, List.length_take]
    by_cases h : nm.length = 0
    · rw [List.eq_nil_of_length_eq_zero h]; rfl
    · rw [show min 1 nm.length = 1 by omega]
  have HCM : Hid (Kd.C (Kd.int .u8) w A (nm.take 1).length (nm.take 1)) := Lib.hid (by rw [← hn1]; exact Kd.C_take HC.out hm2)
  obtain ⟨kn, hkn⟩ := Ev.rounds (Name_ev (nm.take 1) (B8.take hb8 1) (by rw [List.length_take]; omega))
  have HKN := Lib.hid hkn
  have HMM := Lib.hid hm
  have HMC := Lib.hid hmc
  have HM2 := Lib.hid hm2
  have ht1 : ty.tmod 2 = ty % 2 := Int.tmod_eq_emod_of_nonneg hty.1
  have ht2 : IntKind.u16.wrap (ty % 2) = ty % 2 := by rw [IntKind.wrap_u16]; omega
  have ht3 : ty % 2 % 65536 = ty % 2 := by omega
  clear hkn hm hmc hm2 hn1 hc
  refine start_ (n := 15) (ds := ([] : List Nat)) (S := fun w' => w'.heap[b]? = some (.cells #[.int .u8 op, .int .u8 id, .slice A nm.length c, .int .u8 ty, .int .i8 tm] 52 (0, 0)) ∧ Var w' g zE ∧ Below w.heap.size w w') #[false, false, false, false, false, false, false, false, false, false, false, false, false, false, false] (by kernel_rfl) rfl rfl ⟨HX1.out, HV1.out, below_drew1 HB1.out⟩ (fun hHeld => ?_)
  refine with_tabW entry_tab1 entry_bits1 (fun HT_ HW_ => ?_)
  generalize w1.drew = w2 at hHeld ⊢
  clear HX1 HV1 HB1 HC1 HC
  refine pure_ (i := 0) (N := (some 4)) (v := ?_) (a' := ?_) #[true, false, false, false, false, false, false, false, false, false, false, false, false, false, false] rfl rfl (any_of HT_.out (by kernel_rfl)) (fun _ _ _ h => h) (Or.inl ⟨by rfl, ?_⟩) ?_ ?_
  rotate_left
  · intro w'
    go_simp
    with_reducible rfl
  rotate_left
  · simp only [Act.put, List.setIfInBounds_toArray, List.set_cons_zero, List.set_cons_succ, i64_w, i32_w]
    rfl
  refine pure_ (i := 2) (N := (some 6)) (v := ?_) (a' := ?_) #[true, false, true, false, false, false, false, false, false, false, false, false, false, false, false] rfl rfl (any_of HT_.out (by kernel_rfl)) (fun _ _ _ h => h) (Or.inl ⟨by rfl, ?_⟩) ?_ ?_
  rotate_left
  · intro w'
    go_simp
    with_reducible rfl
  rotate_left
  · simp only [Act.put, List.setIfInBounds_toArray, List.set_cons_zero, List.set_cons_succ, i64_w, i32_w]
    rfl
  refine pure_ (i := 8) (N := (some 12)) (v := ?_) (a' := ?_) #[true, false, true, false, false, false, false, false, true, false, false, false, false, false, false] rfl rfl (any_of HT_.out (by kernel_rfl)) (fun _ _ _ h => h) (Or.inl ⟨by rfl, ?_⟩) ?_ ?_
  rotate_left
  · intro w'
    go_simp
    with_reducible rfl
  rotate_left
  · simp only [Act.put, List.setIfInBounds_toArray, List.set_cons_zero, List.set_cons_succ, i64_w, i32_w]
    rfl
  refine take_ (i := 1) (N := (some 5)) (v := ?_) (a' := ?_) #[true, true, true, false, false, false, false, false, true, false, false, false, false, false, false] rfl rfl (take_ofW HT_.out HW_.out (by kernel_rfl)) (fun _ _ _ h => h) (Or.inl ⟨by rfl, ?_⟩) hHeld ?_ ?_
  rotate_left
  · intro w' hS
    obtain ⟨c0, c1, c2, c3, c4⟩ := cells5 hS.1
    go_simp
    with_reducible rfl
  rotate_left
  · simp only [Act.put, List.setIfInBounds_toArray, List.set_cons_zero, List.set_cons_succ, i64_w, i32_w]
    rfl
  refine take_ (i := 3) (N := (some 7)) (v := ?_) (a' := ?_) #[true, true, true, true, false, false, false, false, true, false, false, false, false, false, false] rfl rfl (take_ofW HT_.out HW_.out (by kernel_rfl)) (fun _ _ _ h => h) (Or.inl ⟨by rfl, ?_⟩) hHeld ?_ ?_
  rotate_left
  · intro w' hS
    obtain ⟨c0, c1, c2, c3, c4⟩ := cells5 hS.1
    go_simp
    with_reducible rfl
  rotate_left
  · simp only [Act.put, List.setIfInBounds_toArray, List.set_cons_zero, List.set_cons_succ, i64_w, i32_w]
    rfl
  refine take_ (i := 9) (N := (some 13)) (v := ?_) (a' := ?_) #[true, true, true, true, false, false, false, false, true, true, false, false, false, false, false] rfl rfl (take_ofW HT_.out HW_.out (by kernel_rfl)) (fun _ _ _ h => h) (Or.inl ⟨by rfl, ?_⟩) hHeld ?_ ?_
  rotate_left
  · intro w' hS
    obtain ⟨c0, c1, c2, c3, c4⟩ := cells5 hS.1
    go_simp
    with_reducible rfl
  rotate_left
  · simp only [Act.put, List.setIfInBounds_toArray, List.set_cons_zero, List.set_cons_succ, i64_w, i32_w]
    rfl
  refine pure_ (i := 4) (N := (some 8)) (v := ?_) (a' := ?_) #[true, true, true, true, true, false, false, false, true, true, false, false, false, false, false] rfl rfl (any_of HT_.out (by kernel_rfl)) (fun _ _ _ h => h) (Or.inl ⟨by rfl, ?_⟩) ?_ ?_
  rotate_left
  · intro w'
    go_simp
    with_reducible rfl
  rotate_left
  · simp only [Act.put, List.setIfInBounds_toArray, List.set_cons_zero, List.set_cons_succ, i64_w, i32_w]
    rfl
  refine pure_ (i := 5) (N := (some 9)) (v := ?_) (a' := ?_) #[true, true, true, true, true, true, false, false, true, true, false, false, false, false, false] rfl rfl (any_of HT_.out (by kernel_rfl)) (fun _ _ _ h => h) (Or.inl ⟨by rfl, ?_⟩) ?_ ?_
  rotate_left
  · intro w'
    go_simp
    with_reducible rfl
  rotate_left
  · simp only [Act.put, List.setIfInBounds_toArray, List.set_cons_zero, List.set_cons_succ, i64_w, i32_w]
    rfl
  refine pure_ (i := 6) (N := (some 10)) (v := ?_) (a' := ?_) #[true, true, true, true, true, true, true, false, true, true, false, false, false, false, false] rfl rfl (any_of HT_.out (by kernel_rfl)) (fun _ _ _ h => h) (Or.inl ⟨by rfl, ?_⟩) ?_ ?_
  rotate_left
  · intro w'
    go_simp
    with_reducible rfl
  rotate_left
  · simp only [Act.put, List.setIfInBounds_toArray, List.set_cons_zero, List.set_cons_succ, i64_w, i32_w]
    rfl
  refine pure_ (i := 10) (N := (some 14)) (v := ?_) (a' := ?_) #[true, true, true, true, true, true, true, false, true, true, true, false, false, false, false] rfl rfl (any_of HT_.out (by kernel_rfl)) (fun _ _ _ h => h) (Or.inl ⟨by rfl, ?_⟩) ?_ ?_
  rotate_left
  · intro w'
    go_simp
    with_reducible rfl
  rotate_left
  · simp only [Act.put, List.setIfInBounds_toArray, List.set_cons_zero, List.set_cons_succ, i64_w, i32_w]
    rfl
  refine pure_ (i := 11) (N := (some 15)) (v := ?_) (a' := ?_) #[true, true, true, true, true, true, true, false, true, true, true, true, false, false, false] rfl rfl (any_of HT_.out (by kernel_rfl)) (fun _ _ _ h => h) (Or.inl ⟨by rfl, ?_⟩) ?_ ?_
  rotate_left
  · intro w'
    go_simp
    with_reducible rfl
  rotate_left
  · simp only [Act.put, List.setIfInBounds_toArray, List.set_cons_zero, List.set_cons_succ, i64_w, i32_w]
    rfl
  refine two_ (i := 7) (j := 13) (Ni := (some 11)) (Nj := (some 3)) #[true, true, true, true, true, true, true, true, true, true, true, true, false, false, false] #[true, true, true, true, true, true, true, false, true, true, true, true, false, true, false] rfl rfl rfl rfl (two_of HT_.out (by kernel_rfl)) (by decide) (by decide) (fun K hK => ?_) (fun K hK => ?_)
  · refine goes_ Tryd.func20 (by kernel_rfl) rfl #[.slice A m c] (by rfl) rfl rfl (by (try simp only [List.map_toArray, List.map_cons, List.map_nil]); rfl) ?_
    rw [← HMM.out]
    with_reducible refine (bolterlaw02_Name.calls kn A c (nm.take 1) _ _ (Kd.C_below HCM.out hHeld.2.2) (by rw [HMM.out]; have := HMC.out; omega) HKN.out).mono ?_
    rintro e w3 ⟨rfl, hb⟩
    refine ⟨_, rfl, ?_⟩
    refine hK.out _ _ ⟨blk_below hHeld.1 hb, hHeld.2.1.below hb, hHeld.2.2.trans (hb.mono hHeld.2.2.size)⟩ (fun hHeld => ?_)
    clear hK K
    refine norm_ (a' := ?_) ?_ ?_
    rotate_left
    · show Act.put _ (some 11) _ = _
      simp only [Act.put, List.setIfInBounds_toArray, List.set_cons_zero, List.set_cons_succ, i64_w, i32_w]
      rfl
    refine pure_ (i := 12) (N := (some 16)) (v := ?_) (a' := ?_) #[true, true, true, true, true, true, true, true, true, true, true, true, true, false, false] rfl rfl (any_of HT_.out (by kernel_rfl)) (fun _ _ _ h => h) (Or.inl ⟨by rfl, ?_⟩) ?_ ?_
    rotate_left
    · intro w'
      go_simp
      with_reducible rfl
    rotate_left
    · simp only [Act.put, List.setIfInBounds_toArray, List.set_cons_zero, List.set_cons_succ, i64_w, i32_w]
      rfl
    refine one_ (i := 13) (N := (some 3)) #[true, true, true, true, true, true, true, true, true, true, true, true, true, true, false] rfl rfl (one_of HT_.out (by kernel_rfl)) (by decide) (fun K hK => ?_)
    refine box_step (by rfl) rfl (cs := #[.string ⟨#[]⟩, .int .u16 0]) (t := 37) (by first | (go_simp; done) | (go_simp; rfl)) ?_
    intro gq hgq w4 hbq hb
    have HQ := Lib.hid hbq
    have HGQ := Lib.hid (show g < gq ∧ b < gq by rw [hgq]; exact ⟨hHeld.2.1.lt, blk_lt hHeld.1⟩)
    clear hgq
    refine hK.out _ _ ⟨blk_below hHeld.1 hb, hHeld.2.1.below hb, hHeld.2.2.trans (hb.mono hHeld.2.2.size)⟩ (fun hHeld => ?_)
    clear hK K
    refine norm_ (a' := ?_) ?_ ?_
    rotate_left
    · show Act.put _ (some 3) _ = _
      simp only [Act.put, List.setIfInBounds_toArray, List.set_cons_zero, List.set_cons_succ, i64_w, i32_w]
      rfl
    refine one_ (i := 14) (N := none) #[true, true, true, true, true, true, true, true, true, true, true, true, true, true, true] rfl rfl (one_of HT_.out (by kernel_rfl)) (by decide) (fun K hK => ?_)
    have cq := cells2 HQ.out
    obtain ⟨q0, q1⟩ := cq
    have fq := froz2 HQ.out
    obtain ⟨f0, f1⟩ := fq
    rw [if_pos (by rfl)]
    go_simp
    have HQ5 := Lib.hid (put2 (b0 := .string (strOfNums (nameL (nm.take 1)))) (b1 := .int .u16 (ty % 2)) HQ.out)
    have HF5 : Hid (_ ∧ _ ∧ _) := Lib.hid ⟨putF2 (g := gq) (b0 := .string (strOfNums (nameL (nm.take 1)))) (b1 := .int .u16 (ty % 2)) hHeld.1 (by have := HGQ.out; omega), putF2 (g := gq) (b0 := .string (strOfNums (nameL (nm.take 1)))) (b1 := .int .u16 (ty % 2)) hHeld.2.1 (by have := HGQ.out; omega), putB2 (g := gq) (b0 := .string (strOfNums (nameL (nm.take 1)))) (b1 := .int .u16 (ty % 2)) hHeld.2.2 (by have := HGQ.out; have := HG.out; omega)⟩
    clear q0 q1 f0 f1
    refine hK.out _ _ ⟨HF5.out.1, HF5.out.2.1, HF5.out.2.2⟩ (fun hHeld => ?_)
    clear HF5 HQ
    clear hK K
    refine done_ (done_of HT_.out (by kernel_rfl)) ?_
    have hfa := cells5 hHeld.1
    obtain ⟨a0, a1, a2, a3, a4⟩ := hfa
    have hfq := cells2 HQ5.out
    obtain ⟨q0, q1⟩ := hfq
    have HH := Lib.hid hHeld
    clear hHeld
    have HI9 := HI9.out
    have HT9 := HT9.out
    have HM9 := HM9.out
    have e1 : id.tmod 24 = id % 24 := Int.tmod_eq_emod_of_nonneg HI9.1
    have e2 : IntKind.u16.wrap (id % 24) = id % 24 := by rw [IntKind.wrap_u16]; omega
    have e3 : IntKind.u16.wrap (id % 24 - 4) = (id % 24 - 4) % 65536 := IntKind.wrap_u16 _
    have e4 : ty.tmod 9 = ty % 9 := Int.tmod_eq_emod_of_nonneg HT9.1
    have e5 : IntKind.u8.wrap (97 + ty % 9) = 97 + ty % 9 := by rw [IntKind.wrap_u8]; omega
    have e6 : IntKind.i32.wrap (97 + ty % 9) = 97 + ty % 9 := IntWalk.i32_in _ (by omega)
    have e7 : IntKind.i64.wrap ty = ty := IntWalk.i64_in _ (by omega)
    have e8 : IntKind.i64.wrap tm = tm := IntWalk.i64_in _ (by omega)
    have e9 : (97 + ty % 9) % 256 = 97 + ty % 9 := by omega
    have e10 : wrap64 ty = ty := w64 (by omega) (by omega)
    have e11 : wrap64 tm = tm := w64 (by omega) (by omega)
    have e12 : wrap32 (97 + ty % 9) = 97 + ty % 9 := by unfold wrap32; omega
    have e13 : id % 24 % 65536 = id % 24 := by omega
    have hcv := rune_ ty
    have HX9 := Lib.hid (And.intro HI9 (And.intro HT9 HM9))
    clear HI9 HT9 HM9 hid hty htm
    go_wp2_with ((with_reducible refine gate_st (t := 42) rfl ?_); obtain ⟨w6, hrun, hV6, hg6⟩ := Var.store HH.out.2.1 (entryOf id nm ty tm); refine ev_store rfl rfl rfl rfl rfl hrun ?_)
    refine bodyPost_ret (results_cell_row rfl _ _ g 42 (cs (entryOf id nm ty tm)).toArray (0, 0) _ rfl hV6 Tryd.underlying42 rfl size_) rfl ?_
    exact ⟨rfl, HH.out.2.2.grown hg6 (Nat.le_trans HG.out (Nat.le_of_lt HH.out.2.1.lt)) (by intro k hk; injection hk with hk; rw [← hk]; exact HG.out)⟩
  · refine box_step (by rfl) rfl (cs := #[.string ⟨#[]⟩, .int .u16 0]) (t := 37) (by first | (go_simp; done) | (go_simp; rfl)) ?_
    intro gq hgq w4 hbq hb
    have HQ := Lib.hid hbq
    have HGQ := Lib.hid (show g < gq ∧ b < gq by rw [hgq]; exact ⟨hHeld.2.1.lt, blk_lt hHeld.1⟩)
    clear hgq
    refine hK.out _ _ ⟨blk_below hHeld.1 hb, hHeld.2.1.below hb, hHeld.2.2.trans (hb.mono hHeld.2.2.size)⟩ (fun hHeld => ?_)
    clear hK K
    refine norm_ (a' := ?_) ?_ ?_
    rotate_left
    · show Act.put _ (some 3) _ = _
      simp only [Act.put, List.setIfInBounds_toArray, List.set_cons_zero, List.set_cons_succ, i64_w, i32_w]
      rfl
    refine one_ (i := 7) (N := (some 11)) #[true, true, true, true, true, true, true, true, true, true, true, true, false, true, false] rfl rfl (one_of HT_.out (by kernel_rfl)) (by decide) (fun K hK => ?_)
    refine goes_ Tryd.func20 (by kernel_rfl) rfl #[.slice A m c] (by rfl) rfl rfl (by (try simp only [List.map_toArray, List.map_cons, List.map_nil]); rfl) ?_
    rw [← HMM.out]
    with_reducible refine (bolterlaw02_Name.calls kn A c (nm.take 1) _ _ (Kd.C_below HCM.out hHeld.2.2) (by rw [HMM.out]; have := HMC.out; omega) HKN.out).mono ?_
    rintro e w3 ⟨rfl, hb⟩
    refine ⟨_, rfl, ?_⟩
    have HQ := Lib.hid (blk_below HQ.out hb)
    refine hK.out _ _ ⟨blk_below hHeld.1 hb, hHeld.2.1.below hb, hHeld.2.2.trans (hb.mono hHeld.2.2.size)⟩ (fun hHeld => ?_)
    clear hK K
    refine norm_ (a' := ?_) ?_ ?_
    rotate_left
    · show Act.put _ (some 11) _ = _
      simp only [Act.put, List.setIfInBounds_toArray, List.set_cons_zero, List.set_cons_succ, i64_w, i32_w]
      rfl
    refine pure_ (i := 12) (N := (some 16)) (v := ?_) (a' := ?_) #[true, true, true, true, true, true, true, true, true, true, true, true, true, true, false] rfl rfl (any_of HT_.out (by kernel_rfl)) (fun _ _ _ h => h) (Or.inl ⟨by rfl, ?_⟩) ?_ ?_
    rotate_left
    · intro w'
      go_simp
      with_reducible rfl
    rotate_left
    · simp only [Act.put, List.setIfInBounds_toArray, List.set_cons_zero, List.set_cons_succ, i64_w, i32_w]
      rfl
    refine one_ (i := 14) (N := none) #[true, true, true, true, true, true, true, true, true, true, true, true, true, true, true] rfl rfl (one_of HT_.out (by kernel_rfl)) (by decide) (fun K hK => ?_)
    have cq := cells2 HQ.out
    obtain ⟨q0, q1⟩ := cq
    have fq := froz2 HQ.out
    obtain ⟨f0, f1⟩ := fq
    rw [if_pos (by rfl)]
    go_simp
    have HQ5 := Lib.hid (put2 (b0 := .string (strOfNums (nameL (nm.take 1)))) (b1 := .int .u16 (ty % 2)) HQ.out)
    have HF5 : Hid (_ ∧ _ ∧ _) := Lib.hid ⟨putF2 (g := gq) (b0 := .string (strOfNums (nameL (nm.take 1)))) (b1 := .int .u16 (ty % 2)) hHeld.1 (by have := HGQ.out; omega), putF2 (g := gq) (b0 := .string (strOfNums (nameL (nm.take 1)))) (b1 := .int .u16 (ty % 2)) hHeld.2.1 (by have := HGQ.out; omega), putB2 (g := gq) (b0 := .string (strOfNums (nameL (nm.take 1)))) (b1 := .int .u16 (ty % 2)) hHeld.2.2 (by have := HGQ.out; have := HG.out; omega)⟩
    clear q0 q1 f0 f1
    refine hK.out _ _ ⟨HF5.out.1, HF5.out.2.1, HF5.out.2.2⟩ (fun hHeld => ?_)
    clear HF5 HQ
    clear hK K
    refine done_ (done_of HT_.out (by kernel_rfl)) ?_
    have hfa := cells5 hHeld.1
    obtain ⟨a0, a1, a2, a3, a4⟩ := hfa
    have hfq := cells2 HQ5.out
    obtain ⟨q0, q1⟩ := hfq
    have HH := Lib.hid hHeld
    clear hHeld
    have HI9 := HI9.out
    have HT9 := HT9.out
    have HM9 := HM9.out
    have e1 : id.tmod 24 = id % 24 := Int.tmod_eq_emod_of_nonneg HI9.1
    have e2 : IntKind.u16.wrap (id % 24) = id % 24 := by rw [IntKind.wrap_u16]; omega
    have e3 : IntKind.u16.wrap (id % 24 - 4) = (id % 24 - 4) % 65536 := IntKind.wrap_u16 _
    have e4 : ty.tmod 9 = ty % 9 := Int.tmod_eq_emod_of_nonneg HT9.1
    have e5 : IntKind.u8.wrap (97 + ty % 9) = 97 + ty % 9 := by rw [IntKind.wrap_u8]; omega
    have e6 : IntKind.i32.wrap (97 + ty % 9) = 97 + ty % 9 := IntWalk.i32_in _ (by omega)
    have e7 : IntKind.i64.wrap ty = ty := IntWalk.i64_in _ (by omega)
    have e8 : IntKind.i64.wrap tm = tm := IntWalk.i64_in _ (by omega)
    have e9 : (97 + ty % 9) % 256 = 97 + ty % 9 := by omega
    have e10 : wrap64 ty = ty := w64 (by omega) (by omega)
    have e11 : wrap64 tm = tm := w64 (by omega) (by omega)
    have e12 : wrap32 (97 + ty % 9) = 97 + ty % 9 := by unfold wrap32; omega
    have e13 : id % 24 % 65536 = id % 24 := by omega
    have hcv := rune_ ty
    have HX9 := Lib.hid (And.intro HI9 (And.intro HT9 HM9))
    clear HI9 HT9 HM9 hid hty htm
    go_wp2_with ((with_reducible refine gate_st (t := 42) rfl ?_); obtain ⟨w6, hrun, hV6, hg6⟩ := Var.store HH.out.2.1 (entryOf id nm ty tm); refine ev_store rfl rfl rfl rfl rfl hrun ?_)
    refine bodyPost_ret (results_cell_row rfl _ _ g 42 (cs (entryOf id nm ty tm)).toArray (0, 0) _ rfl hV6 Tryd.underlying42 rfl size_) rfl ?_
    exact ⟨rfl, HH.out.2.2.grown hg6 (Nat.le_trans HG.out (Nat.le_of_lt HH.out.2.1.lt)) (by intro k hk; injection hk with hk; rw [← hk]; exact HG.out)⟩
end Go.Proofs.YtecpginkacaebaaDoor.Ent
