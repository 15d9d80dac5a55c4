import Derived.Test.YtnikfeaggppmpaaPMx0
import Derived.Test.YtnikfeaggppmpaaPMx3
import Derived.Test.YtnikfeaggppmpaaPMx8
namespace Go.Proofs.Ytnikfeaggppmpaa.PM
open Go.RowKit Go.Proofs.YtnikfeaggppmpaaW.PrintWords Go.Proofs.YtnikfeaggppmpaaW.PrintLast Go.Proofs.YtnikfeaggppmpaaW.PrintMore
attribute [local go_sem] max2_int min2_int max_two min_two max_three min_three max_four min_four   -- for this text's walks alone
set_option linter.unusedVariables false
set_option linter.unusedSimpArgs false
attribute [local go_sem high] eqA24 eqA28 eqA37
def message_head.f (k : Nat) (a0 : Int) (a1 : Int) : Option (Int × Bool × Int × Bool × Bool × Bool × Bool × Int) := (num_Flags.f k (a1 / 128) 4).bind fun t222 => (if 0 < (t222.length : Int) then (if 1 < (t222.length : Int) then (if 2 < (t222.length : Int) then (if 3 < (t222.length : Int) then (some (a0, ((a1 / 32768) == 1), wrap64 (Go.bits .and .u16 (a1 / 2048) 15), rdOf false t222 0, rdOf false t222 1, rdOf false t222 2, rdOf false t222 3, wrap64 (Go.bits .and .u16 a1 15))) else (none)) else (none)) else (none)) else (none))
theorem message_head.mono : ∀ a0 a1 k, LeO (message_head.f k a0 a1) (message_head.f (k + 1) a0 a1) := by
  intro a0 a1 k
  unfold message_head.f
  repeat' first
      | (with_reducible exact num_Flags.mono _ _ _)
      | (with_reducible exact LeO.refl _)
      | (with_reducible exact LeO.none _)
      | (with_reducible refine LeO.ite ?_ ?_)
      | (with_reducible refine LeO.bind ?_ (fun _ => ?_))
      | exact num_Flags.mono _ _ _
      | exact LeO.none _
      | refine LeO.ite ?_ ?_
      | refine LeO.bind ?_ (fun _ => ?_)
def message_head.T2 : Bool × List (List Nat × List Nat) := (true, [([], []), ([], []), ([1], [1]), ([2], [2]), ([], []), ([4], [4]), ([5], [5]), ([6], [6]), ([], []), ([8], [8]), ([9], [9]), ([], []), ([11], [11]), ([12], [12]), ([], []), ([14], [14]), ([15], [15]), ([], []), ([17], [17]), ([18], [18]), ([], []), ([20], [20]), ([21], [21]), ([0, 3, 7, 10, 13, 16, 19, 22], [0, 3, 7, 10, 13, 16, 19, 22]), ([23, 0, 1, 2, 3, 4, 5, 6, 7, 8, 9, 10, 11, 12, 13, 14, 15, 16, 17, 18, 19, 20, 21, 22, 23], [23])])
def message_head.B2 : List Nat := [0, 0, 2, 6, 0, 16, 48, 112, 0, 256, 768, 0, 2048, 6144, 0, 16384, 49152, 0, 131072, 393216, 0, 1048576, 3145728, 8388607, 16777215]
theorem message_head.tab2 : rtab .any (opsOf Try.f28 2) = message_head.T2 := by kernel_rfl
theorem message_head.bits2 : waitsOk message_head.T2.2 message_head.B2 = true := by kernel_rfl
set_option maxHeartbeats 8000000 in
set_option maxRecDepth 100000 in
theorem message_head.calls (k : Nat) (a0 : Int) (a1 : Int) (r1 : Int) (r2 : Bool) (r3 : Int) (r4 : Bool) (r5 : Bool) (r6 : Bool) (r7 : Bool) (r8 : Int) (w : World) (h : message_head.f k a0 a1 = some (r1, r2, r3, r4, r5, r6, r7, r8)) :
    Calls Try.prog 28 #[.int .u16 a0, .int .u16 a1] w fun e w' => e = .returned (.agg #[.int .u16 r1, .bool r2, .int .i64 r3, .bool r4, .bool r5, .bool r6, .bool r7, .int .i64 r8]) ∧ Below w.heap.size w w' := by
  have hu24 := Try.underlying24
  have HB := Aside0.mk (Below.refl w.heap.size w)
  have H : ((num_Flags.f k (a1 / 128) 4).bind fun t222 => (if 0 < (t222.length : Int) then (if 1 < (t222.length : Int) then (if 2 < (t222.length : Int) then (if 3 < (t222.length : Int) then (some (a0, ((a1 / 32768) == 1), wrap64 (Go.bits .and .u16 (a1 / 2048) 15), rdOf false t222 0, rdOf false t222 1, rdOf false t222 2, rdOf false t222 3, wrap64 (Go.bits .and .u16 a1 15))) else (none)) else (none)) else (none)) else (none))) = some (r1, r2, r3, r4, r5, r6, r7, r8) := h
  clear h
  replace H := Option.bind_eq_some_iff.mp H
  obtain ⟨t222, A30, H⟩ := H
  replace H : (if 0 < (t222.length : Int) then (if 1 < (t222.length : Int) then (if 2 < (t222.length : Int) then (if 3 < (t222.length : Int) then (some (a0, ((a1 / 32768) == 1), wrap64 (Go.bits .and .u16 (a1 / 2048) 15), rdOf false t222 0, rdOf false t222 1, rdOf false t222 2, rdOf false t222 3, wrap64 (Go.bits .and .u16 a1 15))) else (none)) else (none)) else (none)) else (none)) = some (r1, r2, r3, r4, r5, r6, r7, r8) := H
  have A3 := Aside0.mk A30
  clear A30
  by_cases c4 : 0 < (t222.length : Int)
  · rw [if_pos c4] at H
    have c4b0 : decide (0 < (t222.length : Int)) = true := decide_eq_true c4
    have c4b1 : decide (0 < t222.length) = true := decide_eq_true (by omega)
    clear c4
    by_cases c5 : 1 < (t222.length : Int)
    · rw [if_pos c5] at H
      have c5b0 : decide (1 < (t222.length : Int)) = true := decide_eq_true c5
      have c5b1 : decide (1 < t222.length) = true := decide_eq_true (by omega)
      clear c5
      by_cases c6 : 2 < (t222.length : Int)
      · rw [if_pos c6] at H
        have c6b0 : decide (2 < (t222.length : Int)) = true := decide_eq_true c6
        have c6b1 : decide (2 < t222.length) = true := decide_eq_true (by omega)
        clear c6
        by_cases c7 : 3 < (t222.length : Int)
        · rw [if_pos c7] at H
          have c7b0 : decide (3 < (t222.length : Int)) = true := decide_eq_true c7
          have c7b1 : decide (3 < t222.length) = true := decide_eq_true (by omega)
          clear c7
          simp only [Option.some.injEq, Prod.mk.injEq] at H
          obtain ⟨rfl, rfl, rfl, rfl, rfl, rfl, rfl, rfl⟩ := H
          go_enter Try.func28, Try.ntmps28
          try go_wp2_with (first | ((with_reducible refine gate_dst (N := 4) rfl ?_); refine box_event ?hg (N := 4) ?hd (cs := #[.int .u16 0, .bool false, .int .i64 0, .bool false, .bool false, .bool false, .bool false, .int .i64 0]) (t := 24) ?hr ?_; (case hd => rfl); (case hg => rfl); (case hr => first | (go_simp; done) | (go_simp; rfl)); intro gb221 hg w8 hbox hb; have n0_ := Aside0.mk (below_step (by repeat (first | (with_reducible first | exact HB.out | apply below_alloc | apply pw_below_drewN | apply below_drew1) | exact HB.out)) hb); have n1_ := Aside0.mk (hbox); have n2_ := Aside0.mk ((by rw [hg]; exact (below_size (by repeat (first | (with_reducible first | exact HB.out | apply below_alloc | apply pw_below_drewN | apply below_drew1) | exact HB.out))) : w.heap.size ≤ gb221)); have n3_ := Aside0.mk ((by rw [hg]; exact (below_size (by repeat (first | (with_reducible first | exact HB.out | apply below_alloc | apply pw_below_drewN | apply below_drew1) | exact HB.out))) : w.heap.size ≤ gb221)); clear HB; have HB := n0_; have BK221 := n1_; have GW221 := n2_; have GE221 := n3_; clear n0_ n1_ n2_ n3_; clear hb hbox hg) | ((with_reducible refine gate_callee (f := 40) rfl ?_); refine goesL_ (some 8) rfl rfl Try.func40 (by kernel_rfl) rfl #[.int .u16 (a1 / 128), .int .i64 4] rfl (by (try simp only [List.map_toArray, List.map_cons, List.map_nil]); first | done | rfl | (simp only [List.length_drop, List.length_take]; rfl)) ?_; (with_reducible refine (num_Flags.calls k (a1 / 128) 4 t222 _ A3.out).mono ?_); rintro e w9 ⟨v223, rfl, ho0, hb⟩; refine ⟨_, rfl, ?_⟩; have n0_ := Aside0.mk (Kd.R_lower ho0 (below_size (by repeat (first | (with_reducible first | exact HB.out | apply below_alloc | apply pw_below_drewN | apply below_drew1 | refine below_set ?_ GE221.out) | exact HB.out)))); have n1_ := Aside0.mk (blk_below (g := gb221) (o := .cells #[.int .u16 0, .bool false, .int .i64 0, .bool false, .bool false, .bool false, .bool false, .int .i64 0] 24 (0, 0)) (by (with_reducible repeat (first | refine blk_drewN ?_ _ | refine blk_drew ?_ | refine blk_alloc ?_ _)); exact BK221.out) hb); have n2_ := Aside0.mk (below_step (by repeat (first | (with_reducible first | exact HB.out | apply below_alloc | apply pw_below_drewN | apply below_drew1 | refine below_set ?_ GE221.out) | exact HB.out)) hb); clear BK221; clear HB; have HO224 := n0_; have BK221 := n1_; have HB := n2_; clear n0_ n1_ n2_; (try clear hb); (try clear hb2); (try clear hk); (try clear hi); (try clear ho0)))
          have n0_ := Aside0.mk (Kd.R_drew HO224.out)
          have n1_ := Aside0.mk (blk_drew BK221.out)
          have n2_ := Aside0.mk (below_drew1 HB.out)
          clear HO224
          clear BK221
          clear HB
          have HO224 := n0_
          have BK221 := n1_
          have HB := n2_
          clear n0_ n1_ n2_
          obtain ⟨Ao11, co11, eo11⟩ := Kd.R_slice HO224.out
          (first | subst eo11 | (injection eo11 with f1_ f2_ f3_; have f4_ := f1_.symm; have f5_ := f3_.symm; clear f1_ f2_ f3_; subst f4_; subst f5_))
          have p225 : 0 ≤ (0 : Int) := (by omega)
          have q225 : 0 < (t222.length : Int) := of_decide_eq_true (by first | (with_reducible assumption) | assumption)
          obtain ⟨ad225, e225, hx225_0⟩ := Kd.at_bool (Kd.R_reads' HO224.out).2.2 0 p225 q225
          cases e225
          have qi225 : (0 < t222.length) = True := eq_true (by omega)
          (try rw [show ((0 : Int)).toNat = 0 from rfl] at hx225_0)
          (try rw [Addr.add_zero'] at hx225_0)
          replace p225 := eq_true p225
          replace q225 := eq_true q225
          have p226 : 0 ≤ (1 : Int) := (by omega)
          have q226 : 1 < (t222.length : Int) := of_decide_eq_true (by first | (with_reducible assumption) | assumption)
          obtain ⟨ad226, e226, hx226_0⟩ := Kd.at_bool (Kd.R_reads' HO224.out).2.2 1 p226 q226
          obtain rfl : ad225 = ad226 := (by injection e226)
          (try simp only [show (1 : Int).toNat = 1 from rfl, Nat.reduceMul, Nat.reduceEqDiff, Go.Addr.add, ↓reduceIte] at hx226_0)
          have qi226 : (1 < t222.length) = True := eq_true (by omega)
          (try rw [show ((1 : Int)).toNat = 1 from rfl] at hx226_0)
          replace p226 := eq_true p226
          replace q226 := eq_true q226
          have p227 : 0 ≤ (2 : Int) := (by omega)
          have q227 : 2 < (t222.length : Int) := of_decide_eq_true (by first | (with_reducible assumption) | assumption)
          obtain ⟨ad227, e227, hx227_0⟩ := Kd.at_bool (Kd.R_reads' HO224.out).2.2 2 p227 q227
          obtain rfl : ad225 = ad227 := (by injection e227)
          (try simp only [show (2 : Int).toNat = 2 from rfl, Nat.reduceMul, Nat.reduceEqDiff, Go.Addr.add, ↓reduceIte] at hx227_0)
          have qi227 : (2 < t222.length) = True := eq_true (by omega)
          (try rw [show ((2 : Int)).toNat = 2 from rfl] at hx227_0)
          replace p227 := eq_true p227
          replace q227 := eq_true q227
          have p228 : 0 ≤ (3 : Int) := (by omega)
          have q228 : 3 < (t222.length : Int) := of_decide_eq_true (by first | (with_reducible assumption) | assumption)
          obtain ⟨ad228, e228, hx228_0⟩ := Kd.at_bool (Kd.R_reads' HO224.out).2.2 3 p228 q228
          obtain rfl : ad225 = ad228 := (by injection e228)
          (try simp only [show (3 : Int).toNat = 3 from rfl, Nat.reduceMul, Nat.reduceEqDiff, Go.Addr.add, ↓reduceIte] at hx228_0)
          have qi228 : (3 < t222.length) = True := eq_true (by omega)
          (try rw [show ((3 : Int)).toNat = 3 from rfl] at hx228_0)
          replace p228 := eq_true p228
          replace q228 := eq_true q228
          refine start_ (n := 25) (S := fun w' => w'.cell? ad225 = some (.bool (rdOf false t222 0)) ∧ w'.cell? ⟨ad225.block, ad225.off + 1, none⟩ = some (.bool (rdOf false t222 1)) ∧ w'.cell? ⟨ad225.block, ad225.off + 2, none⟩ = some (.bool (rdOf false t222 2)) ∧ w'.cell? ⟨ad225.block, ad225.off + 3, none⟩ = some (.bool (rdOf false t222 3))) (ds := []) #[false, false, false, false, false, false, false, false, false, false, false, false, false, false, false, false, false, false, false, false, false, false, false, false, false] (by kernel_rfl) rfl rfl ⟨hx225_0, hx226_0, hx227_0, hx228_0⟩ (fun hHeld => ?_); refine with_tabW message_head.tab2 message_head.bits2 (fun HT_ HW_ => ?_)
          generalize w9.drew = w10 at HO224 BK221 HB hx225_0 hx226_0 hx227_0 hx228_0 hHeld ⊢
          refine pure_ (i := 0) (N := some 9) (v := ?_) (a' := ?_) #[true, false, false, false, false, false, false, false, false, false, false, false, false, false, false, false, false, false, false, false, false, false, false, false, false] rfl rfl (any_of HT_.out (by kernel_rfl)) (fun _ _ _ h => h) (Or.inl ⟨by rfl, ?_⟩) ?_ ?_
          rotate_left
          · intro w'
            go_simp
            with_reducible rfl
          rotate_left
          · simp only [Act.put, List.setIfInBounds_toArray, List.set_cons_zero, List.set_cons_succ, i64_w, i32_w]
            rfl
          refine pure_ (i := 1) (N := some 10) (v := ?_) (a' := ?_) #[true, true, false, false, false, false, false, false, false, false, false, false, false, false, false, false, false, false, false, false, false, false, false, false, false] rfl rfl (any_of HT_.out (by kernel_rfl)) (fun _ _ _ h => h) (Or.inl ⟨by rfl, ?_⟩) ?_ ?_
          rotate_left
          · intro w'
            go_simp
            with_reducible rfl
          rotate_left
          · simp only [Act.put, List.setIfInBounds_toArray, List.set_cons_zero, List.set_cons_succ, i64_w, i32_w]
            rfl
          refine pure_ (i := 2) (N := some 11) (v := ?_) (a' := ?_) #[true, true, true, false, false, false, false, false, false, false, false, false, false, false, false, false, false, false, false, false, false, false, false, false, false] rfl rfl (any_of HT_.out (by kernel_rfl)) (fun _ _ _ h => h) (Or.inl ⟨by rfl, ?_⟩) ?_ ?_
          rotate_left
          · intro w'
            go_simp
            with_reducible rfl
          rotate_left
          · simp only [Act.put, List.setIfInBounds_toArray, List.set_cons_zero, List.set_cons_succ, i64_w, i32_w]
            rfl
          refine pure_ (i := 3) (N := some 12) (v := ?_) (a' := ?_) #[true, true, true, true, false, false, false, false, false, false, false, false, false, false, false, false, false, false, false, false, false, false, false, false, false] rfl rfl (any_of HT_.out (by kernel_rfl)) (fun _ _ _ h => h) (Or.inl ⟨by rfl, ?_⟩) ?_ ?_
          rotate_left
          · intro w'
            go_simp
            with_reducible rfl
          rotate_left
          · simp only [Act.put, List.setIfInBounds_toArray, List.set_cons_zero, List.set_cons_succ, i64_w, i32_w]
            rfl
          refine pure_ (i := 4) (N := some 13) (v := ?_) (a' := ?_) #[true, true, true, true, true, false, false, false, false, false, false, false, false, false, false, false, false, false, false, false, false, false, false, false, false] rfl rfl (any_of HT_.out (by kernel_rfl)) (fun _ _ _ h => h) (Or.inl ⟨by rfl, ?_⟩) ?_ ?_
          rotate_left
          · intro w'
            go_simp
            with_reducible rfl
          rotate_left
          · simp only [Act.put, List.setIfInBounds_toArray, List.set_cons_zero, List.set_cons_succ, i64_w, i32_w]
            rfl
          refine pure_ (i := 5) (N := some 14) (v := ?_) (a' := ?_) #[true, true, true, true, true, true, false, false, false, false, false, false, false, false, false, false, false, false, false, false, false, false, false, false, false] rfl rfl (any_of HT_.out (by kernel_rfl)) (fun _ _ _ h => h) (Or.inl ⟨by rfl, ?_⟩) ?_ ?_
          rotate_left
          · intro w'
            go_simp
            with_reducible rfl
          rotate_left
          · simp only [Act.put, List.setIfInBounds_toArray, List.set_cons_zero, List.set_cons_succ, i64_w, i32_w]
            rfl
          refine pure_ (i := 6) (N := some 15) (v := ?_) (a' := ?_) #[true, true, true, true, true, true, true, false, false, false, false, false, false, false, false, false, false, false, false, false, false, false, false, false, false] rfl rfl (any_of HT_.out (by kernel_rfl)) (fun _ _ _ h => h) (Or.inl ⟨by rfl, ?_⟩) ?_ ?_
          rotate_left
          · intro w'
            go_simp
            with_reducible rfl
          rotate_left
          · simp only [Act.put, List.setIfInBounds_toArray, List.set_cons_zero, List.set_cons_succ, i64_w, i32_w]
            rfl
          refine pure_ (i := 7) (N := some 16) (v := ?_) (a' := ?_) #[true, true, true, true, true, true, true, true, false, false, false, false, false, false, false, false, false, false, false, false, false, false, false, false, false] rfl rfl (any_of HT_.out (by kernel_rfl)) (fun _ _ _ h => h) (Or.inl ⟨by rfl, ?_⟩) ?_ ?_
          rotate_left
          · intro w'
            go_simp
            with_reducible rfl
          rotate_left
          · simp only [Act.put, List.setIfInBounds_toArray, List.set_cons_zero, List.set_cons_succ, i64_w, i32_w]
            rfl
          refine pure_ (i := 8) (N := some 17) (v := ?_) (a' := ?_) #[true, true, true, true, true, true, true, true, true, false, false, false, false, false, false, false, false, false, false, false, false, false, false, false, false] rfl rfl (any_of HT_.out (by kernel_rfl)) (fun _ _ _ h => h) (Or.inl ⟨by rfl, ?_⟩) ?_ ?_
          rotate_left
          · intro w'
            go_simp
            with_reducible rfl
          rotate_left
          · simp only [Act.put, List.setIfInBounds_toArray, List.set_cons_zero, List.set_cons_succ, i64_w, i32_w]
            rfl
          refine pure_ (i := 9) (N := some 18) (v := ?_) (a' := ?_) #[true, true, true, true, true, true, true, true, true, true, false, false, false, false, false, false, false, false, false, false, false, false, false, false, false] rfl rfl (any_of HT_.out (by kernel_rfl)) (fun _ _ _ h => h) (Or.inl ⟨by rfl, ?_⟩) ?_ ?_
          rotate_left
          · intro w'
            go_simp
            with_reducible rfl
          rotate_left
          · simp only [Act.put, List.setIfInBounds_toArray, List.set_cons_zero, List.set_cons_succ, i64_w, i32_w]
            rfl
          refine pure_ (i := 11) (N := some 20) (v := ?_) (a' := ?_) #[true, true, true, true, true, true, true, true, true, true, false, true, false, false, false, false, false, false, false, false, false, false, false, false, false] rfl rfl (any_of HT_.out (by kernel_rfl)) (fun _ _ _ h => h) (Or.inl ⟨by rfl, ?_⟩) ?_ ?_
          rotate_left
          · intro w'
            go_simp
            with_reducible rfl
          rotate_left
          · simp only [Act.put, List.setIfInBounds_toArray, List.set_cons_zero, List.set_cons_succ, i64_w, i32_w]
            rfl
          refine pure_ (i := 12) (N := some 21) (v := ?_) (a' := ?_) #[true, true, true, true, true, true, true, true, true, true, false, true, true, false, false, false, false, false, false, false, false, false, false, false, false] rfl rfl (any_of HT_.out (by kernel_rfl)) (fun _ _ _ h => h) (Or.inl ⟨by rfl, ?_⟩) ?_ ?_
          rotate_left
          · intro w'
            go_simp
            with_reducible rfl
          rotate_left
          · simp only [Act.put, List.setIfInBounds_toArray, List.set_cons_zero, List.set_cons_succ, i64_w, i32_w]
            rfl
          refine pure_ (i := 14) (N := some 23) (v := ?_) (a' := ?_) #[true, true, true, true, true, true, true, true, true, true, false, true, true, false, true, false, false, false, false, false, false, false, false, false, false] rfl rfl (any_of HT_.out (by kernel_rfl)) (fun _ _ _ h => h) (Or.inl ⟨by rfl, ?_⟩) ?_ ?_
          rotate_left
          · intro w'
            go_simp
            with_reducible rfl
          rotate_left
          · simp only [Act.put, List.setIfInBounds_toArray, List.set_cons_zero, List.set_cons_succ, i64_w, i32_w]
            rfl
          refine pure_ (i := 15) (N := some 24) (v := ?_) (a' := ?_) #[true, true, true, true, true, true, true, true, true, true, false, true, true, false, true, true, false, false, false, false, false, false, false, false, false] rfl rfl (any_of HT_.out (by kernel_rfl)) (fun _ _ _ h => h) (Or.inl ⟨by rfl, ?_⟩) ?_ ?_
          rotate_left
          · intro w'
            go_simp
            with_reducible rfl
          rotate_left
          · simp only [Act.put, List.setIfInBounds_toArray, List.set_cons_zero, List.set_cons_succ, i64_w, i32_w]
            rfl
          refine pure_ (i := 17) (N := some 26) (v := ?_) (a' := ?_) #[true, true, true, true, true, true, true, true, true, true, false, true, true, false, true, true, false, true, false, false, false, false, false, false, false] rfl rfl (any_of HT_.out (by kernel_rfl)) (fun _ _ _ h => h) (Or.inl ⟨by rfl, ?_⟩) ?_ ?_
          rotate_left
          · intro w'
            go_simp
            with_reducible rfl
          rotate_left
          · simp only [Act.put, List.setIfInBounds_toArray, List.set_cons_zero, List.set_cons_succ, i64_w, i32_w]
            rfl
          refine pure_ (i := 18) (N := some 27) (v := ?_) (a' := ?_) #[true, true, true, true, true, true, true, true, true, true, false, true, true, false, true, true, false, true, true, false, false, false, false, false, false] rfl rfl (any_of HT_.out (by kernel_rfl)) (fun _ _ _ h => h) (Or.inl ⟨by rfl, ?_⟩) ?_ ?_
          rotate_left
          · intro w'
            go_simp
            with_reducible rfl
          rotate_left
          · simp only [Act.put, List.setIfInBounds_toArray, List.set_cons_zero, List.set_cons_succ, i64_w, i32_w]
            rfl
          refine pure_ (i := 20) (N := some 29) (v := ?_) (a' := ?_) #[true, true, true, true, true, true, true, true, true, true, false, true, true, false, true, true, false, true, true, false, true, false, false, false, false] rfl rfl (any_of HT_.out (by kernel_rfl)) (fun _ _ _ h => h) (Or.inl ⟨by rfl, ?_⟩) ?_ ?_
          rotate_left
          · intro w'
            go_simp
            with_reducible rfl
          rotate_left
          · simp only [Act.put, List.setIfInBounds_toArray, List.set_cons_zero, List.set_cons_succ, i64_w, i32_w]
            rfl
          refine pure_ (i := 21) (N := some 30) (v := ?_) (a' := ?_) #[true, true, true, true, true, true, true, true, true, true, false, true, true, false, true, true, false, true, true, false, true, true, false, false, false] rfl rfl (any_of HT_.out (by kernel_rfl)) (fun _ _ _ h => h) (Or.inl ⟨by rfl, ?_⟩) ?_ ?_
          rotate_left
          · intro w'
            go_simp
            with_reducible rfl
          rotate_left
          · simp only [Act.put, List.setIfInBounds_toArray, List.set_cons_zero, List.set_cons_succ, i64_w, i32_w]
            rfl
          refine pure_ (i := 22) (N := some 31) (v := ?_) (a' := ?_) #[true, true, true, true, true, true, true, true, true, true, false, true, true, false, true, true, false, true, true, false, true, true, true, false, false] rfl rfl (any_of HT_.out (by kernel_rfl)) (fun _ _ _ h => h) (Or.inl ⟨by rfl, ?_⟩) ?_ ?_
          rotate_left
          · intro w'
            go_simp
            with_reducible rfl
          rotate_left
          · simp only [Act.put, List.setIfInBounds_toArray, List.set_cons_zero, List.set_cons_succ, i64_w, i32_w]
            rfl
          refine take_ (i := 10) (N := some 19) (v := ?_) (a' := ?_) #[true, true, true, true, true, true, true, true, true, true, true, true, true, false, true, true, false, true, true, false, true, true, true, false, false] rfl rfl (take_ofW HT_.out HW_.out (by kernel_rfl)) (fun _ _ _ h => h) (Or.inl ⟨by rfl, ?_⟩) hHeld ?_ ?_
          rotate_left
          · rintro w' ⟨s0, s1, s2, s3⟩
            go_simp
            with_reducible rfl
          rotate_left
          · simp only [Act.put, List.setIfInBounds_toArray, List.set_cons_zero, List.set_cons_succ, i64_w, i32_w]
            rfl
          refine take_ (i := 13) (N := some 22) (v := ?_) (a' := ?_) #[true, true, true, true, true, true, true, true, true, true, true, true, true, true, true, true, false, true, true, false, true, true, true, false, false] rfl rfl (take_ofW HT_.out HW_.out (by kernel_rfl)) (fun _ _ _ h => h) (Or.inl ⟨by rfl, ?_⟩) hHeld ?_ ?_
          rotate_left
          · rintro w' ⟨s0, s1, s2, s3⟩
            go_simp
            with_reducible rfl
          rotate_left
          · simp only [Act.put, List.setIfInBounds_toArray, List.set_cons_zero, List.set_cons_succ, i64_w, i32_w]
            rfl
          refine take_ (i := 16) (N := some 25) (v := ?_) (a' := ?_) #[true, true, true, true, true, true, true, true, true, true, true, true, true, true, true, true, true, true, true, false, true, true, true, false, false] rfl rfl (take_ofW HT_.out HW_.out (by kernel_rfl)) (fun _ _ _ h => h) (Or.inl ⟨by rfl, ?_⟩) hHeld ?_ ?_
          rotate_left
          · rintro w' ⟨s0, s1, s2, s3⟩
            go_simp
            with_reducible rfl
          rotate_left
          · simp only [Act.put, List.setIfInBounds_toArray, List.set_cons_zero, List.set_cons_succ, i64_w, i32_w]
            rfl
          refine take_ (i := 19) (N := some 28) (v := ?_) (a' := ?_) #[true, true, true, true, true, true, true, true, true, true, true, true, true, true, true, true, true, true, true, true, true, true, true, false, false] rfl rfl (take_ofW HT_.out HW_.out (by kernel_rfl)) (fun _ _ _ h => h) (Or.inl ⟨by rfl, ?_⟩) hHeld ?_ ?_
          rotate_left
          · rintro w' ⟨s0, s1, s2, s3⟩
            go_simp
            with_reducible rfl
          rotate_left
          · simp only [Act.put, List.setIfInBounds_toArray, List.set_cons_zero, List.set_cons_succ, i64_w, i32_w]
            rfl
          refine pure_ (i := 23) (N := some 32) (v := ?_) (a' := ?_) #[true, true, true, true, true, true, true, true, true, true, true, true, true, true, true, true, true, true, true, true, true, true, true, true, false] rfl rfl (any_of HT_.out (by kernel_rfl)) (fun _ _ _ h => h) (Or.inl ⟨by rfl, ?_⟩) ?_ ?_
          rotate_left
          · intro w'
            go_simp
            with_reducible rfl
          rotate_left
          · simp only [Act.put, List.setIfInBounds_toArray, List.set_cons_zero, List.set_cons_succ, i64_w, i32_w]
            rfl
          refine one_ (i := 24) (N := none) #[true, true, true, true, true, true, true, true, true, true, true, true, true, true, true, true, true, true, true, true, true, true, true, true, true] rfl rfl (one_of HT_.out (by kernel_rfl)) (by decide) (fun K hK => ?_)
          have hs12 : w10.cell? ⟨gb221, 0, none⟩ = some (.int .u16 0) := (blk_cell BK221.out 0).trans rfl
          have hfs12 := blk_frozen BK221.out 0
          have hs13 : w10.cell? ⟨gb221, 1, none⟩ = some (.bool false) := (blk_cell BK221.out 1).trans rfl
          have hfs13 := blk_frozen BK221.out 1
          have hs14 : w10.cell? ⟨gb221, 2, none⟩ = some (.int .i64 0) := (blk_cell BK221.out 2).trans rfl
          have hfs14 := blk_frozen BK221.out 2
          have hs15 : w10.cell? ⟨gb221, 3, none⟩ = some (.bool false) := (blk_cell BK221.out 3).trans rfl
          have hfs15 := blk_frozen BK221.out 3
          have hs16 : w10.cell? ⟨gb221, 4, none⟩ = some (.bool false) := (blk_cell BK221.out 4).trans rfl
          have hfs16 := blk_frozen BK221.out 4
          have hs17 : w10.cell? ⟨gb221, 5, none⟩ = some (.bool false) := (blk_cell BK221.out 5).trans rfl
          have hfs17 := blk_frozen BK221.out 5
          have hs18 : w10.cell? ⟨gb221, 6, none⟩ = some (.bool false) := (blk_cell BK221.out 6).trans rfl
          have hfs18 := blk_frozen BK221.out 6
          have hs19 : w10.cell? ⟨gb221, 7, none⟩ = some (.int .i64 0) := (blk_cell BK221.out 7).trans rfl
          have hfs19 := blk_frozen BK221.out 7
          refine skip_ (w1 := ?_) (by rfl) rfl ?_ ?_
          rotate_left
          · go_simp
            rfl
          refine hK.out _ _ ⟨((cell_far (p := ⟨gb221, _, none⟩) (by first | exact Kd.own_blk (Kd.R_ne HO224.out BK221.out (by decide)) | (rw [add_block]; exact Kd.own_blk (Kd.R_ne HO224.out BK221.out (by decide))) | (show (Addr.add _ _).block ≠ _; rw [add_block]; exact Kd.own_blk (Kd.R_ne HO224.out BK221.out (by decide))) | (dsimp only; exact Kd.own_blk (Kd.R_ne HO224.out BK221.out (by decide)))) _).trans (((cell_far (p := ⟨gb221, _, none⟩) (by first | exact Kd.own_blk (Kd.R_ne HO224.out BK221.out (by decide)) | (rw [add_block]; exact Kd.own_blk (Kd.R_ne HO224.out BK221.out (by decide))) | (show (Addr.add _ _).block ≠ _; rw [add_block]; exact Kd.own_blk (Kd.R_ne HO224.out BK221.out (by decide))) | (dsimp only; exact Kd.own_blk (Kd.R_ne HO224.out BK221.out (by decide)))) _).trans (((cell_far (p := ⟨gb221, _, none⟩) (by first | exact Kd.own_blk (Kd.R_ne HO224.out BK221.out (by decide)) | (rw [add_block]; exact Kd.own_blk (Kd.R_ne HO224.out BK221.out (by decide))) | (show (Addr.add _ _).block ≠ _; rw [add_block]; exact Kd.own_blk (Kd.R_ne HO224.out BK221.out (by decide))) | (dsimp only; exact Kd.own_blk (Kd.R_ne HO224.out BK221.out (by decide)))) _).trans (((cell_far (p := ⟨gb221, _, none⟩) (by first | exact Kd.own_blk (Kd.R_ne HO224.out BK221.out (by decide)) | (rw [add_block]; exact Kd.own_blk (Kd.R_ne HO224.out BK221.out (by decide))) | (show (Addr.add _ _).block ≠ _; rw [add_block]; exact Kd.own_blk (Kd.R_ne HO224.out BK221.out (by decide))) | (dsimp only; exact Kd.own_blk (Kd.R_ne HO224.out BK221.out (by decide)))) _).trans (((cell_far (p := ⟨gb221, _, none⟩) (by first | exact Kd.own_blk (Kd.R_ne HO224.out BK221.out (by decide)) | (rw [add_block]; exact Kd.own_blk (Kd.R_ne HO224.out BK221.out (by decide))) | (show (Addr.add _ _).block ≠ _; rw [add_block]; exact Kd.own_blk (Kd.R_ne HO224.out BK221.out (by decide))) | (dsimp only; exact Kd.own_blk (Kd.R_ne HO224.out BK221.out (by decide)))) _).trans (((cell_far (p := ⟨gb221, _, none⟩) (by first | exact Kd.own_blk (Kd.R_ne HO224.out BK221.out (by decide)) | (rw [add_block]; exact Kd.own_blk (Kd.R_ne HO224.out BK221.out (by decide))) | (show (Addr.add _ _).block ≠ _; rw [add_block]; exact Kd.own_blk (Kd.R_ne HO224.out BK221.out (by decide))) | (dsimp only; exact Kd.own_blk (Kd.R_ne HO224.out BK221.out (by decide)))) _).trans (((cell_far (p := ⟨gb221, _, none⟩) (by first | exact Kd.own_blk (Kd.R_ne HO224.out BK221.out (by decide)) | (rw [add_block]; exact Kd.own_blk (Kd.R_ne HO224.out BK221.out (by decide))) | (show (Addr.add _ _).block ≠ _; rw [add_block]; exact Kd.own_blk (Kd.R_ne HO224.out BK221.out (by decide))) | (dsimp only; exact Kd.own_blk (Kd.R_ne HO224.out BK221.out (by decide)))) _).trans (((cell_far (p := ⟨gb221, _, none⟩) (by first | exact Kd.own_blk (Kd.R_ne HO224.out BK221.out (by decide)) | (rw [add_block]; exact Kd.own_blk (Kd.R_ne HO224.out BK221.out (by decide))) | (show (Addr.add _ _).block ≠ _; rw [add_block]; exact Kd.own_blk (Kd.R_ne HO224.out BK221.out (by decide))) | (dsimp only; exact Kd.own_blk (Kd.R_ne HO224.out BK221.out (by decide)))) _).trans (hHeld.1)))))))))))))))), ((cell_far (p := ⟨gb221, _, none⟩) (by first | exact Kd.own_blk (Kd.R_ne HO224.out BK221.out (by decide)) | (rw [add_block]; exact Kd.own_blk (Kd.R_ne HO224.out BK221.out (by decide))) | (show (Addr.add _ _).block ≠ _; rw [add_block]; exact Kd.own_blk (Kd.R_ne HO224.out BK221.out (by decide))) | (dsimp only; exact Kd.own_blk (Kd.R_ne HO224.out BK221.out (by decide)))) _).trans (((cell_far (p := ⟨gb221, _, none⟩) (by first | exact Kd.own_blk (Kd.R_ne HO224.out BK221.out (by decide)) | (rw [add_block]; exact Kd.own_blk (Kd.R_ne HO224.out BK221.out (by decide))) | (show (Addr.add _ _).block ≠ _; rw [add_block]; exact Kd.own_blk (Kd.R_ne HO224.out BK221.out (by decide))) | (dsimp only; exact Kd.own_blk (Kd.R_ne HO224.out BK221.out (by decide)))) _).trans (((cell_far (p := ⟨gb221, _, none⟩) (by first | exact Kd.own_blk (Kd.R_ne HO224.out BK221.out (by decide)) | (rw [add_block]; exact Kd.own_blk (Kd.R_ne HO224.out BK221.out (by decide))) | (show (Addr.add _ _).block ≠ _; rw [add_block]; exact Kd.own_blk (Kd.R_ne HO224.out BK221.out (by decide))) | (dsimp only; exact Kd.own_blk (Kd.R_ne HO224.out BK221.out (by decide)))) _).trans (((cell_far (p := ⟨gb221, _, none⟩) (by first | exact Kd.own_blk (Kd.R_ne HO224.out BK221.out (by decide)) | (rw [add_block]; exact Kd.own_blk (Kd.R_ne HO224.out BK221.out (by decide))) | (show (Addr.add _ _).block ≠ _; rw [add_block]; exact Kd.own_blk (Kd.R_ne HO224.out BK221.out (by decide))) | (dsimp only; exact Kd.own_blk (Kd.R_ne HO224.out BK221.out (by decide)))) _).trans (((cell_far (p := ⟨gb221, _, none⟩) (by first | exact Kd.own_blk (Kd.R_ne HO224.out BK221.out (by decide)) | (rw [add_block]; exact Kd.own_blk (Kd.R_ne HO224.out BK221.out (by decide))) | (show (Addr.add _ _).block ≠ _; rw [add_block]; exact Kd.own_blk (Kd.R_ne HO224.out BK221.out (by decide))) | (dsimp only; exact Kd.own_blk (Kd.R_ne HO224.out BK221.out (by decide)))) _).trans (((cell_far (p := ⟨gb221, _, none⟩) (by first | exact Kd.own_blk (Kd.R_ne HO224.out BK221.out (by decide)) | (rw [add_block]; exact Kd.own_blk (Kd.R_ne HO224.out BK221.out (by decide))) | (show (Addr.add _ _).block ≠ _; rw [add_block]; exact Kd.own_blk (Kd.R_ne HO224.out BK221.out (by decide))) | (dsimp only; exact Kd.own_blk (Kd.R_ne HO224.out BK221.out (by decide)))) _).trans (((cell_far (p := ⟨gb221, _, none⟩) (by first | exact Kd.own_blk (Kd.R_ne HO224.out BK221.out (by decide)) | (rw [add_block]; exact Kd.own_blk (Kd.R_ne HO224.out BK221.out (by decide))) | (show (Addr.add _ _).block ≠ _; rw [add_block]; exact Kd.own_blk (Kd.R_ne HO224.out BK221.out (by decide))) | (dsimp only; exact Kd.own_blk (Kd.R_ne HO224.out BK221.out (by decide)))) _).trans (((cell_far (p := ⟨gb221, _, none⟩) (by first | exact Kd.own_blk (Kd.R_ne HO224.out BK221.out (by decide)) | (rw [add_block]; exact Kd.own_blk (Kd.R_ne HO224.out BK221.out (by decide))) | (show (Addr.add _ _).block ≠ _; rw [add_block]; exact Kd.own_blk (Kd.R_ne HO224.out BK221.out (by decide))) | (dsimp only; exact Kd.own_blk (Kd.R_ne HO224.out BK221.out (by decide)))) _).trans (hHeld.2.1)))))))))))))))), ((cell_far (p := ⟨gb221, _, none⟩) (by first | exact Kd.own_blk (Kd.R_ne HO224.out BK221.out (by decide)) | (rw [add_block]; exact Kd.own_blk (Kd.R_ne HO224.out BK221.out (by decide))) | (show (Addr.add _ _).block ≠ _; rw [add_block]; exact Kd.own_blk (Kd.R_ne HO224.out BK221.out (by decide))) | (dsimp only; exact Kd.own_blk (Kd.R_ne HO224.out BK221.out (by decide)))) _).trans (((cell_far (p := ⟨gb221, _, none⟩) (by first | exact Kd.own_blk (Kd.R_ne HO224.out BK221.out (by decide)) | (rw [add_block]; exact Kd.own_blk (Kd.R_ne HO224.out BK221.out (by decide))) | (show (Addr.add _ _).block ≠ _; rw [add_block]; exact Kd.own_blk (Kd.R_ne HO224.out BK221.out (by decide))) | (dsimp only; exact Kd.own_blk (Kd.R_ne HO224.out BK221.out (by decide)))) _).trans (((cell_far (p := ⟨gb221, _, none⟩) (by first | exact Kd.own_blk (Kd.R_ne HO224.out BK221.out (by decide)) | (rw [add_block]; exact Kd.own_blk (Kd.R_ne HO224.out BK221.out (by decide))) | (show (Addr.add _ _).block ≠ _; rw [add_block]; exact Kd.own_blk (Kd.R_ne HO224.out BK221.out (by decide))) | (dsimp only; exact Kd.own_blk (Kd.R_ne HO224.out BK221.out (by decide)))) _).trans (((cell_far (p := ⟨gb221, _, none⟩) (by first | exact Kd.own_blk (Kd.R_ne HO224.out BK221.out (by decide)) | (rw [add_block]; exact Kd.own_blk (Kd.R_ne HO224.out BK221.out (by decide))) | (show (Addr.add _ _).block ≠ _; rw [add_block]; exact Kd.own_blk (Kd.R_ne HO224.out BK221.out (by decide))) | (dsimp only; exact Kd.own_blk (Kd.R_ne HO224.out BK221.out (by decide)))) _).trans (((cell_far (p := ⟨gb221, _, none⟩) (by first | exact Kd.own_blk (Kd.R_ne HO224.out BK221.out (by decide)) | (rw [add_block]; exact Kd.own_blk (Kd.R_ne HO224.out BK221.out (by decide))) | (show (Addr.add _ _).block ≠ _; rw [add_block]; exact Kd.own_blk (Kd.R_ne HO224.out BK221.out (by decide))) | (dsimp only; exact Kd.own_blk (Kd.R_ne HO224.out BK221.out (by decide)))) _).trans (((cell_far (p := ⟨gb221, _, none⟩) (by first | exact Kd.own_blk (Kd.R_ne HO224.out BK221.out (by decide)) | (rw [add_block]; exact Kd.own_blk (Kd.R_ne HO224.out BK221.out (by decide))) | (show (Addr.add _ _).block ≠ _; rw [add_block]; exact Kd.own_blk (Kd.R_ne HO224.out BK221.out (by decide))) | (dsimp only; exact Kd.own_blk (Kd.R_ne HO224.out BK221.out (by decide)))) _).trans (((cell_far (p := ⟨gb221, _, none⟩) (by first | exact Kd.own_blk (Kd.R_ne HO224.out BK221.out (by decide)) | (rw [add_block]; exact Kd.own_blk (Kd.R_ne HO224.out BK221.out (by decide))) | (show (Addr.add _ _).block ≠ _; rw [add_block]; exact Kd.own_blk (Kd.R_ne HO224.out BK221.out (by decide))) | (dsimp only; exact Kd.own_blk (Kd.R_ne HO224.out BK221.out (by decide)))) _).trans (((cell_far (p := ⟨gb221, _, none⟩) (by first | exact Kd.own_blk (Kd.R_ne HO224.out BK221.out (by decide)) | (rw [add_block]; exact Kd.own_blk (Kd.R_ne HO224.out BK221.out (by decide))) | (show (Addr.add _ _).block ≠ _; rw [add_block]; exact Kd.own_blk (Kd.R_ne HO224.out BK221.out (by decide))) | (dsimp only; exact Kd.own_blk (Kd.R_ne HO224.out BK221.out (by decide)))) _).trans (hHeld.2.2.1)))))))))))))))), ((cell_far (p := ⟨gb221, _, none⟩) (by first | exact Kd.own_blk (Kd.R_ne HO224.out BK221.out (by decide)) | (rw [add_block]; exact Kd.own_blk (Kd.R_ne HO224.out BK221.out (by decide))) | (show (Addr.add _ _).block ≠ _; rw [add_block]; exact Kd.own_blk (Kd.R_ne HO224.out BK221.out (by decide))) | (dsimp only; exact Kd.own_blk (Kd.R_ne HO224.out BK221.out (by decide)))) _).trans (((cell_far (p := ⟨gb221, _, none⟩) (by first | exact Kd.own_blk (Kd.R_ne HO224.out BK221.out (by decide)) | (rw [add_block]; exact Kd.own_blk (Kd.R_ne HO224.out BK221.out (by decide))) | (show (Addr.add _ _).block ≠ _; rw [add_block]; exact Kd.own_blk (Kd.R_ne HO224.out BK221.out (by decide))) | (dsimp only; exact Kd.own_blk (Kd.R_ne HO224.out BK221.out (by decide)))) _).trans (((cell_far (p := ⟨gb221, _, none⟩) (by first | exact Kd.own_blk (Kd.R_ne HO224.out BK221.out (by decide)) | (rw [add_block]; exact Kd.own_blk (Kd.R_ne HO224.out BK221.out (by decide))) | (show (Addr.add _ _).block ≠ _; rw [add_block]; exact Kd.own_blk (Kd.R_ne HO224.out BK221.out (by decide))) | (dsimp only; exact Kd.own_blk (Kd.R_ne HO224.out BK221.out (by decide)))) _).trans (((cell_far (p := ⟨gb221, _, none⟩) (by first | exact Kd.own_blk (Kd.R_ne HO224.out BK221.out (by decide)) | (rw [add_block]; exact Kd.own_blk (Kd.R_ne HO224.out BK221.out (by decide))) | (show (Addr.add _ _).block ≠ _; rw [add_block]; exact Kd.own_blk (Kd.R_ne HO224.out BK221.out (by decide))) | (dsimp only; exact Kd.own_blk (Kd.R_ne HO224.out BK221.out (by decide)))) _).trans (((cell_far (p := ⟨gb221, _, none⟩) (by first | exact Kd.own_blk (Kd.R_ne HO224.out BK221.out (by decide)) | (rw [add_block]; exact Kd.own_blk (Kd.R_ne HO224.out BK221.out (by decide))) | (show (Addr.add _ _).block ≠ _; rw [add_block]; exact Kd.own_blk (Kd.R_ne HO224.out BK221.out (by decide))) | (dsimp only; exact Kd.own_blk (Kd.R_ne HO224.out BK221.out (by decide)))) _).trans (((cell_far (p := ⟨gb221, _, none⟩) (by first | exact Kd.own_blk (Kd.R_ne HO224.out BK221.out (by decide)) | (rw [add_block]; exact Kd.own_blk (Kd.R_ne HO224.out BK221.out (by decide))) | (show (Addr.add _ _).block ≠ _; rw [add_block]; exact Kd.own_blk (Kd.R_ne HO224.out BK221.out (by decide))) | (dsimp only; exact Kd.own_blk (Kd.R_ne HO224.out BK221.out (by decide)))) _).trans (((cell_far (p := ⟨gb221, _, none⟩) (by first | exact Kd.own_blk (Kd.R_ne HO224.out BK221.out (by decide)) | (rw [add_block]; exact Kd.own_blk (Kd.R_ne HO224.out BK221.out (by decide))) | (show (Addr.add _ _).block ≠ _; rw [add_block]; exact Kd.own_blk (Kd.R_ne HO224.out BK221.out (by decide))) | (dsimp only; exact Kd.own_blk (Kd.R_ne HO224.out BK221.out (by decide)))) _).trans (((cell_far (p := ⟨gb221, _, none⟩) (by first | exact Kd.own_blk (Kd.R_ne HO224.out BK221.out (by decide)) | (rw [add_block]; exact Kd.own_blk (Kd.R_ne HO224.out BK221.out (by decide))) | (show (Addr.add _ _).block ≠ _; rw [add_block]; exact Kd.own_blk (Kd.R_ne HO224.out BK221.out (by decide))) | (dsimp only; exact Kd.own_blk (Kd.R_ne HO224.out BK221.out (by decide)))) _).trans (hHeld.2.2.2))))))))))))))))⟩ (fun hHeld => ?_)
          clear hK K
          refine done_ (done_of HT_.out (by kernel_rfl)) ?_
          try go_wp2
          refine bodyPost_ret (results_cell_row rfl _ _ gb221 24 #[.int .u16 a0, .bool ((a1 / 32768) == 1), .int .i64 (wrap64 (Go.bits .and .u16 (a1 / 2048) 15)), .bool (rdOf false t222 0), .bool (rdOf false t222 1), .bool (rdOf false t222 2), .bool (rdOf false t222 3), .int .i64 (wrap64 (Go.bits .and .u16 a1 15))] (0, 0) _ rfl (by (with_reducible repeat (first | refine blk_drewN ?_ _ | refine blk_drew ?_ | refine blk_alloc ?_ _)); refine blk_put (cs := #[.int .u16 a0, .bool ((a1 / 32768) == 1), .int .i64 (wrap64 (Go.bits .and .u16 (a1 / 2048) 15)), .bool (rdOf false t222 0), .bool (rdOf false t222 1), .bool (rdOf false t222 2), .bool (rdOf false t222 3), .int .i64 0]) ?_ 7 _ rfl; (with_reducible repeat (first | refine blk_drewN ?_ _ | refine blk_drew ?_ | refine blk_alloc ?_ _)); refine blk_put (cs := #[.int .u16 a0, .bool ((a1 / 32768) == 1), .int .i64 (wrap64 (Go.bits .and .u16 (a1 / 2048) 15)), .bool (rdOf false t222 0), .bool (rdOf false t222 1), .bool (rdOf false t222 2), .bool false, .int .i64 0]) ?_ 6 _ rfl; (with_reducible repeat (first | refine blk_drewN ?_ _ | refine blk_drew ?_ | refine blk_alloc ?_ _)); refine blk_put (cs := #[.int .u16 a0, .bool ((a1 / 32768) == 1), .int .i64 (wrap64 (Go.bits .and .u16 (a1 / 2048) 15)), .bool (rdOf false t222 0), .bool (rdOf false t222 1), .bool false, .bool false, .int .i64 0]) ?_ 5 _ rfl; (with_reducible repeat (first | refine blk_drewN ?_ _ | refine blk_drew ?_ | refine blk_alloc ?_ _)); refine blk_put (cs := #[.int .u16 a0, .bool ((a1 / 32768) == 1), .int .i64 (wrap64 (Go.bits .and .u16 (a1 / 2048) 15)), .bool (rdOf false t222 0), .bool false, .bool false, .bool false, .int .i64 0]) ?_ 4 _ rfl; (with_reducible repeat (first | refine blk_drewN ?_ _ | refine blk_drew ?_ | refine blk_alloc ?_ _)); refine blk_put (cs := #[.int .u16 a0, .bool ((a1 / 32768) == 1), .int .i64 (wrap64 (Go.bits .and .u16 (a1 / 2048) 15)), .bool false, .bool false, .bool false, .bool false, .int .i64 0]) ?_ 3 _ rfl; (with_reducible repeat (first | refine blk_drewN ?_ _ | refine blk_drew ?_ | refine blk_alloc ?_ _)); refine blk_put (cs := #[.int .u16 a0, .bool ((a1 / 32768) == 1), .int .i64 0, .bool false, .bool false, .bool false, .bool false, .int .i64 0]) ?_ 2 _ rfl; (with_reducible repeat (first | refine blk_drewN ?_ _ | refine blk_drew ?_ | refine blk_alloc ?_ _)); refine blk_put (cs := #[.int .u16 a0, .bool false, .int .i64 0, .bool false, .bool false, .bool false, .bool false, .int .i64 0]) ?_ 1 _ rfl; (with_reducible repeat (first | refine blk_drewN ?_ _ | refine blk_drew ?_ | refine blk_alloc ?_ _)); refine blk_put (cs := #[.int .u16 0, .bool false, .int .i64 0, .bool false, .bool false, .bool false, .bool false, .int .i64 0]) ?_ 0 _ rfl; (with_reducible repeat (first | refine blk_drewN ?_ _ | refine blk_drew ?_ | refine blk_alloc ?_ _)); exact BK221.out) Try.underlying24 rfl (by kernel_rfl)) rfl ?_
          exact ⟨by first | rfl | (simp [errW_none, errW_some] <;> rfl) | (simp [*, errW_none, errW_some] <;> rfl), by repeat (first | (with_reducible first | exact HB.out | apply below_alloc | apply pw_below_drewN | apply below_drew1 | refine below_set ?_ GE221.out) | exact HB.out)⟩
        · rw [if_neg c7] at H
          exact absurd H (by simp)
      · rw [if_neg c6] at H
        exact absurd H (by simp)
    · rw [if_neg c5] at H
      exact absurd H (by simp)
  · rw [if_neg c4] at H
    exact absurd H (by simp)
def num_Get32.f (a0 : ByteArray) (a1 : Int) : Option (Int × Bool) := (num_Get16.f a0 a1).bind fun bt229 => ((num_Get16.f a0 (wrap64 (a1 + 2))).bind fun bt231 => (if bt229.2 = true then (if bt231.2 = true then (some (Go.bits .or .u32 ((((bt229.1) % 4294967296) * 65536) % 4294967296) ((bt231.1) % 4294967296), true)) else (some (0, false))) else (some (0, false))))
set_option maxHeartbeats 8000000 in
set_option maxRecDepth 100000 in
theorem num_Get32.calls (a0 : ByteArray) (a1 : Int) (r1 : Int) (r2 : Bool) (w : World) (h : num_Get32.f a0 a1 = some (r1, r2)) :
    Calls Try.prog 53 #[.string a0, .int .i64 a1] w fun e w' => e = .returned (.tuple #[.int .u32 r1, .bool r2]) ∧ Drawn0 w w' := by
  have H : ((num_Get16.f a0 a1).bind fun bt229 => ((num_Get16.f a0 (wrap64 (a1 + 2))).bind fun bt231 => (if bt229.2 = true then (if bt231.2 = true then (some (Go.bits .or .u32 ((((bt229.1) % 4294967296) * 65536) % 4294967296) ((bt231.1) % 4294967296), true)) else (some (0, false))) else (some (0, false))))) = some (r1, r2) := h
  clear h
  replace H := Option.bind_eq_some_iff.mp H
  obtain ⟨⟨t229, t230⟩, A30, H⟩ := H
  replace H : ((num_Get16.f a0 (wrap64 (a1 + 2))).bind fun bt231 => (if t230 = true then (if bt231.2 = true then (some (Go.bits .or .u32 ((((t229) % 4294967296) * 65536) % 4294967296) ((bt231.1) % 4294967296), true)) else (some (0, false))) else (some (0, false)))) = some (r1, r2) := H
  have A3 := Aside0.mk A30
  clear A30
  replace H := Option.bind_eq_some_iff.mp H
  obtain ⟨⟨t231, t232⟩, A40, H⟩ := H
  replace H : (if t230 = true then (if t232 = true then (some (Go.bits .or .u32 ((((t229) % 4294967296) * 65536) % 4294967296) ((t231) % 4294967296), true)) else (some (0, false))) else (some (0, false))) = some (r1, r2) := H
  have A4 := Aside0.mk A40
  clear A40
  by_cases c5 : t230 = true
  · subst c5
    have H1 : (if t232 = true then (some (Go.bits .or .u32 ((((t229) % 4294967296) * 65536) % 4294967296) ((t231) % 4294967296), true)) else (some (0, false))) = some (r1, r2) := by rw [if_pos rfl] at H; exact H
    clear H
    have H := H1
    clear H1
    by_cases c6 : t232 = true
    · subst c6
      have H1 : (some (Go.bits .or .u32 ((((t229) % 4294967296) * 65536) % 4294967296) ((t231) % 4294967296), true)) = some (r1, r2) := by rw [if_pos rfl] at H; exact H
      clear H
      have H := H1
      clear H1
      simp only [Option.some.injEq, Prod.mk.injEq] at H
      obtain ⟨rfl, rfl⟩ := H
      go_enter Try.func53, Try.ntmps53
      go_wp2_with (first | ((with_reducible refine gate_callee (f := 39) rfl ?_); refine goesL_ (some 13) rfl rfl Try.func39 (by kernel_rfl) rfl #[.string a0, .int .i64 a1] rfl (by (try simp only [List.map_toArray, List.map_cons, List.map_nil]); first | done | rfl | (simp only [List.length_drop, List.length_take]; rfl)) ?_; (with_reducible refine (num_Get16.calls a0 a1 t229 true _ A3.out).mono ?_); rintro e w' ⟨rfl, ⟨nd, rfl⟩⟩; refine ⟨_, rfl, ?_⟩) | ((with_reducible refine gate_callee (f := 39) rfl ?_); refine goesL_ (some 20) rfl rfl Try.func39 (by kernel_rfl) rfl #[.string a0, .int .i64 (wrap64 (a1 + 2))] rfl (by (try simp only [List.map_toArray, List.map_cons, List.map_nil]); first | done | rfl | (simp only [List.length_drop, List.length_take]; rfl)) ?_; (with_reducible refine (num_Get16.calls a0 (wrap64 (a1 + 2)) t231 true _ A4.out).mono ?_); rintro e w' ⟨rfl, ⟨nd, rfl⟩⟩; refine ⟨_, rfl, ?_⟩))
      go_ret2
      exact ⟨by first | rfl | (simp; done) | (simp [*]; done), by repeat (first | exact Drawn0.refl _ | apply Drawn0.step)⟩
    · replace c6 := Bool.eq_false_iff.mpr c6
      subst c6
      have H1 : (some (0, false)) = some (r1, r2) := by rw [if_neg (show ¬ (false = true) by decide)] at H; exact H
      clear H
      have H := H1
      clear H1
      simp only [Option.some.injEq, Prod.mk.injEq] at H
      obtain ⟨rfl, rfl⟩ := H
      go_enter Try.func53, Try.ntmps53
      go_wp2_with (first | ((with_reducible refine gate_callee (f := 39) rfl ?_); refine goesL_ (some 13) rfl rfl Try.func39 (by kernel_rfl) rfl #[.string a0, .int .i64 a1] rfl (by (try simp only [List.map_toArray, List.map_cons, List.map_nil]); first | done | rfl | (simp only [List.length_drop, List.length_take]; rfl)) ?_; (with_reducible refine (num_Get16.calls a0 a1 t229 true _ A3.out).mono ?_); rintro e w' ⟨rfl, ⟨nd, rfl⟩⟩; refine ⟨_, rfl, ?_⟩) | ((with_reducible refine gate_callee (f := 39) rfl ?_); refine goesL_ (some 20) rfl rfl Try.func39 (by kernel_rfl) rfl #[.string a0, .int .i64 (wrap64 (a1 + 2))] rfl (by (try simp only [List.map_toArray, List.map_cons, List.map_nil]); first | done | rfl | (simp only [List.length_drop, List.length_take]; rfl)) ?_; (with_reducible refine (num_Get16.calls a0 (wrap64 (a1 + 2)) t231 false _ A4.out).mono ?_); rintro e w' ⟨rfl, ⟨nd, rfl⟩⟩; refine ⟨_, rfl, ?_⟩))
      go_ret2
      exact ⟨by first | rfl | (simp; done) | (simp [*]; done), by repeat (first | exact Drawn0.refl _ | apply Drawn0.step)⟩
  · replace c5 := Bool.eq_false_iff.mpr c5
    subst c5
    have H1 : (some (0, false)) = some (r1, r2) := by rw [if_neg (show ¬ (false = true) by decide)] at H; exact H
    clear H
    have H := H1
    clear H1
    simp only [Option.some.injEq, Prod.mk.injEq] at H
    obtain ⟨rfl, rfl⟩ := H
    go_enter Try.func53, Try.ntmps53
    go_wp2_with (first | ((with_reducible refine gate_callee (f := 39) rfl ?_); refine goesL_ (some 13) rfl rfl Try.func39 (by kernel_rfl) rfl #[.string a0, .int .i64 a1] rfl (by (try simp only [List.map_toArray, List.map_cons, List.map_nil]); first | done | rfl | (simp only [List.length_drop, List.length_take]; rfl)) ?_; (with_reducible refine (num_Get16.calls a0 a1 t229 false _ A3.out).mono ?_); rintro e w' ⟨rfl, ⟨nd, rfl⟩⟩; refine ⟨_, rfl, ?_⟩) | ((with_reducible refine gate_callee (f := 39) rfl ?_); refine goesL_ (some 20) rfl rfl Try.func39 (by kernel_rfl) rfl #[.string a0, .int .i64 (wrap64 (a1 + 2))] rfl (by (try simp only [List.map_toArray, List.map_cons, List.map_nil]); first | done | rfl | (simp only [List.length_drop, List.length_take]; rfl)) ?_; (with_reducible refine (num_Get16.calls a0 (wrap64 (a1 + 2)) t231 t232 _ A4.out).mono ?_); rintro e w' ⟨rfl, ⟨nd, rfl⟩⟩; refine ⟨_, rfl, ?_⟩))
    go_ret2
    exact ⟨by first | rfl | (simp; done) | (simp [*]; done), by repeat (first | exact Drawn0.refl _ | apply Drawn0.step)⟩
def point_Plain.f (a0 : ByteArray) : Option (ByteArray) := if a0.size + 1 ≤ 9223372036854775807 then (some (a0 ++ (⟨#[0]⟩ : ByteArray))) else (none)
set_option maxHeartbeats 8000000 in
set_option maxRecDepth 100000 in
theorem point_Plain.calls (a0 : ByteArray) (r : ByteArray) (w : World) (h : point_Plain.f a0 = some r) :
    Calls Try.prog 54 #[.string a0] w fun e w' => e = .returned (.string r) ∧ Drawn0 w w' := by
  have H : (if a0.size + 1 ≤ 9223372036854775807 then (some (a0 ++ (⟨#[0]⟩ : ByteArray))) else (none)) = some r := h
  clear h
  by_cases c2 : a0.size + 1 ≤ 9223372036854775807
  · rw [if_pos c2] at H
    have c2b0 := eq_true c2
    have c2b1 : decide (a0.size + 1 ≤ 9223372036854775807) = true := decide_eq_true c2
    try have c2b2 : (9223372036854775807 < a0.size + 1) = False := eq_false (Nat.not_lt.2 c2)
    obtain rfl := Option.some.inj H
    go_enter Try.func54, Try.ntmps54
    go_wp2
    go_ret
    exact ⟨by first | rfl | (simp; done) | (simp [*]; done), by repeat (first | exact Drawn0.refl _ | apply Drawn0.step)⟩
  · rw [if_neg c2] at H
    exact absurd H (by simp)
def bolterlaw05_SameRecords.l0 : Nat → List (S37) → List (S37) → Int → Int → Option (Bool)
  | 0, _, _, _, _ => none
  | k + 1, x0, x1, x12, x13 => if x13 < x12 then (if 0 ≤ x13 then (if x13 < (x0.length : Int) then (if x13 < (x1.length : Int) then (if (!((((rd_T37 x0 x13).f0).toList) == (((rd_T37 x1 x13).f0).toList)) || (!(((rd_T37 x0 x13).f1) == ((rd_T37 x1 x13).f1)) || (!(((rd_T37 x0 x13).f2) == ((rd_T37 x1 x13).f2)) || (!((((rd_T37 x0 x13).f3).toList) == (((rd_T37 x1 x13).f3).toList)))))) = true then (some false) else (bolterlaw05_SameRecords.l0 k x0 x1 x12 (wrap64 (x13 + 1)))) else (none)) else (none)) else (none)) else (some true)
def bolterlaw05_SameRecords.f (k : Nat) (l0 : List (S37)) (l1 : List (S37)) : Option (Bool) := if (l0.length : Int) = (l1.length : Int) then (bolterlaw05_SameRecords.l0 k l0 l1 (l0.length : Int) 0) else (some false)
theorem bolterlaw05_SameRecords.mono_l : ∀ k, (∀ y0 y1 y2 y3, LeO (bolterlaw05_SameRecords.l0 k y0 y1 y2 y3) (bolterlaw05_SameRecords.l0 (k + 1) y0 y1 y2 y3))
  | 0 => fun _ _ _ _ r h => by simp [bolterlaw05_SameRecords.l0] at h
  | k + 1 => by
    have ih0 := bolterlaw05_SameRecords.mono_l k
    · intro y0 y1 y2 y3
      unfold bolterlaw05_SameRecords.l0
      repeat' first
      | (with_reducible exact ih0 _ _ _ _)
      | (with_reducible exact LeO.refl _)
      | (with_reducible exact LeO.none _)
      | (with_reducible refine LeO.ite ?_ ?_)
      | (with_reducible refine LeO.bind ?_ (fun _ => ?_))
      | exact ih0 _ _ _ _
      | exact LeO.none _
      | refine LeO.ite ?_ ?_
      | refine LeO.bind ?_ (fun _ => ?_)
theorem bolterlaw05_SameRecords.mono : ∀ a0 a1 k, LeO (bolterlaw05_SameRecords.f k a0 a1) (bolterlaw05_SameRecords.f (k + 1) a0 a1) := by
  intro a0 a1 k
  have ih0 := bolterlaw05_SameRecords.mono_l k
  unfold bolterlaw05_SameRecords.f
  repeat' first
      | (with_reducible exact ih0 _ _ _ _)
      | (with_reducible exact LeO.refl _)
      | (with_reducible exact LeO.none _)
      | (with_reducible refine LeO.ite ?_ ?_)
      | (with_reducible refine LeO.bind ?_ (fun _ => ?_))
      | exact ih0 _ _ _ _
      | exact LeO.none _
      | refine LeO.ite ?_ ?_
      | refine LeO.bind ?_ (fun _ => ?_)
set_option maxHeartbeats 8000000 in
set_option maxRecDepth 100000 in
theorem bolterlaw05_SameRecords.calls (k : Nat) (A0 : Option Addr) (c0 : Nat) (l0 : List (S37)) (A1 : Option Addr) (c1 : Nat) (l1 : List (S37)) (r : Bool) (w : World) (hr0 : Kd.C k37 w A0 l0.length l0) (hc0 : l0.length ≤ c0) (hr1 : Kd.C k37 w A1 l1.length l1) (hc1 : l1.length ≤ c1) (h : bolterlaw05_SameRecords.f k l0 l1 = some r) :
    Calls Try.prog 31 #[.slice A0 l0.length c0, .slice A1 l1.length c1] w fun e w' => e = .returned (.bool r) ∧ Drawn0 w w' := by
  have hu37 := Try.underlying37
  have HR0 := Aside0.mk hr0
  have HC0 := Aside0.mk hc0
  clear hr0 hc0
  have HR1 := Aside0.mk hr1
  have HC1 := Aside0.mk hc1
  clear hr1 hc1
  have H : (if (l0.length : Int) = (l1.length : Int) then (bolterlaw05_SameRecords.l0 k l0 l1 (l0.length : Int) 0) else (some false)) = some r := h
  clear h
  by_cases c3 : (l0.length : Int) = (l1.length : Int)
  · rw [if_pos c3] at H
    have c3b0 : ((l0.length : Int) == (l1.length : Int)) = true := beq_iff_eq.mpr c3
    have c3b1 : ((l0.length : Int) != (l1.length : Int)) = false := bne_eq_false_iff_eq.mpr c3
    have c3b2 : (l0.length == l1.length) = true := by first | simpa using c3 | (simp at c3 ⊢; omega)
    clear c3
    have H' := Aside0.mk H
    clear H
    go_enter Try.func31, Try.ntmps31
    go_wp2
    repeat (go_quiet (fail); try go_wp2)
    go_loopg [13] k (fun kq v13 w' => ∃ (x13_1 : Int), v13 = .int .i64 x13_1 ∧ Aside0 (bolterlaw05_SameRecords.l0 kq l0 l1 (l0.length : Int) x13_1 = some r) ∧ Aside0 (kq ≤ k) ∧ Drawn0 w w')
    case atStart => exact ⟨(0), (by first | rfl | (simp; done) | (simp [*]; done)), H', ⟨Nat.le_refl _⟩, by repeat (first | exact Drawn0.refl _ | apply Drawn0.step)⟩
    case round =>
      clear H'
      try clear c1
      try clear p2
      try clear c3
      try clear c3b0
      try clear c3b1
      try clear c3b2
      obtain ⟨x13_1, rfl, HA, HK1, ⟨m1, rfl⟩⟩ := hrel
      cases gk with
      | zero => exact absurd HA.out (by simp [bolterlaw05_SameRecords.l0])
      | succ k1 =>
        have H := HA.out
        clear HA
        simp only [bolterlaw05_SameRecords.l0] at H
        by_cases c4 : x13_1 < (l0.length : Int)
        · rw [if_pos c4] at H
          have c4b0 : decide (x13_1 < (l0.length : Int)) = true := decide_eq_true c4
          clear c4
          by_cases c5 : 0 ≤ x13_1
          · rw [if_pos c5] at H
            have c5b0 : decide (0 ≤ x13_1) = true := decide_eq_true c5
            clear c5
            by_cases c6 : x13_1 < (l0.length : Int)
            · rw [if_pos c6] at H
              have c6b0 : decide (x13_1 < (l0.length : Int)) = true := decide_eq_true c6
              clear c6
              by_cases c7 : x13_1 < (l1.length : Int)
              · rw [if_pos c7] at H
                have c7b0 : decide (x13_1 < (l1.length : Int)) = true := decide_eq_true c7
                clear c7
                by_cases c8 : (!((((rd_T37 l0 x13_1).f0).toList) == (((rd_T37 l1 x13_1).f0).toList)) || (!(((rd_T37 l0 x13_1).f1) == ((rd_T37 l1 x13_1).f1)) || (!(((rd_T37 l0 x13_1).f2) == ((rd_T37 l1 x13_1).f2)) || (!((((rd_T37 l0 x13_1).f3).toList) == (((rd_T37 l1 x13_1).f3).toList)))))) = true
                · rw [if_pos c8] at H
                  have c8b0 : (!((((rd_T37 l0 x13_1).f0).toList) == (((rd_T37 l1 x13_1).f0).toList)) || (!(((rd_T37 l0 x13_1).f1) == ((rd_T37 l1 x13_1).f1)) || (!(((rd_T37 l0 x13_1).f2) == ((rd_T37 l1 x13_1).f2)) || (!((((rd_T37 l0 x13_1).f3).toList) == (((rd_T37 l1 x13_1).f3).toList)))))) = true := c8
                  clear c8
                  obtain rfl := Option.some.inj H
                  have p238 : 0 ≤ (x13_1 : Int) := of_decide_eq_true (by first | (with_reducible assumption) | assumption)
                  have q238 : x13_1 < (l0.length : Int) := of_decide_eq_true (by first | (with_reducible assumption) | assumption)
                  obtain ⟨ad238, e238, hx238_0, hx238_1, hx238_2, hx238_3⟩ := at_T37 HR0.out x13_1 p238 q238
                  cases e238
                  replace p238 := eq_true p238
                  replace q238 := eq_true q238
                  have p239 : 0 ≤ (x13_1 : Int) := of_decide_eq_true (by first | (with_reducible assumption) | assumption)
                  have q239 : x13_1 < (l1.length : Int) := of_decide_eq_true (by first | (with_reducible assumption) | assumption)
                  obtain ⟨ad239, e239, hx239_0, hx239_1, hx239_2, hx239_3⟩ := at_T37 HR1.out x13_1 p239 q239
                  cases e239
                  replace p239 := eq_true p239
                  replace q239 := eq_true q239
                  go_wp2
                  repeat (go_quiet (fail); try go_wp2)
                  go_ret
                  exact ⟨by first | rfl | (simp; done) | (simp [*]; done), by repeat (first | exact Drawn0.refl _ | apply Drawn0.step)⟩
                · rw [if_neg c8] at H
                  have c8b0 : (!((((rd_T37 l0 x13_1).f0).toList) == (((rd_T37 l1 x13_1).f0).toList)) || (!(((rd_T37 l0 x13_1).f1) == ((rd_T37 l1 x13_1).f1)) || (!(((rd_T37 l0 x13_1).f2) == ((rd_T37 l1 x13_1).f2)) || (!((((rd_T37 l0 x13_1).f3).toList) == (((rd_T37 l1 x13_1).f3).toList)))))) = false := by simpa using c8
                  clear c8
                  have H' := Aside0.mk H
                  clear H
                  have p238 : 0 ≤ (x13_1 : Int) := of_decide_eq_true (by first | (with_reducible assumption) | assumption)
                  have q238 : x13_1 < (l0.length : Int) := of_decide_eq_true (by first | (with_reducible assumption) | assumption)
                  obtain ⟨ad238, e238, hx238_0, hx238_1, hx238_2, hx238_3⟩ := at_T37 HR0.out x13_1 p238 q238
                  cases e238
                  replace p238 := eq_true p238
                  replace q238 := eq_true q238
                  have p239 : 0 ≤ (x13_1 : Int) := of_decide_eq_true (by first | (with_reducible assumption) | assumption)
                  have q239 : x13_1 < (l1.length : Int) := of_decide_eq_true (by first | (with_reducible assumption) | assumption)
                  obtain ⟨ad239, e239, hx239_0, hx239_1, hx239_2, hx239_3⟩ := at_T37 HR1.out x13_1 p239 q239
                  cases e239
                  replace p239 := eq_true p239
                  replace q239 := eq_true q239
                  go_wp2
                  repeat (go_quiet (fail); try go_wp2)
                  go_roundg k1
                  case measure => have := HK1.out; omega
                  case rel => exact ⟨(wrap64 (x13_1 + 1)), (by first | rfl | (simp; done) | (simp [*]; done)), H', ⟨by have := HK1.out; omega⟩, by repeat (first | exact Drawn0.refl _ | apply Drawn0.step)⟩
              · rw [if_neg c7] at H
                exact absurd H (by simp)
            · rw [if_neg c6] at H
              exact absurd H (by simp)
          · rw [if_neg c5] at H
            exact absurd H (by simp)
        · rw [if_neg c4] at H
          have c4b0 : decide (x13_1 < (l0.length : Int)) = false := decide_eq_false c4
          clear c4
          obtain rfl := Option.some.inj H
          go_wp2
          repeat (go_quiet (fail); try go_wp2)
          go_ret
          exact ⟨by first | rfl | (simp; done) | (simp [*]; done), by repeat (first | exact Drawn0.refl _ | apply Drawn0.step)⟩
  · rw [if_neg c3] at H
    have c3b0 : ((l0.length : Int) == (l1.length : Int)) = false := beq_eq_false_iff_ne.mpr c3
    have c3b1 : ((l0.length : Int) != (l1.length : Int)) = true := bne_iff_ne.mpr c3
    have c3b2 : (l0.length == l1.length) = false := by first | simpa using c3 | (simp at c3 ⊢; omega)
    obtain rfl := Option.some.inj H
    go_enter Try.func31, Try.ntmps31
    go_wp2
    repeat (go_quiet (fail); try go_wp2)
    go_ret
    exact ⟨by first | rfl | (simp; done) | (simp [*]; done), by repeat (first | exact Drawn0.refl _ | apply Drawn0.step)⟩
def bolterlaw05_Same.f (k : Nat) (a0_0 : Int) (a0_1 : Bool) (a0_2 : Int) (a0_3 : Bool) (a0_4 : Bool) (a0_5 : Bool) (a0_6 : Bool) (a0_7 : Int) (a0_8 : ByteArray) (a0_9 : Int) (l0_10 : List (S37)) (l0_11 : List (S37)) (l0_12 : List (S37)) (a0_13 : Int) (a1_0 : Int) (a1_1 : Bool) (a1_2 : Int) (a1_3 : Bool) (a1_4 : Bool) (a1_5 : Bool) (a1_6 : Bool) (a1_7 : Int) (a1_8 : ByteArray) (a1_9 : Int) (l1_10 : List (S37)) (l1_11 : List (S37)) (l1_12 : List (S37)) (a1_13 : Int) : Option (Bool) := if (a0_0 == a1_0 && (a0_1 == a1_1 && (a0_2 == a1_2 && (a0_3 == a1_3 && (a0_4 == a1_4 && (a0_5 == a1_5 && (a0_6 == a1_6 && (a0_7 == a1_7)))))))) = true then (if (a0_8.toList == a1_8.toList && (a0_9 == a1_9)) = true then (if a0_13 = a1_13 then ((bolterlaw05_SameRecords.f k l0_10 l1_10).bind fun t242 => (if t242 = true then ((bolterlaw05_SameRecords.f k l0_11 l1_11).bind fun t243 => (if t243 = true then ((bolterlaw05_SameRecords.f k l0_12 l1_12).bind fun t244 => (some t244)) else (some false))) else (some false))) else (some false)) else (some false)) else (some false)
theorem bolterlaw05_Same.mono : ∀ a0 a1 a2 a3 a4 a5 a6 a7 a8 a9 a10 a11 a12 a13 a14 a15 a16 a17 a18 a19 a20 a21 a22 a23 a24 a25 a26 a27 k, LeO (bolterlaw05_Same.f k a0 a1 a2 a3 a4 a5 a6 a7 a8 a9 a10 a11 a12 a13 a14 a15 a16 a17 a18 a19 a20 a21 a22 a23 a24 a25 a26 a27) (bolterlaw05_Same.f (k + 1) a0 a1 a2 a3 a4 a5 a6 a7 a8 a9 a10 a11 a12 a13 a14 a15 a16 a17 a18 a19 a20 a21 a22 a23 a24 a25 a26 a27) := by
  intro a0 a1 a2 a3 a4 a5 a6 a7 a8 a9 a10 a11 a12 a13 a14 a15 a16 a17 a18 a19 a20 a21 a22 a23 a24 a25 a26 a27 k
  unfold bolterlaw05_Same.f
  repeat' first
      | (with_reducible exact bolterlaw05_SameRecords.mono _ _ _)
      | (with_reducible exact LeO.refl _)
      | (with_reducible exact LeO.none _)
      | (with_reducible refine LeO.ite ?_ ?_)
      | (with_reducible refine LeO.bind ?_ (fun _ => ?_))
      | exact bolterlaw05_SameRecords.mono _ _ _
      | exact LeO.none _
      | refine LeO.ite ?_ ?_
      | refine LeO.bind ?_ (fun _ => ?_)
set_option maxHeartbeats 8000000 in
set_option maxRecDepth 100000 in
theorem bolterlaw05_Same.calls (k : Nat) (a0_0 : Int) (a0_1 : Bool) (a0_2 : Int) (a0_3 : Bool) (a0_4 : Bool) (a0_5 : Bool) (a0_6 : Bool) (a0_7 : Int) (a0_8 : ByteArray) (a0_9 : Int) (A0_10 : Option Addr) (c0_10 : Nat) (l0_10 : List (S37)) (A0_11 : Option Addr) (c0_11 : Nat) (l0_11 : List (S37)) (A0_12 : Option Addr) (c0_12 : Nat) (l0_12 : List (S37)) (a0_13 : Int) (a1_0 : Int) (a1_1 : Bool) (a1_2 : Int) (a1_3 : Bool) (a1_4 : Bool) (a1_5 : Bool) (a1_6 : Bool) (a1_7 : Int) (a1_8 : ByteArray) (a1_9 : Int) (A1_10 : Option Addr) (c1_10 : Nat) (l1_10 : List (S37)) (A1_11 : Option Addr) (c1_11 : Nat) (l1_11 : List (S37)) (A1_12 : Option Addr) (c1_12 : Nat) (l1_12 : List (S37)) (a1_13 : Int) (r : Bool) (w : World) (hr0_10 : Kd.C k37 w A0_10 l0_10.length l0_10) (hc0_10 : l0_10.length ≤ c0_10) (hr0_11 : Kd.C k37 w A0_11 l0_11.length l0_11) (hc0_11 : l0_11.length ≤ c0_11) (hr0_12 : Kd.C k37 w A0_12 l0_12.length l0_12) (hc0_12 : l0_12.length ≤ c0_12) (hr1_10 : Kd.C k37 w A1_10 l1_10.length l1_10) (hc1_10 : l1_10.length ≤ c1_10) (hr1_11 : Kd.C k37 w A1_11 l1_11.length l1_11) (hc1_11 : l1_11.length ≤ c1_11) (hr1_12 : Kd.C k37 w A1_12 l1_12.length l1_12) (hc1_12 : l1_12.length ≤ c1_12) (h : bolterlaw05_Same.f k a0_0 a0_1 a0_2 a0_3 a0_4 a0_5 a0_6 a0_7 a0_8 a0_9 l0_10 l0_11 l0_12 a0_13 a1_0 a1_1 a1_2 a1_3 a1_4 a1_5 a1_6 a1_7 a1_8 a1_9 l1_10 l1_11 l1_12 a1_13 = some r) :
    Calls Try.prog 15 #[.agg #[.int .u16 a0_0, .bool a0_1, .int .i64 a0_2, .bool a0_3, .bool a0_4, .bool a0_5, .bool a0_6, .int .i64 a0_7, .string a0_8, .int .u16 a0_9, .slice A0_10 l0_10.length c0_10, .slice A0_11 l0_11.length c0_11, .slice A0_12 l0_12.length c0_12, .int .i64 a0_13], .agg #[.int .u16 a1_0, .bool a1_1, .int .i64 a1_2, .bool a1_3, .bool a1_4, .bool a1_5, .bool a1_6, .int .i64 a1_7, .string a1_8, .int .u16 a1_9, .slice A1_10 l1_10.length c1_10, .slice A1_11 l1_11.length c1_11, .slice A1_12 l1_12.length c1_12, .int .i64 a1_13]] w fun e w' => e = .returned (.bool r) ∧ Below w.heap.size w w' := by
  have hu31 := Try.underlying31
  have hu24 := Try.underlying24
  have hu28 := Try.underlying28
  have HR0_10 := Aside0.mk hr0_10
  have HC0_10 := Aside0.mk hc0_10
  clear hr0_10 hc0_10
  have HR0_11 := Aside0.mk hr0_11
  have HC0_11 := Aside0.mk hc0_11
  clear hr0_11 hc0_11
  have HR0_12 := Aside0.mk hr0_12
  have HC0_12 := Aside0.mk hc0_12
  clear hr0_12 hc0_12
  have HR1_10 := Aside0.mk hr1_10
  have HC1_10 := Aside0.mk hc1_10
  clear hr1_10 hc1_10
  have HR1_11 := Aside0.mk hr1_11
  have HC1_11 := Aside0.mk hc1_11
  clear hr1_11 hc1_11
  have HR1_12 := Aside0.mk hr1_12
  have HC1_12 := Aside0.mk hc1_12
  clear hr1_12 hc1_12
  have HB := Aside0.mk (Below.refl w.heap.size w)
  have H : (if (a0_0 == a1_0 && (a0_1 == a1_1 && (a0_2 == a1_2 && (a0_3 == a1_3 && (a0_4 == a1_4 && (a0_5 == a1_5 && (a0_6 == a1_6 && (a0_7 == a1_7)))))))) = true then (if (a0_8.toList == a1_8.toList && (a0_9 == a1_9)) = true then (if a0_13 = a1_13 then ((bolterlaw05_SameRecords.f k l0_10 l1_10).bind fun t242 => (if t242 = true then ((bolterlaw05_SameRecords.f k l0_11 l1_11).bind fun t243 => (if t243 = true then ((bolterlaw05_SameRecords.f k l0_12 l1_12).bind fun t244 => (some t244)) else (some false))) else (some false))) else (some false)) else (some false)) else (some false)) = some r := h
  clear h
  by_cases c3 : (a0_0 == a1_0 && (a0_1 == a1_1 && (a0_2 == a1_2 && (a0_3 == a1_3 && (a0_4 == a1_4 && (a0_5 == a1_5 && (a0_6 == a1_6 && (a0_7 == a1_7)))))))) = true
  · rw [if_pos c3] at H
    have c3b0 : (a0_0 == a1_0 && (a0_1 == a1_1 && (a0_2 == a1_2 && (a0_3 == a1_3 && (a0_4 == a1_4 && (a0_5 == a1_5 && (a0_6 == a1_6 && (a0_7 == a1_7)))))))) = true := c3
    (try (have c3b1 : decide (a0_0 = a1_0 && (a0_1 == a1_1 && (a0_2 == a1_2 && (a0_3 == a1_3 && (a0_4 == a1_4 && (a0_5 == a1_5 && (a0_6 == a1_6 && (a0_7 == a1_7)))))))) = true := by simpa using c3))
    (try (have c3b2 : (a0_0 == a1_0 && (a0_1 == a1_1 && (a0_2 == a1_2 && (a0_3 == a1_3 && (a0_4 == a1_4 && (a0_5 == a1_5 && (a0_6 == a1_6 && (a0_7 == a1_7)))))))) = true := by simpa using c3))
    clear c3
    by_cases c4 : (a0_8.toList == a1_8.toList && (a0_9 == a1_9)) = true
    · rw [if_pos c4] at H
      have c4b0 : (a0_8.toList == a1_8.toList && (a0_9 == a1_9)) = true := c4
      (try (have c4b1 : decide (a0_8.toList = a1_8.toList && (a0_9 == a1_9)) = true := by simpa using c4))
      (try (have c4b2 : (a0_8.toList == a1_8.toList && (a0_9 == a1_9)) = true := by simpa using c4))
      clear c4
      by_cases c5 : a0_13 = a1_13
      · rw [if_pos c5] at H
        have c5b0 : (a0_13 == a1_13) = true := beq_iff_eq.mpr c5
        have c5b1 : (a0_13 != a1_13) = false := bne_eq_false_iff_eq.mpr c5
        clear c5
        replace H := Option.bind_eq_some_iff.mp H
        obtain ⟨t242, A60, H⟩ := H
        replace H : (if t242 = true then ((bolterlaw05_SameRecords.f k l0_11 l1_11).bind fun t243 => (if t243 = true then ((bolterlaw05_SameRecords.f k l0_12 l1_12).bind fun t244 => (some t244)) else (some false))) else (some false)) = some r := H
        have A6 := Aside0.mk A60
        clear A60
        by_cases c7 : t242 = true
        · subst c7
          have H1 : ((bolterlaw05_SameRecords.f k l0_11 l1_11).bind fun t243 => (if t243 = true then ((bolterlaw05_SameRecords.f k l0_12 l1_12).bind fun t244 => (some t244)) else (some false))) = some r := by rw [if_pos rfl] at H; exact H
          clear H
          have H := H1
          clear H1
          replace H := Option.bind_eq_some_iff.mp H
          obtain ⟨t243, A80, H⟩ := H
          replace H : (if t243 = true then ((bolterlaw05_SameRecords.f k l0_12 l1_12).bind fun t244 => (some t244)) else (some false)) = some r := H
          have A8 := Aside0.mk A80
          clear A80
          by_cases c9 : t243 = true
          · subst c9
            have H1 : ((bolterlaw05_SameRecords.f k l0_12 l1_12).bind fun t244 => (some t244)) = some r := by rw [if_pos rfl] at H; exact H
            clear H
            have H := H1
            clear H1
            replace H := Option.bind_eq_some_iff.mp H
            obtain ⟨t244, A100, H⟩ := H
            replace H : (some t244) = some r := H
            have A10 := Aside0.mk A100
            clear A100
            obtain rfl := Option.some.inj H
            go_enter Try.func15, Try.ntmps15
            go_wp2_with (first | ((with_reducible refine gate_dst (N := 2) rfl ?_); refine box_event ?hg (N := 2) ?hd (cs := #[.int .u16 a0_0, .bool a0_1, .int .i64 a0_2, .bool a0_3, .bool a0_4, .bool a0_5, .bool a0_6, .int .i64 a0_7, .string a0_8, .int .u16 a0_9, .slice A0_10 l0_10.length c0_10, .slice A0_11 l0_11.length c0_11, .slice A0_12 l0_12.length c0_12, .int .i64 a0_13]) (t := 31) ?hr ?_; (case hd => rfl); (case hg => rfl); (case hr => first | (go_simp; done) | (go_simp; rfl)); intro gb240 hg w11 hbox hb; have n0_ := Aside0.mk (below_step (by repeat (first | (with_reducible first | exact HB.out | apply below_alloc | apply pw_below_drewN | apply below_drew1) | exact HB.out)) hb); have n1_ := Aside0.mk (hbox); have n2_ := Aside0.mk ((by rw [hg]; exact (below_size (by repeat (first | (with_reducible first | exact HB.out | apply below_alloc | apply pw_below_drewN | apply below_drew1) | exact HB.out))) : w.heap.size ≤ gb240)); have n3_ := Aside0.mk ((by rw [hg]; exact (below_size (by repeat (first | (with_reducible first | exact HB.out | apply below_alloc | apply pw_below_drewN | apply below_drew1) | exact HB.out))) : w.heap.size ≤ gb240)); clear HB; have HB := n0_; have BK240 := n1_; have GW240 := n2_; have GE240 := n3_; clear n0_ n1_ n2_ n3_; clear hb hbox hg) | ((with_reducible refine gate_dst (N := 3) rfl ?_); refine box_event ?hg (N := 3) ?hd (cs := #[.int .u16 a1_0, .bool a1_1, .int .i64 a1_2, .bool a1_3, .bool a1_4, .bool a1_5, .bool a1_6, .int .i64 a1_7, .string a1_8, .int .u16 a1_9, .slice A1_10 l1_10.length c1_10, .slice A1_11 l1_11.length c1_11, .slice A1_12 l1_12.length c1_12, .int .i64 a1_13]) (t := 31) ?hr ?_; (case hd => rfl); (case hg => rfl); (case hr => first | (go_simp; done) | (go_simp; rfl)); intro gb241 hg w12 hbox hb; have n0_ := Aside0.mk (blk_below (g := gb240) (o := .cells #[.int .u16 a0_0, .bool a0_1, .int .i64 a0_2, .bool a0_3, .bool a0_4, .bool a0_5, .bool a0_6, .int .i64 a0_7, .string a0_8, .int .u16 a0_9, .slice A0_10 l0_10.length c0_10, .slice A0_11 l0_11.length c0_11, .slice A0_12 l0_12.length c0_12, .int .i64 a0_13] 31 (0, 0)) (by (with_reducible repeat (first | refine blk_drewN ?_ _ | refine blk_drew ?_ | refine blk_alloc ?_ _)); exact BK240.out) hb); have n1_ := Aside0.mk (below_step (by repeat (first | (with_reducible first | exact HB.out | apply below_alloc | apply pw_below_drewN | apply below_drew1 | refine below_set ?_ GE240.out) | exact HB.out)) hb); have n2_ := Aside0.mk (hbox); have n3_ := Aside0.mk ((by rw [hg]; exact (below_size (by repeat (first | (with_reducible first | exact HB.out | apply below_alloc | apply pw_below_drewN | apply below_drew1 | refine below_set ?_ GE240.out) | exact HB.out))) : w.heap.size ≤ gb241)); have n4_ := Aside0.mk ((by rw [hg]; exact (below_size (by repeat (first | (with_reducible first | exact HB.out | apply below_alloc | apply pw_below_drewN | apply below_drew1 | refine below_set ?_ GE240.out) | exact HB.out))) : w.heap.size ≤ gb241)); have n5_ := Aside0.mk ((by rw [hg]; exact Nat.ne_of_lt (blk_lt (g := gb240) (o := .cells #[.int .u16 a0_0, .bool a0_1, .int .i64 a0_2, .bool a0_3, .bool a0_4, .bool a0_5, .bool a0_6, .int .i64 a0_7, .string a0_8, .int .u16 a0_9, .slice A0_10 l0_10.length c0_10, .slice A0_11 l0_11.length c0_11, .slice A0_12 l0_12.length c0_12, .int .i64 a0_13] 31 (0, 0)) (by (with_reducible repeat (first | refine blk_drewN ?_ _ | refine blk_drew ?_ | refine blk_alloc ?_ _)); exact BK240.out)) : gb240 ≠ gb241)); have n6_ := Aside0.mk ((by rw [hg]; exact Nat.ne_of_gt (blk_lt (g := gb240) (o := .cells #[.int .u16 a0_0, .bool a0_1, .int .i64 a0_2, .bool a0_3, .bool a0_4, .bool a0_5, .bool a0_6, .int .i64 a0_7, .string a0_8, .int .u16 a0_9, .slice A0_10 l0_10.length c0_10, .slice A0_11 l0_11.length c0_11, .slice A0_12 l0_12.length c0_12, .int .i64 a0_13] 31 (0, 0)) (by (with_reducible repeat (first | refine blk_drewN ?_ _ | refine blk_drew ?_ | refine blk_alloc ?_ _)); exact BK240.out)) : gb241 ≠ gb240)); clear BK240; clear HB; have BK240 := n0_; have HB := n1_; have BK241 := n2_; have GW241 := n3_; have GE241 := n4_; have NB240_241 := n5_; have NB241_240 := n6_; clear n0_ n1_ n2_ n3_ n4_ n5_ n6_; clear hb hbox hg; have hnb13 := NB240_241.out; have hnc13 := NB241_240.out; have hcz14_0 : w12.cell? ⟨gb240, 0, none⟩ = some (.int .u16 a0_0) := (blk_cell BK240.out 0).trans rfl; have hcz14_1 : w12.cell? ⟨gb240, 1, none⟩ = some (.bool a0_1) := (blk_cell BK240.out 1).trans rfl; have hcz14_2 : w12.cell? ⟨gb240, 2, none⟩ = some (.int .i64 a0_2) := (blk_cell BK240.out 2).trans rfl; have hcz14_3 : w12.cell? ⟨gb240, 3, none⟩ = some (.bool a0_3) := (blk_cell BK240.out 3).trans rfl; have hcz14_4 : w12.cell? ⟨gb240, 4, none⟩ = some (.bool a0_4) := (blk_cell BK240.out 4).trans rfl; have hcz14_5 : w12.cell? ⟨gb240, 5, none⟩ = some (.bool a0_5) := (blk_cell BK240.out 5).trans rfl; have hcz14_6 : w12.cell? ⟨gb240, 6, none⟩ = some (.bool a0_6) := (blk_cell BK240.out 6).trans rfl; have hcz14_7 : w12.cell? ⟨gb240, 7, none⟩ = some (.int .i64 a0_7) := (blk_cell BK240.out 7).trans rfl; have hcz14_8 : w12.cell? ⟨gb240, 8, none⟩ = some (.string a0_8) := (blk_cell BK240.out 8).trans rfl; have hcz14_9 : w12.cell? ⟨gb240, 9, none⟩ = some (.int .u16 a0_9) := (blk_cell BK240.out 9).trans rfl; have hcz14_10 : w12.cell? ⟨gb240, 10, none⟩ = some (.slice A0_10 l0_10.length c0_10) := (blk_cell BK240.out 10).trans rfl; have hcz14_11 : w12.cell? ⟨gb240, 11, none⟩ = some (.slice A0_11 l0_11.length c0_11) := (blk_cell BK240.out 11).trans rfl; have hcz14_12 : w12.cell? ⟨gb240, 12, none⟩ = some (.slice A0_12 l0_12.length c0_12) := (blk_cell BK240.out 12).trans rfl; have hcz14_13 : w12.cell? ⟨gb240, 13, none⟩ = some (.int .i64 a0_13) := (blk_cell BK240.out 13).trans rfl; have hfz14_0 := blk_frozen BK240.out 0; have hfz14_1 := blk_frozen BK240.out 1; have hfz14_2 := blk_frozen BK240.out 2; have hfz14_3 := blk_frozen BK240.out 3; have hfz14_4 := blk_frozen BK240.out 4; have hfz14_5 := blk_frozen BK240.out 5; have hfz14_6 := blk_frozen BK240.out 6; have hfz14_7 := blk_frozen BK240.out 7; have hfz14_8 := blk_frozen BK240.out 8; have hfz14_9 := blk_frozen BK240.out 9; have hfz14_10 := blk_frozen BK240.out 10; have hfz14_11 := blk_frozen BK240.out 11; have hfz14_12 := blk_frozen BK240.out 12; have hfz14_13 := blk_frozen BK240.out 13; have hcz15_0 : w12.cell? ⟨gb241, 0, none⟩ = some (.int .u16 a1_0) := (blk_cell BK241.out 0).trans rfl; have hcz15_1 : w12.cell? ⟨gb241, 1, none⟩ = some (.bool a1_1) := (blk_cell BK241.out 1).trans rfl; have hcz15_2 : w12.cell? ⟨gb241, 2, none⟩ = some (.int .i64 a1_2) := (blk_cell BK241.out 2).trans rfl; have hcz15_3 : w12.cell? ⟨gb241, 3, none⟩ = some (.bool a1_3) := (blk_cell BK241.out 3).trans rfl; have hcz15_4 : w12.cell? ⟨gb241, 4, none⟩ = some (.bool a1_4) := (blk_cell BK241.out 4).trans rfl; have hcz15_5 : w12.cell? ⟨gb241, 5, none⟩ = some (.bool a1_5) := (blk_cell BK241.out 5).trans rfl; have hcz15_6 : w12.cell? ⟨gb241, 6, none⟩ = some (.bool a1_6) := (blk_cell BK241.out 6).trans rfl; have hcz15_7 : w12.cell? ⟨gb241, 7, none⟩ = some (.int .i64 a1_7) := (blk_cell BK241.out 7).trans rfl; have hcz15_8 : w12.cell? ⟨gb241, 8, none⟩ = some (.string a1_8) := (blk_cell BK241.out 8).trans rfl; have hcz15_9 : w12.cell? ⟨gb241, 9, none⟩ = some (.int .u16 a1_9) := (blk_cell BK241.out 9).trans rfl; have hcz15_10 : w12.cell? ⟨gb241, 10, none⟩ = some (.slice A1_10 l1_10.length c1_10) := (blk_cell BK241.out 10).trans rfl; have hcz15_11 : w12.cell? ⟨gb241, 11, none⟩ = some (.slice A1_11 l1_11.length c1_11) := (blk_cell BK241.out 11).trans rfl; have hcz15_12 : w12.cell? ⟨gb241, 12, none⟩ = some (.slice A1_12 l1_12.length c1_12) := (blk_cell BK241.out 12).trans rfl; have hcz15_13 : w12.cell? ⟨gb241, 13, none⟩ = some (.int .i64 a1_13) := (blk_cell BK241.out 13).trans rfl; have hfz15_0 := blk_frozen BK241.out 0; have hfz15_1 := blk_frozen BK241.out 1; have hfz15_2 := blk_frozen BK241.out 2; have hfz15_3 := blk_frozen BK241.out 3; have hfz15_4 := blk_frozen BK241.out 4; have hfz15_5 := blk_frozen BK241.out 5; have hfz15_6 := blk_frozen BK241.out 6; have hfz15_7 := blk_frozen BK241.out 7; have hfz15_8 := blk_frozen BK241.out 8; have hfz15_9 := blk_frozen BK241.out 9; have hfz15_10 := blk_frozen BK241.out 10; have hfz15_11 := blk_frozen BK241.out 11; have hfz15_12 := blk_frozen BK241.out 12; have hfz15_13 := blk_frozen BK241.out 13) | (go_at_call 31; (with_reducible refine (bolterlaw05_SameRecords.calls k _ _ l0_10 _ _ l1_10 true _ ?side1 ?side2 ?side3 ?side4 A6.out).mono ?_); (case side1 => repeat (first | exact (Kd.C_below HR0_10.out HB.out) | (with_reducible refine Kd.C_alloc ?_ _) | (with_reducible refine Kd.C_drewN ?_ _) | (with_reducible refine Kd.C_drew ?_))); (case side2 => exact HC0_10.out); (case side3 => repeat (first | exact (Kd.C_below HR1_10.out HB.out) | (with_reducible refine Kd.C_alloc ?_ _) | (with_reducible refine Kd.C_drewN ?_ _) | (with_reducible refine Kd.C_drew ?_))); (case side4 => exact HC1_10.out); rintro e w' ⟨rfl, ⟨nd, rfl⟩⟩) | (go_at_call 31; (with_reducible refine (bolterlaw05_SameRecords.calls k _ _ l0_11 _ _ l1_11 true _ ?side1 ?side2 ?side3 ?side4 A8.out).mono ?_); (case side1 => repeat (first | exact (Kd.C_below HR0_11.out (by repeat (first | (with_reducible first | exact HB.out | apply below_alloc | apply pw_below_drewN | apply below_drew1 | refine below_set ?_ GE240.out | refine below_set ?_ GE241.out) | exact HB.out))) | (with_reducible refine Kd.C_alloc ?_ _) | (with_reducible refine Kd.C_drewN ?_ _) | (with_reducible refine Kd.C_drew ?_))); (case side2 => exact HC0_11.out); (case side3 => repeat (first | exact (Kd.C_below HR1_11.out (by repeat (first | (with_reducible first | exact HB.out | apply below_alloc | apply pw_below_drewN | apply below_drew1 | refine below_set ?_ GE240.out | refine below_set ?_ GE241.out) | exact HB.out))) | (with_reducible refine Kd.C_alloc ?_ _) | (with_reducible refine Kd.C_drewN ?_ _) | (with_reducible refine Kd.C_drew ?_))); (case side4 => exact HC1_11.out); rintro e w' ⟨rfl, ⟨nd, rfl⟩⟩) | (go_at_call 31; (with_reducible refine (bolterlaw05_SameRecords.calls k _ _ l0_12 _ _ l1_12 t244 _ ?side1 ?side2 ?side3 ?side4 A10.out).mono ?_); (case side1 => repeat (first | exact (Kd.C_below HR0_12.out (by repeat (first | (with_reducible first | exact HB.out | apply below_alloc | apply pw_below_drewN | apply below_drew1 | refine below_set ?_ GE240.out | refine below_set ?_ GE241.out) | exact HB.out))) | (with_reducible refine Kd.C_alloc ?_ _) | (with_reducible refine Kd.C_drewN ?_ _) | (with_reducible refine Kd.C_drew ?_))); (case side2 => exact HC0_12.out); (case side3 => repeat (first | exact (Kd.C_below HR1_12.out (by repeat (first | (with_reducible first | exact HB.out | apply below_alloc | apply pw_below_drewN | apply below_drew1 | refine below_set ?_ GE240.out | refine below_set ?_ GE241.out) | exact HB.out))) | (with_reducible refine Kd.C_alloc ?_ _) | (with_reducible refine Kd.C_drewN ?_ _) | (with_reducible refine Kd.C_drew ?_))); (case side4 => exact HC1_12.out); rintro e w' ⟨rfl, ⟨nd, rfl⟩⟩))
            go_ret
            exact ⟨by first | rfl | (simp [errW_none, errW_some] <;> rfl) | (simp [*, errW_none, errW_some] <;> rfl), by repeat (first | (with_reducible first | exact HB.out | apply below_alloc | apply pw_below_drewN | apply below_drew1 | refine below_set ?_ GE240.out | refine below_set ?_ GE241.out) | exact HB.out)⟩
          · replace c9 := Bool.eq_false_iff.mpr c9
            subst c9
            have H1 : (some false) = some r := by rw [if_neg (show ¬ (false = true) by decide)] at H; exact H
            clear H
            have H := H1
            clear H1
            obtain rfl := Option.some.inj H
            go_enter Try.func15, Try.ntmps15
            go_wp2_with (first | ((with_reducible refine gate_dst (N := 2) rfl ?_); refine box_event ?hg (N := 2) ?hd (cs := #[.int .u16 a0_0, .bool a0_1, .int .i64 a0_2, .bool a0_3, .bool a0_4, .bool a0_5, .bool a0_6, .int .i64 a0_7, .string a0_8, .int .u16 a0_9, .slice A0_10 l0_10.length c0_10, .slice A0_11 l0_11.length c0_11, .slice A0_12 l0_12.length c0_12, .int .i64 a0_13]) (t := 31) ?hr ?_; (case hd => rfl); (case hg => rfl); (case hr => first | (go_simp; done) | (go_simp; rfl)); intro gb240 hg w16 hbox hb; have n0_ := Aside0.mk (below_step (by repeat (first | (with_reducible first | exact HB.out | apply below_alloc | apply pw_below_drewN | apply below_drew1) | exact HB.out)) hb); have n1_ := Aside0.mk (hbox); have n2_ := Aside0.mk ((by rw [hg]; exact (below_size (by repeat (first | (with_reducible first | exact HB.out | apply below_alloc | apply pw_below_drewN | apply below_drew1) | exact HB.out))) : w.heap.size ≤ gb240)); have n3_ := Aside0.mk ((by rw [hg]; exact (below_size (by repeat (first | (with_reducible first | exact HB.out | apply below_alloc | apply pw_below_drewN | apply below_drew1) | exact HB.out))) : w.heap.size ≤ gb240)); clear HB; have HB := n0_; have BK240 := n1_; have GW240 := n2_; have GE240 := n3_; clear n0_ n1_ n2_ n3_; clear hb hbox hg) | ((with_reducible refine gate_dst (N := 3) rfl ?_); refine box_event ?hg (N := 3) ?hd (cs := #[.int .u16 a1_0, .bool a1_1, .int .i64 a1_2, .bool a1_3, .bool a1_4, .bool a1_5, .bool a1_6, .int .i64 a1_7, .string a1_8, .int .u16 a1_9, .slice A1_10 l1_10.length c1_10, .slice A1_11 l1_11.length c1_11, .slice A1_12 l1_12.length c1_12, .int .i64 a1_13]) (t := 31) ?hr ?_; (case hd => rfl); (case hg => rfl); (case hr => first | (go_simp; done) | (go_simp; rfl)); intro gb241 hg w17 hbox hb; have n0_ := Aside0.mk (blk_below (g := gb240) (o := .cells #[.int .u16 a0_0, .bool a0_1, .int .i64 a0_2, .bool a0_3, .bool a0_4, .bool a0_5, .bool a0_6, .int .i64 a0_7, .string a0_8, .int .u16 a0_9, .slice A0_10 l0_10.length c0_10, .slice A0_11 l0_11.length c0_11, .slice A0_12 l0_12.length c0_12, .int .i64 a0_13] 31 (0, 0)) (by (with_reducible repeat (first | refine blk_drewN ?_ _ | refine blk_drew ?_ | refine blk_alloc ?_ _)); exact BK240.out) hb); have n1_ := Aside0.mk (below_step (by repeat (first | (with_reducible first | exact HB.out | apply below_alloc | apply pw_below_drewN | apply below_drew1 | refine below_set ?_ GE240.out) | exact HB.out)) hb); have n2_ := Aside0.mk (hbox); have n3_ := Aside0.mk ((by rw [hg]; exact (below_size (by repeat (first | (with_reducible first | exact HB.out | apply below_alloc | apply pw_below_drewN | apply below_drew1 | refine below_set ?_ GE240.out) | exact HB.out))) : w.heap.size ≤ gb241)); have n4_ := Aside0.mk ((by rw [hg]; exact (below_size (by repeat (first | (with_reducible first | exact HB.out | apply below_alloc | apply pw_below_drewN | apply below_drew1 | refine below_set ?_ GE240.out) | exact HB.out))) : w.heap.size ≤ gb241)); have n5_ := Aside0.mk ((by rw [hg]; exact Nat.ne_of_lt (blk_lt (g := gb240) (o := .cells #[.int .u16 a0_0, .bool a0_1, .int .i64 a0_2, .bool a0_3, .bool a0_4, .bool a0_5, .bool a0_6, .int .i64 a0_7, .string a0_8, .int .u16 a0_9, .slice A0_10 l0_10.length c0_10, .slice A0_11 l0_11.length c0_11, .slice A0_12 l0_12.length c0_12, .int .i64 a0_13] 31 (0, 0)) (by (with_reducible repeat (first | refine blk_drewN ?_ _ | refine blk_drew ?_ | refine blk_alloc ?_ _)); exact BK240.out)) : gb240 ≠ gb241)); have n6_ := Aside0.mk ((by rw [hg]; exact Nat.ne_of_gt (blk_lt (g := gb240) (o := .cells #[.int .u16 a0_0, .bool a0_1, .int .i64 a0_2, .bool a0_3, .bool a0_4, .bool a0_5, .bool a0_6, .int .i64 a0_7, .string a0_8, .int .u16 a0_9, .slice A0_10 l0_10.length c0_10, .slice A0_11 l0_11.length c0_11, .slice A0_12 l0_12.length c0_12, .int .i64 a0_13] 31 (0, 0)) (by (with_reducible repeat (first | refine blk_drewN ?_ _ | refine blk_drew ?_ | refine blk_alloc ?_ _)); exact BK240.out)) : gb241 ≠ gb240)); clear BK240; clear HB; have BK240 := n0_; have HB := n1_; have BK241 := n2_; have GW241 := n3_; have GE241 := n4_; have NB240_241 := n5_; have NB241_240 := n6_; clear n0_ n1_ n2_ n3_ n4_ n5_ n6_; clear hb hbox hg; have hnb18 := NB240_241.out; have hnc18 := NB241_240.out; have hcz19_0 : w17.cell? ⟨gb240, 0, none⟩ = some (.int .u16 a0_0) := (blk_cell BK240.out 0).trans rfl; have hcz19_1 : w17.cell? ⟨gb240, 1, none⟩ = some (.bool a0_1) := (blk_cell BK240.out 1).trans rfl; have hcz19_2 : w17.cell? ⟨gb240, 2, none⟩ = some (.int .i64 a0_2) := (blk_cell BK240.out 2).trans rfl; have hcz19_3 : w17.cell? ⟨gb240, 3, none⟩ = some (.bool a0_3) := (blk_cell BK240.out 3).trans rfl; have hcz19_4 : w17.cell? ⟨gb240, 4, none⟩ = some (.bool a0_4) := (blk_cell BK240.out 4).trans rfl; have hcz19_5 : w17.cell? ⟨gb240, 5, none⟩ = some (.bool a0_5) := (blk_cell BK240.out 5).trans rfl; have hcz19_6 : w17.cell? ⟨gb240, 6, none⟩ = some (.bool a0_6) := (blk_cell BK240.out 6).trans rfl; have hcz19_7 : w17.cell? ⟨gb240, 7, none⟩ = some (.int .i64 a0_7) := (blk_cell BK240.out 7).trans rfl; have hcz19_8 : w17.cell? ⟨gb240, 8, none⟩ = some (.string a0_8) := (blk_cell BK240.out 8).trans rfl; have hcz19_9 : w17.cell? ⟨gb240, 9, none⟩ = some (.int .u16 a0_9) := (blk_cell BK240.out 9).trans rfl; have hcz19_10 : w17.cell? ⟨gb240, 10, none⟩ = some (.slice A0_10 l0_10.length c0_10) := (blk_cell BK240.out 10).trans rfl; have hcz19_11 : w17.cell? ⟨gb240, 11, none⟩ = some (.slice A0_11 l0_11.length c0_11) := (blk_cell BK240.out 11).trans rfl; have hcz19_12 : w17.cell? ⟨gb240, 12, none⟩ = some (.slice A0_12 l0_12.length c0_12) := (blk_cell BK240.out 12).trans rfl; have hcz19_13 : w17.cell? ⟨gb240, 13, none⟩ = some (.int .i64 a0_13) := (blk_cell BK240.out 13).trans rfl; have hfz19_0 := blk_frozen BK240.out 0; have hfz19_1 := blk_frozen BK240.out 1; have hfz19_2 := blk_frozen BK240.out 2; have hfz19_3 := blk_frozen BK240.out 3; have hfz19_4 := blk_frozen BK240.out 4; have hfz19_5 := blk_frozen BK240.out 5; have hfz19_6 := blk_frozen BK240.out 6; have hfz19_7 := blk_frozen BK240.out 7; have hfz19_8 := blk_frozen BK240.out 8; have hfz19_9 := blk_frozen BK240.out 9; have hfz19_10 := blk_frozen BK240.out 10; have hfz19_11 := blk_frozen BK240.out 11; have hfz19_12 := blk_frozen BK240.out 12; have hfz19_13 := blk_frozen BK240.out 13; have hcz20_0 : w17.cell? ⟨gb241, 0, none⟩ = some (.int .u16 a1_0) := (blk_cell BK241.out 0).trans rfl; have hcz20_1 : w17.cell? ⟨gb241, 1, none⟩ = some (.bool a1_1) := (blk_cell BK241.out 1).trans rfl; have hcz20_2 : w17.cell? ⟨gb241, 2, none⟩ = some (.int .i64 a1_2) := (blk_cell BK241.out 2).trans rfl; have hcz20_3 : w17.cell? ⟨gb241, 3, none⟩ = some (.bool a1_3) := (blk_cell BK241.out 3).trans rfl; have hcz20_4 : w17.cell? ⟨gb241, 4, none⟩ = some (.bool a1_4) := (blk_cell BK241.out 4).trans rfl; have hcz20_5 : w17.cell? ⟨gb241, 5, none⟩ = some (.bool a1_5) := (blk_cell BK241.out 5).trans rfl; have hcz20_6 : w17.cell? ⟨gb241, 6, none⟩ = some (.bool a1_6) := (blk_cell BK241.out 6).trans rfl; have hcz20_7 : w17.cell? ⟨gb241, 7, none⟩ = some (.int .i64 a1_7) := (blk_cell BK241.out 7).trans rfl; have hcz20_8 : w17.cell? ⟨gb241, 8, none⟩ = some (.string a1_8) := (blk_cell BK241.out 8).trans rfl; have hcz20_9 : w17.cell? ⟨gb241, 9, none⟩ = some (.int .u16 a1_9) := (blk_cell BK241.out 9).trans rfl; have hcz20_10 : w17.cell? ⟨gb241, 10, none⟩ = some (.slice A1_10 l1_10.length c1_10) := (blk_cell BK241.out 10).trans rfl; have hcz20_11 : w17.cell? ⟨gb241, 11, none⟩ = some (.slice A1_11 l1_11.length c1_11) := (blk_cell BK241.out 11).trans rfl; have hcz20_12 : w17.cell? ⟨gb241, 12, none⟩ = some (.slice A1_12 l1_12.length c1_12) := (blk_cell BK241.out 12).trans rfl; have hcz20_13 : w17.cell? ⟨gb241, 13, none⟩ = some (.int .i64 a1_13) := (blk_cell BK241.out 13).trans rfl; have hfz20_0 := blk_frozen BK241.out 0; have hfz20_1 := blk_frozen BK241.out 1; have hfz20_2 := blk_frozen BK241.out 2; have hfz20_3 := blk_frozen BK241.out 3; have hfz20_4 := blk_frozen BK241.out 4; have hfz20_5 := blk_frozen BK241.out 5; have hfz20_6 := blk_frozen BK241.out 6; have hfz20_7 := blk_frozen BK241.out 7; have hfz20_8 := blk_frozen BK241.out 8; have hfz20_9 := blk_frozen BK241.out 9; have hfz20_10 := blk_frozen BK241.out 10; have hfz20_11 := blk_frozen BK241.out 11; have hfz20_12 := blk_frozen BK241.out 12; have hfz20_13 := blk_frozen BK241.out 13) | (go_at_call 31; (with_reducible refine (bolterlaw05_SameRecords.calls k _ _ l0_10 _ _ l1_10 true _ ?side1 ?side2 ?side3 ?side4 A6.out).mono ?_); (case side1 => repeat (first | exact (Kd.C_below HR0_10.out HB.out) | (with_reducible refine Kd.C_alloc ?_ _) | (with_reducible refine Kd.C_drewN ?_ _) | (with_reducible refine Kd.C_drew ?_))); (case side2 => exact HC0_10.out); (case side3 => repeat (first | exact (Kd.C_below HR1_10.out HB.out) | (with_reducible refine Kd.C_alloc ?_ _) | (with_reducible refine Kd.C_drewN ?_ _) | (with_reducible refine Kd.C_drew ?_))); (case side4 => exact HC1_10.out); rintro e w' ⟨rfl, ⟨nd, rfl⟩⟩) | (go_at_call 31; (with_reducible refine (bolterlaw05_SameRecords.calls k _ _ l0_11 _ _ l1_11 false _ ?side1 ?side2 ?side3 ?side4 A8.out).mono ?_); (case side1 => repeat (first | exact (Kd.C_below HR0_11.out (by repeat (first | (with_reducible first | exact HB.out | apply below_alloc | apply pw_below_drewN | apply below_drew1 | refine below_set ?_ GE240.out | refine below_set ?_ GE241.out) | exact HB.out))) | (with_reducible refine Kd.C_alloc ?_ _) | (with_reducible refine Kd.C_drewN ?_ _) | (with_reducible refine Kd.C_drew ?_))); (case side2 => exact HC0_11.out); (case side3 => repeat (first | exact (Kd.C_below HR1_11.out (by repeat (first | (with_reducible first | exact HB.out | apply below_alloc | apply pw_below_drewN | apply below_drew1 | refine below_set ?_ GE240.out | refine below_set ?_ GE241.out) | exact HB.out))) | (with_reducible refine Kd.C_alloc ?_ _) | (with_reducible refine Kd.C_drewN ?_ _) | (with_reducible refine Kd.C_drew ?_))); (case side4 => exact HC1_11.out); rintro e w' ⟨rfl, ⟨nd, rfl⟩⟩))
            go_ret
            exact ⟨by first | rfl | (simp [errW_none, errW_some] <;> rfl) | (simp [*, errW_none, errW_some] <;> rfl), by repeat (first | (with_reducible first | exact HB.out | apply below_alloc | apply pw_below_drewN | apply below_drew1 | refine below_set ?_ GE240.out | refine below_set ?_ GE241.out) | exact HB.out)⟩
        · replace c7 := Bool.eq_false_iff.mpr c7
          subst c7
          have H1 : (some false) = some r := by rw [if_neg (show ¬ (false = true) by decide)] at H; exact H
          clear H
          have H := H1
          clear H1
          obtain rfl := Option.some.inj H
          go_enter Try.func15, Try.ntmps15
          go_wp2_with (first | ((with_reducible refine gate_dst (N := 2) rfl ?_); refine box_event ?hg (N := 2) ?hd (cs := #[.int .u16 a0_0, .bool a0_1, .int .i64 a0_2, .bool a0_3, .bool a0_4, .bool a0_5, .bool a0_6, .int .i64 a0_7, .string a0_8, .int .u16 a0_9, .slice A0_10 l0_10.length c0_10, .slice A0_11 l0_11.length c0_11, .slice A0_12 l0_12.length c0_12, .int .i64 a0_13]) (t := 31) ?hr ?_; (case hd => rfl); (case hg => rfl); (case hr => first | (go_simp; done) | (go_simp; rfl)); intro gb240 hg w21 hbox hb; have n0_ := Aside0.mk (below_step (by repeat (first | (with_reducible first | exact HB.out | apply below_alloc | apply pw_below_drewN | apply below_drew1) | exact HB.out)) hb); have n1_ := Aside0.mk (hbox); have n2_ := Aside0.mk ((by rw [hg]; exact (below_size (by repeat (first | (with_reducible first | exact HB.out | apply below_alloc | apply pw_below_drewN | apply below_drew1) | exact HB.out))) : w.heap.size ≤ gb240)); have n3_ := Aside0.mk ((by rw [hg]; exact (below_size (by repeat (first | (with_reducible first | exact HB.out | apply below_alloc | apply pw_below_drewN | apply below_drew1) | exact HB.out))) : w.heap.size ≤ gb240)); clear HB; have HB := n0_; have BK240 := n1_; have GW240 := n2_; have GE240 := n3_; clear n0_ n1_ n2_ n3_; clear hb hbox hg) | ((with_reducible refine gate_dst (N := 3) rfl ?_); refine box_event ?hg (N := 3) ?hd (cs := #[.int .u16 a1_0, .bool a1_1, .int .i64 a1_2, .bool a1_3, .bool a1_4, .bool a1_5, .bool a1_6, .int .i64 a1_7, .string a1_8, .int .u16 a1_9, .slice A1_10 l1_10.length c1_10, .slice A1_11 l1_11.length c1_11, .slice A1_12 l1_12.length c1_12, .int .i64 a1_13]) (t := 31) ?hr ?_; (case hd => rfl); (case hg => rfl); (case hr => first | (go_simp; done) | (go_simp; rfl)); intro gb241 hg w22 hbox hb; have n0_ := Aside0.mk (blk_below (g := gb240) (o := .cells #[.int .u16 a0_0, .bool a0_1, .int .i64 a0_2, .bool a0_3, .bool a0_4, .bool a0_5, .bool a0_6, .int .i64 a0_7, .string a0_8, .int .u16 a0_9, .slice A0_10 l0_10.length c0_10, .slice A0_11 l0_11.length c0_11, .slice A0_12 l0_12.length c0_12, .int .i64 a0_13] 31 (0, 0)) (by (with_reducible repeat (first | refine blk_drewN ?_ _ | refine blk_drew ?_ | refine blk_alloc ?_ _)); exact BK240.out) hb); have n1_ := Aside0.mk (below_step (by repeat (first | (with_reducible first | exact HB.out | apply below_alloc | apply pw_below_drewN | apply below_drew1 | refine below_set ?_ GE240.out) | exact HB.out)) hb); have n2_ := Aside0.mk (hbox); have n3_ := Aside0.mk ((by rw [hg]; exact (below_size (by repeat (first | (with_reducible first | exact HB.out | apply below_alloc | apply pw_below_drewN | apply below_drew1 | refine below_set ?_ GE240.out) | exact HB.out))) : w.heap.size ≤ gb241)); have n4_ := Aside0.mk ((by rw [hg]; exact (below_size (by repeat (first | (with_reducible first | exact HB.out | apply below_alloc | apply pw_below_drewN | apply below_drew1 | refine below_set ?_ GE240.out) | exact HB.out))) : w.heap.size ≤ gb241)); have n5_ := Aside0.mk ((by rw [hg]; exact Nat.ne_of_lt (blk_lt (g := gb240) (o := .cells #[.int .u16 a0_0, .bool a0_1, .int .i64 a0_2, .bool a0_3, .bool a0_4, .bool a0_5, .bool a0_6, .int .i64 a0_7, .string a0_8, .int .u16 a0_9, .slice A0_10 l0_10.length c0_10, .slice A0_11 l0_11.length c0_11, .slice A0_12 l0_12.length c0_12, .int .i64 a0_13] 31 (0, 0)) (by (with_reducible repeat (first | refine blk_drewN ?_ _ | refine blk_drew ?_ | refine blk_alloc ?_ _)); exact BK240.out)) : gb240 ≠ gb241)); have n6_ := Aside0.mk ((by rw [hg]; exact Nat.ne_of_gt (blk_lt (g := gb240) (o := .cells #[.int .u16 a0_0, .bool a0_1, .int .i64 a0_2, .bool a0_3, .bool a0_4, .bool a0_5, .bool a0_6, .int .i64 a0_7, .string a0_8, .int .u16 a0_9, .slice A0_10 l0_10.length c0_10, .slice A0_11 l0_11.length c0_11, .slice A0_12 l0_12.length c0_12, .int .i64 a0_13] 31 (0, 0)) (by (with_reducible repeat (first | refine blk_drewN ?_ _ | refine blk_drew ?_ | refine blk_alloc ?_ _)); exact BK240.out)) : gb241 ≠ gb240)); clear BK240; clear HB; have BK240 := n0_; have HB := n1_; have BK241 := n2_; have GW241 := n3_; have GE241 := n4_; have NB240_241 := n5_; have NB241_240 := n6_; clear n0_ n1_ n2_ n3_ n4_ n5_ n6_; clear hb hbox hg; have hnb23 := NB240_241.out; have hnc23 := NB241_240.out; have hcz24_0 : w22.cell? ⟨gb240, 0, none⟩ = some (.int .u16 a0_0) := (blk_cell BK240.out 0).trans rfl; have hcz24_1 : w22.cell? ⟨gb240, 1, none⟩ = some (.bool a0_1) := (blk_cell BK240.out 1).trans rfl; have hcz24_2 : w22.cell? ⟨gb240, 2, none⟩ = some (.int .i64 a0_2) := (blk_cell BK240.out 2).trans rfl; have hcz24_3 : w22.cell? ⟨gb240, 3, none⟩ = some (.bool a0_3) := (blk_cell BK240.out 3).trans rfl; have hcz24_4 : w22.cell? ⟨gb240, 4, none⟩ = some (.bool a0_4) := (blk_cell BK240.out 4).trans rfl; have hcz24_5 : w22.cell? ⟨gb240, 5, none⟩ = some (.bool a0_5) := (blk_cell BK240.out 5).trans rfl; have hcz24_6 : w22.cell? ⟨gb240, 6, none⟩ = some (.bool a0_6) := (blk_cell BK240.out 6).trans rfl; have hcz24_7 : w22.cell? ⟨gb240, 7, none⟩ = some (.int .i64 a0_7) := (blk_cell BK240.out 7).trans rfl; have hcz24_8 : w22.cell? ⟨gb240, 8, none⟩ = some (.string a0_8) := (blk_cell BK240.out 8).trans rfl; have hcz24_9 : w22.cell? ⟨gb240, 9, none⟩ = some (.int .u16 a0_9) := (blk_cell BK240.out 9).trans rfl; have hcz24_10 : w22.cell? ⟨gb240, 10, none⟩ = some (.slice A0_10 l0_10.length c0_10) := (blk_cell BK240.out 10).trans rfl; have hcz24_11 : w22.cell? ⟨gb240, 11, none⟩ = some (.slice A0_11 l0_11.length c0_11) := (blk_cell BK240.out 11).trans rfl; have hcz24_12 : w22.cell? ⟨gb240, 12, none⟩ = some (.slice A0_12 l0_12.length c0_12) := (blk_cell BK240.out 12).trans rfl; have hcz24_13 : w22.cell? ⟨gb240, 13, none⟩ = some (.int .i64 a0_13) := (blk_cell BK240.out 13).trans rfl; have hfz24_0 := blk_frozen BK240.out 0; have hfz24_1 := blk_frozen BK240.out 1; have hfz24_2 := blk_frozen BK240.out 2; have hfz24_3 := blk_frozen BK240.out 3; have hfz24_4 := blk_frozen BK240.out 4; have hfz24_5 := blk_frozen BK240.out 5; have hfz24_6 := blk_frozen BK240.out 6; have hfz24_7 := blk_frozen BK240.out 7; have hfz24_8 := blk_frozen BK240.out 8; have hfz24_9 := blk_frozen BK240.out 9; have hfz24_10 := blk_frozen BK240.out 10; have hfz24_11 := blk_frozen BK240.out 11; have hfz24_12 := blk_frozen BK240.out 12; have hfz24_13 := blk_frozen BK240.out 13; have hcz25_0 : w22.cell? ⟨gb241, 0, none⟩ = some (.int .u16 a1_0) := (blk_cell BK241.out 0).trans rfl; have hcz25_1 : w22.cell? ⟨gb241, 1, none⟩ = some (.bool a1_1) := (blk_cell BK241.out 1).trans rfl; have hcz25_2 : w22.cell? ⟨gb241, 2, none⟩ = some (.int .i64 a1_2) := (blk_cell BK241.out 2).trans rfl; have hcz25_3 : w22.cell? ⟨gb241, 3, none⟩ = some (.bool a1_3) := (blk_cell BK241.out 3).trans rfl; have hcz25_4 : w22.cell? ⟨gb241, 4, none⟩ = some (.bool a1_4) := (blk_cell BK241.out 4).trans rfl; have hcz25_5 : w22.cell? ⟨gb241, 5, none⟩ = some (.bool a1_5) := (blk_cell BK241.out 5).trans rfl; have hcz25_6 : w22.cell? ⟨gb241, 6, none⟩ = some (.bool a1_6) := (blk_cell BK241.out 6).trans rfl; have hcz25_7 : w22.cell? ⟨gb241, 7, none⟩ = some (.int .i64 a1_7) := (blk_cell BK241.out 7).trans rfl; have hcz25_8 : w22.cell? ⟨gb241, 8, none⟩ = some (.string a1_8) := (blk_cell BK241.out 8).trans rfl; have hcz25_9 : w22.cell? ⟨gb241, 9, none⟩ = some (.int .u16 a1_9) := (blk_cell BK241.out 9).trans rfl; have hcz25_10 : w22.cell? ⟨gb241, 10, none⟩ = some (.slice A1_10 l1_10.length c1_10) := (blk_cell BK241.out 10).trans rfl; have hcz25_11 : w22.cell? ⟨gb241, 11, none⟩ = some (.slice A1_11 l1_11.length c1_11) := (blk_cell BK241.out 11).trans rfl; have hcz25_12 : w22.cell? ⟨gb241, 12, none⟩ = some (.slice A1_12 l1_12.length c1_12) := (blk_cell BK241.out 12).trans rfl; have hcz25_13 : w22.cell? ⟨gb241, 13, none⟩ = some (.int .i64 a1_13) := (blk_cell BK241.out 13).trans rfl; have hfz25_0 := blk_frozen BK241.out 0; have hfz25_1 := blk_frozen BK241.out 1; have hfz25_2 := blk_frozen BK241.out 2; have hfz25_3 := blk_frozen BK241.out 3; have hfz25_4 := blk_frozen BK241.out 4; have hfz25_5 := blk_frozen BK241.out 5; have hfz25_6 := blk_frozen BK241.out 6; have hfz25_7 := blk_frozen BK241.out 7; have hfz25_8 := blk_frozen BK241.out 8; have hfz25_9 := blk_frozen BK241.out 9; have hfz25_10 := blk_frozen BK241.out 10; have hfz25_11 := blk_frozen BK241.out 11; have hfz25_12 := blk_frozen BK241.out 12; have hfz25_13 := blk_frozen BK241.out 13) | (go_at_call 31; (with_reducible refine (bolterlaw05_SameRecords.calls k _ _ l0_10 _ _ l1_10 false _ ?side1 ?side2 ?side3 ?side4 A6.out).mono ?_); (case side1 => repeat (first | exact (Kd.C_below HR0_10.out HB.out) | (with_reducible refine Kd.C_alloc ?_ _) | (with_reducible refine Kd.C_drewN ?_ _) | (with_reducible refine Kd.C_drew ?_))); (case side2 => exact HC0_10.out); (case side3 => repeat (first | exact (Kd.C_below HR1_10.out HB.out) | (with_reducible refine Kd.C_alloc ?_ _) | (with_reducible refine Kd.C_drewN ?_ _) | (with_reducible refine Kd.C_drew ?_))); (case side4 => exact HC1_10.out); rintro e w' ⟨rfl, ⟨nd, rfl⟩⟩))
          go_ret
          exact ⟨by first | rfl | (simp [errW_none, errW_some] <;> rfl) | (simp [*, errW_none, errW_some] <;> rfl), by repeat (first | (with_reducible first | exact HB.out | apply below_alloc | apply pw_below_drewN | apply below_drew1 | refine below_set ?_ GE240.out | refine below_set ?_ GE241.out) | exact HB.out)⟩
      · rw [if_neg c5] at H
        have c5b0 : (a0_13 == a1_13) = false := beq_eq_false_iff_ne.mpr c5
        have c5b1 : (a0_13 != a1_13) = true := bne_iff_ne.mpr c5
        obtain rfl := Option.some.inj H
        go_enter Try.func15, Try.ntmps15
        go_wp2_with (first | ((with_reducible refine gate_dst (N := 2) rfl ?_); refine box_event ?hg (N := 2) ?hd (cs := #[.int .u16 a0_0, .bool a0_1, .int .i64 a0_2, .bool a0_3, .bool a0_4, .bool a0_5, .bool a0_6, .int .i64 a0_7, .string a0_8, .int .u16 a0_9, .slice A0_10 l0_10.length c0_10, .slice A0_11 l0_11.length c0_11, .slice A0_12 l0_12.length c0_12, .int .i64 a0_13]) (t := 31) ?hr ?_; (case hd => rfl); (case hg => rfl); (case hr => first | (go_simp; done) | (go_simp; rfl)); intro gb240 hg w26 hbox hb; have n0_ := Aside0.mk (below_step (by repeat (first | (with_reducible first | exact HB.out | apply below_alloc | apply pw_below_drewN | apply below_drew1) | exact HB.out)) hb); have n1_ := Aside0.mk (hbox); have n2_ := Aside0.mk ((by rw [hg]; exact (below_size (by repeat (first | (with_reducible first | exact HB.out | apply below_alloc | apply pw_below_drewN | apply below_drew1) | exact HB.out))) : w.heap.size ≤ gb240)); have n3_ := Aside0.mk ((by rw [hg]; exact (below_size (by repeat (first | (with_reducible first | exact HB.out | apply below_alloc | apply pw_below_drewN | apply below_drew1) | exact HB.out))) : w.heap.size ≤ gb240)); clear HB; have HB := n0_; have BK240 := n1_; have GW240 := n2_; have GE240 := n3_; clear n0_ n1_ n2_ n3_; clear hb hbox hg) | ((with_reducible refine gate_dst (N := 3) rfl ?_); refine box_event ?hg (N := 3) ?hd (cs := #[.int .u16 a1_0, .bool a1_1, .int .i64 a1_2, .bool a1_3, .bool a1_4, .bool a1_5, .bool a1_6, .int .i64 a1_7, .string a1_8, .int .u16 a1_9, .slice A1_10 l1_10.length c1_10, .slice A1_11 l1_11.length c1_11, .slice A1_12 l1_12.length c1_12, .int .i64 a1_13]) (t := 31) ?hr ?_; (case hd => rfl); (case hg => rfl); (case hr => first | (go_simp; done) | (go_simp; rfl)); intro gb241 hg w27 hbox hb; have n0_ := Aside0.mk (blk_below (g := gb240) (o := .cells #[.int .u16 a0_0, .bool a0_1, .int .i64 a0_2, .bool a0_3, .bool a0_4, .bool a0_5, .bool a0_6, .int .i64 a0_7, .string a0_8, .int .u16 a0_9, .slice A0_10 l0_10.length c0_10, .slice A0_11 l0_11.length c0_11, .slice A0_12 l0_12.length c0_12, .int .i64 a0_13] 31 (0, 0)) (by (with_reducible repeat (first | refine blk_drewN ?_ _ | refine blk_drew ?_ | refine blk_alloc ?_ _)); exact BK240.out) hb); have n1_ := Aside0.mk (below_step (by repeat (first | (with_reducible first | exact HB.out | apply below_alloc | apply pw_below_drewN | apply below_drew1 | refine below_set ?_ GE240.out) | exact HB.out)) hb); have n2_ := Aside0.mk (hbox); have n3_ := Aside0.mk ((by rw [hg]; exact (below_size (by repeat (first | (with_reducible first | exact HB.out | apply below_alloc | apply pw_below_drewN | apply below_drew1 | refine below_set ?_ GE240.out) | exact HB.out))) : w.heap.size ≤ gb241)); have n4_ := Aside0.mk ((by rw [hg]; exact (below_size (by repeat (first | (with_reducible first | exact HB.out | apply below_alloc | apply pw_below_drewN | apply below_drew1 | refine below_set ?_ GE240.out) | exact HB.out))) : w.heap.size ≤ gb241)); have n5_ := Aside0.mk ((by rw [hg]; exact Nat.ne_of_lt (blk_lt (g := gb240) (o := .cells #[.int .u16 a0_0, .bool a0_1, .int .i64 a0_2, .bool a0_3, .bool a0_4, .bool a0_5, .bool a0_6, .int .i64 a0_7, .string a0_8, .int .u16 a0_9, .slice A0_10 l0_10.length c0_10, .slice A0_11 l0_11.length c0_11, .slice A0_12 l0_12.length c0_12, .int .i64 a0_13] 31 (0, 0)) (by (with_reducible repeat (first | refine blk_drewN ?_ _ | refine blk_drew ?_ | refine blk_alloc ?_ _)); exact BK240.out)) : gb240 ≠ gb241)); have n6_ := Aside0.mk ((by rw [hg]; exact Nat.ne_of_gt (blk_lt (g := gb240) (o := .cells #[.int .u16 a0_0, .bool a0_1, .int .i64 a0_2, .bool a0_3, .bool a0_4, .bool a0_5, .bool a0_6, .int .i64 a0_7, .string a0_8, .int .u16 a0_9, .slice A0_10 l0_10.length c0_10, .slice A0_11 l0_11.length c0_11, .slice A0_12 l0_12.length c0_12, .int .i64 a0_13] 31 (0, 0)) (by (with_reducible repeat (first | refine blk_drewN ?_ _ | refine blk_drew ?_ | refine blk_alloc ?_ _)); exact BK240.out)) : gb241 ≠ gb240)); clear BK240; clear HB; have BK240 := n0_; have HB := n1_; have BK241 := n2_; have GW241 := n3_; have GE241 := n4_; have NB240_241 := n5_; have NB241_240 := n6_; clear n0_ n1_ n2_ n3_ n4_ n5_ n6_; clear hb hbox hg; have hnb28 := NB240_241.out; have hnc28 := NB241_240.out; have hcz29_0 : w27.cell? ⟨gb240, 0, none⟩ = some (.int .u16 a0_0) := (blk_cell BK240.out 0).trans rfl; have hcz29_1 : w27.cell? ⟨gb240, 1, none⟩ = some (.bool a0_1) := (blk_cell BK240.out 1).trans rfl; have hcz29_2 : w27.cell? ⟨gb240, 2, none⟩ = some (.int .i64 a0_2) := (blk_cell BK240.out 2).trans rfl; have hcz29_3 : w27.cell? ⟨gb240, 3, none⟩ = some (.bool a0_3) := (blk_cell BK240.out 3).trans rfl; have hcz29_4 : w27.cell? ⟨gb240, 4, none⟩ = some (.bool a0_4) := (blk_cell BK240.out 4).trans rfl; have hcz29_5 : w27.cell? ⟨gb240, 5, none⟩ = some (.bool a0_5) := (blk_cell BK240.out 5).trans rfl; have hcz29_6 : w27.cell? ⟨gb240, 6, none⟩ = some (.bool a0_6) := (blk_cell BK240.out 6).trans rfl; have hcz29_7 : w27.cell? ⟨gb240, 7, none⟩ = some (.int .i64 a0_7) := (blk_cell BK240.out 7).trans rfl; have hcz29_8 : w27.cell? ⟨gb240, 8, none⟩ = some (.string a0_8) := (blk_cell BK240.out 8).trans rfl; have hcz29_9 : w27.cell? ⟨gb240, 9, none⟩ = some (.int .u16 a0_9) := (blk_cell BK240.out 9).trans rfl; have hcz29_10 : w27.cell? ⟨gb240, 10, none⟩ = some (.slice A0_10 l0_10.length c0_10) := (blk_cell BK240.out 10).trans rfl; have hcz29_11 : w27.cell? ⟨gb240, 11, none⟩ = some (.slice A0_11 l0_11.length c0_11) := (blk_cell BK240.out 11).trans rfl; have hcz29_12 : w27.cell? ⟨gb240, 12, none⟩ = some (.slice A0_12 l0_12.length c0_12) := (blk_cell BK240.out 12).trans rfl; have hcz29_13 : w27.cell? ⟨gb240, 13, none⟩ = some (.int .i64 a0_13) := (blk_cell BK240.out 13).trans rfl; have hfz29_0 := blk_frozen BK240.out 0; have hfz29_1 := blk_frozen BK240.out 1; have hfz29_2 := blk_frozen BK240.out 2; have hfz29_3 := blk_frozen BK240.out 3; have hfz29_4 := blk_frozen BK240.out 4; have hfz29_5 := blk_frozen BK240.out 5; have hfz29_6 := blk_frozen BK240.out 6; have hfz29_7 := blk_frozen BK240.out 7; have hfz29_8 := blk_frozen BK240.out 8; have hfz29_9 := blk_frozen BK240.out 9; have hfz29_10 := blk_frozen BK240.out 10; have hfz29_11 := blk_frozen BK240.out 11; have hfz29_12 := blk_frozen BK240.out 12; have hfz29_13 := blk_frozen BK240.out 13; have hcz30_0 : w27.cell? ⟨gb241, 0, none⟩ = some (.int .u16 a1_0) := (blk_cell BK241.out 0).trans rfl; have hcz30_1 : w27.cell? ⟨gb241, 1, none⟩ = some (.bool a1_1) := (blk_cell BK241.out 1).trans rfl; have hcz30_2 : w27.cell? ⟨gb241, 2, none⟩ = some (.int .i64 a1_2) := (blk_cell BK241.out 2).trans rfl; have hcz30_3 : w27.cell? ⟨gb241, 3, none⟩ = some (.bool a1_3) := (blk_cell BK241.out 3).trans rfl; have hcz30_4 : w27.cell? ⟨gb241, 4, none⟩ = some (.bool a1_4) := (blk_cell BK241.out 4).trans rfl; have hcz30_5 : w27.cell? ⟨gb241, 5, none⟩ = some (.bool a1_5) := (blk_cell BK241.out 5).trans rfl; have hcz30_6 : w27.cell? ⟨gb241, 6, none⟩ = some (.bool a1_6) := (blk_cell BK241.out 6).trans rfl; have hcz30_7 : w27.cell? ⟨gb241, 7, none⟩ = some (.int .i64 a1_7) := (blk_cell BK241.out 7).trans rfl; have hcz30_8 : w27.cell? ⟨gb241, 8, none⟩ = some (.string a1_8) := (blk_cell BK241.out 8).trans rfl; have hcz30_9 : w27.cell? ⟨gb241, 9, none⟩ = some (.int .u16 a1_9) := (blk_cell BK241.out 9).trans rfl; have hcz30_10 : w27.cell? ⟨gb241, 10, none⟩ = some (.slice A1_10 l1_10.length c1_10) := (blk_cell BK241.out 10).trans rfl; have hcz30_11 : w27.cell? ⟨gb241, 11, none⟩ = some (.slice A1_11 l1_11.length c1_11) := (blk_cell BK241.out 11).trans rfl; have hcz30_12 : w27.cell? ⟨gb241, 12, none⟩ = some (.slice A1_12 l1_12.length c1_12) := (blk_cell BK241.out 12).trans rfl; have hcz30_13 : w27.cell? ⟨gb241, 13, none⟩ = some (.int .i64 a1_13) := (blk_cell BK241.out 13).trans rfl; have hfz30_0 := blk_frozen BK241.out 0; have hfz30_1 := blk_frozen BK241.out 1; have hfz30_2 := blk_frozen BK241.out 2; have hfz30_3 := blk_frozen BK241.out 3; have hfz30_4 := blk_frozen BK241.out 4; have hfz30_5 := blk_frozen BK241.out 5; have hfz30_6 := blk_frozen BK241.out 6; have hfz30_7 := blk_frozen BK241.out 7; have hfz30_8 := blk_frozen BK241.out 8; have hfz30_9 := blk_frozen BK241.out 9; have hfz30_10 := blk_frozen BK241.out 10; have hfz30_11 := blk_frozen BK241.out 11; have hfz30_12 := blk_frozen BK241.out 12; have hfz30_13 := blk_frozen BK241.out 13))
        go_ret
        exact ⟨by first | rfl | (simp [errW_none, errW_some] <;> rfl) | (simp [*, errW_none, errW_some] <;> rfl), by repeat (first | (with_reducible first | exact HB.out | apply below_alloc | apply pw_below_drewN | apply below_drew1 | refine below_set ?_ GE240.out | refine below_set ?_ GE241.out) | exact HB.out)⟩
    · rw [if_neg c4] at H
      have c4b0 : (a0_8.toList == a1_8.toList && (a0_9 == a1_9)) = false := by simpa using c4
      (try (have c4b1 : decide (a0_8.toList = a1_8.toList && (a0_9 == a1_9)) = false := by simpa using c4))
      (try (have c4b2 : (a0_8.toList == a1_8.toList && (a0_9 == a1_9)) = false := by simpa using c4))
      (try (have c4b3 : ¬ (a0_8.toList = a1_8.toList && (a0_9 == a1_9)) := by simpa using c4))
      clear c4
      obtain rfl := Option.some.inj H
      go_enter Try.func15, Try.ntmps15
      go_wp2_with (first | ((with_reducible refine gate_dst (N := 2) rfl ?_); refine box_event ?hg (N := 2) ?hd (cs := #[.int .u16 a0_0, .bool a0_1, .int .i64 a0_2, .bool a0_3, .bool a0_4, .bool a0_5, .bool a0_6, .int .i64 a0_7, .string a0_8, .int .u16 a0_9, .slice A0_10 l0_10.length c0_10, .slice A0_11 l0_11.length c0_11, .slice A0_12 l0_12.length c0_12, .int .i64 a0_13]) (t := 31) ?hr ?_; (case hd => rfl); (case hg => rfl); (case hr => first | (go_simp; done) | (go_simp; rfl)); intro gb240 hg w31 hbox hb; have n0_ := Aside0.mk (below_step (by repeat (first | (with_reducible first | exact HB.out | apply below_alloc | apply pw_below_drewN | apply below_drew1) | exact HB.out)) hb); have n1_ := Aside0.mk (hbox); have n2_ := Aside0.mk ((by rw [hg]; exact (below_size (by repeat (first | (with_reducible first | exact HB.out | apply below_alloc | apply pw_below_drewN | apply below_drew1) | exact HB.out))) : w.heap.size ≤ gb240)); have n3_ := Aside0.mk ((by rw [hg]; exact (below_size (by repeat (first | (with_reducible first | exact HB.out | apply below_alloc | apply pw_below_drewN | apply below_drew1) | exact HB.out))) : w.heap.size ≤ gb240)); clear HB; have HB := n0_; have BK240 := n1_; have GW240 := n2_; have GE240 := n3_; clear n0_ n1_ n2_ n3_; clear hb hbox hg) | ((with_reducible refine gate_dst (N := 3) rfl ?_); refine box_event ?hg (N := 3) ?hd (cs := #[.int .u16 a1_0, .bool a1_1, .int .i64 a1_2, .bool a1_3, .bool a1_4, .bool a1_5, .bool a1_6, .int .i64 a1_7, .string a1_8, .int .u16 a1_9, .slice A1_10 l1_10.length c1_10, .slice A1_11 l1_11.length c1_11, .slice A1_12 l1_12.length c1_12, .int .i64 a1_13]) (t := 31) ?hr ?_; (case hd => rfl); (case hg => rfl); (case hr => first | (go_simp; done) | (go_simp; rfl)); intro gb241 hg w32 hbox hb; have n0_ := Aside0.mk (blk_below (g := gb240) (o := .cells #[.int .u16 a0_0, .bool a0_1, .int .i64 a0_2, .bool a0_3, .bool a0_4, .bool a0_5, .bool a0_6, .int .i64 a0_7, .string a0_8, .int .u16 a0_9, .slice A0_10 l0_10.length c0_10, .slice A0_11 l0_11.length c0_11, .slice A0_12 l0_12.length c0_12, .int .i64 a0_13] 31 (0, 0)) (by (with_reducible repeat (first | refine blk_drewN ?_ _ | refine blk_drew ?_ | refine blk_alloc ?_ _)); exact BK240.out) hb); have n1_ := Aside0.mk (below_step (by repeat (first | (with_reducible first | exact HB.out | apply below_alloc | apply pw_below_drewN | apply below_drew1 | refine below_set ?_ GE240.out) | exact HB.out)) hb); have n2_ := Aside0.mk (hbox); have n3_ := Aside0.mk ((by rw [hg]; exact (below_size (by repeat (first | (with_reducible first | exact HB.out | apply below_alloc | apply pw_below_drewN | apply below_drew1 | refine below_set ?_ GE240.out) | exact HB.out))) : w.heap.size ≤ gb241)); have n4_ := Aside0.mk ((by rw [hg]; exact (below_size (by repeat (first | (with_reducible first | exact HB.out | apply below_alloc | apply pw_below_drewN | apply below_drew1 | refine below_set ?_ GE240.out) | exact HB.out))) : w.heap.size ≤ gb241)); have n5_ := Aside0.mk ((by rw [hg]; exact Nat.ne_of_lt (blk_lt (g := gb240) (o := .cells #[.int .u16 a0_0, .bool a0_1, .int .i64 a0_2, .bool a0_3, .bool a0_4, .bool a0_5, .bool a0_6, .int .i64 a0_7, .string a0_8, .int .u16 a0_9, .slice A0_10 l0_10.length c0_10, .slice A0_11 l0_11.length c0_11, .slice A0_12 l0_12.length c0_12, .int .i64 a0_13] 31 (0, 0)) (by (with_reducible repeat (first | refine blk_drewN ?_ _ | refine blk_drew ?_ | refine blk_alloc ?_ _)); exact BK240.out)) : gb240 ≠ gb241)); have n6_ := Aside0.mk ((by rw [hg]; exact Nat.ne_of_gt (blk_lt (g := gb240) (o := .cells #[.int .u16 a0_0, .bool a0_1, .int .i64 a0_2, .bool a0_3, .bool a0_4, .bool a0_5, .bool a0_6, .int .i64 a0_7, .string a0_8, .int .u16 a0_9, .slice A0_10 l0_10.length c0_10, .slice A0_11 l0_11.length c0_11, .slice A0_12 l0_12.length c0_12, .int .i64 a0_13] 31 (0, 0)) (by (with_reducible repeat (first | refine blk_drewN ?_ _ | refine blk_drew ?_ | refine blk_alloc ?_ _)); exact BK240.out)) : gb241 ≠ gb240)); clear BK240; clear HB; have BK240 := n0_; have HB := n1_; have BK241 := n2_; have GW241 := n3_; have GE241 := n4_; have NB240_241 := n5_; have NB241_240 := n6_; clear n0_ n1_ n2_ n3_ n4_ n5_ n6_; clear hb hbox hg; have hnb33 := NB240_241.out; have hnc33 := NB241_240.out; have hcz34_0 : w32.cell? ⟨gb240, 0, none⟩ = some (.int .u16 a0_0) := (blk_cell BK240.out 0).trans rfl; have hcz34_1 : w32.cell? ⟨gb240, 1, none⟩ = some (.bool a0_1) := (blk_cell BK240.out 1).trans rfl; have hcz34_2 : w32.cell? ⟨gb240, 2, none⟩ = some (.int .i64 a0_2) := (blk_cell BK240.out 2).trans rfl; have hcz34_3 : w32.cell? ⟨gb240, 3, none⟩ = some (.bool a0_3) := (blk_cell BK240.out 3).trans rfl; have hcz34_4 : w32.cell? ⟨gb240, 4, none⟩ = some (.bool a0_4) := (blk_cell BK240.out 4).trans rfl; have hcz34_5 : w32.cell? ⟨gb240, 5, none⟩ = some (.bool a0_5) := (blk_cell BK240.out 5).trans rfl; have hcz34_6 : w32.cell? ⟨gb240, 6, none⟩ = some (.bool a0_6) := (blk_cell BK240.out 6).trans rfl; have hcz34_7 : w32.cell? ⟨gb240, 7, none⟩ = some (.int .i64 a0_7) := (blk_cell BK240.out 7).trans rfl; have hcz34_8 : w32.cell? ⟨gb240, 8, none⟩ = some (.string a0_8) := (blk_cell BK240.out 8).trans rfl; have hcz34_9 : w32.cell? ⟨gb240, 9, none⟩ = some (.int .u16 a0_9) := (blk_cell BK240.out 9).trans rfl; have hcz34_10 : w32.cell? ⟨gb240, 10, none⟩ = some (.slice A0_10 l0_10.length c0_10) := (blk_cell BK240.out 10).trans rfl; have hcz34_11 : w32.cell? ⟨gb240, 11, none⟩ = some (.slice A0_11 l0_11.length c0_11) := (blk_cell BK240.out 11).trans rfl; have hcz34_12 : w32.cell? ⟨gb240, 12, none⟩ = some (.slice A0_12 l0_12.length c0_12) := (blk_cell BK240.out 12).trans rfl; have hcz34_13 : w32.cell? ⟨gb240, 13, none⟩ = some (.int .i64 a0_13) := (blk_cell BK240.out 13).trans rfl; have hfz34_0 := blk_frozen BK240.out 0; have hfz34_1 := blk_frozen BK240.out 1; have hfz34_2 := blk_frozen BK240.out 2; have hfz34_3 := blk_frozen BK240.out 3; have hfz34_4 := blk_frozen BK240.out 4; have hfz34_5 := blk_frozen BK240.out 5; have hfz34_6 := blk_frozen BK240.out 6; have hfz34_7 := blk_frozen BK240.out 7; have hfz34_8 := blk_frozen BK240.out 8; have hfz34_9 := blk_frozen BK240.out 9; have hfz34_10 := blk_frozen BK240.out 10; have hfz34_11 := blk_frozen BK240.out 11; have hfz34_12 := blk_frozen BK240.out 12; have hfz34_13 := blk_frozen BK240.out 13; have hcz35_0 : w32.cell? ⟨gb241, 0, none⟩ = some (.int .u16 a1_0) := (blk_cell BK241.out 0).trans rfl; have hcz35_1 : w32.cell? ⟨gb241, 1, none⟩ = some (.bool a1_1) := (blk_cell BK241.out 1).trans rfl; have hcz35_2 : w32.cell? ⟨gb241, 2, none⟩ = some (.int .i64 a1_2) := (blk_cell BK241.out 2).trans rfl; have hcz35_3 : w32.cell? ⟨gb241, 3, none⟩ = some (.bool a1_3) := (blk_cell BK241.out 3).trans rfl; have hcz35_4 : w32.cell? ⟨gb241, 4, none⟩ = some (.bool a1_4) := (blk_cell BK241.out 4).trans rfl; have hcz35_5 : w32.cell? ⟨gb241, 5, none⟩ = some (.bool a1_5) := (blk_cell BK241.out 5).trans rfl; have hcz35_6 : w32.cell? ⟨gb241, 6, none⟩ = some (.bool a1_6) := (blk_cell BK241.out 6).trans rfl; have hcz35_7 : w32.cell? ⟨gb241, 7, none⟩ = some (.int .i64 a1_7) := (blk_cell BK241.out 7).trans rfl; have hcz35_8 : w32.cell? ⟨gb241, 8, none⟩ = some (.string a1_8) := (blk_cell BK241.out 8).trans rfl; have hcz35_9 : w32.cell? ⟨gb241, 9, none⟩ = some (.int .u16 a1_9) := (blk_cell BK241.out 9).trans rfl; have hcz35_10 : w32.cell? ⟨gb241, 10, none⟩ = some (.slice A1_10 l1_10.length c1_10) := (blk_cell BK241.out 10).trans rfl; have hcz35_11 : w32.cell? ⟨gb241, 11, none⟩ = some (.slice A1_11 l1_11.length c1_11) := (blk_cell BK241.out 11).trans rfl; have hcz35_12 : w32.cell? ⟨gb241, 12, none⟩ = some (.slice A1_12 l1_12.length c1_12) := (blk_cell BK241.out 12).trans rfl; have hcz35_13 : w32.cell? ⟨gb241, 13, none⟩ = some (.int .i64 a1_13) := (blk_cell BK241.out 13).trans rfl; have hfz35_0 := blk_frozen BK241.out 0; have hfz35_1 := blk_frozen BK241.out 1; have hfz35_2 := blk_frozen BK241.out 2; have hfz35_3 := blk_frozen BK241.out 3; have hfz35_4 := blk_frozen BK241.out 4; have hfz35_5 := blk_frozen BK241.out 5; have hfz35_6 := blk_frozen BK241.out 6; have hfz35_7 := blk_frozen BK241.out 7; have hfz35_8 := blk_frozen BK241.out 8; have hfz35_9 := blk_frozen BK241.out 9; have hfz35_10 := blk_frozen BK241.out 10; have hfz35_11 := blk_frozen BK241.out 11; have hfz35_12 := blk_frozen BK241.out 12; have hfz35_13 := blk_frozen BK241.out 13))
      go_ret
      exact ⟨by first | rfl | (simp [errW_none, errW_some] <;> rfl) | (simp [*, errW_none, errW_some] <;> rfl), by repeat (first | (with_reducible first | exact HB.out | apply below_alloc | apply pw_below_drewN | apply below_drew1 | refine below_set ?_ GE240.out | refine below_set ?_ GE241.out) | exact HB.out)⟩
  · rw [if_neg c3] at H
    have c3b0 : (a0_0 == a1_0 && (a0_1 == a1_1 && (a0_2 == a1_2 && (a0_3 == a1_3 && (a0_4 == a1_4 && (a0_5 == a1_5 && (a0_6 == a1_6 && (a0_7 == a1_7)))))))) = false := by simpa using c3
    (try (have c3b1 : decide (a0_0 = a1_0 && (a0_1 == a1_1 && (a0_2 == a1_2 && (a0_3 == a1_3 && (a0_4 == a1_4 && (a0_5 == a1_5 && (a0_6 == a1_6 && (a0_7 == a1_7)))))))) = false := by simpa using c3))
    (try (have c3b2 : (a0_0 == a1_0 && (a0_1 == a1_1 && (a0_2 == a1_2 && (a0_3 == a1_3 && (a0_4 == a1_4 && (a0_5 == a1_5 && (a0_6 == a1_6 && (a0_7 == a1_7)))))))) = false := by simpa using c3))
    (try (have c3b3 : ¬ (a0_0 = a1_0 && (a0_1 == a1_1 && (a0_2 == a1_2 && (a0_3 == a1_3 && (a0_4 == a1_4 && (a0_5 == a1_5 && (a0_6 == a1_6 && (a0_7 == a1_7)))))))) := by simpa using c3))
    clear c3
    obtain rfl := Option.some.inj H
    go_enter Try.func15, Try.ntmps15
    go_wp2_with (first | ((with_reducible refine gate_dst (N := 2) rfl ?_); refine box_event ?hg (N := 2) ?hd (cs := #[.int .u16 a0_0, .bool a0_1, .int .i64 a0_2, .bool a0_3, .bool a0_4, .bool a0_5, .bool a0_6, .int .i64 a0_7, .string a0_8, .int .u16 a0_9, .slice A0_10 l0_10.length c0_10, .slice A0_11 l0_11.length c0_11, .slice A0_12 l0_12.length c0_12, .int .i64 a0_13]) (t := 31) ?hr ?_; (case hd => rfl); (case hg => rfl); (case hr => first | (go_simp; done) | (go_simp; rfl)); intro gb240 hg w36 hbox hb; have n0_ := Aside0.mk (below_step (by repeat (first | (with_reducible first | exact HB.out | apply below_alloc | apply pw_below_drewN | apply below_drew1) | exact HB.out)) hb); have n1_ := Aside0.mk (hbox); have n2_ := Aside0.mk ((by rw [hg]; exact (below_size (by repeat (first | (with_reducible first | exact HB.out | apply below_alloc | apply pw_below_drewN | apply below_drew1) | exact HB.out))) : w.heap.size ≤ gb240)); have n3_ := Aside0.mk ((by rw [hg]; exact (below_size (by repeat (first | (with_reducible first | exact HB.out | apply below_alloc | apply pw_below_drewN | apply below_drew1) | exact HB.out))) : w.heap.size ≤ gb240)); clear HB; have HB := n0_; have BK240 := n1_; have GW240 := n2_; have GE240 := n3_; clear n0_ n1_ n2_ n3_; clear hb hbox hg) | ((with_reducible refine gate_dst (N := 3) rfl ?_); refine box_event ?hg (N := 3) ?hd (cs := #[.int .u16 a1_0, .bool a1_1, .int .i64 a1_2, .bool a1_3, .bool a1_4, .bool a1_5, .bool a1_6, .int .i64 a1_7, .string a1_8, .int .u16 a1_9, .slice A1_10 l1_10.length c1_10, .slice A1_11 l1_11.length c1_11, .slice A1_12 l1_12.length c1_12, .int .i64 a1_13]) (t := 31) ?hr ?_; (case hd => rfl); (case hg => rfl); (case hr => first | (go_simp; done) | (go_simp; rfl)); intro gb241 hg w37 hbox hb; have n0_ := Aside0.mk (blk_below (g := gb240) (o := .cells #[.int .u16 a0_0, .bool a0_1, .int .i64 a0_2, .bool a0_3, .bool a0_4, .bool a0_5, .bool a0_6, .int .i64 a0_7, .string a0_8, .int .u16 a0_9, .slice A0_10 l0_10.length c0_10, .slice A0_11 l0_11.length c0_11, .slice A0_12 l0_12.length c0_12, .int .i64 a0_13] 31 (0, 0)) (by (with_reducible repeat (first | refine blk_drewN ?_ _ | refine blk_drew ?_ | refine blk_alloc ?_ _)); exact BK240.out) hb); have n1_ := Aside0.mk (below_step (by repeat (first | (with_reducible first | exact HB.out | apply below_alloc | apply pw_below_drewN | apply below_drew1 | refine below_set ?_ GE240.out) | exact HB.out)) hb); have n2_ := Aside0.mk (hbox); have n3_ := Aside0.mk ((by rw [hg]; exact (below_size (by repeat (first | (with_reducible first | exact HB.out | apply below_alloc | apply pw_below_drewN | apply below_drew1 | refine below_set ?_ GE240.out) | exact HB.out))) : w.heap.size ≤ gb241)); have n4_ := Aside0.mk ((by rw [hg]; exact (below_size (by repeat (first | (with_reducible first | exact HB.out | apply below_alloc | apply pw_below_drewN | apply below_drew1 | refine below_set ?_ GE240.out) | exact HB.out))) : w.heap.size ≤ gb241)); have n5_ := Aside0.mk ((by rw [hg]; exact Nat.ne_of_lt (blk_lt (g := gb240) (o := .cells #[.int .u16 a0_0, .bool a0_1, .int .i64 a0_2, .bool a0_3, .bool a0_4, .bool a0_5, .bool a0_6, .int .i64 a0_7, .string a0_8, .int .u16 a0_9, .slice A0_10 l0_10.length c0_10, .slice A0_11 l0_11.length c0_11, .slice A0_12 l0_12.length c0_12, .int .i64 a0_13] 31 (0, 0)) (by (with_reducible repeat (first | refine blk_drewN ?_ _ | refine blk_drew ?_ | refine blk_alloc ?_ _)); exact BK240.out)) : gb240 ≠ gb241)); have n6_ := Aside0.mk ((by rw [hg]; exact Nat.ne_of_gt (blk_lt (g := gb240) (o := .cells #[.int .u16 a0_0, .bool a0_1, .int .i64 a0_2, .bool a0_3, .bool a0_4, .bool a0_5, .bool a0_6, .int .i64 a0_7, .string a0_8, .int .u16 a0_9, .slice A0_10 l0_10.length c0_10, .slice A0_11 l0_11.length c0_11, .slice A0_12 l0_12.length c0_12, .int .i64 a0_13] 31 (0, 0)) (by (with_reducible repeat (first | refine blk_drewN ?_ _ | refine blk_drew ?_ | refine blk_alloc ?_ _)); exact BK240.out)) : gb241 ≠ gb240)); clear BK240; clear HB; have BK240 := n0_; have HB := n1_; have BK241 := n2_; have GW241 := n3_; have GE241 := n4_; have NB240_241 := n5_; have NB241_240 := n6_; clear n0_ n1_ n2_ n3_ n4_ n5_ n6_; clear hb hbox hg; have hnb38 := NB240_241.out; have hnc38 := NB241_240.out; have hcz39_0 : w37.cell? ⟨gb240, 0, none⟩ = some (.int .u16 a0_0) := (blk_cell BK240.out 0).trans rfl; have hcz39_1 : w37.cell? ⟨gb240, 1, none⟩ = some (.bool a0_1) := (blk_cell BK240.out 1).trans rfl; have hcz39_2 : w37.cell? ⟨gb240, 2, none⟩ = some (.int .i64 a0_2) := (blk_cell BK240.out 2).trans rfl; have hcz39_3 : w37.cell? ⟨gb240, 3, none⟩ = some (.bool a0_3) := (blk_cell BK240.out 3).trans rfl; have hcz39_4 : w37.cell? ⟨gb240, 4, none⟩ = some (.bool a0_4) := (blk_cell BK240.out 4).trans rfl; have hcz39_5 : w37.cell? ⟨gb240, 5, none⟩ = some (.bool a0_5) := (blk_cell BK240.out 5).trans rfl; have hcz39_6 : w37.cell? ⟨gb240, 6, none⟩ = some (.bool a0_6) := (blk_cell BK240.out 6).trans rfl; have hcz39_7 : w37.cell? ⟨gb240, 7, none⟩ = some (.int .i64 a0_7) := (blk_cell BK240.out 7).trans rfl; have hcz39_8 : w37.cell? ⟨gb240, 8, none⟩ = some (.string a0_8) := (blk_cell BK240.out 8).trans rfl; have hcz39_9 : w37.cell? ⟨gb240, 9, none⟩ = some (.int .u16 a0_9) := (blk_cell BK240.out 9).trans rfl; have hcz39_10 : w37.cell? ⟨gb240, 10, none⟩ = some (.slice A0_10 l0_10.length c0_10) := (blk_cell BK240.out 10).trans rfl; have hcz39_11 : w37.cell? ⟨gb240, 11, none⟩ = some (.slice A0_11 l0_11.length c0_11) := (blk_cell BK240.out 11).trans rfl; have hcz39_12 : w37.cell? ⟨gb240, 12, none⟩ = some (.slice A0_12 l0_12.length c0_12) := (blk_cell BK240.out 12).trans rfl; have hcz39_13 : w37.cell? ⟨gb240, 13, none⟩ = some (.int .i64 a0_13) := (blk_cell BK240.out 13).trans rfl; have hfz39_0 := blk_frozen BK240.out 0; have hfz39_1 := blk_frozen BK240.out 1; have hfz39_2 := blk_frozen BK240.out 2; have hfz39_3 := blk_frozen BK240.out 3; have hfz39_4 := blk_frozen BK240.out 4; have hfz39_5 := blk_frozen BK240.out 5; have hfz39_6 := blk_frozen BK240.out 6; have hfz39_7 := blk_frozen BK240.out 7; have hfz39_8 := blk_frozen BK240.out 8; have hfz39_9 := blk_frozen BK240.out 9; have hfz39_10 := blk_frozen BK240.out 10; have hfz39_11 := blk_frozen BK240.out 11; have hfz39_12 := blk_frozen BK240.out 12; have hfz39_13 := blk_frozen BK240.out 13; have hcz40_0 : w37.cell? ⟨gb241, 0, none⟩ = some (.int .u16 a1_0) := (blk_cell BK241.out 0).trans rfl; have hcz40_1 : w37.cell? ⟨gb241, 1, none⟩ = some (.bool a1_1) := (blk_cell BK241.out 1).trans rfl; have hcz40_2 : w37.cell? ⟨gb241, 2, none⟩ = some (.int .i64 a1_2) := (blk_cell BK241.out 2).trans rfl; have hcz40_3 : w37.cell? ⟨gb241, 3, none⟩ = some (.bool a1_3) := (blk_cell BK241.out 3).trans rfl; have hcz40_4 : w37.cell? ⟨gb241, 4, none⟩ = some (.bool a1_4) := (blk_cell BK241.out 4).trans rfl; have hcz40_5 : w37.cell? ⟨gb241, 5, none⟩ = some (.bool a1_5) := (blk_cell BK241.out 5).trans rfl; have hcz40_6 : w37.cell? ⟨gb241, 6, none⟩ = some (.bool a1_6) := (blk_cell BK241.out 6).trans rfl; have hcz40_7 : w37.cell? ⟨gb241, 7, none⟩ = some (.int .i64 a1_7) := (blk_cell BK241.out 7).trans rfl; have hcz40_8 : w37.cell? ⟨gb241, 8, none⟩ = some (.string a1_8) := (blk_cell BK241.out 8).trans rfl; have hcz40_9 : w37.cell? ⟨gb241, 9, none⟩ = some (.int .u16 a1_9) := (blk_cell BK241.out 9).trans rfl; have hcz40_10 : w37.cell? ⟨gb241, 10, none⟩ = some (.slice A1_10 l1_10.length c1_10) := (blk_cell BK241.out 10).trans rfl; have hcz40_11 : w37.cell? ⟨gb241, 11, none⟩ = some (.slice A1_11 l1_11.length c1_11) := (blk_cell BK241.out 11).trans rfl; have hcz40_12 : w37.cell? ⟨gb241, 12, none⟩ = some (.slice A1_12 l1_12.length c1_12) := (blk_cell BK241.out 12).trans rfl; have hcz40_13 : w37.cell? ⟨gb241, 13, none⟩ = some (.int .i64 a1_13) := (blk_cell BK241.out 13).trans rfl; have hfz40_0 := blk_frozen BK241.out 0; have hfz40_1 := blk_frozen BK241.out 1; have hfz40_2 := blk_frozen BK241.out 2; have hfz40_3 := blk_frozen BK241.out 3; have hfz40_4 := blk_frozen BK241.out 4; have hfz40_5 := blk_frozen BK241.out 5; have hfz40_6 := blk_frozen BK241.out 6; have hfz40_7 := blk_frozen BK241.out 7; have hfz40_8 := blk_frozen BK241.out 8; have hfz40_9 := blk_frozen BK241.out 9; have hfz40_10 := blk_frozen BK241.out 10; have hfz40_11 := blk_frozen BK241.out 11; have hfz40_12 := blk_frozen BK241.out 12; have hfz40_13 := blk_frozen BK241.out 13))
    go_ret
    exact ⟨by first | rfl | (simp [errW_none, errW_some] <;> rfl) | (simp [*, errW_none, errW_some] <;> rfl), by repeat (first | (with_reducible first | exact HB.out | apply below_alloc | apply pw_below_drewN | apply below_drew1 | refine below_set ?_ GE240.out | refine below_set ?_ GE241.out) | exact HB.out)⟩
end Go.Proofs.Ytnikfeaggppmpaa.PM
