-- written by a program of this session out of the loaded program (its tools: wip/tools)
import Derived.Test.YtpjdemddflnleaaPBx0
import Derived.Test.YtpjdemddflnleaaPBx2
import Derived.Test.YtpjdemddflnleaaPBx3
namespace Go.Proofs.Ytpjdemddflnleaa.PB
open Go.RowKit Go.Proofs.YtpjdemddflnleaaW.PrintWords Go.Proofs.YtpjdemddflnleaaW.PrintLast Go.Proofs.YtpjdemddflnleaaW.PrintMore
attribute [local go_sem] max2_int min2_int max_two min_two max_three min_three max_four min_four   -- for this text's walks alone
set_option linter.unusedVariables false
set_option linter.unusedSimpArgs false

/-! ### point_Cut: function 21 -/
def point_Cut.l0 : Nat → ByteArray → Int → Option (ByteArray × ByteArray × Bool)
  | 0, _, _ => none
  | k + 1, x0, x5 => if x5 < (x0.size : Int) then (if 0 ≤ x5 then (if (bt x0 x5) = 0 then (if x5 ≤ (x0.size : Int) then ((name_May.f k (x0.extract 0 (x5 : Int).toNat)).bind fun t159 => (if t159 = true then (if 0 ≤ (wrap64 (x5 + 1)) then (if (wrap64 (x5 + 1)) ≤ (x0.size : Int) then (some (x0.extract 0 (x5 : Int).toNat, x0.extract ((wrap64 (x5 + 1)) : Int).toNat x0.size, true)) else (none)) else (none)) else (some ((⟨#[]⟩ : ByteArray), (⟨#[]⟩ : ByteArray), false)))) else (none)) else (point_Cut.l0 k x0 (wrap64 (x5 + (wrap64 (1 + (wrap64 (bt x0 x5)))))))) else (none)) else (some ((⟨#[]⟩ : ByteArray), (⟨#[]⟩ : ByteArray), false))
def point_Cut.f (k : Nat) (a0 : ByteArray) : Option (ByteArray × ByteArray × Bool) := point_Cut.l0 k a0 0
theorem point_Cut.mono_l : ∀ k, (∀ y0 y1, LeO (point_Cut.l0 k y0 y1) (point_Cut.l0 (k + 1) y0 y1))
  | 0 => fun _ _ r h => by simp [point_Cut.l0] at h
  | k + 1 => by
    have ih0 := point_Cut.mono_l k
    · intro y0 y1
      unfold point_Cut.l0
      repeat' first
      | (with_reducible exact ih0 _ _)
      | (with_reducible exact name_May.mono _ _)
      | (with_reducible exact LeO.refl _)
      | (with_reducible exact LeO.none _)
      | (with_reducible refine LeO.ite ?_ ?_)
      | (with_reducible refine LeO.bind ?_ (fun _ => ?_))
      | exact ih0 _ _
      | exact name_May.mono _ _
      | exact LeO.none _
      | refine LeO.ite ?_ ?_
      | refine LeO.bind ?_ (fun _ => ?_)
theorem point_Cut.mono : ∀ a0 k, LeO (point_Cut.f k a0) (point_Cut.f (k + 1) a0) := by
  intro a0 k
  have ih0 := point_Cut.mono_l k
  unfold point_Cut.f
  repeat' first
      | (with_reducible exact ih0 _ _)
      | (with_reducible exact name_May.mono _ _)
      | (with_reducible exact LeO.refl _)
      | (with_reducible exact LeO.none _)
      | (with_reducible refine LeO.ite ?_ ?_)
      | (with_reducible refine LeO.bind ?_ (fun _ => ?_))
      | exact ih0 _ _
      | exact name_May.mono _ _
      | exact LeO.none _
      | refine LeO.ite ?_ ?_
      | refine LeO.bind ?_ (fun _ => ?_)
set_option maxHeartbeats 8000000 in
set_option maxRecDepth 100000 in
theorem point_Cut.calls (k : Nat) (a0 : ByteArray) (r1 : ByteArray) (r2 : ByteArray) (r3 : Bool) (w : World) (h : point_Cut.f k a0 = some (r1, r2, r3)) :
    Calls Try.prog 21 #[.string a0] w fun e w' => e = .returned (.tuple #[.string r1, .string r2, .bool r3]) ∧ Below w.heap.size w w' := by
  have HB := Aside0.mk (Below.refl w.heap.size w)
  have H : (point_Cut.l0 k a0 0) = some (r1, r2, r3) := h
  clear h
  have H' := Aside0.mk H
  clear H
  go_enter Try.func21, Try.ntmps21
  go_wp2
  repeat (go_quiet (fail); try go_wp2)
  go_loopg [5] k (fun kq v5 w' => ∃ (x5_1 : Int), v5 = .int .i64 x5_1 ∧ Aside0 (point_Cut.l0 kq a0 x5_1 = some (r1, r2, r3)) ∧ Aside0 (kq ≤ k) ∧ Aside0 (Below w.heap.size w w'))
  case atStart => exact ⟨(0), (by first | rfl | (simp; done) | (simp [*]; done)), H', ⟨Nat.le_refl _⟩, ⟨by repeat (first | (with_reducible first | exact HB.out | apply below_alloc | apply pw_below_drewN | apply below_drew1) | exact HB.out)⟩⟩
  case round =>
    clear H'
    obtain ⟨x5_1, rfl, HA, HK1, HB⟩ := hrel
    cases gk with
    | zero => exact absurd HA.out (by simp [point_Cut.l0])
    | succ k1 =>
      have H := HA.out
      clear HA
      simp only [point_Cut.l0] at H
      by_cases c2 : x5_1 < (a0.size : Int)
      · rw [if_pos c2] at H
        have c2b0 : decide (x5_1 < (a0.size : Int)) = true := decide_eq_true c2
        clear c2
        by_cases c3 : 0 ≤ x5_1
        · rw [if_pos c3] at H
          have c3b0 : decide (0 ≤ x5_1) = true := decide_eq_true c3
          clear c3
          by_cases c5 : (bt a0 x5_1) = 0
          · rw [if_pos c5] at H
            have c5b0 : ((bt a0 x5_1) == 0) = true := beq_iff_eq.mpr c5
            have c5b1 : ((bt a0 x5_1) != 0) = false := bne_eq_false_iff_eq.mpr c5
            clear c5
            have c6b0 := eq_true (of_decide_eq_true (by first | (with_reducible assumption) | assumption) : 0 ≤ x5_1)
            by_cases c7 : x5_1 ≤ (a0.size : Int)
            · rw [if_pos c7] at H
              have c7b0 := eq_true c7
              have c7b1 : decide (x5_1 ≤ (a0.size : Int)) = true := decide_eq_true c7
              clear c7
              replace H := Option.bind_eq_some_iff.mp H
              obtain ⟨t159, A80, H⟩ := H
              replace H : (if t159 = true then (if 0 ≤ (wrap64 (x5_1 + 1)) then (if (wrap64 (x5_1 + 1)) ≤ (a0.size : Int) then (some (a0.extract 0 (x5_1 : Int).toNat, a0.extract ((wrap64 (x5_1 + 1)) : Int).toNat a0.size, true)) else (none)) else (none)) else (some ((⟨#[]⟩ : ByteArray), (⟨#[]⟩ : ByteArray), false))) = some (r1, r2, r3) := H
              have A8 := Aside0.mk A80
              clear A80
              by_cases c9 : t159 = true
              · subst c9
                have H1 : (if 0 ≤ (wrap64 (x5_1 + 1)) then (if (wrap64 (x5_1 + 1)) ≤ (a0.size : Int) then (some (a0.extract 0 (x5_1 : Int).toNat, a0.extract ((wrap64 (x5_1 + 1)) : Int).toNat a0.size, true)) else (none)) else (none)) = some (r1, r2, r3) := by rw [if_pos rfl] at H; exact H
                clear H
                have H := H1
                clear H1
                obtain ⟨ji10, hji10⟩ : ∃ j_ : Int, (wrap64 (x5_1 + 1)) = j_ := ⟨_, rfl⟩
                replace H : (if 0 ≤ (ji10) then (if (ji10) ≤ (a0.size : Int) then (some (a0.extract 0 (x5_1 : Int).toNat, a0.extract ((ji10) : Int).toNat a0.size, true)) else (none)) else (none)) = some (r1, r2, r3) := by first | (rw [hji10] at H; exact H) | (simp only [hji10] at H ⊢; exact H)
                (try rw [hji10] at A8)
                have hji10w : (IntKind.i64.wrap (x5_1 + 1)) = ji10 := (i64_w _).trans hji10
                by_cases c11 : 0 ≤ (ji10)
                · rw [if_pos c11] at H
                  have c11b0 := eq_true c11
                  have c11b1 : decide (0 ≤ (ji10)) = true := decide_eq_true c11
                  clear c11
                  by_cases c12 : (ji10) ≤ (a0.size : Int)
                  · rw [if_pos c12] at H
                    have c12b0 := eq_true c12
                    have c12b1 : decide ((ji10) ≤ (a0.size : Int)) = true := decide_eq_true c12
                    clear c12
                    simp only [Option.some.injEq, Prod.mk.injEq] at H
                    obtain ⟨rfl, rfl, rfl⟩ := H
                    have p4 : 0 ≤ (x5_1 : Int) := of_decide_eq_true (by first | (with_reducible assumption) | assumption)
                    have q4 : x5_1 < (a0.size : Int) := of_decide_eq_true (by first | (with_reducible assumption) | assumption)
                    have hx4 := bt_at a0 x5_1
                    replace p4 := eq_true p4
                    replace q4 := eq_true q4
                    go_wp2_with (first | (go_at_call 10; (with_reducible refine (name_May.calls k1 (a0.extract 0 (x5_1 : Int).toNat) true _ A8.out).mono ?_); rintro e w13 ⟨rfl, hb⟩; have n0_ := Aside0.mk (below_step (by repeat (first | (with_reducible first | exact HB.out | apply below_alloc | apply pw_below_drewN | apply below_drew1) | exact HB.out)) hb); clear HB; have HB := n0_; clear n0_; (try clear hb); (try clear hb2); (try clear hk); (try clear hi)))
                    repeat (go_quiet (first | (go_at_call 10; (with_reducible refine (name_May.calls k1 (a0.extract 0 (x5_1 : Int).toNat) true _ A8.out).mono ?_); rintro e w13 ⟨rfl, hb⟩; have n0_ := Aside0.mk (below_step (by repeat (first | (with_reducible first | exact HB.out | apply below_alloc | apply pw_below_drewN | apply below_drew1) | exact HB.out)) hb); clear HB; have HB := n0_; clear n0_; (try clear hb); (try clear hb2); (try clear hk); (try clear hi))); try go_wp2_with (first | (go_at_call 10; (with_reducible refine (name_May.calls k1 (a0.extract 0 (x5_1 : Int).toNat) true _ A8.out).mono ?_); rintro e w13 ⟨rfl, hb⟩; have n0_ := Aside0.mk (below_step (by repeat (first | (with_reducible first | exact HB.out | apply below_alloc | apply pw_below_drewN | apply below_drew1) | exact HB.out)) hb); clear HB; have HB := n0_; clear n0_; (try clear hb); (try clear hb2); (try clear hk); (try clear hi))))
                    go_ret3
                    exact ⟨by first | rfl | (simp [errW_none, errW_some] <;> rfl) | (simp only [← hji10]; first | rfl | (simp [errW_none, errW_some] <;> rfl)) | (simp [*, errW_none, errW_some] <;> rfl), by repeat (first | (with_reducible first | exact HB.out | apply below_alloc | apply pw_below_drewN | apply below_drew1) | exact HB.out)⟩
                  · rw [if_neg c12] at H
                    exact absurd H (by simp)
                · rw [if_neg c11] at H
                  exact absurd H (by simp)
              · replace c9 := Bool.eq_false_iff.mpr c9
                subst c9
                have H1 : (some ((⟨#[]⟩ : ByteArray), (⟨#[]⟩ : ByteArray), false)) = some (r1, r2, r3) := by rw [if_neg (show ¬ (false = true) by decide)] at H; exact H
                clear H
                have H := H1
                clear H1
                simp only [Option.some.injEq, Prod.mk.injEq] at H
                obtain ⟨rfl, rfl, rfl⟩ := H
                have p4 : 0 ≤ (x5_1 : Int) := of_decide_eq_true (by first | (with_reducible assumption) | assumption)
                have q4 : x5_1 < (a0.size : Int) := of_decide_eq_true (by first | (with_reducible assumption) | assumption)
                have hx4 := bt_at a0 x5_1
                replace p4 := eq_true p4
                replace q4 := eq_true q4
                go_wp2_with (first | (go_at_call 10; (with_reducible refine (name_May.calls k1 (a0.extract 0 (x5_1 : Int).toNat) false _ A8.out).mono ?_); rintro e w14 ⟨rfl, hb⟩; have n0_ := Aside0.mk (below_step (by repeat (first | (with_reducible first | exact HB.out | apply below_alloc | apply pw_below_drewN | apply below_drew1) | exact HB.out)) hb); clear HB; have HB := n0_; clear n0_; (try clear hb); (try clear hb2); (try clear hk); (try clear hi)))
                repeat (go_quiet (first | (go_at_call 10; (with_reducible refine (name_May.calls k1 (a0.extract 0 (x5_1 : Int).toNat) false _ A8.out).mono ?_); rintro e w14 ⟨rfl, hb⟩; have n0_ := Aside0.mk (below_step (by repeat (first | (with_reducible first | exact HB.out | apply below_alloc | apply pw_below_drewN | apply below_drew1) | exact HB.out)) hb); clear HB; have HB := n0_; clear n0_; (try clear hb); (try clear hb2); (try clear hk); (try clear hi))); try go_wp2_with (first | (go_at_call 10; (with_reducible refine (name_May.calls k1 (a0.extract 0 (x5_1 : Int).toNat) false _ A8.out).mono ?_); rintro e w14 ⟨rfl, hb⟩; have n0_ := Aside0.mk (below_step (by repeat (first | (with_reducible first | exact HB.out | apply below_alloc | apply pw_below_drewN | apply below_drew1) | exact HB.out)) hb); clear HB; have HB := n0_; clear n0_; (try clear hb); (try clear hb2); (try clear hk); (try clear hi))))
                go_ret3
                exact ⟨by first | rfl | (simp [errW_none, errW_some] <;> rfl) | (simp [*, errW_none, errW_some] <;> rfl), by repeat (first | (with_reducible first | exact HB.out | apply below_alloc | apply pw_below_drewN | apply below_drew1) | exact HB.out)⟩
            · rw [if_neg c7] at H
              exact absurd H (by simp)
          · rw [if_neg c5] at H
            have c5b0 : ((bt a0 x5_1) == 0) = false := beq_eq_false_iff_ne.mpr c5
            have c5b1 : ((bt a0 x5_1) != 0) = true := bne_iff_ne.mpr c5
            have H' := Aside0.mk H
            clear H
            have p4 : 0 ≤ (x5_1 : Int) := of_decide_eq_true (by first | (with_reducible assumption) | assumption)
            have q4 : x5_1 < (a0.size : Int) := of_decide_eq_true (by first | (with_reducible assumption) | assumption)
            have hx4 := bt_at a0 x5_1
            replace p4 := eq_true p4
            replace q4 := eq_true q4
            have p15 : 0 ≤ (x5_1 : Int) := of_decide_eq_true (by first | (with_reducible assumption) | assumption)
            have q15 : x5_1 < (a0.size : Int) := of_decide_eq_true (by first | (with_reducible assumption) | assumption)
            have hx15 := bt_at a0 x5_1
            replace p15 := eq_true p15
            replace q15 := eq_true q15
            go_wp2
            repeat (go_quiet (fail); try go_wp2)
            go_roundg k1
            case measure => have := HK1.out; omega
            case rel => exact ⟨(wrap64 (x5_1 + (wrap64 (1 + (wrap64 (bt a0 x5_1)))))), (by first | rfl | (simp; done) | (simp [*]; done)), H', ⟨by have := HK1.out; omega⟩, ⟨by repeat (first | (with_reducible first | exact HB.out | apply below_alloc | apply pw_below_drewN | apply below_drew1) | exact HB.out)⟩⟩
        · rw [if_neg c3] at H
          exact absurd H (by simp)
      · rw [if_neg c2] at H
        have c2b0 : decide (x5_1 < (a0.size : Int)) = false := decide_eq_false c2
        clear c2
        simp only [Option.some.injEq, Prod.mk.injEq] at H
        obtain ⟨rfl, rfl, rfl⟩ := H
        go_wp2
        repeat (go_quiet (fail); try go_wp2)
        go_ret3
        exact ⟨by first | rfl | (simp [errW_none, errW_some] <;> rfl) | (simp [*, errW_none, errW_some] <;> rfl), by repeat (first | (with_reducible first | exact HB.out | apply below_alloc | apply pw_below_drewN | apply below_drew1) | exact HB.out)⟩

/-! ### num_Get16: function 30 -/
def num_Get16.f (a0 : ByteArray) (a1 : Int) : Option (Int × Bool) := if a1 < 0 then (some (0, false)) else (if a1 > (wrap64 ((a0.size : Int) - 2)) then (some (0, false)) else (if 0 ≤ a1 then (if a1 < (a0.size : Int) then (if 0 ≤ (wrap64 (a1 + 1)) then (if (wrap64 (a1 + 1)) < (a0.size : Int) then (some (Go.bits .or .u16 (IntKind.u16.wrap ((IntKind.u16.wrap (bt a0 a1)) * 256)) (IntKind.u16.wrap (bt a0 (wrap64 (a1 + 1)))), true)) else (none)) else (none)) else (none)) else (none)))
set_option maxHeartbeats 8000000 in
set_option maxRecDepth 100000 in
theorem num_Get16.calls (a0 : ByteArray) (a1 : Int) (r1 : Int) (r2 : Bool) (w : World) (h : num_Get16.f a0 a1 = some (r1, r2)) :
    Calls Try.prog 30 #[.string a0, .int .i64 a1] w fun e w' => e = .returned (.tuple #[.int .u16 r1, .bool r2]) ∧ Drawn0 w w' := by
  have H : (if a1 < 0 then (some (0, false)) else (if a1 > (wrap64 ((a0.size : Int) - 2)) then (some (0, false)) else (if 0 ≤ a1 then (if a1 < (a0.size : Int) then (if 0 ≤ (wrap64 (a1 + 1)) then (if (wrap64 (a1 + 1)) < (a0.size : Int) then (some (Go.bits .or .u16 (IntKind.u16.wrap ((IntKind.u16.wrap (bt a0 a1)) * 256)) (IntKind.u16.wrap (bt a0 (wrap64 (a1 + 1)))), true)) else (none)) else (none)) else (none)) else (none)))) = some (r1, r2) := h
  clear h
  by_cases c3 : a1 < 0
  · rw [if_pos c3] at H
    have c3b0 : decide (a1 < 0) = true := decide_eq_true c3
    clear c3
    simp only [Option.some.injEq, Prod.mk.injEq] at H
    obtain ⟨rfl, rfl⟩ := H
    go_enter Try.func30, Try.ntmps30
    go_wp2
    repeat (go_quiet (fail); try go_wp2)
    go_ret2
    exact ⟨by first | rfl | (simp; done) | (simp [*]; done), by repeat (first | exact Drawn0.refl _ | apply Drawn0.step)⟩
  · rw [if_neg c3] at H
    have c3b0 : decide (a1 < 0) = false := decide_eq_false c3
    clear c3
    by_cases c4 : a1 > (wrap64 ((a0.size : Int) - 2))
    · rw [if_pos c4] at H
      have c4b0 : decide ((wrap64 ((a0.size : Int) - 2)) < a1) = true := decide_eq_true c4
      (try (have c4b1 : decide ((IntKind.i64.wrap ((a0.size : Int) - 2)) < a1) = true := by simp only [i64_w]; exact (decide_eq_true c4)))
      clear c4
      simp only [Option.some.injEq, Prod.mk.injEq] at H
      obtain ⟨rfl, rfl⟩ := H
      go_enter Try.func30, Try.ntmps30
      go_wp2
      repeat (go_quiet (fail); try go_wp2)
      go_ret2
      exact ⟨by first | rfl | (simp; done) | (simp [*]; done), by repeat (first | exact Drawn0.refl _ | apply Drawn0.step)⟩
    · rw [if_neg c4] at H
      have c4b0 : decide ((wrap64 ((a0.size : Int) - 2)) < a1) = false := decide_eq_false c4
      (try (have c4b1 : decide ((IntKind.i64.wrap ((a0.size : Int) - 2)) < a1) = false := by simp only [i64_w]; exact (decide_eq_false c4)))
      clear c4
      by_cases c5 : 0 ≤ a1
      · rw [if_pos c5] at H
        have c5b0 : decide (0 ≤ a1) = true := decide_eq_true c5
        clear c5
        by_cases c6 : a1 < (a0.size : Int)
        · rw [if_pos c6] at H
          have c6b0 : decide (a1 < (a0.size : Int)) = true := decide_eq_true c6
          clear c6
          obtain ⟨ji8, hji8⟩ : ∃ j_ : Int, (wrap64 (a1 + 1)) = j_ := ⟨_, rfl⟩
          replace H : (if 0 ≤ (ji8) then (if (ji8) < (a0.size : Int) then (some (Go.bits .or .u16 (IntKind.u16.wrap ((IntKind.u16.wrap (bt a0 a1)) * 256)) (IntKind.u16.wrap (bt a0 (ji8))), true)) else (none)) else (none)) = some (r1, r2) := by first | (rw [hji8] at H; exact H) | (simp only [hji8] at H ⊢; exact H)
          have hji8w : (IntKind.i64.wrap (a1 + 1)) = ji8 := (i64_w _).trans hji8
          by_cases c9 : 0 ≤ (ji8)
          · rw [if_pos c9] at H
            have c9b0 : decide (0 ≤ (ji8)) = true := decide_eq_true c9
            clear c9
            by_cases c10 : (ji8) < (a0.size : Int)
            · rw [if_pos c10] at H
              have c10b0 : decide ((ji8) < (a0.size : Int)) = true := decide_eq_true c10
              clear c10
              simp only [Option.some.injEq, Prod.mk.injEq] at H
              obtain ⟨rfl, rfl⟩ := H
              have p7 : 0 ≤ (a1 : Int) := of_decide_eq_true (by first | (with_reducible assumption) | assumption)
              have q7 : a1 < (a0.size : Int) := of_decide_eq_true (by first | (with_reducible assumption) | assumption)
              have hx7 := bt_at a0 a1
              replace p7 := eq_true p7
              replace q7 := eq_true q7
              have p11 : 0 ≤ ((ji8) : Int) := of_decide_eq_true (by first | (with_reducible assumption) | assumption)
              have q11 : (ji8) < (a0.size : Int) := of_decide_eq_true (by first | (with_reducible assumption) | assumption)
              have hx11 := bt_at a0 (ji8)
              replace p11 := eq_true p11
              replace q11 := eq_true q11
              go_enter Try.func30, Try.ntmps30
              go_wp2
              repeat (go_quiet (fail); try go_wp2)
              go_ret2
              exact ⟨by first | rfl | (simp; done) | (simp only [← hji8] <;> (first | rfl | simp)) | (simp [*]; done), by repeat (first | exact Drawn0.refl _ | apply Drawn0.step)⟩
            · rw [if_neg c10] at H
              exact absurd H (by simp)
          · rw [if_neg c9] at H
            exact absurd H (by simp)
        · rw [if_neg c6] at H
          exact absurd H (by simp)
      · rw [if_neg c5] at H
        exact absurd H (by simp)

/-! ### num_Get32: function 22 -/
def num_Get32.f (a0 : ByteArray) (a1 : Int) : Option (Int × Bool) := (num_Get16.f a0 a1).bind fun bt160 => ((num_Get16.f a0 (wrap64 (a1 + 2))).bind fun bt162 => (if bt160.2 = true then (if bt162.2 = true then (some (Go.bits .or .u32 ((((bt160.1) % 4294967296) * 65536) % 4294967296) ((bt162.1) % 4294967296), true)) else (some (0, false))) else (some (0, false))))
set_option maxHeartbeats 8000000 in
set_option maxRecDepth 100000 in
theorem num_Get32.calls (a0 : ByteArray) (a1 : Int) (r1 : Int) (r2 : Bool) (w : World) (h : num_Get32.f a0 a1 = some (r1, r2)) :
    Calls Try.prog 22 #[.string a0, .int .i64 a1] w fun e w' => e = .returned (.tuple #[.int .u32 r1, .bool r2]) ∧ Drawn0 w w' := by
  have H : ((num_Get16.f a0 a1).bind fun bt160 => ((num_Get16.f a0 (wrap64 (a1 + 2))).bind fun bt162 => (if bt160.2 = true then (if bt162.2 = true then (some (Go.bits .or .u32 ((((bt160.1) % 4294967296) * 65536) % 4294967296) ((bt162.1) % 4294967296), true)) else (some (0, false))) else (some (0, false))))) = some (r1, r2) := h
  clear h
  replace H := Option.bind_eq_some_iff.mp H
  obtain ⟨⟨t160, t161⟩, A30, H⟩ := H
  replace H : ((num_Get16.f a0 (wrap64 (a1 + 2))).bind fun bt162 => (if t161 = true then (if bt162.2 = true then (some (Go.bits .or .u32 ((((t160) % 4294967296) * 65536) % 4294967296) ((bt162.1) % 4294967296), true)) else (some (0, false))) else (some (0, false)))) = some (r1, r2) := H
  have A3 := Aside0.mk A30
  clear A30
  replace H := Option.bind_eq_some_iff.mp H
  obtain ⟨⟨t162, t163⟩, A40, H⟩ := H
  replace H : (if t161 = true then (if t163 = true then (some (Go.bits .or .u32 ((((t160) % 4294967296) * 65536) % 4294967296) ((t162) % 4294967296), true)) else (some (0, false))) else (some (0, false))) = some (r1, r2) := H
  have A4 := Aside0.mk A40
  clear A40
  by_cases c5 : t161 = true
  · subst c5
    have H1 : (if t163 = true then (some (Go.bits .or .u32 ((((t160) % 4294967296) * 65536) % 4294967296) ((t162) % 4294967296), true)) else (some (0, false))) = some (r1, r2) := by rw [if_pos rfl] at H; exact H
    clear H
    have H := H1
    clear H1
    by_cases c6 : t163 = true
    · subst c6
      have H1 : (some (Go.bits .or .u32 ((((t160) % 4294967296) * 65536) % 4294967296) ((t162) % 4294967296), true)) = some (r1, r2) := by rw [if_pos rfl] at H; exact H
      clear H
      have H := H1
      clear H1
      simp only [Option.some.injEq, Prod.mk.injEq] at H
      obtain ⟨rfl, rfl⟩ := H
      go_enter Try.func22, Try.ntmps22
      go_wp2_with (first | ((with_reducible refine gate_callee (f := 30) rfl ?_); refine goesL_ (some 13) rfl rfl Try.func30 (by kernel_rfl) rfl #[.string a0, .int .i64 a1] rfl (by (try simp only [List.map_toArray, List.map_cons, List.map_nil]); first | done | rfl | (simp only [List.length_drop, List.length_take]; rfl)) ?_; (with_reducible refine (num_Get16.calls a0 a1 t160 true _ A3.out).mono ?_); rintro e w' ⟨rfl, ⟨nd, rfl⟩⟩; refine ⟨_, rfl, ?_⟩) | ((with_reducible refine gate_callee (f := 30) rfl ?_); refine goesL_ (some 20) rfl rfl Try.func30 (by kernel_rfl) rfl #[.string a0, .int .i64 (wrap64 (a1 + 2))] rfl (by (try simp only [List.map_toArray, List.map_cons, List.map_nil]); first | done | rfl | (simp only [List.length_drop, List.length_take]; rfl)) ?_; (with_reducible refine (num_Get16.calls a0 (wrap64 (a1 + 2)) t162 true _ A4.out).mono ?_); rintro e w' ⟨rfl, ⟨nd, rfl⟩⟩; refine ⟨_, rfl, ?_⟩))
      go_ret2
      exact ⟨by first | rfl | (simp; done) | (simp [*]; done), by repeat (first | exact Drawn0.refl _ | apply Drawn0.step)⟩
    · replace c6 := Bool.eq_false_iff.mpr c6
      subst c6
      have H1 : (some (0, false)) = some (r1, r2) := by rw [if_neg (show ¬ (false = true) by decide)] at H; exact H
      clear H
      have H := H1
      clear H1
      simp only [Option.some.injEq, Prod.mk.injEq] at H
      obtain ⟨rfl, rfl⟩ := H
      go_enter Try.func22, Try.ntmps22
      go_wp2_with (first | ((with_reducible refine gate_callee (f := 30) rfl ?_); refine goesL_ (some 13) rfl rfl Try.func30 (by kernel_rfl) rfl #[.string a0, .int .i64 a1] rfl (by (try simp only [List.map_toArray, List.map_cons, List.map_nil]); first | done | rfl | (simp only [List.length_drop, List.length_take]; rfl)) ?_; (with_reducible refine (num_Get16.calls a0 a1 t160 true _ A3.out).mono ?_); rintro e w' ⟨rfl, ⟨nd, rfl⟩⟩; refine ⟨_, rfl, ?_⟩) | ((with_reducible refine gate_callee (f := 30) rfl ?_); refine goesL_ (some 20) rfl rfl Try.func30 (by kernel_rfl) rfl #[.string a0, .int .i64 (wrap64 (a1 + 2))] rfl (by (try simp only [List.map_toArray, List.map_cons, List.map_nil]); first | done | rfl | (simp only [List.length_drop, List.length_take]; rfl)) ?_; (with_reducible refine (num_Get16.calls a0 (wrap64 (a1 + 2)) t162 false _ A4.out).mono ?_); rintro e w' ⟨rfl, ⟨nd, rfl⟩⟩; refine ⟨_, rfl, ?_⟩))
      go_ret2
      exact ⟨by first | rfl | (simp; done) | (simp [*]; done), by repeat (first | exact Drawn0.refl _ | apply Drawn0.step)⟩
  · replace c5 := Bool.eq_false_iff.mpr c5
    subst c5
    have H1 : (some (0, false)) = some (r1, r2) := by rw [if_neg (show ¬ (false = true) by decide)] at H; exact H
    clear H
    have H := H1
    clear H1
    simp only [Option.some.injEq, Prod.mk.injEq] at H
    obtain ⟨rfl, rfl⟩ := H
    go_enter Try.func22, Try.ntmps22
    go_wp2_with (first | ((with_reducible refine gate_callee (f := 30) rfl ?_); refine goesL_ (some 13) rfl rfl Try.func30 (by kernel_rfl) rfl #[.string a0, .int .i64 a1] rfl (by (try simp only [List.map_toArray, List.map_cons, List.map_nil]); first | done | rfl | (simp only [List.length_drop, List.length_take]; rfl)) ?_; (with_reducible refine (num_Get16.calls a0 a1 t160 false _ A3.out).mono ?_); rintro e w' ⟨rfl, ⟨nd, rfl⟩⟩; refine ⟨_, rfl, ?_⟩) | ((with_reducible refine gate_callee (f := 30) rfl ?_); refine goesL_ (some 20) rfl rfl Try.func30 (by kernel_rfl) rfl #[.string a0, .int .i64 (wrap64 (a1 + 2))] rfl (by (try simp only [List.map_toArray, List.map_cons, List.map_nil]); first | done | rfl | (simp only [List.length_drop, List.length_take]; rfl)) ?_; (with_reducible refine (num_Get16.calls a0 (wrap64 (a1 + 2)) t162 t163 _ A4.out).mono ?_); rintro e w' ⟨rfl, ⟨nd, rfl⟩⟩; refine ⟨_, rfl, ?_⟩))
    go_ret2
    exact ⟨by first | rfl | (simp; done) | (simp [*]; done), by repeat (first | exact Drawn0.refl _ | apply Drawn0.step)⟩


/-! ### soa_Parse: function 12 (by hand) -/
namespace soa_Parse
section
open Go.Proofs.Ytpjdemddflnleaa.Heap
theorem below_trans2 {w W w2 : World} {o1 o2 : Obj} (hW : (w.alloc o1).alloc o2 = W) (hb : Below W.heap.size W w2) : Below w.heap.size w w2 := by
  have h1 : Below w.heap.size w W := by rw [← hW]; exact below_alloc (below_alloc (Below.refl _ _) _) _
  exact h1.trans (hb.mono h1.size)
def soaV (a b : ByteArray) (n0 n1 n2 n3 n4 : Int) : Array Value := #[.string a, .string b, .int .u32 n0, .int .u32 n1, .int .u32 n2, .int .u32 n3, .int .u32 n4]
def soaZ : Array Value := #[.string ⟨#[]⟩, .string ⟨#[]⟩, .int .u32 0, .int .u32 0, .int .u32 0, .int .u32 0, .int .u32 0]
theorem soa_hi : Option.map (fun x => x.size) (Try.prog.info? 28) = some 7 := by kernel_rfl
set_option maxHeartbeats 2000000 in
theorem parse_no1 (w : World) (d m d1 : ByteArray) (k : Nat) (h : point_Cut.f k d = some (m, d1, false)) :
    Calls Try.prog 12 #[.string d] w fun e w' => e = .returned (.tuple #[.agg soaZ, .bool false]) ∧ Below w.heap.size w w' := by
  have H1 := Lib.hid h
  clear h
  go_enter Try.func12, Try.ntmps12
  go_wp2_with fail
  refine (point_Cut.calls k d m d1 false _ H1.out).mono ?_
  rintro e w2 ⟨rfl, hb⟩
  obtain ⟨W, hW⟩ : ∃ W, (w.alloc (.cells soaZ 28)).alloc (.cells soaZ 28) = W := ⟨_, rfl⟩
  obtain ⟨h2, h4, hs⟩ := two_boxes w (.cells soaZ 28) (.cells soaZ 28)
  rw [hW] at h2 h4 hs
  have hb' : Below W.heap.size W w2 := by rw [← hW]; exact hb
  have HB0 := Lib.hid (below_trans2 hW hb')
  have k2 := blk_below h2 hb'
  have k4 := blk_below h4 hb'
  obtain ⟨g2, hg2⟩ : ∃ g2, w.heap.size = g2 := ⟨_, rfl⟩
  obtain ⟨g4, hg4⟩ : ∃ g4, g2 + 1 = g4 := ⟨_, rfl⟩
  rw [hg2] at k2 k4
  rw [hg4] at k4
  (try simp only [hg2, hg4])
  have hne : g2 ≠ g4 := by omega
  have hwg : w.heap.size ≤ g2 ∧ w.heap.size ≤ g4 := by omega
  have HK2 := Lib.hid k2
  clear h2 h4 hs hb hb' hW hg4
  obtain ⟨c20, c21, c22, c23, c24, c25, c26⟩ := cells7 k2
  obtain ⟨f20, f21, f22, f23, f24, f25, f26⟩ := froz7 k2
  obtain ⟨c40, -⟩ := cells7 k4
  obtain ⟨f40, -⟩ := froz7 k4
  clear k2 k4
  go_wp2
  have hB := putB7 (HB0.out.setCell (p := ⟨g4, 0, none⟩) hwg.2 (.string m)) hwg.1 (b0 := .string ⟨#[]⟩) (b1 := .string ⟨#[]⟩) (b2 := .int .u32 0) (b3 := .int .u32 0) (b4 := .int .u32 0) (b5 := .int .u32 0) (b6 := .int .u32 0)
  have hK := put7 (blk_far HK2.out (p := ⟨g4, 0, none⟩) hne (.string m)) (b0 := .string ⟨#[]⟩) (b1 := .string ⟨#[]⟩) (b2 := .int .u32 0) (b3 := .int .u32 0) (b4 := .int .u32 0) (b5 := .int .u32 0) (b6 := .int .u32 0)
  exact bodyPost_ret (results_list (rs := [.cell 2 28, .tmp 3]) rfl (by simp) (.cell g2 _ _ (0, 0) _ rfl hK Try.underlying28 rfl soa_hi (.tmp .nil))) rfl ⟨rfl, hB⟩
set_option maxHeartbeats 2000000 in
theorem parse_no2 (w : World) (d m d1 m2 d2 : ByteArray) (ok2 : Bool) (k : Nat) (h1 : point_Cut.f k d = some (m, d1, true)) (h2 : point_Cut.f k d1 = some (m2, d2, ok2)) (hbad : ok2 = false ∨ ok2 = true ∧ d2.size ≠ 20) :
    Calls Try.prog 12 #[.string d] w fun e w' => e = .returned (.tuple #[.agg soaZ, .bool false]) ∧ Below w.heap.size w w' := by
  have H1 := Lib.hid h1
  have H2 := Lib.hid h2
  clear h1 h2
  go_enter Try.func12, Try.ntmps12
  go_wp2_with fail
  refine (point_Cut.calls k d m d1 true _ H1.out).mono ?_
  rintro e w2 ⟨rfl, hb⟩
  obtain ⟨W, hW⟩ : ∃ W, (w.alloc (.cells soaZ 28)).alloc (.cells soaZ 28) = W := ⟨_, rfl⟩
  obtain ⟨h2, h4, hs⟩ := two_boxes w (.cells soaZ 28) (.cells soaZ 28)
  rw [hW] at h2 h4 hs
  have hb' : Below W.heap.size W w2 := by rw [← hW]; exact hb
  have hB0 := below_trans2 hW hb'
  have k2 := blk_below h2 hb'
  have k4 := blk_below h4 hb'
  obtain ⟨g2, hg2⟩ : ∃ g2, w.heap.size = g2 := ⟨_, rfl⟩
  obtain ⟨g4, hg4⟩ : ∃ g4, g2 + 1 = g4 := ⟨_, rfl⟩
  rw [hg2] at k2 k4
  rw [hg4] at k4
  (try simp only [hg2, hg4])
  have hne : g2 ≠ g4 := by omega
  have hwg : w.heap.size ≤ g2 ∧ w.heap.size ≤ g4 := by omega
  have HK2 := Lib.hid k2
  have HK4 := Lib.hid k4
  obtain ⟨c40, -⟩ := cells7 k4
  obtain ⟨f40, -⟩ := froz7 k4
  have HB0 := Lib.hid hB0
  clear h2 h4 hs hb hb' hW hg4 k2 k4 hB0
  go_wp2_with fail
  have hb0 : Below w.heap.size w (w2.setCell ⟨g4, 0, none⟩ (.string m)) := HB0.out.setCell (p := ⟨g4, 0, none⟩) hwg.2 (.string m)
  refine (point_Cut.calls k d1 m2 d2 ok2 _ H2.out).mono ?_
  rintro e w3 ⟨rfl, hb⟩
  have k2 := blk_below (blk_far HK2.out (p := ⟨g4, 0, none⟩) hne (.string m)) hb
  have k4 := blk_below (blk_set HK4.out 0 (.string m)) hb
  have k4 : w3.heap[g4]? = some (.cells #[.string m, .string ⟨#[]⟩, .int .u32 0, .int .u32 0, .int .u32 0, .int .u32 0, .int .u32 0] 28 (0, 0)) := k4
  have HB := Lib.hid (hb0.trans (hb.mono hb0.size))
  have HJ2 := Lib.hid k2
  have HJ4 := Lib.hid k4
  clear hb0 hb HB0 HK2 HK4 c40 f40 H1 H2
  obtain ⟨c20, c21, c22, c23, c24, c25, c26⟩ := cells7 k2
  obtain ⟨f20, f21, f22, f23, f24, f25, f26⟩ := froz7 k2
  obtain ⟨-, c41, -⟩ := cells7 k4
  obtain ⟨-, f41, -⟩ := froz7 k4
  clear k2 k4
  rcases hbad with rfl | ⟨rfl, hsz⟩
  all_goals
    (try have hs1 : (d2.size : Int) ≠ 20 := by omega)
    (try have hs2 : decide ((d2.size : Int) = 20) = false := decide_eq_false hs1)
    (try have hs3 : ((d2.size : Int) == 20) = false := hs2)
    go_wp2
    have hB := putB7 (HB.out.setCell (p := ⟨g4, 1, none⟩) hwg.2 (.string m2)) hwg.1 (b0 := .string ⟨#[]⟩) (b1 := .string ⟨#[]⟩) (b2 := .int .u32 0) (b3 := .int .u32 0) (b4 := .int .u32 0) (b5 := .int .u32 0) (b6 := .int .u32 0)
    have hK := put7 (blk_far HJ2.out (p := ⟨g4, 1, none⟩) hne (.string m2)) (b0 := .string ⟨#[]⟩) (b1 := .string ⟨#[]⟩) (b2 := .int .u32 0) (b3 := .int .u32 0) (b4 := .int .u32 0) (b5 := .int .u32 0) (b6 := .int .u32 0)
    exact bodyPost_ret (results_list (rs := [.cell 2 28, .tmp 3]) rfl (by simp) (.cell g2 _ _ (0, 0) _ rfl hK Try.underlying28 rfl soa_hi (.tmp .nil))) rfl ⟨rfl, hB⟩
/-- The struct while its numbers are read. -/
def soaJ (a b : ByteArray) (n : Nat → Int) (j : Nat) : Array Value := soaV a b (if 0 < j then n 0 else 0) (if 1 < j then n 1 else 0) (if 2 < j then n 2 else 0) (if 3 < j then n 3 else 0) (if 4 < j then n 4 else 0)
set_option maxHeartbeats 4000000 in
theorem parse_yes (w : World) (d m d1 m2 d2 : ByteArray) (n : Nat → Int) (k : Nat) (h1 : point_Cut.f k d = some (m, d1, true)) (h2 : point_Cut.f k d1 = some (m2, d2, true)) (hsz : d2.size = 20)
    (hn : ∀ j : Nat, j < 5 → num_Get32.f d2 (4 * (j : Int)) = some (n j, true)) :
    Calls Try.prog 12 #[.string d] w fun e w' => e = .returned (.tuple #[.agg (soaV m m2 (n 0) (n 1) (n 2) (n 3) (n 4)), .bool true]) ∧ Below w.heap.size w w' := by
  have HN := Lib.hid hn
  clear hn
  have HSZ := Lib.hid hsz
  clear hsz
  have H1 := Lib.hid h1
  have H2 := Lib.hid h2
  clear h1 h2
  go_enter Try.func12, Try.ntmps12
  go_wp2_with fail
  refine (point_Cut.calls k d m d1 true _ H1.out).mono ?_
  rintro e w2 ⟨rfl, hb⟩
  obtain ⟨W, hW⟩ : ∃ W, (w.alloc (.cells soaZ 28)).alloc (.cells soaZ 28) = W := ⟨_, rfl⟩
  obtain ⟨h2, h4, hs⟩ := two_boxes w (.cells soaZ 28) (.cells soaZ 28)
  rw [hW] at h2 h4 hs
  have hb' : Below W.heap.size W w2 := by rw [← hW]; exact hb
  have hB0 := below_trans2 hW hb'
  have k2 := blk_below h2 hb'
  have k4 := blk_below h4 hb'
  obtain ⟨g2, hg2⟩ : ∃ g2, w.heap.size = g2 := ⟨_, rfl⟩
  obtain ⟨g4, hg4⟩ : ∃ g4, g2 + 1 = g4 := ⟨_, rfl⟩
  rw [hg2] at k2 k4
  rw [hg4] at k4
  (try simp only [hg2, hg4])
  have hne : g2 ≠ g4 := by omega
  have hwg : w.heap.size ≤ g2 ∧ w.heap.size ≤ g4 := by omega
  have HK2 := Lib.hid k2
  have HK4 := Lib.hid k4
  obtain ⟨c40, -⟩ := cells7 k4
  obtain ⟨f40, -⟩ := froz7 k4
  have HB0 := Lib.hid hB0
  clear h2 h4 hs hb hb' hW hg4 k2 k4 hB0
  go_wp2_with fail
  have hb0 : Below w.heap.size w (w2.setCell ⟨g4, 0, none⟩ (.string m)) := HB0.out.setCell (p := ⟨g4, 0, none⟩) hwg.2 (.string m)
  refine (point_Cut.calls k d1 m2 d2 true _ H2.out).mono ?_
  rintro e w3 ⟨rfl, hb⟩
  have k2 := blk_below (blk_far HK2.out (p := ⟨g4, 0, none⟩) hne (.string m)) hb
  have k4 := blk_below (blk_set HK4.out 0 (.string m)) hb
  have k4 : w3.heap[g4]? = some (.cells #[.string m, .string ⟨#[]⟩, .int .u32 0, .int .u32 0, .int .u32 0, .int .u32 0, .int .u32 0] 28 (0, 0)) := k4
  have HB := Lib.hid (hb0.trans (hb.mono hb0.size))
  have HJ2 := Lib.hid k2
  have HJ4 := Lib.hid k4
  clear hb0 hb HB0 HK2 HK4 c40 f40 H1 H2
  obtain ⟨-, c41, -⟩ := cells7 k4
  obtain ⟨-, f41, -⟩ := froz7 k4
  clear k2 k4
  have hs1 : (d2.size : Int) = 20 := by rw [HSZ.out]; rfl
  have hs2 : decide ((d2.size : Int) = 20) = true := decide_eq_true hs1
  have hs3 : ((d2.size : Int) == 20) = true := hs2
  have hs4 : ((d2.size : Int) != 20) = false := by rw [bne, hs3]; rfl
  clear hs1
  go_wp2_with fail
  have k4b := blk_set HJ4.out 1 (.string m2)
  have k2b := blk_far HJ2.out (p := ⟨g4, 1, none⟩) hne (.string m2)
  have hBb : Below w.heap.size w (w3.setCell ⟨g4, 1, none⟩ (.string m2)) := HB.out.setCell (p := ⟨g4, 1, none⟩) hwg.2 (.string m2)
  obtain ⟨w4, hw4⟩ : ∃ w4, w3.setCell ⟨g4, 1, none⟩ (.string m2) = w4 := ⟨_, rfl⟩
  obtain ⟨g5, hg3⟩ : ∃ g5, w3.heap.size = g5 := ⟨_, rfl⟩
  have hg5 : w4.heap.size = g5 := by rw [← hw4, World.size_setCell]; exact hg3
  rw [hw4] at k4b k2b hBb
  rw [hw4]
  rw [hg3]
  clear hg3
  clear c41 f41 HB HJ2 HJ4 hs2 hs3 hs4 hw4
  have hnew := blk_new w4 (.cells #[.pointer (some ⟨g4, 2, none⟩), .pointer (some ⟨g4, 3, none⟩), .pointer (some ⟨g4, 4, none⟩), .pointer (some ⟨g4, 5, none⟩), .pointer (some ⟨g4, 6, none⟩)] 56)
  have h45 : g4 ≠ g5 := by have := blk_lt k4b; omega
  have h25 : g2 ≠ g5 := by have := blk_lt k2b; omega
  have hw5 : w.heap.size ≤ g5 := by have := hBb.size; omega
  rw [hg5] at hnew
  (try rw [hg5])
  have J2 := Lib.hid (blk_alloc k2b (.cells #[.pointer (some ⟨g4, 2, none⟩), .pointer (some ⟨g4, 3, none⟩), .pointer (some ⟨g4, 4, none⟩), .pointer (some ⟨g4, 5, none⟩), .pointer (some ⟨g4, 6, none⟩)] 56))
  have J4 := Lib.hid (blk_alloc k4b (.cells #[.pointer (some ⟨g4, 2, none⟩), .pointer (some ⟨g4, 3, none⟩), .pointer (some ⟨g4, 4, none⟩), .pointer (some ⟨g4, 5, none⟩), .pointer (some ⟨g4, 6, none⟩)] 56))
  have J5 := Lib.hid hnew
  have JB := Lib.hid (below_alloc hBb (.cells #[.pointer (some ⟨g4, 2, none⟩), .pointer (some ⟨g4, 3, none⟩), .pointer (some ⟨g4, 4, none⟩), .pointer (some ⟨g4, 5, none⟩), .pointer (some ⟨g4, 6, none⟩)] 56))
  clear k2b k4b hBb hnew hg5
  go_loopw [40] (fun i wr => ∃ j : Nat, j ≤ 5 ∧ i = .int .i64 j ∧ Aside0 (wr.heap[g4]? = some (.cells (soaJ m m2 n j) 28 (0, 0))) ∧ Aside0 (wr.heap[g2]? = some (.cells soaZ 28 (0, 0))) ∧ Aside0 (wr.heap[g5]? = some (.cells #[.pointer (some ⟨g4, 2, none⟩), .pointer (some ⟨g4, 3, none⟩), .pointer (some ⟨g4, 4, none⟩), .pointer (some ⟨g4, 5, none⟩), .pointer (some ⟨g4, 6, none⟩)] 56 (0, 0))) ∧ Aside0 (Below w.heap.size w wr))
    (fun i _ => 5 - (intOf i).toNat)
  case atStart => exact ⟨0, by omega, rfl, ⟨J4.out⟩, ⟨J2.out⟩, ⟨J5.out⟩, ⟨JB.out⟩⟩
  case round =>
    obtain ⟨j, hj, rfl, A4, A2, A5, AB⟩ := hrel
    clear J2 J4 J5 JB
    have k4 := A4.out
    have k5 := A5.out
    have hcase : j = 0 ∨ j = 1 ∨ j = 2 ∨ j = 3 ∨ j = 4 ∨ j = 5 := by omega
    rcases hcase with rfl | rfl | rfl | rfl | rfl | rfl
    case inr.inr.inr.inr.inr =>
      clear k5
      have k2 := A2.out
      have k4 : wr.heap[g4]? = some (.cells #[.string m, .string m2, .int .u32 (n 0), .int .u32 (n 1), .int .u32 (n 2), .int .u32 (n 3), .int .u32 (n 4)] 28 (0, 0)) := k4
      obtain ⟨c20, c21, c22, c23, c24, c25, c26⟩ := cells7 k2
      obtain ⟨f20, f21, f22, f23, f24, f25, f26⟩ := froz7 k2
      obtain ⟨c40, c41, c42, c43, c44, c45, c46⟩ := cells7 k4
      clear k2 k4
      go_wp2
      have hB := putB7 AB.out hwg.1 (b0 := .string m) (b1 := .string m2) (b2 := .int .u32 (n 0)) (b3 := .int .u32 (n 1)) (b4 := .int .u32 (n 2)) (b5 := .int .u32 (n 3)) (b6 := .int .u32 (n 4))
      have hK := put7 A2.out (b0 := .string m) (b1 := .string m2) (b2 := .int .u32 (n 0)) (b3 := .int .u32 (n 1)) (b4 := .int .u32 (n 2)) (b5 := .int .u32 (n 3)) (b6 := .int .u32 (n 4))
      exact bodyPost_ret (results_list (rs := [.cell 2 28, .tmp 3]) rfl (by simp) (.cell g2 _ _ (0, 0) _ rfl hK Try.underlying28 rfl soa_hi (.tmp .nil))) rfl ⟨rfl, hB⟩
    case inl =>
      have k4 : wr.heap[g4]? = some (.cells #[.string m, .string m2, .int .u32 0, .int .u32 0, .int .u32 0, .int .u32 0, .int .u32 0] 28 (0, 0)) := k4
      obtain ⟨c5, -⟩ := cells5 (w := wr) k5
      obtain ⟨-, -, c4, -⟩ := cells7 (w := wr) k4
      obtain ⟨-, -, f4, -⟩ := froz7 (w := wr) k4
      clear k4 k5
      go_wp2_with fail
      refine (num_Get32.calls d2 0 (n 0) true wr (HN.out 0 (by omega))).mono ?_
      rintro e w' ⟨rfl, ⟨nn, rfl⟩⟩
      go_wp2
      have k4' : ((wr.drewN nn).setCell ⟨g4, 2, none⟩ (.int .u32 (n 0))).heap[g4]? = some (.cells #[.string m, .string m2, .int .u32 (n 0), .int .u32 0, .int .u32 0, .int .u32 0, .int .u32 0] 28 (0, 0)) := by
        have := blk_set (w := wr.drewN nn) (blk_drewN A4.out nn) 2 (.int .u32 (n 0))
        simpa [soaJ, soaV] using this
      have k2' := blk_far (w := wr.drewN nn) (blk_drewN A2.out nn) (p := ⟨g4, 2, none⟩) hne (.int .u32 (n 0))
      have k5' := blk_far (w := wr.drewN nn) (blk_drewN A5.out nn) (p := ⟨g4, 2, none⟩) h45.symm (.int .u32 (n 0))
      have hB' : Below w.heap.size w ((wr.drewN nn).setCell ⟨g4, 2, none⟩ (.int .u32 (n 0))) := (pw_below_drewN AB.out nn).setCell (p := ⟨g4, 2, none⟩) hwg.2 _
      go_roundw
      case rel => first | exact ⟨1, by omega, by go_num, ⟨by exact k4'⟩, ⟨k2'⟩, ⟨k5'⟩, ⟨hB'⟩⟩ | ((repeat apply Exists.intro); exact ⟨⟨1, by omega, by go_num, ⟨by exact k4'⟩, ⟨k2'⟩, ⟨k5'⟩, ⟨hB'⟩⟩, rfl⟩)
      case measure => simp [intOf]
    case inr.inl =>
      have k4 : wr.heap[g4]? = some (.cells #[.string m, .string m2, .int .u32 (n 0), .int .u32 0, .int .u32 0, .int .u32 0, .int .u32 0] 28 (0, 0)) := k4
      obtain ⟨-, c5, -⟩ := cells5 (w := wr) k5
      obtain ⟨-, -, -, c4, -⟩ := cells7 (w := wr) k4
      obtain ⟨-, -, -, f4, -⟩ := froz7 (w := wr) k4
      clear k4 k5
      go_wp2_with fail
      refine (num_Get32.calls d2 4 (n 1) true wr (HN.out 1 (by omega))).mono ?_
      rintro e w' ⟨rfl, ⟨nn, rfl⟩⟩
      go_wp2
      have k4' : ((wr.drewN nn).setCell ⟨g4, 3, none⟩ (.int .u32 (n 1))).heap[g4]? = some (.cells #[.string m, .string m2, .int .u32 (n 0), .int .u32 (n 1), .int .u32 0, .int .u32 0, .int .u32 0] 28 (0, 0)) := by
        have := blk_set (w := wr.drewN nn) (blk_drewN A4.out nn) 3 (.int .u32 (n 1))
        simpa [soaJ, soaV] using this
      have k2' := blk_far (w := wr.drewN nn) (blk_drewN A2.out nn) (p := ⟨g4, 3, none⟩) hne (.int .u32 (n 1))
      have k5' := blk_far (w := wr.drewN nn) (blk_drewN A5.out nn) (p := ⟨g4, 3, none⟩) h45.symm (.int .u32 (n 1))
      have hB' : Below w.heap.size w ((wr.drewN nn).setCell ⟨g4, 3, none⟩ (.int .u32 (n 1))) := (pw_below_drewN AB.out nn).setCell (p := ⟨g4, 3, none⟩) hwg.2 _
      go_roundw
      case rel => first | exact ⟨2, by omega, by go_num, ⟨by exact k4'⟩, ⟨k2'⟩, ⟨k5'⟩, ⟨hB'⟩⟩ | ((repeat apply Exists.intro); exact ⟨⟨2, by omega, by go_num, ⟨by exact k4'⟩, ⟨k2'⟩, ⟨k5'⟩, ⟨hB'⟩⟩, rfl⟩)
      case measure => simp [intOf]
    case inr.inr.inl =>
      have k4 : wr.heap[g4]? = some (.cells #[.string m, .string m2, .int .u32 (n 0), .int .u32 (n 1), .int .u32 0, .int .u32 0, .int .u32 0] 28 (0, 0)) := k4
      obtain ⟨-, -, c5, -⟩ := cells5 (w := wr) k5
      obtain ⟨-, -, -, -, c4, -⟩ := cells7 (w := wr) k4
      obtain ⟨-, -, -, -, f4, -⟩ := froz7 (w := wr) k4
      clear k4 k5
      go_wp2_with fail
      refine (num_Get32.calls d2 8 (n 2) true wr (HN.out 2 (by omega))).mono ?_
      rintro e w' ⟨rfl, ⟨nn, rfl⟩⟩
      go_wp2
      have k4' : ((wr.drewN nn).setCell ⟨g4, 4, none⟩ (.int .u32 (n 2))).heap[g4]? = some (.cells #[.string m, .string m2, .int .u32 (n 0), .int .u32 (n 1), .int .u32 (n 2), .int .u32 0, .int .u32 0] 28 (0, 0)) := by
        have := blk_set (w := wr.drewN nn) (blk_drewN A4.out nn) 4 (.int .u32 (n 2))
        simpa [soaJ, soaV] using this
      have k2' := blk_far (w := wr.drewN nn) (blk_drewN A2.out nn) (p := ⟨g4, 4, none⟩) hne (.int .u32 (n 2))
      have k5' := blk_far (w := wr.drewN nn) (blk_drewN A5.out nn) (p := ⟨g4, 4, none⟩) h45.symm (.int .u32 (n 2))
      have hB' : Below w.heap.size w ((wr.drewN nn).setCell ⟨g4, 4, none⟩ (.int .u32 (n 2))) := (pw_below_drewN AB.out nn).setCell (p := ⟨g4, 4, none⟩) hwg.2 _
      go_roundw
      case rel => first | exact ⟨3, by omega, by go_num, ⟨by exact k4'⟩, ⟨k2'⟩, ⟨k5'⟩, ⟨hB'⟩⟩ | ((repeat apply Exists.intro); exact ⟨⟨3, by omega, by go_num, ⟨by exact k4'⟩, ⟨k2'⟩, ⟨k5'⟩, ⟨hB'⟩⟩, rfl⟩)
      case measure => simp [intOf]
    case inr.inr.inr.inl =>
      have k4 : wr.heap[g4]? = some (.cells #[.string m, .string m2, .int .u32 (n 0), .int .u32 (n 1), .int .u32 (n 2), .int .u32 0, .int .u32 0] 28 (0, 0)) := k4
      obtain ⟨-, -, -, c5, -⟩ := cells5 (w := wr) k5
      obtain ⟨-, -, -, -, -, c4, -⟩ := cells7 (w := wr) k4
      obtain ⟨-, -, -, -, -, f4, -⟩ := froz7 (w := wr) k4
      clear k4 k5
      go_wp2_with fail
      refine (num_Get32.calls d2 12 (n 3) true wr (HN.out 3 (by omega))).mono ?_
      rintro e w' ⟨rfl, ⟨nn, rfl⟩⟩
      go_wp2
      have k4' : ((wr.drewN nn).setCell ⟨g4, 5, none⟩ (.int .u32 (n 3))).heap[g4]? = some (.cells #[.string m, .string m2, .int .u32 (n 0), .int .u32 (n 1), .int .u32 (n 2), .int .u32 (n 3), .int .u32 0] 28 (0, 0)) := by
        have := blk_set (w := wr.drewN nn) (blk_drewN A4.out nn) 5 (.int .u32 (n 3))
        simpa [soaJ, soaV] using this
      have k2' := blk_far (w := wr.drewN nn) (blk_drewN A2.out nn) (p := ⟨g4, 5, none⟩) hne (.int .u32 (n 3))
      have k5' := blk_far (w := wr.drewN nn) (blk_drewN A5.out nn) (p := ⟨g4, 5, none⟩) h45.symm (.int .u32 (n 3))
      have hB' : Below w.heap.size w ((wr.drewN nn).setCell ⟨g4, 5, none⟩ (.int .u32 (n 3))) := (pw_below_drewN AB.out nn).setCell (p := ⟨g4, 5, none⟩) hwg.2 _
      go_roundw
      case rel => first | exact ⟨4, by omega, by go_num, ⟨by exact k4'⟩, ⟨k2'⟩, ⟨k5'⟩, ⟨hB'⟩⟩ | ((repeat apply Exists.intro); exact ⟨⟨4, by omega, by go_num, ⟨by exact k4'⟩, ⟨k2'⟩, ⟨k5'⟩, ⟨hB'⟩⟩, rfl⟩)
      case measure => simp [intOf]
    case inr.inr.inr.inr.inl =>
      have k4 : wr.heap[g4]? = some (.cells #[.string m, .string m2, .int .u32 (n 0), .int .u32 (n 1), .int .u32 (n 2), .int .u32 (n 3), .int .u32 0] 28 (0, 0)) := k4
      obtain ⟨-, -, -, -, c5⟩ := cells5 (w := wr) k5
      obtain ⟨-, -, -, -, -, -, c4⟩ := cells7 (w := wr) k4
      obtain ⟨-, -, -, -, -, -, f4⟩ := froz7 (w := wr) k4
      clear k4 k5
      go_wp2_with fail
      refine (num_Get32.calls d2 16 (n 4) true wr (HN.out 4 (by omega))).mono ?_
      rintro e w' ⟨rfl, ⟨nn, rfl⟩⟩
      go_wp2
      have k4' : ((wr.drewN nn).setCell ⟨g4, 6, none⟩ (.int .u32 (n 4))).heap[g4]? = some (.cells #[.string m, .string m2, .int .u32 (n 0), .int .u32 (n 1), .int .u32 (n 2), .int .u32 (n 3), .int .u32 (n 4)] 28 (0, 0)) := by
        have := blk_set (w := wr.drewN nn) (blk_drewN A4.out nn) 6 (.int .u32 (n 4))
        simpa [soaJ, soaV] using this
      have k2' := blk_far (w := wr.drewN nn) (blk_drewN A2.out nn) (p := ⟨g4, 6, none⟩) hne (.int .u32 (n 4))
      have k5' := blk_far (w := wr.drewN nn) (blk_drewN A5.out nn) (p := ⟨g4, 6, none⟩) h45.symm (.int .u32 (n 4))
      have hB' : Below w.heap.size w ((wr.drewN nn).setCell ⟨g4, 6, none⟩ (.int .u32 (n 4))) := (pw_below_drewN AB.out nn).setCell (p := ⟨g4, 6, none⟩) hwg.2 _
      go_roundw
      case rel => first | exact ⟨5, by omega, by go_num, ⟨by exact k4'⟩, ⟨k2'⟩, ⟨k5'⟩, ⟨hB'⟩⟩ | ((repeat apply Exists.intro); exact ⟨⟨5, by omega, by go_num, ⟨by exact k4'⟩, ⟨k2'⟩, ⟨k5'⟩, ⟨hB'⟩⟩, rfl⟩)
      case measure => simp [intOf]
end
end soa_Parse
def soa_Parse.f (k : Nat) (a0 : ByteArray) : Option (ByteArray × ByteArray × Int × Int × Int × Int × Int × Bool) :=
  (point_Cut.f k a0).bind fun p => if p.2.2 = true then
    (point_Cut.f k p.2.1).bind fun q => if q.2.2 = true then (if q.2.1.size = 20 then
      (num_Get32.f q.2.1 0).bind fun n0 => (num_Get32.f q.2.1 4).bind fun n1 => (num_Get32.f q.2.1 8).bind fun n2 => (num_Get32.f q.2.1 12).bind fun n3 => (num_Get32.f q.2.1 16).bind fun n4 =>
        if n0.2 = true ∧ n1.2 = true ∧ n2.2 = true ∧ n3.2 = true ∧ n4.2 = true then some (p.1, q.1, n0.1, n1.1, n2.1, n3.1, n4.1, true) else none
      else some (⟨#[]⟩, ⟨#[]⟩, 0, 0, 0, 0, 0, false)) else some (⟨#[]⟩, ⟨#[]⟩, 0, 0, 0, 0, 0, false)
  else some (⟨#[]⟩, ⟨#[]⟩, 0, 0, 0, 0, 0, false)
theorem soa_Parse.mono : ∀ a0 k, LeO (soa_Parse.f k a0) (soa_Parse.f (k + 1) a0) := by
  intro a0 k
  unfold soa_Parse.f
  repeat' first
      | (with_reducible exact point_Cut.mono _ _)
      | (with_reducible exact LeO.refl _)
      | (with_reducible refine LeO.bind ?_ (fun _ => ?_))
      | (with_reducible refine LeO.ite ?_ ?_)
theorem soa_Parse.calls (k : Nat) (a0 : ByteArray) (r1 r2 : ByteArray) (r3 r4 r5 r6 r7 : Int) (r8 : Bool) (w : World) (h : soa_Parse.f k a0 = some (r1, r2, r3, r4, r5, r6, r7, r8)) :
    Calls Try.prog 12 #[.string a0] w fun e w' => e = .returned (.tuple #[.agg #[.string r1, .string r2, .int .u32 r3, .int .u32 r4, .int .u32 r5, .int .u32 r6, .int .u32 r7], .bool r8]) ∧ Below w.heap.size w w' := by
  unfold soa_Parse.f at h
  obtain ⟨⟨m, d1, ok1⟩, h1, h⟩ := Option.bind_eq_some_iff.1 h
  cases ok1 with
  | false =>
    simp only [Bool.false_eq_true, if_false, Option.some.injEq, Prod.mk.injEq] at h
    obtain ⟨rfl, rfl, rfl, rfl, rfl, rfl, rfl, rfl⟩ := h
    exact soa_Parse.parse_no1 w a0 m d1 k h1
  | true =>
    simp only [if_true] at h
    obtain ⟨⟨m2, d2, ok2⟩, h2, h⟩ := Option.bind_eq_some_iff.1 h
    cases ok2 with
    | false =>
      simp only [Bool.false_eq_true, if_false, Option.some.injEq, Prod.mk.injEq] at h
      obtain ⟨rfl, rfl, rfl, rfl, rfl, rfl, rfl, rfl⟩ := h
      exact soa_Parse.parse_no2 w a0 m d1 m2 d2 false k h1 h2 (.inl rfl)
    | true =>
      simp only [if_true] at h
      by_cases hs : d2.size = 20
      · rw [if_pos hs] at h
        cases g0 : num_Get32.f d2 0 with
        | none => rw [g0] at h; cases h
        | some p0 =>
        obtain ⟨n0, o0⟩ := p0
        rw [g0] at h
        simp only [Option.bind_some] at h
        cases g1 : num_Get32.f d2 4 with
        | none => rw [g1] at h; cases h
        | some p1 =>
        obtain ⟨n1, o1⟩ := p1
        rw [g1] at h
        simp only [Option.bind_some] at h
        cases g2 : num_Get32.f d2 8 with
        | none => rw [g2] at h; cases h
        | some p2 =>
        obtain ⟨n2, o2⟩ := p2
        rw [g2] at h
        simp only [Option.bind_some] at h
        cases g3 : num_Get32.f d2 12 with
        | none => rw [g3] at h; cases h
        | some p3 =>
        obtain ⟨n3, o3⟩ := p3
        rw [g3] at h
        simp only [Option.bind_some] at h
        cases g4 : num_Get32.f d2 16 with
        | none => rw [g4] at h; cases h
        | some p4 =>
        obtain ⟨n4, o4⟩ := p4
        rw [g4] at h
        simp only [Option.bind_some] at h
        by_cases ho : o0 = true ∧ o1 = true ∧ o2 = true ∧ o3 = true ∧ o4 = true
        · rw [if_pos ho] at h
          obtain ⟨rfl, rfl, rfl, rfl, rfl⟩ := ho
          simp only [Option.some.injEq, Prod.mk.injEq] at h
          obtain ⟨rfl, rfl, rfl, rfl, rfl, rfl, rfl, rfl⟩ := h
          refine soa_Parse.parse_yes w a0 m d1 m2 d2 (fun j => match j with | 0 => n0 | 1 => n1 | 2 => n2 | 3 => n3 | _ => n4) k h1 h2 hs ?_
          intro j hj
          have hc : j = 0 ∨ j = 1 ∨ j = 2 ∨ j = 3 ∨ j = 4 := by omega
          rcases hc with rfl | rfl | rfl | rfl | rfl
          · exact g0
          · exact g1
          · exact g2
          · exact g3
          · exact g4
        · rw [if_neg ho] at h
          cases h
      · rw [if_neg hs] at h
        simp only [Option.some.injEq, Prod.mk.injEq] at h
        obtain ⟨rfl, rfl, rfl, rfl, rfl, rfl, rfl, rfl⟩ := h
        exact soa_Parse.parse_no2 w a0 m d1 m2 d2 true k h1 h2 (.inr ⟨rfl, hs⟩)

/-! ### soa_Of: function 14 -/
def soa_Of.f (k : Nat) (a0_0 : ByteArray) (a0_1 : Int) (a0_2 : Int) (a0_3 : ByteArray) : Option (ByteArray × ByteArray × Int × Int × Int × Int × Int × Bool) := if a0_1 = 6 then ((soa_Parse.f k a0_3).bind fun bt166 => (some (bt166.1, bt166.2.1, bt166.2.2.1, bt166.2.2.2.1, bt166.2.2.2.2.1, bt166.2.2.2.2.2.1, bt166.2.2.2.2.2.2.1, bt166.2.2.2.2.2.2.2))) else (some ((⟨#[]⟩ : ByteArray), (⟨#[]⟩ : ByteArray), 0, 0, 0, 0, 0, false))
theorem soa_Of.mono : ∀ a0 a1 a2 a3 k, LeO (soa_Of.f k a0 a1 a2 a3) (soa_Of.f (k + 1) a0 a1 a2 a3) := by
  intro a0 a1 a2 a3 k
  unfold soa_Of.f
  repeat' first
      | (with_reducible exact soa_Parse.mono _ _)
      | (with_reducible exact LeO.refl _)
      | (with_reducible exact LeO.none _)
      | (with_reducible refine LeO.ite ?_ ?_)
      | (with_reducible refine LeO.bind ?_ (fun _ => ?_))
      | exact soa_Parse.mono _ _
      | exact LeO.none _
      | refine LeO.ite ?_ ?_
      | refine LeO.bind ?_ (fun _ => ?_)
set_option maxHeartbeats 8000000 in
set_option maxRecDepth 100000 in
theorem soa_Of.calls (k : Nat) (a0_0 : ByteArray) (a0_1 : Int) (a0_2 : Int) (a0_3 : ByteArray) (r1 : ByteArray) (r2 : ByteArray) (r3 : Int) (r4 : Int) (r5 : Int) (r6 : Int) (r7 : Int) (r8 : Bool) (w : World) (h : soa_Of.f k a0_0 a0_1 a0_2 a0_3 = some (r1, r2, r3, r4, r5, r6, r7, r8)) :
    Calls Try.prog 14 #[.agg #[.string a0_0, .int .u16 a0_1, .int .u32 a0_2, .string a0_3]] w fun e w' => e = .returned (.tuple #[.agg #[.string r1, .string r2, .int .u32 r3, .int .u32 r4, .int .u32 r5, .int .u32 r6, .int .u32 r7], .bool r8]) ∧ Below w.heap.size w w' := by
  have hu41 := Try.underlying41
  have hu28 := Try.underlying28
  have HB := Aside0.mk (Below.refl w.heap.size w)
  have H : (if a0_1 = 6 then ((soa_Parse.f k a0_3).bind fun bt166 => (some (bt166.1, bt166.2.1, bt166.2.2.1, bt166.2.2.2.1, bt166.2.2.2.2.1, bt166.2.2.2.2.2.1, bt166.2.2.2.2.2.2.1, bt166.2.2.2.2.2.2.2))) else (some ((⟨#[]⟩ : ByteArray), (⟨#[]⟩ : ByteArray), 0, 0, 0, 0, 0, false))) = some (r1, r2, r3, r4, r5, r6, r7, r8) := h
  clear h
  by_cases c2 : a0_1 = 6
  · rw [if_pos c2] at H
    have c2b0 : (a0_1 == 6) = true := beq_iff_eq.mpr c2
    have c2b1 : (a0_1 != 6) = false := bne_eq_false_iff_eq.mpr c2
    clear c2
    replace H := Option.bind_eq_some_iff.mp H
    obtain ⟨⟨t166, t167, t168, t169, t170, t171, t172, t173⟩, A30, H⟩ := H
    replace H : (some (t166, t167, t168, t169, t170, t171, t172, t173)) = some (r1, r2, r3, r4, r5, r6, r7, r8) := H
    have A3 := Aside0.mk A30
    clear A30
    simp only [Option.some.injEq, Prod.mk.injEq] at H
    obtain ⟨rfl, rfl, rfl, rfl, rfl, rfl, rfl, rfl⟩ := H
    go_enter Try.func14, Try.ntmps14
    go_wp2_with (first | ((with_reducible refine gate_dst (N := 1) rfl ?_); refine box_event ?hg (N := 1) ?hd (cs := #[.string a0_0, .int .u16 a0_1, .int .u32 a0_2, .string a0_3]) (t := 41) ?hr ?_; (case hd => rfl); (case hg => rfl); (case hr => first | (go_simp; done) | (go_simp; rfl)); intro gb164 hg w4 hbox hb; have n0_ := Aside0.mk (below_step (by repeat (first | (with_reducible first | exact HB.out | apply below_alloc | apply pw_below_drewN | apply below_drew1) | exact HB.out)) hb); have n1_ := Aside0.mk (hbox); have n2_ := Aside0.mk ((by rw [hg]; exact (below_size (by repeat (first | (with_reducible first | exact HB.out | apply below_alloc | apply pw_below_drewN | apply below_drew1) | exact HB.out))) : w.heap.size ≤ gb164)); have n3_ := Aside0.mk ((by rw [hg]; exact (below_size (by repeat (first | (with_reducible first | exact HB.out | apply below_alloc | apply pw_below_drewN | apply below_drew1) | exact HB.out))) : w.heap.size ≤ gb164)); clear HB; have HB := n0_; have BK164 := n1_; have GW164 := n2_; have GE164 := n3_; clear n0_ n1_ n2_ n3_; clear hb hbox hg) | ((with_reducible refine gate_dst (N := 2) rfl ?_); refine box_event ?hg (N := 2) ?hd (cs := #[.string (⟨#[]⟩ : ByteArray), .string (⟨#[]⟩ : ByteArray), .int .u32 0, .int .u32 0, .int .u32 0, .int .u32 0, .int .u32 0]) (t := 28) ?hr ?_; (case hd => rfl); (case hg => rfl); (case hr => first | (go_simp; done) | (go_simp; rfl)); intro gb165 hg w5 hbox hb; have n0_ := Aside0.mk (blk_below (g := gb164) (o := .cells #[.string a0_0, .int .u16 a0_1, .int .u32 a0_2, .string a0_3] 41 (0, 0)) (by (with_reducible repeat (first | refine blk_drewN ?_ _ | refine blk_drew ?_ | refine blk_alloc ?_ _)); exact BK164.out) hb); have n1_ := Aside0.mk (below_step (by repeat (first | (with_reducible first | exact HB.out | apply below_alloc | apply pw_below_drewN | apply below_drew1 | refine below_set ?_ GE164.out) | exact HB.out)) hb); have n2_ := Aside0.mk (hbox); have n3_ := Aside0.mk ((by rw [hg]; exact (below_size (by repeat (first | (with_reducible first | exact HB.out | apply below_alloc | apply pw_below_drewN | apply below_drew1 | refine below_set ?_ GE164.out) | exact HB.out))) : w.heap.size ≤ gb165)); have n4_ := Aside0.mk ((by rw [hg]; exact (below_size (by repeat (first | (with_reducible first | exact HB.out | apply below_alloc | apply pw_below_drewN | apply below_drew1 | refine below_set ?_ GE164.out) | exact HB.out))) : w.heap.size ≤ gb165)); have n5_ := Aside0.mk ((by rw [hg]; exact Nat.ne_of_lt (blk_lt (g := gb164) (o := .cells #[.string a0_0, .int .u16 a0_1, .int .u32 a0_2, .string a0_3] 41 (0, 0)) (by (with_reducible repeat (first | refine blk_drewN ?_ _ | refine blk_drew ?_ | refine blk_alloc ?_ _)); exact BK164.out)) : gb164 ≠ gb165)); have n6_ := Aside0.mk ((by rw [hg]; exact Nat.ne_of_gt (blk_lt (g := gb164) (o := .cells #[.string a0_0, .int .u16 a0_1, .int .u32 a0_2, .string a0_3] 41 (0, 0)) (by (with_reducible repeat (first | refine blk_drewN ?_ _ | refine blk_drew ?_ | refine blk_alloc ?_ _)); exact BK164.out)) : gb165 ≠ gb164)); clear BK164; clear HB; have BK164 := n0_; have HB := n1_; have BK165 := n2_; have GW165 := n3_; have GE165 := n4_; have NB164_165 := n5_; have NB165_164 := n6_; clear n0_ n1_ n2_ n3_ n4_ n5_ n6_; clear hb hbox hg; have hnb6 := NB164_165.out; have hnc6 := NB165_164.out; have hcz7_0 : w5.cell? ⟨gb164, 0, none⟩ = some (.string a0_0) := (blk_cell BK164.out 0).trans rfl; have hcz7_1 : w5.cell? ⟨gb164, 1, none⟩ = some (.int .u16 a0_1) := (blk_cell BK164.out 1).trans rfl; have hcz7_2 : w5.cell? ⟨gb164, 2, none⟩ = some (.int .u32 a0_2) := (blk_cell BK164.out 2).trans rfl; have hcz7_3 : w5.cell? ⟨gb164, 3, none⟩ = some (.string a0_3) := (blk_cell BK164.out 3).trans rfl; have hfz7_0 := blk_frozen BK164.out 0; have hfz7_1 := blk_frozen BK164.out 1; have hfz7_2 := blk_frozen BK164.out 2; have hfz7_3 := blk_frozen BK164.out 3) | ((with_reducible refine gate_callee (f := 12) rfl ?_); refine goesL_ (some 10) rfl rfl Try.func12 (by kernel_rfl) rfl #[.string a0_3] rfl (by (try simp only [List.map_toArray, List.map_cons, List.map_nil]); first | done | rfl | (simp only [List.length_drop, List.length_take]; rfl)) ?_; (with_reducible refine (soa_Parse.calls k a0_3 t166 t167 t168 t169 t170 t171 t172 t173 _ A3.out).mono ?_); rintro e w8 ⟨rfl, hb⟩; refine ⟨_, rfl, ?_⟩; have n0_ := Aside0.mk (blk_below (g := gb164) (o := .cells #[.string a0_0, .int .u16 a0_1, .int .u32 a0_2, .string a0_3] 41 (0, 0)) (by (with_reducible repeat (first | refine blk_drewN ?_ _ | refine blk_drew ?_ | refine blk_alloc ?_ _)); exact BK164.out) hb); have n1_ := Aside0.mk (blk_below (g := gb165) (o := .cells #[.string (⟨#[]⟩ : ByteArray), .string (⟨#[]⟩ : ByteArray), .int .u32 0, .int .u32 0, .int .u32 0, .int .u32 0, .int .u32 0] 28 (0, 0)) (by (with_reducible repeat (first | refine blk_drewN ?_ _ | refine blk_drew ?_ | refine blk_alloc ?_ _)); exact BK165.out) hb); have n2_ := Aside0.mk (below_step (by repeat (first | (with_reducible first | exact HB.out | apply below_alloc | apply pw_below_drewN | apply below_drew1 | refine below_set ?_ GE164.out | refine below_set ?_ GE165.out) | exact HB.out)) hb); clear BK164; clear BK165; clear HB; have BK164 := n0_; have BK165 := n1_; have HB := n2_; clear n0_ n1_ n2_; (try clear hb); (try clear hb2); (try clear hk); (try clear hi); have hcz9_0 : w8.cell? ⟨gb165, 0, none⟩ = some (.string (⟨#[]⟩ : ByteArray)) := (blk_cell BK165.out 0).trans rfl; have hcz9_1 : w8.cell? ⟨gb165, 1, none⟩ = some (.string (⟨#[]⟩ : ByteArray)) := (blk_cell BK165.out 1).trans rfl; have hcz9_2 : w8.cell? ⟨gb165, 2, none⟩ = some (.int .u32 0) := (blk_cell BK165.out 2).trans rfl; have hcz9_3 : w8.cell? ⟨gb165, 3, none⟩ = some (.int .u32 0) := (blk_cell BK165.out 3).trans rfl; have hcz9_4 : w8.cell? ⟨gb165, 4, none⟩ = some (.int .u32 0) := (blk_cell BK165.out 4).trans rfl; have hcz9_5 : w8.cell? ⟨gb165, 5, none⟩ = some (.int .u32 0) := (blk_cell BK165.out 5).trans rfl; have hcz9_6 : w8.cell? ⟨gb165, 6, none⟩ = some (.int .u32 0) := (blk_cell BK165.out 6).trans rfl; have hfz9_0 := blk_frozen BK165.out 0; have hfz9_1 := blk_frozen BK165.out 1; have hfz9_2 := blk_frozen BK165.out 2; have hfz9_3 := blk_frozen BK165.out 3; have hfz9_4 := blk_frozen BK165.out 4; have hfz9_5 := blk_frozen BK165.out 5; have hfz9_6 := blk_frozen BK165.out 6))
    refine bodyPost_ret (results_ct rfl _ _ gb165 28 #[.string t166, .string t167, .int .u32 t168, .int .u32 t169, .int .u32 t170, .int .u32 t171, .int .u32 t172] (0, 0) _ rfl (by (with_reducible repeat (first | refine blk_drewN ?_ _ | refine blk_drew ?_ | refine blk_alloc ?_ _)); refine blk_put (cs := #[.string t166, .string t167, .int .u32 t168, .int .u32 t169, .int .u32 t170, .int .u32 t171, .int .u32 0]) ?_ 6 _ rfl; (with_reducible repeat (first | refine blk_drewN ?_ _ | refine blk_drew ?_ | refine blk_alloc ?_ _)); refine blk_put (cs := #[.string t166, .string t167, .int .u32 t168, .int .u32 t169, .int .u32 t170, .int .u32 0, .int .u32 0]) ?_ 5 _ rfl; (with_reducible repeat (first | refine blk_drewN ?_ _ | refine blk_drew ?_ | refine blk_alloc ?_ _)); refine blk_put (cs := #[.string t166, .string t167, .int .u32 t168, .int .u32 t169, .int .u32 0, .int .u32 0, .int .u32 0]) ?_ 4 _ rfl; (with_reducible repeat (first | refine blk_drewN ?_ _ | refine blk_drew ?_ | refine blk_alloc ?_ _)); refine blk_put (cs := #[.string t166, .string t167, .int .u32 t168, .int .u32 0, .int .u32 0, .int .u32 0, .int .u32 0]) ?_ 3 _ rfl; (with_reducible repeat (first | refine blk_drewN ?_ _ | refine blk_drew ?_ | refine blk_alloc ?_ _)); refine blk_put (cs := #[.string t166, .string t167, .int .u32 0, .int .u32 0, .int .u32 0, .int .u32 0, .int .u32 0]) ?_ 2 _ rfl; (with_reducible repeat (first | refine blk_drewN ?_ _ | refine blk_drew ?_ | refine blk_alloc ?_ _)); refine blk_put (cs := #[.string t166, .string (⟨#[]⟩ : ByteArray), .int .u32 0, .int .u32 0, .int .u32 0, .int .u32 0, .int .u32 0]) ?_ 1 _ rfl; (with_reducible repeat (first | refine blk_drewN ?_ _ | refine blk_drew ?_ | refine blk_alloc ?_ _)); refine blk_put (cs := #[.string (⟨#[]⟩ : ByteArray), .string (⟨#[]⟩ : ByteArray), .int .u32 0, .int .u32 0, .int .u32 0, .int .u32 0, .int .u32 0]) ?_ 0 _ rfl; (with_reducible repeat (first | refine blk_drewN ?_ _ | refine blk_drew ?_ | refine blk_alloc ?_ _)); exact BK165.out) Try.underlying28 rfl (by kernel_rfl)) rfl ?_
    exact ⟨by first | rfl | (simp [errW_none, errW_some] <;> rfl) | (simp [*, errW_none, errW_some] <;> rfl), by repeat (first | (with_reducible first | exact HB.out | apply below_alloc | apply pw_below_drewN | apply below_drew1 | refine below_set ?_ GE164.out | refine below_set ?_ GE165.out) | exact HB.out)⟩
  · rw [if_neg c2] at H
    have c2b0 : (a0_1 == 6) = false := beq_eq_false_iff_ne.mpr c2
    have c2b1 : (a0_1 != 6) = true := bne_iff_ne.mpr c2
    simp only [Option.some.injEq, Prod.mk.injEq] at H
    obtain ⟨rfl, rfl, rfl, rfl, rfl, rfl, rfl, rfl⟩ := H
    go_enter Try.func14, Try.ntmps14
    go_wp2_with (first | ((with_reducible refine gate_dst (N := 1) rfl ?_); refine box_event ?hg (N := 1) ?hd (cs := #[.string a0_0, .int .u16 a0_1, .int .u32 a0_2, .string a0_3]) (t := 41) ?hr ?_; (case hd => rfl); (case hg => rfl); (case hr => first | (go_simp; done) | (go_simp; rfl)); intro gb164 hg w10 hbox hb; have n0_ := Aside0.mk (below_step (by repeat (first | (with_reducible first | exact HB.out | apply below_alloc | apply pw_below_drewN | apply below_drew1) | exact HB.out)) hb); have n1_ := Aside0.mk (hbox); have n2_ := Aside0.mk ((by rw [hg]; exact (below_size (by repeat (first | (with_reducible first | exact HB.out | apply below_alloc | apply pw_below_drewN | apply below_drew1) | exact HB.out))) : w.heap.size ≤ gb164)); have n3_ := Aside0.mk ((by rw [hg]; exact (below_size (by repeat (first | (with_reducible first | exact HB.out | apply below_alloc | apply pw_below_drewN | apply below_drew1) | exact HB.out))) : w.heap.size ≤ gb164)); clear HB; have HB := n0_; have BK164 := n1_; have GW164 := n2_; have GE164 := n3_; clear n0_ n1_ n2_ n3_; clear hb hbox hg) | ((with_reducible refine gate_dst (N := 2) rfl ?_); refine box_event ?hg (N := 2) ?hd (cs := #[.string (⟨#[]⟩ : ByteArray), .string (⟨#[]⟩ : ByteArray), .int .u32 0, .int .u32 0, .int .u32 0, .int .u32 0, .int .u32 0]) (t := 28) ?hr ?_; (case hd => rfl); (case hg => rfl); (case hr => first | (go_simp; done) | (go_simp; rfl)); intro gb165 hg w11 hbox hb; have n0_ := Aside0.mk (blk_below (g := gb164) (o := .cells #[.string a0_0, .int .u16 a0_1, .int .u32 a0_2, .string a0_3] 41 (0, 0)) (by (with_reducible repeat (first | refine blk_drewN ?_ _ | refine blk_drew ?_ | refine blk_alloc ?_ _)); exact BK164.out) hb); have n1_ := Aside0.mk (below_step (by repeat (first | (with_reducible first | exact HB.out | apply below_alloc | apply pw_below_drewN | apply below_drew1 | refine below_set ?_ GE164.out) | exact HB.out)) hb); have n2_ := Aside0.mk (hbox); have n3_ := Aside0.mk ((by rw [hg]; exact (below_size (by repeat (first | (with_reducible first | exact HB.out | apply below_alloc | apply pw_below_drewN | apply below_drew1 | refine below_set ?_ GE164.out) | exact HB.out))) : w.heap.size ≤ gb165)); have n4_ := Aside0.mk ((by rw [hg]; exact (below_size (by repeat (first | (with_reducible first | exact HB.out | apply below_alloc | apply pw_below_drewN | apply below_drew1 | refine below_set ?_ GE164.out) | exact HB.out))) : w.heap.size ≤ gb165)); have n5_ := Aside0.mk ((by rw [hg]; exact Nat.ne_of_lt (blk_lt (g := gb164) (o := .cells #[.string a0_0, .int .u16 a0_1, .int .u32 a0_2, .string a0_3] 41 (0, 0)) (by (with_reducible repeat (first | refine blk_drewN ?_ _ | refine blk_drew ?_ | refine blk_alloc ?_ _)); exact BK164.out)) : gb164 ≠ gb165)); have n6_ := Aside0.mk ((by rw [hg]; exact Nat.ne_of_gt (blk_lt (g := gb164) (o := .cells #[.string a0_0, .int .u16 a0_1, .int .u32 a0_2, .string a0_3] 41 (0, 0)) (by (with_reducible repeat (first | refine blk_drewN ?_ _ | refine blk_drew ?_ | refine blk_alloc ?_ _)); exact BK164.out)) : gb165 ≠ gb164)); clear BK164; clear HB; have BK164 := n0_; have HB := n1_; have BK165 := n2_; have GW165 := n3_; have GE165 := n4_; have NB164_165 := n5_; have NB165_164 := n6_; clear n0_ n1_ n2_ n3_ n4_ n5_ n6_; clear hb hbox hg; have hnb12 := NB164_165.out; have hnc12 := NB165_164.out; have hcz13_0 : w11.cell? ⟨gb164, 0, none⟩ = some (.string a0_0) := (blk_cell BK164.out 0).trans rfl; have hcz13_1 : w11.cell? ⟨gb164, 1, none⟩ = some (.int .u16 a0_1) := (blk_cell BK164.out 1).trans rfl; have hcz13_2 : w11.cell? ⟨gb164, 2, none⟩ = some (.int .u32 a0_2) := (blk_cell BK164.out 2).trans rfl; have hcz13_3 : w11.cell? ⟨gb164, 3, none⟩ = some (.string a0_3) := (blk_cell BK164.out 3).trans rfl; have hfz13_0 := blk_frozen BK164.out 0; have hfz13_1 := blk_frozen BK164.out 1; have hfz13_2 := blk_frozen BK164.out 2; have hfz13_3 := blk_frozen BK164.out 3; have hcz14_0 : w11.cell? ⟨gb165, 0, none⟩ = some (.string (⟨#[]⟩ : ByteArray)) := (blk_cell BK165.out 0).trans rfl; have hcz14_1 : w11.cell? ⟨gb165, 1, none⟩ = some (.string (⟨#[]⟩ : ByteArray)) := (blk_cell BK165.out 1).trans rfl; have hcz14_2 : w11.cell? ⟨gb165, 2, none⟩ = some (.int .u32 0) := (blk_cell BK165.out 2).trans rfl; have hcz14_3 : w11.cell? ⟨gb165, 3, none⟩ = some (.int .u32 0) := (blk_cell BK165.out 3).trans rfl; have hcz14_4 : w11.cell? ⟨gb165, 4, none⟩ = some (.int .u32 0) := (blk_cell BK165.out 4).trans rfl; have hcz14_5 : w11.cell? ⟨gb165, 5, none⟩ = some (.int .u32 0) := (blk_cell BK165.out 5).trans rfl; have hcz14_6 : w11.cell? ⟨gb165, 6, none⟩ = some (.int .u32 0) := (blk_cell BK165.out 6).trans rfl; have hfz14_0 := blk_frozen BK165.out 0; have hfz14_1 := blk_frozen BK165.out 1; have hfz14_2 := blk_frozen BK165.out 2; have hfz14_3 := blk_frozen BK165.out 3; have hfz14_4 := blk_frozen BK165.out 4; have hfz14_5 := blk_frozen BK165.out 5; have hfz14_6 := blk_frozen BK165.out 6))
    refine bodyPost_ret (results_ct rfl _ _ gb165 28 #[.string (⟨#[]⟩ : ByteArray), .string (⟨#[]⟩ : ByteArray), .int .u32 0, .int .u32 0, .int .u32 0, .int .u32 0, .int .u32 0] (0, 0) _ rfl (by (with_reducible repeat (first | refine blk_drewN ?_ _ | refine blk_drew ?_ | refine blk_alloc ?_ _)); refine blk_put (cs := #[.string (⟨#[]⟩ : ByteArray), .string (⟨#[]⟩ : ByteArray), .int .u32 0, .int .u32 0, .int .u32 0, .int .u32 0, .int .u32 0]) ?_ 6 _ rfl; (with_reducible repeat (first | refine blk_drewN ?_ _ | refine blk_drew ?_ | refine blk_alloc ?_ _)); refine blk_put (cs := #[.string (⟨#[]⟩ : ByteArray), .string (⟨#[]⟩ : ByteArray), .int .u32 0, .int .u32 0, .int .u32 0, .int .u32 0, .int .u32 0]) ?_ 5 _ rfl; (with_reducible repeat (first | refine blk_drewN ?_ _ | refine blk_drew ?_ | refine blk_alloc ?_ _)); refine blk_put (cs := #[.string (⟨#[]⟩ : ByteArray), .string (⟨#[]⟩ : ByteArray), .int .u32 0, .int .u32 0, .int .u32 0, .int .u32 0, .int .u32 0]) ?_ 4 _ rfl; (with_reducible repeat (first | refine blk_drewN ?_ _ | refine blk_drew ?_ | refine blk_alloc ?_ _)); refine blk_put (cs := #[.string (⟨#[]⟩ : ByteArray), .string (⟨#[]⟩ : ByteArray), .int .u32 0, .int .u32 0, .int .u32 0, .int .u32 0, .int .u32 0]) ?_ 3 _ rfl; (with_reducible repeat (first | refine blk_drewN ?_ _ | refine blk_drew ?_ | refine blk_alloc ?_ _)); refine blk_put (cs := #[.string (⟨#[]⟩ : ByteArray), .string (⟨#[]⟩ : ByteArray), .int .u32 0, .int .u32 0, .int .u32 0, .int .u32 0, .int .u32 0]) ?_ 2 _ rfl; (with_reducible repeat (first | refine blk_drewN ?_ _ | refine blk_drew ?_ | refine blk_alloc ?_ _)); refine blk_put (cs := #[.string (⟨#[]⟩ : ByteArray), .string (⟨#[]⟩ : ByteArray), .int .u32 0, .int .u32 0, .int .u32 0, .int .u32 0, .int .u32 0]) ?_ 1 _ rfl; (with_reducible repeat (first | refine blk_drewN ?_ _ | refine blk_drew ?_ | refine blk_alloc ?_ _)); refine blk_put (cs := #[.string (⟨#[]⟩ : ByteArray), .string (⟨#[]⟩ : ByteArray), .int .u32 0, .int .u32 0, .int .u32 0, .int .u32 0, .int .u32 0]) ?_ 0 _ rfl; (with_reducible repeat (first | refine blk_drewN ?_ _ | refine blk_drew ?_ | refine blk_alloc ?_ _)); exact BK165.out) Try.underlying28 rfl (by kernel_rfl)) rfl ?_
    exact ⟨by first | rfl | (simp [errW_none, errW_some] <;> rfl) | (simp [*, errW_none, errW_some] <;> rfl), by repeat (first | (with_reducible first | exact HB.out | apply below_alloc | apply pw_below_drewN | apply below_drew1 | refine below_set ?_ GE164.out | refine below_set ?_ GE165.out) | exact HB.out)⟩

/-! ### bolterlaw07_Make: function 15 -/
def bolterlaw07_Make.f (k : Nat) (l0 : List Int) (a1 : Int) (a2 : Int) (a3 : Int) (a4 : Int) : Option (ByteArray) := (bolterlaw02_Name.f k l0).bind fun t174 => (if t174.size + 1 ≤ 9223372036854775807 then (if (t174 ++ (⟨#[0]⟩ : ByteArray)).size + t174.size ≤ 9223372036854775807 then (if ((t174 ++ (⟨#[0]⟩ : ByteArray)) ++ t174).size + 1 ≤ 9223372036854775807 then ((num_Put32.f k ([] : List Int) (([a1, (a2) % 4294967296, (a3) % 4294967296, (a4) % 4294967296, 1] : List Int))).bind fun t178 => (if (((t174 ++ (⟨#[0]⟩ : ByteArray)) ++ t174) ++ (⟨#[0]⟩ : ByteArray)).size + (strOfNums t178).size ≤ 9223372036854775807 then (some ((((t174 ++ (⟨#[0]⟩ : ByteArray)) ++ t174) ++ (⟨#[0]⟩ : ByteArray)) ++ (strOfNums t178))) else (none))) else (none)) else (none)) else (none))
theorem bolterlaw07_Make.mono : ∀ a0 a1 a2 a3 a4 k, LeO (bolterlaw07_Make.f k a0 a1 a2 a3 a4) (bolterlaw07_Make.f (k + 1) a0 a1 a2 a3 a4) := by
  intro a0 a1 a2 a3 a4 k
  unfold bolterlaw07_Make.f
  repeat' first
      | (with_reducible exact bolterlaw02_Name.mono _ _)
      | (with_reducible exact num_Put32.mono _ _ _)
      | (with_reducible exact LeO.refl _)
      | (with_reducible exact LeO.none _)
      | (with_reducible refine LeO.ite ?_ ?_)
      | (with_reducible refine LeO.bind ?_ (fun _ => ?_))
      | exact bolterlaw02_Name.mono _ _
      | exact num_Put32.mono _ _ _
      | exact LeO.none _
      | refine LeO.ite ?_ ?_
      | refine LeO.bind ?_ (fun _ => ?_)
set_option maxHeartbeats 8000000 in
set_option maxRecDepth 100000 in
theorem bolterlaw07_Make.calls (k : Nat) (A0 : Option Addr) (c0 : Nat) (l0 : List Int) (a1 : Int) (a2 : Int) (a3 : Int) (a4 : Int) (r : ByteArray) (w : World) (hr0 : Kd.C (Kd.int .u8) w A0 l0.length l0) (hc0 : l0.length ≤ c0) (h : bolterlaw07_Make.f k l0 a1 a2 a3 a4 = some r) :
    Calls Try.prog 15 #[.slice A0 l0.length c0, .int .u32 a1, .int .u8 a2, .int .u8 a3, .int .u8 a4] w fun e w' => e = .returned (.string r) ∧ Below w.heap.size w w' := by
  have HR0 := Aside0.mk hr0
  have HC0 := Aside0.mk hc0
  clear hr0 hc0
  have HB := Aside0.mk (Below.refl w.heap.size w)
  have H : ((bolterlaw02_Name.f k l0).bind fun t174 => (if t174.size + 1 ≤ 9223372036854775807 then (if (t174 ++ (⟨#[0]⟩ : ByteArray)).size + t174.size ≤ 9223372036854775807 then (if ((t174 ++ (⟨#[0]⟩ : ByteArray)) ++ t174).size + 1 ≤ 9223372036854775807 then ((num_Put32.f k ([] : List Int) (([a1, (a2) % 4294967296, (a3) % 4294967296, (a4) % 4294967296, 1] : List Int))).bind fun t178 => (if (((t174 ++ (⟨#[0]⟩ : ByteArray)) ++ t174) ++ (⟨#[0]⟩ : ByteArray)).size + (strOfNums t178).size ≤ 9223372036854775807 then (some ((((t174 ++ (⟨#[0]⟩ : ByteArray)) ++ t174) ++ (⟨#[0]⟩ : ByteArray)) ++ (strOfNums t178))) else (none))) else (none)) else (none)) else (none))) = some r := h
  clear h
  replace H := Option.bind_eq_some_iff.mp H
  obtain ⟨t174, A60, H⟩ := H
  replace H : (if t174.size + 1 ≤ 9223372036854775807 then (if (t174 ++ (⟨#[0]⟩ : ByteArray)).size + t174.size ≤ 9223372036854775807 then (if ((t174 ++ (⟨#[0]⟩ : ByteArray)) ++ t174).size + 1 ≤ 9223372036854775807 then ((num_Put32.f k ([] : List Int) (([a1, (a2) % 4294967296, (a3) % 4294967296, (a4) % 4294967296, 1] : List Int))).bind fun t178 => (if (((t174 ++ (⟨#[0]⟩ : ByteArray)) ++ t174) ++ (⟨#[0]⟩ : ByteArray)).size + (strOfNums t178).size ≤ 9223372036854775807 then (some ((((t174 ++ (⟨#[0]⟩ : ByteArray)) ++ t174) ++ (⟨#[0]⟩ : ByteArray)) ++ (strOfNums t178))) else (none))) else (none)) else (none)) else (none)) = some r := H
  have A6 := Aside0.mk A60
  clear A60
  by_cases c7 : t174.size + 1 ≤ 9223372036854775807
  · rw [if_pos c7] at H
    have c7b0 := eq_true c7
    have c7b1 : decide (t174.size + 1 ≤ 9223372036854775807) = true := decide_eq_true c7
    try have c7b2 : (9223372036854775807 < t174.size + 1) = False := eq_false (Nat.not_lt.2 c7)
    by_cases c8 : (t174 ++ (⟨#[0]⟩ : ByteArray)).size + t174.size ≤ 9223372036854775807
    · rw [if_pos c8] at H
      (try (have c8S := c8; simp only [ByteArray.size_append] at c8S; have c8Sb := eq_true c8S; have c8Sn := eq_false (Nat.not_lt.2 c8S); clear c8S))
      (try (have c8Q := c8; simp only [ByteArray.size_append, show (⟨#[0]⟩ : ByteArray).size = 1 from rfl] at c8Q; have c8Qb := eq_true c8Q; have c8Qn := eq_false (Nat.not_lt.2 c8Q); clear c8Q))
      have c8b0 := eq_true c8
      have c8b1 : decide ((t174 ++ (⟨#[0]⟩ : ByteArray)).size + t174.size ≤ 9223372036854775807) = true := decide_eq_true c8
      try have c8b2 : (9223372036854775807 < (t174 ++ (⟨#[0]⟩ : ByteArray)).size + t174.size) = False := eq_false (Nat.not_lt.2 c8)
      by_cases c9 : ((t174 ++ (⟨#[0]⟩ : ByteArray)) ++ t174).size + 1 ≤ 9223372036854775807
      · rw [if_pos c9] at H
        (try (have c9S := c9; simp only [ByteArray.size_append] at c9S; have c9Sb := eq_true c9S; have c9Sn := eq_false (Nat.not_lt.2 c9S); clear c9S))
        (try (have c9Q := c9; simp only [ByteArray.size_append, show (⟨#[0]⟩ : ByteArray).size = 1 from rfl] at c9Q; have c9Qb := eq_true c9Q; have c9Qn := eq_false (Nat.not_lt.2 c9Q); clear c9Q))
        have c9b0 := eq_true c9
        have c9b1 : decide (((t174 ++ (⟨#[0]⟩ : ByteArray)) ++ t174).size + 1 ≤ 9223372036854775807) = true := decide_eq_true c9
        try have c9b2 : (9223372036854775807 < ((t174 ++ (⟨#[0]⟩ : ByteArray)) ++ t174).size + 1) = False := eq_false (Nat.not_lt.2 c9)
        obtain ⟨y175, hy175⟩ : ∃ y_ : List Int, y_ = (([a1, (a2) % 4294967296, (a3) % 4294967296, (a4) % 4294967296, 1] : List Int)) := ⟨_, rfl⟩
        replace H : ((num_Put32.f k ([] : List Int) y175).bind fun t178 => (if (((t174 ++ (⟨#[0]⟩ : ByteArray)) ++ t174) ++ (⟨#[0]⟩ : ByteArray)).size + (strOfNums t178).size ≤ 9223372036854775807 then (some ((((t174 ++ (⟨#[0]⟩ : ByteArray)) ++ t174) ++ (⟨#[0]⟩ : ByteArray)) ++ (strOfNums t178))) else (none))) = some r := by first | (rw [hy175]; with_reducible exact H) | (have H2_ := (Option.bind_some _ _).symm.trans H; rw [hy175]; with_reducible exact H2_) | (have H2_ := (Option.bind_some _ _).symm.trans H; with_reducible exact H2_) | with_reducible exact H | (rw [hy175]; exact H) | exact H
        have Ny175 := Aside0.mk hy175
        clear hy175
        replace H := Option.bind_eq_some_iff.mp H
        obtain ⟨t178, A100, H⟩ := H
        replace H : (if (((t174 ++ (⟨#[0]⟩ : ByteArray)) ++ t174) ++ (⟨#[0]⟩ : ByteArray)).size + (strOfNums t178).size ≤ 9223372036854775807 then (some ((((t174 ++ (⟨#[0]⟩ : ByteArray)) ++ t174) ++ (⟨#[0]⟩ : ByteArray)) ++ (strOfNums t178))) else (none)) = some r := H
        have A10 := Aside0.mk A100
        clear A100
        by_cases c11 : (((t174 ++ (⟨#[0]⟩ : ByteArray)) ++ t174) ++ (⟨#[0]⟩ : ByteArray)).size + (strOfNums t178).size ≤ 9223372036854775807
        · rw [if_pos c11] at H
          (try (have c11S := c11; simp only [ByteArray.size_append] at c11S; have c11Sb := eq_true c11S; have c11Sn := eq_false (Nat.not_lt.2 c11S); clear c11S))
          (try (have c11Q := c11; simp only [ByteArray.size_append, show (⟨#[0]⟩ : ByteArray).size = 1 from rfl] at c11Q; have c11Qb := eq_true c11Q; have c11Qn := eq_false (Nat.not_lt.2 c11Q); clear c11Q))
          have c11b0 := eq_true c11
          have c11b1 : decide ((((t174 ++ (⟨#[0]⟩ : ByteArray)) ++ t174) ++ (⟨#[0]⟩ : ByteArray)).size + (strOfNums t178).size ≤ 9223372036854775807) = true := decide_eq_true c11
          try have c11b2 : (9223372036854775807 < (((t174 ++ (⟨#[0]⟩ : ByteArray)) ++ t174) ++ (⟨#[0]⟩ : ByteArray)).size + (strOfNums t178).size) = False := eq_false (Nat.not_lt.2 c11)
          obtain rfl := Option.some.inj H
          go_enter Try.func15, Try.ntmps15
          go_wp2_with (first | ((with_reducible refine gate_callee (f := 11) rfl ?_); refine goesL_ (some 13) rfl rfl Try.func11 (by kernel_rfl) rfl #[.slice A0 l0.length c0] rfl (by (try simp only [List.map_toArray, List.map_cons, List.map_nil]); first | done | rfl | (simp only [List.length_drop, List.length_take]; rfl)) ?_; (with_reducible refine (bolterlaw02_Name.calls k _ _ l0 t174 _ ?side1 ?side2 A6.out).mono ?_); (case side1 => repeat (first | exact HR0.out | (with_reducible refine Kd.C_alloc ?_ _) | (with_reducible refine Kd.C_drewN ?_ _) | (with_reducible refine Kd.C_drew ?_))); (case side2 => exact HC0.out); rintro e w12 ⟨rfl, hb⟩; refine ⟨_, rfl, ?_⟩; have n0_ := Aside0.mk (below_step (by repeat (first | (with_reducible first | exact HB.out | apply below_alloc | apply pw_below_drewN | apply below_drew1) | exact HB.out)) hb); clear HB; have HB := n0_; clear n0_; (try clear hb); (try clear hb2); (try clear hk); (try clear hi)) | ((with_reducible refine gate_dst (N := 26) rfl ?_); refine Kd.R_lit (Kd.int .u32) _ 26 ?hg (N := 26) ?hd (xs := ([a1, (a2) % 4294967296, (a3) % 4294967296, (a4) % 4294967296, 1] : List Int)) (inner := [.int .u32 a1, .int .u32 ((a2) % 4294967296), .int .u32 ((a3) % 4294967296), .int .u32 ((a4) % 4294967296), .int .u32 1]) (ok := fun _ => True) (okp := fun _ => True) ?hr ?hp (fun _ hk => hk) trivial (Below.refl _ _) (Nat.le_refl _) (by simp) ?_; (case hd => rfl); (case hg => rfl); (case hr => first | (go_simp; done) | (go_simp; rfl)); (case hp => exact (Reps.one (show Kd.M (Kd.int .u32) _ _ _ a1 [.int .u32 a1] from rfl) (Reps.one (show Kd.M (Kd.int .u32) _ _ _ ((a2) % 4294967296) [.int .u32 ((a2) % 4294967296)] from rfl) (Reps.one (show Kd.M (Kd.int .u32) _ _ _ ((a3) % 4294967296) [.int .u32 ((a3) % 4294967296)] from rfl) (Reps.one (show Kd.M (Kd.int .u32) _ _ _ ((a4) % 4294967296) [.int .u32 ((a4) % 4294967296)] from rfl) (Reps.one (show Kd.M (Kd.int .u32) _ _ _ 1 [.int .u32 1] from rfl) (Reps.none _ _))))))); intro v176 w13 ho14 hb hg_ hnew_; clear hg_ hnew_; (first | rw [← Ny175.out] at ho14 | (simp only [Int.reduceToNat] at ho14; rw [← Ny175.out] at ho14)); have n0_ := Aside0.mk (Kd.R_lower ho14 (below_size (by repeat (first | (with_reducible first | exact HB.out | apply below_alloc | apply pw_below_drewN | apply below_drew1) | exact HB.out)))); have n1_ := Aside0.mk (below_step (by repeat (first | (with_reducible first | exact HB.out | apply below_alloc | apply pw_below_drewN | apply below_drew1) | exact HB.out)) hb); clear HB; have HO177 := n0_; have HB := n1_; clear n0_ n1_; clear hb ho14; obtain ⟨Ao15, co15, eo15⟩ := Kd.R_slice HO177.out; subst eo15) | ((with_reducible refine gate_callee (f := 16) rfl ?_); refine goesL_ (some 27) rfl rfl Try.func16 (by kernel_rfl) rfl #[.slice none 0 0, .slice Ao15 y175.length co15] rfl (by (try simp only [List.map_toArray, List.map_cons, List.map_nil]); first | done | rfl | (simp only [List.length_drop, List.length_take]; rfl)) ?_; (refine (num_Put32.calls k _ _ ([] : List Int) _ _ y175 t178 _ ?side1 ?side2 ?side3 ?side4 A10.out).mono ?_); (case side1 => exact Kd.C_nil _ _); (case side2 => exact Nat.le_refl _); (case side3 => repeat (first | exact (Kd.R_reads' HO177.out).2.2 | (with_reducible refine Kd.C_alloc ?_ _) | (with_reducible refine Kd.C_drewN ?_ _) | (with_reducible refine Kd.C_drew ?_))); (case side4 => exact (Kd.R_reads' HO177.out).2.1); rintro e w16 ⟨v179, rfl, ho0, hb⟩; refine ⟨_, rfl, ?_⟩; have n0_ := Aside0.mk (Kd.R_below (by (with_reducible repeat (first | apply Kd.R_alloc | apply Kd.R_drewN | apply Kd.R_drew)); exact HO177.out) hb); have n1_ := Aside0.mk (Kd.R_lower ho0 (below_size (by repeat (first | (with_reducible first | exact HB.out | apply below_alloc | apply pw_below_drewN | apply below_drew1) | exact HB.out)))); have n2_ := Aside0.mk (below_step (by repeat (first | (with_reducible first | exact HB.out | apply below_alloc | apply pw_below_drewN | apply below_drew1) | exact HB.out)) hb); clear HO177; clear HB; have HO177 := n0_; have HO180 := n1_; have HB := n2_; clear n0_ n1_ n2_; (try clear hb); (try clear hb2); (try clear hk); (try clear hi); (try clear ho0); have hcv17 := own_string (P := Try.prog) Try.underlying31 Try.underlying5 Try.underlying9 (Kd.own_of_R HO180.out); have hcvd18 := fun m_ : Nat => own_string (P := Try.prog) Try.underlying31 Try.underlying5 Try.underlying9 (pw_own_drewN (Kd.own_of_R HO180.out) m_)))
          go_ret
          exact ⟨by first | rfl | (simp [errW_none, errW_some] <;> rfl) | (simp [*, errW_none, errW_some] <;> rfl), by repeat (first | (with_reducible first | exact HB.out | apply below_alloc | apply pw_below_drewN | apply below_drew1) | exact HB.out)⟩
        · rw [if_neg c11] at H
          exact absurd H (by simp)
      · rw [if_neg c9] at H
        exact absurd H (by simp)
    · rw [if_neg c8] at H
      exact absurd H (by simp)
  · rw [if_neg c7] at H
    exact absurd H (by simp)

end Go.Proofs.Ytpjdemddflnleaa.PB
