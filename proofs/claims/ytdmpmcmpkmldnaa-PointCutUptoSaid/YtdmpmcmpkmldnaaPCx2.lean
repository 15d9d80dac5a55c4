-- written by a program of this session out of the loaded program (its tools: wip/tools)
import Derived.Test.YtdmpmcmpkmldnaaPCx0
import Derived.Test.YtdmpmcmpkmldnaaPCx1
namespace Go.Proofs.Ytdmpmcmpkmldnaa.PC
open Go.RowKit Go.Proofs.YtdmpmcmpkmldnaaW.PrintWords Go.Proofs.YtdmpmcmpkmldnaaW.PrintLast Go.Proofs.YtdmpmcmpkmldnaaW.PrintMore
attribute [local go_sem] max2_int min2_int max_two min_two max_three min_three max_four min_four   -- for this text's walks alone
set_option linter.unusedVariables false
set_option linter.unusedSimpArgs false

/-! ### bolterlaw03_PointCut: function 7 -/
mutual
def bolterlaw03_PointCut.j0 : Nat → ByteArray → Bool → Option (Bool)
  | 0, _, _ => none
  | k + 1, x0, x46 => if x46 = true then (some false) else ((point_Cut.f x0).bind fun bt126 => (if bt126.2.2 = true then ((name_May.f bt126.1).bind fun t129 => (if t129 = true then ((point_Plain.f bt126.1).bind fun t130 => (if t130.size + bt126.2.1.size ≤ 9223372036854775807 then (some ((t130 ++ bt126.2.1).toList == x0.toList)) else (none))) else (some false))) else (bolterlaw03_PointCut.l0 k x0 bt126.1 bt126.2.1 0)))
def bolterlaw03_PointCut.l0 : Nat → ByteArray → ByteArray → ByteArray → Int → Option (Bool)
  | 0, _, _, _, _ => none
  | k + 1, x0, x11, x12, x14 => if x14 < (x0.size : Int) then (bolterlaw03_PointCut.j2 k x0 x11 x12 x14 (decide (x14 < 300))) else (bolterlaw03_PointCut.j2 k x0 x11 x12 x14 false)
def bolterlaw03_PointCut.j2 : Nat → ByteArray → ByteArray → ByteArray → Int → Bool → Option (Bool)
  | 0, _, _, _, _, _ => none
  | k + 1, x0, x11, x12, x14, x71 => if x71 = true then (if 0 ≤ x14 then (if x14 < (x0.size : Int) then (if (bt x0 x14) = 0 then (if x14 ≤ (x0.size : Int) then ((name_May.f (x0.extract 0 (x14 : Int).toNat)).bind fun t131 => (if t131 = true then (some false) else (bolterlaw03_PointCut.l0 k x0 x11 x12 (wrap64 (x14 + 1))))) else (none)) else (bolterlaw03_PointCut.l0 k x0 x11 x12 (wrap64 (x14 + 1)))) else (none)) else (none)) else (if x11.toList = ([] : List UInt8) then (some (x12.toList == ([] : List UInt8))) else (some false))
end
def bolterlaw03_PointCut.f (k : Nat) (a0 : ByteArray) (l1 : List Int) (a2 : ByteArray) : Option (Bool) := (bolterlaw03_awake.f).bind fun t119 => (if t119 = true then ((bolterlaw02_Name.f l1).bind fun t120 => ((point_Plain.f t120).bind fun t121 => (if t121.size + a2.size ≤ 9223372036854775807 then ((point_Cut.f (t121 ++ a2)).bind fun bt122 => (if bt122.2.2 = true then (if bt122.1.toList = t120.toList then (if bt122.2.1.toList = a2.toList then ((point_Plain.f t120).bind fun t125 => (if t120.size + 1 ≤ 9223372036854775807 then (bolterlaw03_PointCut.j0 k a0 (t125.toList != (t120 ++ (⟨#[0]⟩ : ByteArray)).toList)) else (none))) else (bolterlaw03_PointCut.j0 k a0 true)) else (bolterlaw03_PointCut.j0 k a0 true)) else (bolterlaw03_PointCut.j0 k a0 true))) else (none)))) else (some false))
theorem bolterlaw03_PointCut.mono_l : ∀ k, (∀ y0 y1, LeO (bolterlaw03_PointCut.j0 k y0 y1) (bolterlaw03_PointCut.j0 (k + 1) y0 y1)) ∧ (∀ y0 y1 y2 y3, LeO (bolterlaw03_PointCut.l0 k y0 y1 y2 y3) (bolterlaw03_PointCut.l0 (k + 1) y0 y1 y2 y3)) ∧ (∀ y0 y1 y2 y3 y4, LeO (bolterlaw03_PointCut.j2 k y0 y1 y2 y3 y4) (bolterlaw03_PointCut.j2 (k + 1) y0 y1 y2 y3 y4))
  | 0 => ⟨fun _ _ r h => by simp [bolterlaw03_PointCut.j0] at h, fun _ _ _ _ r h => by simp [bolterlaw03_PointCut.l0] at h, fun _ _ _ _ _ r h => by simp [bolterlaw03_PointCut.j2] at h⟩
  | k + 1 => by
    obtain ⟨ih0, ih1, ih2⟩ := bolterlaw03_PointCut.mono_l k
    refine ⟨?_, ?_, ?_⟩
    · intro y0 y1
      unfold bolterlaw03_PointCut.j0
      repeat' first
      | (with_reducible exact ih0 _ _)
      | (with_reducible exact ih1 _ _ _ _)
      | (with_reducible exact ih2 _ _ _ _ _)
      | (with_reducible exact LeO.refl _)
      | (with_reducible exact LeO.none _)
      | (with_reducible refine LeO.ite ?_ ?_)
      | (with_reducible refine LeO.bind ?_ (fun _ => ?_))
      | exact ih0 _ _
      | exact ih1 _ _ _ _
      | exact ih2 _ _ _ _ _
      | exact LeO.none _
      | refine LeO.ite ?_ ?_
      | refine LeO.bind ?_ (fun _ => ?_)
    · intro y0 y1 y2 y3
      unfold bolterlaw03_PointCut.l0
      repeat' first
      | (with_reducible exact ih0 _ _)
      | (with_reducible exact ih1 _ _ _ _)
      | (with_reducible exact ih2 _ _ _ _ _)
      | (with_reducible exact LeO.refl _)
      | (with_reducible exact LeO.none _)
      | (with_reducible refine LeO.ite ?_ ?_)
      | (with_reducible refine LeO.bind ?_ (fun _ => ?_))
      | exact ih0 _ _
      | exact ih1 _ _ _ _
      | exact ih2 _ _ _ _ _
      | exact LeO.none _
      | refine LeO.ite ?_ ?_
      | refine LeO.bind ?_ (fun _ => ?_)
    · intro y0 y1 y2 y3 y4
      unfold bolterlaw03_PointCut.j2
      repeat' first
      | (with_reducible exact ih0 _ _)
      | (with_reducible exact ih1 _ _ _ _)
      | (with_reducible exact ih2 _ _ _ _ _)
      | (with_reducible exact LeO.refl _)
      | (with_reducible exact LeO.none _)
      | (with_reducible refine LeO.ite ?_ ?_)
      | (with_reducible refine LeO.bind ?_ (fun _ => ?_))
      | exact ih0 _ _
      | exact ih1 _ _ _ _
      | exact ih2 _ _ _ _ _
      | exact LeO.none _
      | refine LeO.ite ?_ ?_
      | refine LeO.bind ?_ (fun _ => ?_)
theorem bolterlaw03_PointCut.mono : ∀ a0 a1 a2 k, LeO (bolterlaw03_PointCut.f k a0 a1 a2) (bolterlaw03_PointCut.f (k + 1) a0 a1 a2) := by
  intro a0 a1 a2 k
  obtain ⟨ih0, ih1, ih2⟩ := bolterlaw03_PointCut.mono_l k
  unfold bolterlaw03_PointCut.f
  repeat' first
      | (with_reducible exact ih0 _ _)
      | (with_reducible exact ih1 _ _ _ _)
      | (with_reducible exact ih2 _ _ _ _ _)
      | (with_reducible exact LeO.refl _)
      | (with_reducible exact LeO.none _)
      | (with_reducible refine LeO.ite ?_ ?_)
      | (with_reducible refine LeO.bind ?_ (fun _ => ?_))
      | exact ih0 _ _
      | exact ih1 _ _ _ _
      | exact ih2 _ _ _ _ _
      | exact LeO.none _
      | refine LeO.ite ?_ ?_
      | refine LeO.bind ?_ (fun _ => ?_)
set_option maxHeartbeats 8000000 in
set_option maxRecDepth 100000 in
theorem bolterlaw03_PointCut.calls (k : Nat) (a0 : ByteArray) (A1 : Option Addr) (c1 : Nat) (l1 : List Int) (a2 : ByteArray) (r : Bool) (w : World) (hr1 : Kd.C (Kd.int .u8) w A1 l1.length l1) (hc1 : l1.length ≤ c1) (h : bolterlaw03_PointCut.f k a0 l1 a2 = some r) :
    Calls Try.prog 7 #[.string a0, .slice A1 l1.length c1, .string a2] w fun e w' => e = .returned (.bool r) ∧ Below w.heap.size w w' := by
  have HR1 := Aside0.mk hr1
  have HC1 := Aside0.mk hc1
  clear hr1 hc1
  have HB := Aside0.mk (Below.refl w.heap.size w)
  have H : ((bolterlaw03_awake.f).bind fun t119 => (if t119 = true then ((bolterlaw02_Name.f l1).bind fun t120 => ((point_Plain.f t120).bind fun t121 => (if t121.size + a2.size ≤ 9223372036854775807 then ((point_Cut.f (t121 ++ a2)).bind fun bt122 => (if bt122.2.2 = true then (if bt122.1.toList = t120.toList then (if bt122.2.1.toList = a2.toList then ((point_Plain.f t120).bind fun t125 => (if t120.size + 1 ≤ 9223372036854775807 then (bolterlaw03_PointCut.j0 k a0 (t125.toList != (t120 ++ (⟨#[0]⟩ : ByteArray)).toList)) else (none))) else (bolterlaw03_PointCut.j0 k a0 true)) else (bolterlaw03_PointCut.j0 k a0 true)) else (bolterlaw03_PointCut.j0 k a0 true))) else (none)))) else (some false))) = some r := h
  clear h
  replace H := Option.bind_eq_some_iff.mp H
  obtain ⟨t119, A40, H⟩ := H
  replace H : (if t119 = true then ((bolterlaw02_Name.f l1).bind fun t120 => ((point_Plain.f t120).bind fun t121 => (if t121.size + a2.size ≤ 9223372036854775807 then ((point_Cut.f (t121 ++ a2)).bind fun bt122 => (if bt122.2.2 = true then (if bt122.1.toList = t120.toList then (if bt122.2.1.toList = a2.toList then ((point_Plain.f t120).bind fun t125 => (if t120.size + 1 ≤ 9223372036854775807 then (bolterlaw03_PointCut.j0 k a0 (t125.toList != (t120 ++ (⟨#[0]⟩ : ByteArray)).toList)) else (none))) else (bolterlaw03_PointCut.j0 k a0 true)) else (bolterlaw03_PointCut.j0 k a0 true)) else (bolterlaw03_PointCut.j0 k a0 true))) else (none)))) else (some false)) = some r := H
  have A4 := Aside0.mk A40
  clear A40
  by_cases c5 : t119 = true
  · subst c5
    have H1 : ((bolterlaw02_Name.f l1).bind fun t120 => ((point_Plain.f t120).bind fun t121 => (if t121.size + a2.size ≤ 9223372036854775807 then ((point_Cut.f (t121 ++ a2)).bind fun bt122 => (if bt122.2.2 = true then (if bt122.1.toList = t120.toList then (if bt122.2.1.toList = a2.toList then ((point_Plain.f t120).bind fun t125 => (if t120.size + 1 ≤ 9223372036854775807 then (bolterlaw03_PointCut.j0 k a0 (t125.toList != (t120 ++ (⟨#[0]⟩ : ByteArray)).toList)) else (none))) else (bolterlaw03_PointCut.j0 k a0 true)) else (bolterlaw03_PointCut.j0 k a0 true)) else (bolterlaw03_PointCut.j0 k a0 true))) else (none)))) = some r := by rw [if_pos rfl] at H; exact H
    clear H
    have H := H1
    clear H1
    replace H := Option.bind_eq_some_iff.mp H
    obtain ⟨t120, A60, H⟩ := H
    replace H : ((point_Plain.f t120).bind fun t121 => (if t121.size + a2.size ≤ 9223372036854775807 then ((point_Cut.f (t121 ++ a2)).bind fun bt122 => (if bt122.2.2 = true then (if bt122.1.toList = t120.toList then (if bt122.2.1.toList = a2.toList then ((point_Plain.f t120).bind fun t125 => (if t120.size + 1 ≤ 9223372036854775807 then (bolterlaw03_PointCut.j0 k a0 (t125.toList != (t120 ++ (⟨#[0]⟩ : ByteArray)).toList)) else (none))) else (bolterlaw03_PointCut.j0 k a0 true)) else (bolterlaw03_PointCut.j0 k a0 true)) else (bolterlaw03_PointCut.j0 k a0 true))) else (none))) = some r := H
    have A6 := Aside0.mk A60
    clear A60
    replace H := Option.bind_eq_some_iff.mp H
    obtain ⟨t121, A70, H⟩ := H
    replace H : (if t121.size + a2.size ≤ 9223372036854775807 then ((point_Cut.f (t121 ++ a2)).bind fun bt122 => (if bt122.2.2 = true then (if bt122.1.toList = t120.toList then (if bt122.2.1.toList = a2.toList then ((point_Plain.f t120).bind fun t125 => (if t120.size + 1 ≤ 9223372036854775807 then (bolterlaw03_PointCut.j0 k a0 (t125.toList != (t120 ++ (⟨#[0]⟩ : ByteArray)).toList)) else (none))) else (bolterlaw03_PointCut.j0 k a0 true)) else (bolterlaw03_PointCut.j0 k a0 true)) else (bolterlaw03_PointCut.j0 k a0 true))) else (none)) = some r := H
    have A7 := Aside0.mk A70
    clear A70
    by_cases c8 : t121.size + a2.size ≤ 9223372036854775807
    · rw [if_pos c8] at H
      have c8b0 := eq_true c8
      have c8b1 : decide (t121.size + a2.size ≤ 9223372036854775807) = true := decide_eq_true c8
      try have c8b2 : (9223372036854775807 < t121.size + a2.size) = False := eq_false (Nat.not_lt.2 c8)
      replace H := Option.bind_eq_some_iff.mp H
      obtain ⟨⟨t122, t123, t124⟩, A90, H⟩ := H
      replace H : (if t124 = true then (if t122.toList = t120.toList then (if t123.toList = a2.toList then ((point_Plain.f t120).bind fun t125 => (if t120.size + 1 ≤ 9223372036854775807 then (bolterlaw03_PointCut.j0 k a0 (t125.toList != (t120 ++ (⟨#[0]⟩ : ByteArray)).toList)) else (none))) else (bolterlaw03_PointCut.j0 k a0 true)) else (bolterlaw03_PointCut.j0 k a0 true)) else (bolterlaw03_PointCut.j0 k a0 true)) = some r := H
      have A9 := Aside0.mk A90
      clear A90
      have HC10 := Aside0.mk H
      clear H
      go_enter Try.func7, Try.ntmps7
      go_upto_region 5 with (first | ((with_reducible refine gate_callee (f := 8) rfl ?_); refine goesL_ (some 15) rfl rfl Try.func8 (by kernel_rfl) rfl #[] rfl (by (try simp only [List.map_toArray, List.map_cons, List.map_nil]); first | done | rfl | (simp only [List.length_drop, List.length_take]; rfl)) ?_; (with_reducible refine (bolterlaw03_awake.calls  true _ A4.out).mono ?_); rintro e w11 ⟨rfl, hb⟩; refine ⟨_, rfl, ?_⟩; have n0_ := Aside0.mk (below_step (by repeat (first | (with_reducible first | exact HB.out | apply below_alloc | apply pw_below_drewN | apply below_drew1) | exact HB.out)) hb); clear HB; have HB := n0_; clear n0_; (try clear hb); (try clear hb2); (try clear hk); (try clear hi)) | ((with_reducible refine gate_callee (f := 12) rfl ?_); refine goesL_ (some 18) rfl rfl Try.func12 (by kernel_rfl) rfl #[.slice A1 l1.length c1] rfl (by (try simp only [List.map_toArray, List.map_cons, List.map_nil]); first | done | rfl | (simp only [List.length_drop, List.length_take]; rfl)) ?_; (with_reducible refine (bolterlaw02_Name.calls _ _ l1 t120 _ ?side1 ?side2 A6.out).mono ?_); (case side1 => repeat (first | exact (Kd.C_below HR1.out HB.out) | (with_reducible refine Kd.C_alloc ?_ _) | (with_reducible refine Kd.C_drewN ?_ _) | (with_reducible refine Kd.C_drew ?_))); (case side2 => exact HC1.out); rintro e w12 ⟨rfl, hb⟩; refine ⟨_, rfl, ?_⟩; have n0_ := Aside0.mk (below_step (by repeat (first | (with_reducible first | exact HB.out | apply below_alloc | apply pw_below_drewN | apply below_drew1) | exact HB.out)) hb); clear HB; have HB := n0_; clear n0_; (try clear hb); (try clear hb2); (try clear hk); (try clear hi)) | ((with_reducible refine gate_callee (f := 14) rfl ?_); refine goesL_ (some 21) rfl rfl Try.func14 (by kernel_rfl) rfl #[.string t120] rfl (by (try simp only [List.map_toArray, List.map_cons, List.map_nil]); first | done | rfl | (simp only [List.length_drop, List.length_take]; rfl)) ?_; (with_reducible refine (point_Plain.calls t120 t121 _ A7.out).mono ?_); rintro e w' ⟨rfl, ⟨nd, rfl⟩⟩; refine ⟨_, rfl, ?_⟩) | ((with_reducible refine gate_callee (f := 15) rfl ?_); refine goesL_ (some 24) rfl rfl Try.func15 (by kernel_rfl) rfl #[.string (t121 ++ a2)] rfl (by (try simp only [List.map_toArray, List.map_cons, List.map_nil]); first | done | rfl | (simp only [List.length_drop, List.length_take]; rfl)) ?_; (with_reducible refine (point_Cut.calls (t121 ++ a2) t122 t123 t124 _ A9.out).mono ?_); rintro e w13 ⟨rfl, hb⟩; refine ⟨_, rfl, ?_⟩; have n0_ := Aside0.mk (below_step (by repeat (first | (with_reducible first | exact HB.out | apply below_alloc | apply pw_below_drewN | apply below_drew1) | exact HB.out)) hb); clear HB; have HB := n0_; clear n0_; (try clear hb); (try clear hb2); (try clear hk); (try clear hi)))
      (try simp only [Act.put, List.setIfInBounds_toArray, List.set_cons_zero, List.set_cons_succ])
      go_cut [46] (fun v46 wc => ∃ (kq : Nat) (x46_9 : Bool), v46 = .bool x46_9 ∧ Aside0 (bolterlaw03_PointCut.j0 kq a0 x46_9 = some r) ∧ Aside0 (kq ≤ k) ∧ Aside0 (Below w.heap.size w wc))
      case first =>
        have H := HC10.out
        clear HC10
        by_cases c14 : t124 = true
        · subst c14
          have H1 : (if t122.toList = t120.toList then (if t123.toList = a2.toList then ((point_Plain.f t120).bind fun t125 => (if t120.size + 1 ≤ 9223372036854775807 then (bolterlaw03_PointCut.j0 k a0 (t125.toList != (t120 ++ (⟨#[0]⟩ : ByteArray)).toList)) else (none))) else (bolterlaw03_PointCut.j0 k a0 true)) else (bolterlaw03_PointCut.j0 k a0 true)) = some r := by rw [if_pos rfl] at H; exact H
          clear H
          have H := H1
          clear H1
          by_cases c15 : t122.toList = t120.toList
          · rw [if_pos c15] at H
            have c15b0 : (t122.toList == t120.toList) = true := beq_iff_eq.mpr c15
            have c15b1 : (t122.toList != t120.toList) = false := bne_eq_false_iff_eq.mpr c15
            clear c15
            (first | rw [c15b0] | (simp only [i64_w, i32_w]; rw [c15b0]) | skip)
            by_cases c16 : t123.toList = a2.toList
            · rw [if_pos c16] at H
              have c16b0 : (t123.toList == a2.toList) = true := beq_iff_eq.mpr c16
              have c16b1 : (t123.toList != a2.toList) = false := bne_eq_false_iff_eq.mpr c16
              clear c16
              replace H := Option.bind_eq_some_iff.mp H
              obtain ⟨t125, A170, H⟩ := H
              replace H : (if t120.size + 1 ≤ 9223372036854775807 then (bolterlaw03_PointCut.j0 k a0 (t125.toList != (t120 ++ (⟨#[0]⟩ : ByteArray)).toList)) else (none)) = some r := H
              have A17 := Aside0.mk A170
              clear A170
              by_cases c18 : t120.size + 1 ≤ 9223372036854775807
              · rw [if_pos c18] at H
                have c18b0 := eq_true c18
                have c18b1 : decide (t120.size + 1 ≤ 9223372036854775807) = true := decide_eq_true c18
                try have c18b2 : (9223372036854775807 < t120.size + 1) = False := eq_false (Nat.not_lt.2 c18)
                have H' := Aside0.mk H
                clear H
                go_wp2_with (first | (go_at_call 14; (with_reducible refine (point_Plain.calls t120 t125 _ A17.out).mono ?_); rintro e w' ⟨rfl, ⟨nd, rfl⟩⟩))
                go_meet
                case rel => exact ⟨_, ((t125.toList != (t120 ++ (⟨#[0]⟩ : ByteArray)).toList)), (by first | rfl | (simp; done) | (simp [*]; done)), H', ⟨by first | omega | exact Nat.le_refl _⟩, ⟨by repeat (first | (with_reducible first | exact HB.out | apply below_alloc | apply pw_below_drewN | apply below_drew1) | exact HB.out)⟩⟩
              · rw [if_neg c18] at H
                exact absurd H (by simp)
            · rw [if_neg c16] at H
              have c16b0 : (t123.toList == a2.toList) = false := beq_eq_false_iff_ne.mpr c16
              have c16b1 : (t123.toList != a2.toList) = true := bne_iff_ne.mpr c16
              have H' := Aside0.mk H
              clear H
              go_wp2
              go_meet
              case rel => exact ⟨_, (true), (by first | rfl | (simp; done) | (simp [*]; done)), H', ⟨by first | omega | exact Nat.le_refl _⟩, ⟨by repeat (first | (with_reducible first | exact HB.out | apply below_alloc | apply pw_below_drewN | apply below_drew1) | exact HB.out)⟩⟩
          · rw [if_neg c15] at H
            have c15b0 : (t122.toList == t120.toList) = false := beq_eq_false_iff_ne.mpr c15
            have c15b1 : (t122.toList != t120.toList) = true := bne_iff_ne.mpr c15
            (first | rw [c15b0] | (simp only [i64_w, i32_w]; rw [c15b0]) | skip)
            have H' := Aside0.mk H
            clear H
            go_wp2
            go_meet
            case rel => exact ⟨_, (true), (by first | rfl | (simp; done) | (simp [*]; done)), H', ⟨by first | omega | exact Nat.le_refl _⟩, ⟨by repeat (first | (with_reducible first | exact HB.out | apply below_alloc | apply pw_below_drewN | apply below_drew1) | exact HB.out)⟩⟩
        · replace c14 := Bool.eq_false_iff.mpr c14
          subst c14
          have H1 : (bolterlaw03_PointCut.j0 k a0 true) = some r := by rw [if_neg (show ¬ (false = true) by decide)] at H; exact H
          clear H
          have H := H1
          clear H1
          have H' := Aside0.mk H
          clear H
          go_wp2
          go_meet
          case rel => exact ⟨_, (true), (by first | rfl | (simp; done) | (simp [*]; done)), H', ⟨by first | omega | exact Nat.le_refl _⟩, ⟨by repeat (first | (with_reducible first | exact HB.out | apply below_alloc | apply pw_below_drewN | apply below_drew1) | exact HB.out)⟩⟩
      case rest =>
        clear HC10
        try clear c1
        try clear p2
        try clear c5
        try clear c7
        try clear c8
        try clear c8b0
        try clear c8b1
        try clear c8b2
        try clear c12
        try clear c14
        try clear c15
        try clear c15b0
        try clear c15b1
        try clear c16
        try clear c16b0
        try clear c16b1
        try clear c18
        try clear c18b0
        try clear c18b1
        try clear c18b2
        obtain ⟨kq, x46_9, rfl, HA, HJ9, HB⟩ := hcut
        cases kq with
        | zero => exact absurd HA.out (by simp [bolterlaw03_PointCut.j0])
        | succ kj9 =>
          have H := HA.out
          clear HA
          simp only [bolterlaw03_PointCut.j0] at H
          by_cases c19 : x46_9 = true
          · subst c19
            have H1 : (some false) = some r := by rw [if_pos rfl] at H; exact H
            clear H
            have H := H1
            clear H1
            obtain rfl := Option.some.inj H
            go_wp2
            go_ret
            exact ⟨by first | rfl | (simp [errW_none, errW_some] <;> rfl) | (simp [*, errW_none, errW_some] <;> rfl), by repeat (first | (with_reducible first | exact HB.out | apply below_alloc | apply pw_below_drewN | apply below_drew1) | exact HB.out)⟩
          · replace c19 := Bool.eq_false_iff.mpr c19
            subst c19
            have H1 : ((point_Cut.f a0).bind fun bt126 => (if bt126.2.2 = true then ((name_May.f bt126.1).bind fun t129 => (if t129 = true then ((point_Plain.f bt126.1).bind fun t130 => (if t130.size + bt126.2.1.size ≤ 9223372036854775807 then (some ((t130 ++ bt126.2.1).toList == a0.toList)) else (none))) else (some false))) else (bolterlaw03_PointCut.l0 kj9 a0 bt126.1 bt126.2.1 0))) = some r := by rw [if_neg (show ¬ (false = true) by decide)] at H; exact H
            clear H
            have H := H1
            clear H1
            replace H := Option.bind_eq_some_iff.mp H
            obtain ⟨⟨t126, t127, t128⟩, A200, H⟩ := H
            replace H : (if t128 = true then ((name_May.f t126).bind fun t129 => (if t129 = true then ((point_Plain.f t126).bind fun t130 => (if t130.size + t127.size ≤ 9223372036854775807 then (some ((t130 ++ t127).toList == a0.toList)) else (none))) else (some false))) else (bolterlaw03_PointCut.l0 kj9 a0 t126 t127 0)) = some r := H
            have A20 := Aside0.mk A200
            clear A200
            by_cases c21 : t128 = true
            · subst c21
              have H1 : ((name_May.f t126).bind fun t129 => (if t129 = true then ((point_Plain.f t126).bind fun t130 => (if t130.size + t127.size ≤ 9223372036854775807 then (some ((t130 ++ t127).toList == a0.toList)) else (none))) else (some false))) = some r := by rw [if_pos rfl] at H; exact H
              clear H
              have H := H1
              clear H1
              replace H := Option.bind_eq_some_iff.mp H
              obtain ⟨t129, A220, H⟩ := H
              replace H : (if t129 = true then ((point_Plain.f t126).bind fun t130 => (if t130.size + t127.size ≤ 9223372036854775807 then (some ((t130 ++ t127).toList == a0.toList)) else (none))) else (some false)) = some r := H
              have A22 := Aside0.mk A220
              clear A220
              by_cases c23 : t129 = true
              · subst c23
                have H1 : ((point_Plain.f t126).bind fun t130 => (if t130.size + t127.size ≤ 9223372036854775807 then (some ((t130 ++ t127).toList == a0.toList)) else (none))) = some r := by rw [if_pos rfl] at H; exact H
                clear H
                have H := H1
                clear H1
                replace H := Option.bind_eq_some_iff.mp H
                obtain ⟨t130, A240, H⟩ := H
                replace H : (if t130.size + t127.size ≤ 9223372036854775807 then (some ((t130 ++ t127).toList == a0.toList)) else (none)) = some r := H
                have A24 := Aside0.mk A240
                clear A240
                by_cases c25 : t130.size + t127.size ≤ 9223372036854775807
                · rw [if_pos c25] at H
                  have c25b0 := eq_true c25
                  have c25b1 : decide (t130.size + t127.size ≤ 9223372036854775807) = true := decide_eq_true c25
                  try have c25b2 : (9223372036854775807 < t130.size + t127.size) = False := eq_false (Nat.not_lt.2 c25)
                  obtain rfl := Option.some.inj H
                  go_wp2_with (first | ((with_reducible refine gate_callee (f := 15) rfl ?_); refine goesL_ (some 49) rfl rfl Try.func15 (by kernel_rfl) rfl #[.string a0] rfl (by (try simp only [List.map_toArray, List.map_cons, List.map_nil]); first | done | rfl | (simp only [List.length_drop, List.length_take]; rfl)) ?_; (with_reducible refine (point_Cut.calls a0 t126 t127 true _ A20.out).mono ?_); rintro e w26 ⟨rfl, hb⟩; refine ⟨_, rfl, ?_⟩; have n0_ := Aside0.mk (below_step (by repeat (first | (with_reducible first | exact HB.out | apply below_alloc | apply pw_below_drewN | apply below_drew1) | exact HB.out)) hb); clear HB; have HB := n0_; clear n0_; (try clear hb); (try clear hb2); (try clear hk); (try clear hi)) | ((with_reducible refine gate_callee (f := 11) rfl ?_); refine goesL_ (some 55) rfl rfl Try.func11 (by kernel_rfl) rfl #[.string t126] rfl (by (try simp only [List.map_toArray, List.map_cons, List.map_nil]); first | done | rfl | (simp only [List.length_drop, List.length_take]; rfl)) ?_; (with_reducible refine (name_May.calls t126 true _ A22.out).mono ?_); rintro e w27 ⟨rfl, hb⟩; refine ⟨_, rfl, ?_⟩; have n0_ := Aside0.mk (below_step (by repeat (first | (with_reducible first | exact HB.out | apply below_alloc | apply pw_below_drewN | apply below_drew1) | exact HB.out)) hb); clear HB; have HB := n0_; clear n0_; (try clear hb); (try clear hb2); (try clear hk); (try clear hi)) | (go_at_call 14; (with_reducible refine (point_Plain.calls t126 t130 _ A24.out).mono ?_); rintro e w' ⟨rfl, ⟨nd, rfl⟩⟩))
                  go_ret
                  exact ⟨by first | rfl | (simp [errW_none, errW_some] <;> rfl) | (simp [*, errW_none, errW_some] <;> rfl), by repeat (first | (with_reducible first | exact HB.out | apply below_alloc | apply pw_below_drewN | apply below_drew1) | exact HB.out)⟩
                · rw [if_neg c25] at H
                  exact absurd H (by simp)
              · replace c23 := Bool.eq_false_iff.mpr c23
                subst c23
                have H1 : (some false) = some r := by rw [if_neg (show ¬ (false = true) by decide)] at H; exact H
                clear H
                have H := H1
                clear H1
                obtain rfl := Option.some.inj H
                go_wp2_with (first | ((with_reducible refine gate_callee (f := 15) rfl ?_); refine goesL_ (some 49) rfl rfl Try.func15 (by kernel_rfl) rfl #[.string a0] rfl (by (try simp only [List.map_toArray, List.map_cons, List.map_nil]); first | done | rfl | (simp only [List.length_drop, List.length_take]; rfl)) ?_; (with_reducible refine (point_Cut.calls a0 t126 t127 true _ A20.out).mono ?_); rintro e w28 ⟨rfl, hb⟩; refine ⟨_, rfl, ?_⟩; have n0_ := Aside0.mk (below_step (by repeat (first | (with_reducible first | exact HB.out | apply below_alloc | apply pw_below_drewN | apply below_drew1) | exact HB.out)) hb); clear HB; have HB := n0_; clear n0_; (try clear hb); (try clear hb2); (try clear hk); (try clear hi)) | ((with_reducible refine gate_callee (f := 11) rfl ?_); refine goesL_ (some 55) rfl rfl Try.func11 (by kernel_rfl) rfl #[.string t126] rfl (by (try simp only [List.map_toArray, List.map_cons, List.map_nil]); first | done | rfl | (simp only [List.length_drop, List.length_take]; rfl)) ?_; (with_reducible refine (name_May.calls t126 false _ A22.out).mono ?_); rintro e w29 ⟨rfl, hb⟩; refine ⟨_, rfl, ?_⟩; have n0_ := Aside0.mk (below_step (by repeat (first | (with_reducible first | exact HB.out | apply below_alloc | apply pw_below_drewN | apply below_drew1) | exact HB.out)) hb); clear HB; have HB := n0_; clear n0_; (try clear hb); (try clear hb2); (try clear hk); (try clear hi)))
                go_ret
                exact ⟨by first | rfl | (simp [errW_none, errW_some] <;> rfl) | (simp [*, errW_none, errW_some] <;> rfl), by repeat (first | (with_reducible first | exact HB.out | apply below_alloc | apply pw_below_drewN | apply below_drew1) | exact HB.out)⟩
            · replace c21 := Bool.eq_false_iff.mpr c21
              subst c21
              have H1 : (bolterlaw03_PointCut.l0 kj9 a0 t126 t127 0) = some r := by rw [if_neg (show ¬ (false = true) by decide)] at H; exact H
              clear H
              have H := H1
              clear H1
              have H' := Aside0.mk H
              clear H
              go_wp2_with (first | ((with_reducible refine gate_callee (f := 15) rfl ?_); refine goesL_ (some 49) rfl rfl Try.func15 (by kernel_rfl) rfl #[.string a0] rfl (by (try simp only [List.map_toArray, List.map_cons, List.map_nil]); first | done | rfl | (simp only [List.length_drop, List.length_take]; rfl)) ?_; (with_reducible refine (point_Cut.calls a0 t126 t127 false _ A20.out).mono ?_); rintro e w30 ⟨rfl, hb⟩; refine ⟨_, rfl, ?_⟩; have n0_ := Aside0.mk (below_step (by repeat (first | (with_reducible first | exact HB.out | apply below_alloc | apply pw_below_drewN | apply below_drew1) | exact HB.out)) hb); clear HB; have HB := n0_; clear n0_; (try clear hb); (try clear hb2); (try clear hk); (try clear hi)))
              go_loopg [14] kj9 (fun kq v14 w' => ∃ (x14_2 : Int), v14 = .int .i64 x14_2 ∧ Aside0 (bolterlaw03_PointCut.l0 kq a0 t126 t127 x14_2 = some r) ∧ Aside0 (kq ≤ kj9) ∧ Aside0 (Below w.heap.size w w'))
              case atStart => exact ⟨(0), (by first | rfl | (simp; done) | (simp [*]; done)), H', ⟨Nat.le_refl _⟩, ⟨by repeat (first | (with_reducible first | exact HB.out | apply below_alloc | apply pw_below_drewN | apply below_drew1) | exact HB.out)⟩⟩
              case round =>
                clear H'
                try clear c1
                try clear c2
                try clear p2
                try clear c5
                try clear c7
                try clear c8
                try clear c8b0
                try clear c8b1
                try clear c8b2
                try clear c11
                try clear c12
                try clear c14
                try clear c15
                try clear c15b0
                try clear c15b1
                try clear c16
                try clear c16b0
                try clear c16b1
                try clear c18
                try clear c18b0
                try clear c18b1
                try clear c18b2
                try clear c19
                try clear c21
                try clear c23
                try clear c25
                try clear c25b0
                try clear c25b1
                try clear c25b2
                try clear p2
                obtain ⟨x14_2, rfl, HA, HK2, HB⟩ := hrel
                cases gk with
                | zero => exact absurd HA.out (by simp [bolterlaw03_PointCut.l0])
                | succ k2 =>
                  have H := HA.out
                  clear HA
                  simp only [bolterlaw03_PointCut.l0] at H
                  have HC31 := Aside0.mk H
                  clear H
                  go_upto_region 11 with (fail)
                  go_cut [71] (fun v71 wc => ∃ (kq : Nat) (x71_30 : Bool), v71 = .bool x71_30 ∧ Aside0 (bolterlaw03_PointCut.j2 kq a0 t126 t127 x14_2 x71_30 = some r) ∧ Aside0 (kq ≤ k2) ∧ Aside0 (Below w.heap.size w wc))
                  case first =>
                    have H := HC31.out
                    clear HC31
                    by_cases c32 : x14_2 < (a0.size : Int)
                    · rw [if_pos c32] at H
                      have c32b0 : decide (x14_2 < (a0.size : Int)) = true := decide_eq_true c32
                      clear c32
                      (first | rw [c32b0] | (simp only [i64_w, i32_w]; rw [c32b0]) | skip)
                      have H' := Aside0.mk H
                      clear H
                      go_wp2
                      go_meet
                      case rel => exact ⟨_, (decide (x14_2 < 300)), (by first | rfl | (simp; done) | (simp [*]; done)), H', ⟨by have := HJ9.out; have := HK2.out; first | omega | exact Nat.le_refl _⟩, ⟨by repeat (first | (with_reducible first | exact HB.out | apply below_alloc | apply pw_below_drewN | apply below_drew1) | exact HB.out)⟩⟩
                    · rw [if_neg c32] at H
                      have c32b0 : decide (x14_2 < (a0.size : Int)) = false := decide_eq_false c32
                      clear c32
                      (first | rw [c32b0] | (simp only [i64_w, i32_w]; rw [c32b0]) | skip)
                      have H' := Aside0.mk H
                      clear H
                      go_wp2
                      go_meet
                      case rel => exact ⟨_, (false), (by first | rfl | (simp; done) | (simp [*]; done)), H', ⟨by have := HJ9.out; have := HK2.out; first | omega | exact Nat.le_refl _⟩, ⟨by repeat (first | (with_reducible first | exact HB.out | apply below_alloc | apply pw_below_drewN | apply below_drew1) | exact HB.out)⟩⟩
                  case rest =>
                    clear HC31
                    try clear c1
                    try clear c2
                    try clear p2
                    try clear c3
                    try clear c5
                    try clear c7
                    try clear c8
                    try clear c8b0
                    try clear c8b1
                    try clear c8b2
                    try clear c11
                    try clear c12
                    try clear c14
                    try clear c15
                    try clear c15b0
                    try clear c15b1
                    try clear c16
                    try clear c16b0
                    try clear c16b1
                    try clear c18
                    try clear c18b0
                    try clear c18b1
                    try clear c18b2
                    try clear c19
                    try clear c21
                    try clear c23
                    try clear c25
                    try clear c25b0
                    try clear c25b1
                    try clear c25b2
                    try clear c32
                    try clear c32b0
                    try clear p2
                    obtain ⟨kq, x71_30, rfl, HA, HJ30, HB⟩ := hcut
                    cases kq with
                    | zero => exact absurd HA.out (by simp [bolterlaw03_PointCut.j2])
                    | succ kj30 =>
                      have H := HA.out
                      clear HA
                      simp only [bolterlaw03_PointCut.j2] at H
                      by_cases c33 : x71_30 = true
                      · subst c33
                        have H1 : (if 0 ≤ x14_2 then (if x14_2 < (a0.size : Int) then (if (bt a0 x14_2) = 0 then (if x14_2 ≤ (a0.size : Int) then ((name_May.f (a0.extract 0 (x14_2 : Int).toNat)).bind fun t131 => (if t131 = true then (some false) else (bolterlaw03_PointCut.l0 kj30 a0 t126 t127 (wrap64 (x14_2 + 1))))) else (none)) else (bolterlaw03_PointCut.l0 kj30 a0 t126 t127 (wrap64 (x14_2 + 1)))) else (none)) else (none)) = some r := by rw [if_pos rfl] at H; exact H
                        clear H
                        have H := H1
                        clear H1
                        by_cases c34 : 0 ≤ x14_2
                        · rw [if_pos c34] at H
                          have c34b0 : decide (0 ≤ x14_2) = true := decide_eq_true c34
                          clear c34
                          by_cases c35 : x14_2 < (a0.size : Int)
                          · rw [if_pos c35] at H
                            have c35b0 : decide (x14_2 < (a0.size : Int)) = true := decide_eq_true c35
                            clear c35
                            by_cases c37 : (bt a0 x14_2) = 0
                            · rw [if_pos c37] at H
                              have c37b0 : ((bt a0 x14_2) == 0) = true := beq_iff_eq.mpr c37
                              have c37b1 : ((bt a0 x14_2) != 0) = false := bne_eq_false_iff_eq.mpr c37
                              clear c37
                              have c38b0 := eq_true (of_decide_eq_true (by first | (with_reducible assumption) | assumption) : 0 ≤ x14_2)
                              by_cases c39 : x14_2 ≤ (a0.size : Int)
                              · rw [if_pos c39] at H
                                have c39b0 := eq_true c39
                                have c39b1 : decide (x14_2 ≤ (a0.size : Int)) = true := decide_eq_true c39
                                clear c39
                                replace H := Option.bind_eq_some_iff.mp H
                                obtain ⟨t131, A400, H⟩ := H
                                replace H : (if t131 = true then (some false) else (bolterlaw03_PointCut.l0 kj30 a0 t126 t127 (wrap64 (x14_2 + 1)))) = some r := H
                                have A40 := Aside0.mk A400
                                clear A400
                                by_cases c41 : t131 = true
                                · subst c41
                                  have H1 : (some false) = some r := by rw [if_pos rfl] at H; exact H
                                  clear H
                                  have H := H1
                                  clear H1
                                  obtain rfl := Option.some.inj H
                                  have p36 : 0 ≤ (x14_2 : Int) := of_decide_eq_true (by first | (with_reducible assumption) | assumption)
                                  have q36 : x14_2 < (a0.size : Int) := of_decide_eq_true (by first | (with_reducible assumption) | assumption)
                                  have hx36 := bt_at a0 x14_2
                                  replace p36 := eq_true p36
                                  replace q36 := eq_true q36
                                  go_wp2_with (first | (go_at_call 11; (with_reducible refine (name_May.calls (a0.extract 0 (x14_2 : Int).toNat) true _ A40.out).mono ?_); rintro e w42 ⟨rfl, hb⟩; have n0_ := Aside0.mk (below_step (by repeat (first | (with_reducible first | exact HB.out | apply below_alloc | apply pw_below_drewN | apply below_drew1) | exact HB.out)) hb); clear HB; have HB := n0_; clear n0_; (try clear hb); (try clear hb2); (try clear hk); (try clear hi)))
                                  go_ret
                                  exact ⟨by first | rfl | (simp [errW_none, errW_some] <;> rfl) | (simp [*, errW_none, errW_some] <;> rfl), by repeat (first | (with_reducible first | exact HB.out | apply below_alloc | apply pw_below_drewN | apply below_drew1) | exact HB.out)⟩
                                · replace c41 := Bool.eq_false_iff.mpr c41
                                  subst c41
                                  have H1 : (bolterlaw03_PointCut.l0 kj30 a0 t126 t127 (wrap64 (x14_2 + 1))) = some r := by rw [if_neg (show ¬ (false = true) by decide)] at H; exact H
                                  clear H
                                  have H := H1
                                  clear H1
                                  have H' := Aside0.mk H
                                  clear H
                                  have p36 : 0 ≤ (x14_2 : Int) := of_decide_eq_true (by first | (with_reducible assumption) | assumption)
                                  have q36 : x14_2 < (a0.size : Int) := of_decide_eq_true (by first | (with_reducible assumption) | assumption)
                                  have hx36 := bt_at a0 x14_2
                                  replace p36 := eq_true p36
                                  replace q36 := eq_true q36
                                  go_wp2_with (first | (go_at_call 11; (with_reducible refine (name_May.calls (a0.extract 0 (x14_2 : Int).toNat) false _ A40.out).mono ?_); rintro e w43 ⟨rfl, hb⟩; have n0_ := Aside0.mk (below_step (by repeat (first | (with_reducible first | exact HB.out | apply below_alloc | apply pw_below_drewN | apply below_drew1) | exact HB.out)) hb); clear HB; have HB := n0_; clear n0_; (try clear hb); (try clear hb2); (try clear hk); (try clear hi)))
                                  go_roundg kj30
                                  case measure => have := HJ9.out; have := HK2.out; have := HJ30.out; omega
                                  case rel => exact ⟨(wrap64 (x14_2 + 1)), (by first | rfl | (simp; done) | (simp [*]; done)), H', ⟨by have := HJ9.out; have := HK2.out; have := HJ30.out; omega⟩, ⟨by repeat (first | (with_reducible first | exact HB.out | apply below_alloc | apply pw_below_drewN | apply below_drew1) | exact HB.out)⟩⟩
                              · rw [if_neg c39] at H
                                exact absurd H (by simp)
                            · rw [if_neg c37] at H
                              have c37b0 : ((bt a0 x14_2) == 0) = false := beq_eq_false_iff_ne.mpr c37
                              have c37b1 : ((bt a0 x14_2) != 0) = true := bne_iff_ne.mpr c37
                              have H' := Aside0.mk H
                              clear H
                              have p36 : 0 ≤ (x14_2 : Int) := of_decide_eq_true (by first | (with_reducible assumption) | assumption)
                              have q36 : x14_2 < (a0.size : Int) := of_decide_eq_true (by first | (with_reducible assumption) | assumption)
                              have hx36 := bt_at a0 x14_2
                              replace p36 := eq_true p36
                              replace q36 := eq_true q36
                              go_wp2
                              go_roundg kj30
                              case measure => have := HJ9.out; have := HK2.out; have := HJ30.out; omega
                              case rel => exact ⟨(wrap64 (x14_2 + 1)), (by first | rfl | (simp; done) | (simp [*]; done)), H', ⟨by have := HJ9.out; have := HK2.out; have := HJ30.out; omega⟩, ⟨by repeat (first | (with_reducible first | exact HB.out | apply below_alloc | apply pw_below_drewN | apply below_drew1) | exact HB.out)⟩⟩
                          · rw [if_neg c35] at H
                            exact absurd H (by simp)
                        · rw [if_neg c34] at H
                          exact absurd H (by simp)
                      · replace c33 := Bool.eq_false_iff.mpr c33
                        subst c33
                        have H1 : (if t126.toList = ([] : List UInt8) then (some (t127.toList == ([] : List UInt8))) else (some false)) = some r := by rw [if_neg (show ¬ (false = true) by decide)] at H; exact H
                        clear H
                        have H := H1
                        clear H1
                        by_cases c44 : t126.toList = ([] : List UInt8)
                        · rw [if_pos c44] at H
                          have c44b0 : (t126.toList == ([] : List UInt8)) = true := beq_iff_eq.mpr c44
                          have c44b1 : (t126.toList != ([] : List UInt8)) = false := bne_eq_false_iff_eq.mpr c44
                          clear c44
                          obtain rfl := Option.some.inj H
                          go_wp2
                          go_ret
                          exact ⟨by first | rfl | (simp [errW_none, errW_some] <;> rfl) | (simp [*, errW_none, errW_some] <;> rfl), by repeat (first | (with_reducible first | exact HB.out | apply below_alloc | apply pw_below_drewN | apply below_drew1) | exact HB.out)⟩
                        · rw [if_neg c44] at H
                          have c44b0 : (t126.toList == ([] : List UInt8)) = false := beq_eq_false_iff_ne.mpr c44
                          have c44b1 : (t126.toList != ([] : List UInt8)) = true := bne_iff_ne.mpr c44
                          obtain rfl := Option.some.inj H
                          go_wp2
                          go_ret
                          exact ⟨by first | rfl | (simp [errW_none, errW_some] <;> rfl) | (simp [*, errW_none, errW_some] <;> rfl), by repeat (first | (with_reducible first | exact HB.out | apply below_alloc | apply pw_below_drewN | apply below_drew1) | exact HB.out)⟩
    · rw [if_neg c8] at H
      exact absurd H (by simp)
  · replace c5 := Bool.eq_false_iff.mpr c5
    subst c5
    have H1 : (some false) = some r := by rw [if_neg (show ¬ (false = true) by decide)] at H; exact H
    clear H
    have H := H1
    clear H1
    obtain rfl := Option.some.inj H
    go_enter Try.func7, Try.ntmps7
    go_wp2_with (first | ((with_reducible refine gate_callee (f := 8) rfl ?_); refine goesL_ (some 15) rfl rfl Try.func8 (by kernel_rfl) rfl #[] rfl (by (try simp only [List.map_toArray, List.map_cons, List.map_nil]); first | done | rfl | (simp only [List.length_drop, List.length_take]; rfl)) ?_; (with_reducible refine (bolterlaw03_awake.calls  false _ A4.out).mono ?_); rintro e w45 ⟨rfl, hb⟩; refine ⟨_, rfl, ?_⟩; have n0_ := Aside0.mk (below_step (by repeat (first | (with_reducible first | exact HB.out | apply below_alloc | apply pw_below_drewN | apply below_drew1) | exact HB.out)) hb); clear HB; have HB := n0_; clear n0_; (try clear hb); (try clear hb2); (try clear hk); (try clear hi)))
    go_ret
    exact ⟨by first | rfl | (simp [errW_none, errW_some] <;> rfl) | (simp [*, errW_none, errW_some] <;> rfl), by repeat (first | (with_reducible first | exact HB.out | apply below_alloc | apply pw_below_drewN | apply below_drew1) | exact HB.out)⟩

/-- THE ONE PURE STATEMENT of bolterlaw03_PointCut: yours. -/
def bolterlaw03_PointCut.Pure : Prop := ∀ (a0 : ByteArray) (l1 : List Int) (a2 : ByteArray), a0.size ≤ 140737488351232 → l1.length ≤ maxLen → l1.length * 1 ≤ 140737488351232 → (∀ x ∈ l1, (Lit.int .u8 x).wf = true) → a2.size ≤ 140737488351232 → ∃ k, bolterlaw03_PointCut.f k a0 l1 a2 = some true
theorem bolterlaw03_PointCut.walk (P : bolterlaw03_PointCut.Pure) (a0 : ByteArray) (a1 : Option Addr) (len1 cap1 : Nat) (z1 : List Int) (a2 : ByteArray) (w : World) (w0 : a0.size ≤ 140737488351232) (w1 : (a1 = none ∧ len1 = 0 ∧ cap1 = 0 ∧ z1 = []) ∨ ∃ x, a1 = some x ∧ len1 ≤ cap1 ∧ cap1 ≤ maxLen ∧ z1.length = cap1 ∧ (∀ i, i < z1.length → w.cell? (x.add i) = some (.int .u8 (z1.getD i 0))) ∧ ∀ n ∈ z1, (Lit.int .u8 n).wf = true) (y1 : len1 * 1 ≤ 140737488351232) (w2 : a2.size ≤ 140737488351232) :
    Calls Try.prog 7 #[.string a0, .slice a1 len1 cap1, .string a2] w fun e w' => e = .returned (.bool true) ∧ Below w.heap.size w w' := by
  obtain ⟨l1, rfl, hr1, hm1, hw1, hc1⟩ := ReadsInt.ofRowC w1
  obtain ⟨k, h⟩ := P a0 l1 a2 w0 hm1 y1 hw1 w2
  refine (bolterlaw03_PointCut.calls k a0 _ _ l1 a2 true w (Kd.C_of_reads (d := (0 : Int)) (h1 := fun _ => rfl) hr1) hc1 h).mono ?_
  rintro e w' ⟨rfl, hd⟩
  exact ⟨rfl, hd⟩

end Go.Proofs.Ytdmpmcmpkmldnaa.PC
