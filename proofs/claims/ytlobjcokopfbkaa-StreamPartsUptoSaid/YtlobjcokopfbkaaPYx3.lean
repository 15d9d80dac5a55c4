import Derived.Test.YtlobjcokopfbkaaPYx0
import Derived.Test.YtlobjcokopfbkaaPYx1
import Derived.Test.YtlobjcokopfbkaaPYx2
namespace Go.Proofs.Ytlobjcokopfbkaa.PY
open Go.RowKit Go.Proofs.YtlobjcokopfbkaaW.PrintWords Go.Proofs.YtlobjcokopfbkaaW.PrintLast Go.Proofs.YtlobjcokopfbkaaW.PrintMore
attribute [local go_sem] max2_int min2_int max_two min_two max_three min_three max_four min_four   -- for this text's walks alone
set_option linter.unusedVariables false
set_option linter.unusedSimpArgs false
attribute [local go_sem high] eqA32
mutual
def stream_Done.j0 : Nat → List (S32) → Int → Int → Bool → Option (Bool)
  | 0, _, _, _, _ => none
  | k + 1, x0, x3, x4, x26 => if x26 = true then (stream_Done.j1 k x0 3 x4) else (stream_Done.j1 k x0 x3 x4)
def stream_Done.j1 : Nat → List (S32) → Int → Int → Option (Bool)
  | 0, _, _, _ => none
  | k + 1, x0, x3, x4 => stream_Done.l0 k x0 x3 x4 x0 (x0.length : Int) 0
def stream_Done.l0 : Nat → List (S32) → Int → Int → List (S32) → Int → Int → Option (Bool)
  | 0, _, _, _, _, _, _ => none
  | k + 1, x0, x3, x4, x27, x28, x29 => if x29 < x28 then (if 0 ≤ x29 then (if x29 < (x27.length : Int) then (if 0 < (x0.length : Int) then (if ((((rd_T32 x27 x29).f0).toList) == (((rd_T32 x0 0).f0).toList) && (((rd_T32 x27 x29).f1) == ((rd_T32 x0 0).f1) && (((rd_T32 x27 x29).f2) == ((rd_T32 x0 0).f2) && ((((rd_T32 x27 x29).f3).toList) == (((rd_T32 x0 0).f3).toList))))) = true then (stream_Done.l0 k x0 x3 (wrap64 (x4 + 1)) x27 x28 (wrap64 (x29 + 1))) else (stream_Done.l0 k x0 x3 x4 x27 x28 (wrap64 (x29 + 1)))) else (none)) else (none)) else (none)) else (some (decide (x4 ≥ x3)))
end
def stream_Done.f (k : Nat) (l0 : List (S32)) : Option (Bool) := if (l0.length : Int) < 2 then (some ((l0.length : Int) == 1)) else (if 1 < (l0.length : Int) then (if ((rd_T32 l0 1).f1) = 6 then (if 0 < (l0.length : Int) then (stream_Done.j0 k l0 2 0 (!((((rd_T32 l0 1).f0).toList) == (((rd_T32 l0 0).f0).toList)) || (!(((rd_T32 l0 1).f1) == ((rd_T32 l0 0).f1)) || (!(((rd_T32 l0 1).f2) == ((rd_T32 l0 0).f2)) || (!((((rd_T32 l0 1).f3).toList) == (((rd_T32 l0 0).f3).toList))))))) else (none)) else (stream_Done.j0 k l0 2 0 false)) else (none))
theorem stream_Done.mono_l : ∀ k, (∀ y0 y1 y2 y3, LeO (stream_Done.j0 k y0 y1 y2 y3) (stream_Done.j0 (k + 1) y0 y1 y2 y3)) ∧ (∀ y0 y1 y2, LeO (stream_Done.j1 k y0 y1 y2) (stream_Done.j1 (k + 1) y0 y1 y2)) ∧ (∀ y0 y1 y2 y3 y4 y5, LeO (stream_Done.l0 k y0 y1 y2 y3 y4 y5) (stream_Done.l0 (k + 1) y0 y1 y2 y3 y4 y5))
  | 0 => ⟨fun _ _ _ _ r h => by simp [stream_Done.j0] at h, fun _ _ _ r h => by simp [stream_Done.j1] at h, fun _ _ _ _ _ _ r h => by simp [stream_Done.l0] at h⟩
  | k + 1 => by
    obtain ⟨ih0, ih1, ih2⟩ := stream_Done.mono_l k
    refine ⟨?_, ?_, ?_⟩
    · intro y0 y1 y2 y3
      unfold stream_Done.j0
      repeat' first
      | (with_reducible exact ih0 _ _ _ _)
      | (with_reducible exact ih1 _ _ _)
      | (with_reducible exact ih2 _ _ _ _ _ _)
      | (with_reducible exact LeO.refl _)
      | (with_reducible exact LeO.none _)
      | (with_reducible refine LeO.ite ?_ ?_)
      | (with_reducible refine LeO.bind ?_ (fun _ => ?_))
      | exact ih0 _ _ _ _
      | exact ih1 _ _ _
      | exact ih2 _ _ _ _ _ _
      | exact LeO.none _
      | refine LeO.ite ?_ ?_
      | refine LeO.bind ?_ (fun _ => ?_)
    · intro y0 y1 y2
      unfold stream_Done.j1
      repeat' first
      | (with_reducible exact ih0 _ _ _ _)
      | (with_reducible exact ih1 _ _ _)
      | (with_reducible exact ih2 _ _ _ _ _ _)
      | (with_reducible exact LeO.refl _)
      | (with_reducible exact LeO.none _)
      | (with_reducible refine LeO.ite ?_ ?_)
      | (with_reducible refine LeO.bind ?_ (fun _ => ?_))
      | exact ih0 _ _ _ _
      | exact ih1 _ _ _
      | exact ih2 _ _ _ _ _ _
      | exact LeO.none _
      | refine LeO.ite ?_ ?_
      | refine LeO.bind ?_ (fun _ => ?_)
    · intro y0 y1 y2 y3 y4 y5
      unfold stream_Done.l0
      repeat' first
      | (with_reducible exact ih0 _ _ _ _)
      | (with_reducible exact ih1 _ _ _)
      | (with_reducible exact ih2 _ _ _ _ _ _)
      | (with_reducible exact LeO.refl _)
      | (with_reducible exact LeO.none _)
      | (with_reducible refine LeO.ite ?_ ?_)
      | (with_reducible refine LeO.bind ?_ (fun _ => ?_))
      | exact ih0 _ _ _ _
      | exact ih1 _ _ _
      | exact ih2 _ _ _ _ _ _
      | exact LeO.none _
      | refine LeO.ite ?_ ?_
      | refine LeO.bind ?_ (fun _ => ?_)
theorem stream_Done.mono : ∀ a0 k, LeO (stream_Done.f k a0) (stream_Done.f (k + 1) a0) := by
  intro a0 k
  obtain ⟨ih0, ih1, ih2⟩ := stream_Done.mono_l k
  unfold stream_Done.f
  repeat' first
      | (with_reducible exact ih0 _ _ _ _)
      | (with_reducible exact ih1 _ _ _)
      | (with_reducible exact ih2 _ _ _ _ _ _)
      | (with_reducible exact LeO.refl _)
      | (with_reducible exact LeO.none _)
      | (with_reducible refine LeO.ite ?_ ?_)
      | (with_reducible refine LeO.bind ?_ (fun _ => ?_))
      | exact ih0 _ _ _ _
      | exact ih1 _ _ _
      | exact ih2 _ _ _ _ _ _
      | exact LeO.none _
      | refine LeO.ite ?_ ?_
      | refine LeO.bind ?_ (fun _ => ?_)
set_option maxHeartbeats 8000000 in
set_option maxRecDepth 100000 in
theorem stream_Done.calls (k : Nat) (A0 : Option Addr) (c0 : Nat) (l0 : List (S32)) (r : Bool) (w : World) (hr0 : Kd.C k32 w A0 l0.length l0) (hc0 : l0.length ≤ c0) (h : stream_Done.f k l0 = some r) :
    Calls Try.prog 8 #[.slice A0 l0.length c0] w fun e w' => e = .returned (.bool r) ∧ Below w.heap.size w w' := by
  have hu32 := Try.underlying32
  have HR0 := Aside0.mk hr0
  have HC0 := Aside0.mk hc0
  clear hr0 hc0
  have HB := Aside0.mk (Below.refl w.heap.size w)
  have H : (if (l0.length : Int) < 2 then (some ((l0.length : Int) == 1)) else (if 1 < (l0.length : Int) then (if ((rd_T32 l0 1).f1) = 6 then (if 0 < (l0.length : Int) then (stream_Done.j0 k l0 2 0 (!((((rd_T32 l0 1).f0).toList) == (((rd_T32 l0 0).f0).toList)) || (!(((rd_T32 l0 1).f1) == ((rd_T32 l0 0).f1)) || (!(((rd_T32 l0 1).f2) == ((rd_T32 l0 0).f2)) || (!((((rd_T32 l0 1).f3).toList) == (((rd_T32 l0 0).f3).toList))))))) else (none)) else (stream_Done.j0 k l0 2 0 false)) else (none))) = some r := h
  clear h
  by_cases c2 : (l0.length : Int) < 2
  · rw [if_pos c2] at H
    have c2b0 : decide ((l0.length : Int) < 2) = true := decide_eq_true c2
    have c2b1 : decide (l0.length < 2) = true := decide_eq_true (by omega)
    clear c2
    obtain rfl := Option.some.inj H
    go_enter Try.func8, Try.ntmps8
    go_wp2
    repeat (go_quiet (fail); try go_wp2)
    go_ret
    exact ⟨by first | rfl | (simp [errW_none, errW_some] <;> rfl) | (simp [*, errW_none, errW_some] <;> rfl), by repeat (first | (with_reducible first | exact HB.out | apply below_alloc | apply pw_below_drewN | apply below_drew1) | exact HB.out)⟩
  · rw [if_neg c2] at H
    have c2b0 : decide ((l0.length : Int) < 2) = false := decide_eq_false c2
    have c2b1 : decide (l0.length < 2) = false := decide_eq_false (by omega)
    clear c2
    have HC3 := Aside0.mk H
    clear H
    go_enter Try.func8, Try.ntmps8
    go_upto_region 4 with (fail)
    repeat (go_quiet (fail); go_upto_region 4 with (fail))
    go_cut [26] (fun v26 wc => ∃ (kq : Nat) (x26_2 : Bool), v26 = .bool x26_2 ∧ Aside0 (stream_Done.j0 kq l0 2 0 x26_2 = some r) ∧ Aside0 (kq ≤ k) ∧ Aside0 (Below w.heap.size w wc))
    case first =>
      have H := HC3.out
      clear HC3
      by_cases c4 : 1 < (l0.length : Int)
      · rw [if_pos c4] at H
        have c4b0 : decide (1 < (l0.length : Int)) = true := decide_eq_true c4
        have c4b1 : decide (1 < l0.length) = true := decide_eq_true (by omega)
        clear c4
        (first | rw [c4b0] | (simp only [i64_w, i32_w]; rw [c4b0]) | skip)
        by_cases c5 : ((rd_T32 l0 1).f1) = 6
        · rw [if_pos c5] at H
          have c5b0 : (((rd_T32 l0 1).f1) == 6) = true := beq_iff_eq.mpr c5
          have c5b1 : (((rd_T32 l0 1).f1) != 6) = false := bne_eq_false_iff_eq.mpr c5
          clear c5
          by_cases c6 : 0 < (l0.length : Int)
          · rw [if_pos c6] at H
            have c6b0 : decide (0 < (l0.length : Int)) = true := decide_eq_true c6
            have c6b1 : decide (0 < l0.length) = true := decide_eq_true (by omega)
            clear c6
            have H' := Aside0.mk H
            clear H
            have p133 : 0 ≤ (1 : Int) := (by omega)
            have q133 : 1 < (l0.length : Int) := of_decide_eq_true (by first | (with_reducible assumption) | assumption)
            obtain ⟨ad133, e133, hx133_0, hx133_1, hx133_2, hx133_3⟩ := at_T32 HR0.out 1 p133 q133
            cases e133
            (try simp only [show (1 : Int).toNat = 1 from rfl, Nat.reduceMul, Nat.reduceEqDiff, Go.Addr.add, ↓reduceIte] at hx133_0)
            (try simp only [show (1 : Int).toNat = 1 from rfl, Nat.reduceMul, Nat.reduceEqDiff, Go.Addr.add, ↓reduceIte] at hx133_1)
            (try simp only [show (1 : Int).toNat = 1 from rfl, Nat.reduceMul, Nat.reduceEqDiff, Go.Addr.add, ↓reduceIte] at hx133_2)
            (try simp only [show (1 : Int).toNat = 1 from rfl, Nat.reduceMul, Nat.reduceEqDiff, Go.Addr.add, ↓reduceIte] at hx133_3)
            have qi133 : (1 < l0.length) = True := eq_true (by omega)
            (try rw [show ((1 : Int)).toNat = 1 from rfl] at hx133_0)
            (try rw [show 1 * 4 = 4 from rfl] at hx133_0)
            (try rw [show ((1 : Int)).toNat = 1 from rfl] at hx133_1)
            (try rw [show 1 * 4 = 4 from rfl] at hx133_1)
            (try rw [show ((1 : Int)).toNat = 1 from rfl] at hx133_2)
            (try rw [show 1 * 4 = 4 from rfl] at hx133_2)
            (try rw [show ((1 : Int)).toNat = 1 from rfl] at hx133_3)
            (try rw [show 1 * 4 = 4 from rfl] at hx133_3)
            replace hx133_0 := (HB.out.cell (World.block_lt_of_cell? w _ hx133_0)).trans hx133_0
            replace hx133_1 := (HB.out.cell (World.block_lt_of_cell? w _ hx133_1)).trans hx133_1
            replace hx133_2 := (HB.out.cell (World.block_lt_of_cell? w _ hx133_2)).trans hx133_2
            replace hx133_3 := (HB.out.cell (World.block_lt_of_cell? w _ hx133_3)).trans hx133_3
            replace p133 := eq_true p133
            replace q133 := eq_true q133
            have p134 : 0 ≤ (1 : Int) := (by omega)
            have q134 : 1 < (l0.length : Int) := of_decide_eq_true (by first | (with_reducible assumption) | assumption)
            obtain ⟨ad134, e134, hx134_0, hx134_1, hx134_2, hx134_3⟩ := at_T32 HR0.out 1 p134 q134
            obtain rfl : ad133 = ad134 := (by injection e134)
            (try simp only [show (1 : Int).toNat = 1 from rfl, Nat.reduceMul, Nat.reduceEqDiff, Go.Addr.add, ↓reduceIte] at hx134_0)
            (try simp only [show (1 : Int).toNat = 1 from rfl, Nat.reduceMul, Nat.reduceEqDiff, Go.Addr.add, ↓reduceIte] at hx134_1)
            (try simp only [show (1 : Int).toNat = 1 from rfl, Nat.reduceMul, Nat.reduceEqDiff, Go.Addr.add, ↓reduceIte] at hx134_2)
            (try simp only [show (1 : Int).toNat = 1 from rfl, Nat.reduceMul, Nat.reduceEqDiff, Go.Addr.add, ↓reduceIte] at hx134_3)
            have qi134 : (1 < l0.length) = True := eq_true (by omega)
            (try rw [show ((1 : Int)).toNat = 1 from rfl] at hx134_0)
            (try rw [show 1 * 4 = 4 from rfl] at hx134_0)
            (try rw [show ((1 : Int)).toNat = 1 from rfl] at hx134_1)
            (try rw [show 1 * 4 = 4 from rfl] at hx134_1)
            (try rw [show ((1 : Int)).toNat = 1 from rfl] at hx134_2)
            (try rw [show 1 * 4 = 4 from rfl] at hx134_2)
            (try rw [show ((1 : Int)).toNat = 1 from rfl] at hx134_3)
            (try rw [show 1 * 4 = 4 from rfl] at hx134_3)
            replace hx134_0 := (HB.out.cell (World.block_lt_of_cell? w _ hx134_0)).trans hx134_0
            replace hx134_1 := (HB.out.cell (World.block_lt_of_cell? w _ hx134_1)).trans hx134_1
            replace hx134_2 := (HB.out.cell (World.block_lt_of_cell? w _ hx134_2)).trans hx134_2
            replace hx134_3 := (HB.out.cell (World.block_lt_of_cell? w _ hx134_3)).trans hx134_3
            replace p134 := eq_true p134
            replace q134 := eq_true q134
            have p135 : 0 ≤ (0 : Int) := (by omega)
            have q135 : 0 < (l0.length : Int) := of_decide_eq_true (by first | (with_reducible assumption) | assumption)
            obtain ⟨ad135, e135, hx135_0, hx135_1, hx135_2, hx135_3⟩ := at_T32 HR0.out 0 p135 q135
            obtain rfl : ad133 = ad135 := (by injection e135)
            have qi135 : (0 < l0.length) = True := eq_true (by omega)
            (try rw [show ((0 : Int)).toNat = 0 from rfl] at hx135_0)
            (try rw [show 0 * 4 = 0 from rfl] at hx135_0)
            (try rw [Addr.add_zero'] at hx135_0)
            (try rw [show ((0 : Int)).toNat = 0 from rfl] at hx135_1)
            (try rw [show 0 * 4 = 0 from rfl] at hx135_1)
            (try rw [Addr.add_zero'] at hx135_1)
            (try rw [show ((0 : Int)).toNat = 0 from rfl] at hx135_2)
            (try rw [show 0 * 4 = 0 from rfl] at hx135_2)
            (try rw [Addr.add_zero'] at hx135_2)
            (try rw [show ((0 : Int)).toNat = 0 from rfl] at hx135_3)
            (try rw [show 0 * 4 = 0 from rfl] at hx135_3)
            (try rw [Addr.add_zero'] at hx135_3)
            replace hx135_0 := (HB.out.cell (World.block_lt_of_cell? w _ hx135_0)).trans hx135_0
            replace hx135_1 := (HB.out.cell (World.block_lt_of_cell? w _ hx135_1)).trans hx135_1
            replace hx135_2 := (HB.out.cell (World.block_lt_of_cell? w _ hx135_2)).trans hx135_2
            replace hx135_3 := (HB.out.cell (World.block_lt_of_cell? w _ hx135_3)).trans hx135_3
            replace p135 := eq_true p135
            replace q135 := eq_true q135
            go_wp2
            repeat (go_quiet (fail); try go_wp2)
            go_meet
            case rel => exact ⟨_, ((!((((rd_T32 l0 1).f0).toList) == (((rd_T32 l0 0).f0).toList)) || (!(((rd_T32 l0 1).f1) == ((rd_T32 l0 0).f1)) || (!(((rd_T32 l0 1).f2) == ((rd_T32 l0 0).f2)) || (!((((rd_T32 l0 1).f3).toList) == (((rd_T32 l0 0).f3).toList))))))), (by first | rfl | (simp; done) | (simp [*]; done)), H', ⟨by first | omega | exact Nat.le_refl _⟩, ⟨by repeat (first | (with_reducible first | exact HB.out | apply below_alloc | apply pw_below_drewN | apply below_drew1) | exact HB.out)⟩⟩
          · rw [if_neg c6] at H
            exact absurd H (by simp)
        · rw [if_neg c5] at H
          have c5b0 : (((rd_T32 l0 1).f1) == 6) = false := beq_eq_false_iff_ne.mpr c5
          have c5b1 : (((rd_T32 l0 1).f1) != 6) = true := bne_iff_ne.mpr c5
          have H' := Aside0.mk H
          clear H
          have p133 : 0 ≤ (1 : Int) := (by omega)
          have q133 : 1 < (l0.length : Int) := of_decide_eq_true (by first | (with_reducible assumption) | assumption)
          obtain ⟨ad133, e133, hx133_0, hx133_1, hx133_2, hx133_3⟩ := at_T32 HR0.out 1 p133 q133
          cases e133
          (try simp only [show (1 : Int).toNat = 1 from rfl, Nat.reduceMul, Nat.reduceEqDiff, Go.Addr.add, ↓reduceIte] at hx133_0)
          (try simp only [show (1 : Int).toNat = 1 from rfl, Nat.reduceMul, Nat.reduceEqDiff, Go.Addr.add, ↓reduceIte] at hx133_1)
          (try simp only [show (1 : Int).toNat = 1 from rfl, Nat.reduceMul, Nat.reduceEqDiff, Go.Addr.add, ↓reduceIte] at hx133_2)
          (try simp only [show (1 : Int).toNat = 1 from rfl, Nat.reduceMul, Nat.reduceEqDiff, Go.Addr.add, ↓reduceIte] at hx133_3)
          have qi133 : (1 < l0.length) = True := eq_true (by omega)
          (try rw [show ((1 : Int)).toNat = 1 from rfl] at hx133_0)
          (try rw [show 1 * 4 = 4 from rfl] at hx133_0)
          (try rw [show ((1 : Int)).toNat = 1 from rfl] at hx133_1)
          (try rw [show 1 * 4 = 4 from rfl] at hx133_1)
          (try rw [show ((1 : Int)).toNat = 1 from rfl] at hx133_2)
          (try rw [show 1 * 4 = 4 from rfl] at hx133_2)
          (try rw [show ((1 : Int)).toNat = 1 from rfl] at hx133_3)
          (try rw [show 1 * 4 = 4 from rfl] at hx133_3)
          replace hx133_0 := (HB.out.cell (World.block_lt_of_cell? w _ hx133_0)).trans hx133_0
          replace hx133_1 := (HB.out.cell (World.block_lt_of_cell? w _ hx133_1)).trans hx133_1
          replace hx133_2 := (HB.out.cell (World.block_lt_of_cell? w _ hx133_2)).trans hx133_2
          replace hx133_3 := (HB.out.cell (World.block_lt_of_cell? w _ hx133_3)).trans hx133_3
          replace p133 := eq_true p133
          replace q133 := eq_true q133
          go_wp2
          repeat (go_quiet (fail); try go_wp2)
          go_meet
          case rel => exact ⟨_, (false), (by first | rfl | (simp; done) | (simp [*]; done)), H', ⟨by first | omega | exact Nat.le_refl _⟩, ⟨by repeat (first | (with_reducible first | exact HB.out | apply below_alloc | apply pw_below_drewN | apply below_drew1) | exact HB.out)⟩⟩
      · rw [if_neg c4] at H
        exact absurd H (by simp)
    case rest =>
      clear HC3
      try clear p1
      try clear q1
      try clear hx1
      try clear qi1
      try clear c2
      try clear c2b0
      try clear c2b1
      try clear p2
      try clear c4
      try clear c4b0
      try clear c4b1
      try clear c5
      try clear c5b0
      try clear c5b1
      try clear c6
      try clear c6b0
      try clear c6b1
      try clear hx133_0
      try clear hx133_1
      try clear hx133_2
      try clear hx133_3
      try clear hx134_0
      try clear hx134_1
      try clear hx134_2
      try clear hx134_3
      try clear hx135_0
      try clear hx135_1
      try clear hx135_2
      try clear hx135_3
      try clear p133
      try clear p134
      try clear p135
      try clear q133
      try clear q134
      try clear q135
      obtain ⟨kq, x26_2, rfl, HA, HJ2, HB⟩ := hcut
      cases kq with
      | zero => exact absurd HA.out (by simp [stream_Done.j0])
      | succ kj2 =>
        have H := HA.out
        clear HA
        simp only [stream_Done.j0] at H
        have HC7 := Aside0.mk H
        clear H
        go_upto_if 26 with (fail)
        repeat (go_quiet (fail); go_upto_if 26 with (fail))
        go_cut [3] (fun v3 wc => ∃ (kq : Nat) (x3_6 : Int), v3 = .int .i64 x3_6 ∧ Aside0 (stream_Done.j1 kq l0 x3_6 0 = some r) ∧ Aside0 (kq ≤ kj2) ∧ Aside0 (Below w.heap.size w wc))
        case first =>
          have H := HC7.out
          clear HC7
          by_cases c8 : x26_2 = true
          · subst c8
            have H1 : (stream_Done.j1 kj2 l0 3 0) = some r := by rw [if_pos rfl] at H; exact H
            clear H
            have H := H1
            clear H1
            have H' := Aside0.mk H
            clear H
            go_wp2
            repeat (go_quiet (fail); try go_wp2)
            go_meet
            case rel => exact ⟨_, (3), (by first | rfl | (simp; done) | (simp [*]; done)), H', ⟨by have := HJ2.out; first | omega | exact Nat.le_refl _⟩, ⟨by repeat (first | (with_reducible first | exact HB.out | apply below_alloc | apply pw_below_drewN | apply below_drew1) | exact HB.out)⟩⟩
          · replace c8 := Bool.eq_false_iff.mpr c8
            subst c8
            have H1 : (stream_Done.j1 kj2 l0 2 0) = some r := by rw [if_neg (show ¬ (false = true) by decide)] at H; exact H
            clear H
            have H := H1
            clear H1
            have H' := Aside0.mk H
            clear H
            go_wp2
            repeat (go_quiet (fail); try go_wp2)
            go_meet
            case rel => exact ⟨_, (2), (by first | rfl | (simp; done) | (simp [*]; done)), H', ⟨by have := HJ2.out; first | omega | exact Nat.le_refl _⟩, ⟨by repeat (first | (with_reducible first | exact HB.out | apply below_alloc | apply pw_below_drewN | apply below_drew1) | exact HB.out)⟩⟩
        case rest =>
          clear HC7
          try clear p1
          try clear q1
          try clear hx1
          try clear qi1
          try clear c2
          try clear c2b0
          try clear c2b1
          try clear p2
          try clear c4
          try clear c4b0
          try clear c4b1
          try clear c5
          try clear c5b0
          try clear c5b1
          try clear c6
          try clear c6b0
          try clear c6b1
          try clear c8
          try clear hx133_0
          try clear hx133_1
          try clear hx133_2
          try clear hx133_3
          try clear hx134_0
          try clear hx134_1
          try clear hx134_2
          try clear hx134_3
          try clear hx135_0
          try clear hx135_1
          try clear hx135_2
          try clear hx135_3
          try clear p1
          try clear p133
          try clear p134
          try clear p135
          try clear p2
          try clear q1
          try clear q133
          try clear q134
          try clear q135
          obtain ⟨kq, x3_6, rfl, HA, HJ6, HB⟩ := hcut
          cases kq with
          | zero => exact absurd HA.out (by simp [stream_Done.j1])
          | succ kj6 =>
            have H := HA.out
            clear HA
            simp only [stream_Done.j1] at H
            have H' := Aside0.mk H
            clear H
            go_wp2
            repeat (go_quiet (fail); try go_wp2)
            go_loopg [4, 29] kj6 (fun kq v4 v29 w' => ∃ (x4_3 : Int) (x29_3 : Int), v4 = .int .i64 x4_3 ∧ v29 = .int .i64 x29_3 ∧ Aside0 (stream_Done.l0 kq l0 x3_6 x4_3 l0 (l0.length : Int) x29_3 = some r) ∧ Aside0 (kq ≤ kj6) ∧ Aside0 (Below w.heap.size w w'))
            case atStart => exact ⟨(0), (0), (by first | rfl | (simp; done) | (simp [*]; done)), (by first | rfl | (simp; done) | (simp [*]; done)), H', ⟨Nat.le_refl _⟩, ⟨by repeat (first | (with_reducible first | exact HB.out | apply below_alloc | apply pw_below_drewN | apply below_drew1) | exact HB.out)⟩⟩
            case round =>
              clear H'
              try clear p1
              try clear q1
              try clear hx1
              try clear qi1
              try clear c2
              try clear c2b0
              try clear c2b1
              try clear p2
              try clear c4
              try clear c4b0
              try clear c4b1
              try clear c5
              try clear c5b0
              try clear c5b1
              try clear c6
              try clear c6b0
              try clear c6b1
              try clear c8
              try clear hx133_0
              try clear hx133_1
              try clear hx133_2
              try clear hx133_3
              try clear hx134_0
              try clear hx134_1
              try clear hx134_2
              try clear hx134_3
              try clear hx135_0
              try clear hx135_1
              try clear hx135_2
              try clear hx135_3
              try clear p1
              try clear p133
              try clear p134
              try clear p135
              try clear p2
              try clear q1
              try clear q133
              try clear q134
              try clear q135
              obtain ⟨x4_3, x29_3, rfl, rfl, HA, HK3, HB⟩ := hrel
              cases gk with
              | zero => exact absurd HA.out (by simp [stream_Done.l0])
              | succ k3 =>
                have H := HA.out
                clear HA
                simp only [stream_Done.l0] at H
                by_cases c9 : x29_3 < (l0.length : Int)
                · rw [if_pos c9] at H
                  have c9b0 : decide (x29_3 < (l0.length : Int)) = true := decide_eq_true c9
                  clear c9
                  by_cases c10 : 0 ≤ x29_3
                  · rw [if_pos c10] at H
                    have c10b0 : decide (0 ≤ x29_3) = true := decide_eq_true c10
                    clear c10
                    by_cases c11 : x29_3 < (l0.length : Int)
                    · rw [if_pos c11] at H
                      have c11b0 : decide (x29_3 < (l0.length : Int)) = true := decide_eq_true c11
                      clear c11
                      by_cases c12 : 0 < (l0.length : Int)
                      · rw [if_pos c12] at H
                        have c12b0 : decide (0 < (l0.length : Int)) = true := decide_eq_true c12
                        have c12b1 : decide (0 < l0.length) = true := decide_eq_true (by omega)
                        clear c12
                        by_cases c13 : ((((rd_T32 l0 x29_3).f0).toList) == (((rd_T32 l0 0).f0).toList) && (((rd_T32 l0 x29_3).f1) == ((rd_T32 l0 0).f1) && (((rd_T32 l0 x29_3).f2) == ((rd_T32 l0 0).f2) && ((((rd_T32 l0 x29_3).f3).toList) == (((rd_T32 l0 0).f3).toList))))) = true
                        · rw [if_pos c13] at H
                          have c13b0 : ((((rd_T32 l0 x29_3).f0).toList) == (((rd_T32 l0 0).f0).toList) && (((rd_T32 l0 x29_3).f1) == ((rd_T32 l0 0).f1) && (((rd_T32 l0 x29_3).f2) == ((rd_T32 l0 0).f2) && ((((rd_T32 l0 x29_3).f3).toList) == (((rd_T32 l0 0).f3).toList))))) = true := c13
                          (try (have c13b1 : decide ((((rd_T32 l0 x29_3).f0).toList) = (((rd_T32 l0 0).f0).toList) && (((rd_T32 l0 x29_3).f1) == ((rd_T32 l0 0).f1) && (((rd_T32 l0 x29_3).f2) == ((rd_T32 l0 0).f2) && ((((rd_T32 l0 x29_3).f3).toList) == (((rd_T32 l0 0).f3).toList))))) = true := by simpa using c13))
                          (try (have c13b2 : ((((rd_T32 l0 x29_3).f0).toList) == (((rd_T32 l0 0).f0).toList) && (((rd_T32 l0 x29_3).f1) == ((rd_T32 l0 0).f1) && (((rd_T32 l0 x29_3).f2) == ((rd_T32 l0 0).f2) && ((((rd_T32 l0 x29_3).f3).toList) == (((rd_T32 l0 0).f3).toList))))) = true := by simpa using c13))
                          clear c13
                          have H' := Aside0.mk H
                          clear H
                          have p136 : 0 ≤ (x29_3 : Int) := of_decide_eq_true (by first | (with_reducible assumption) | assumption)
                          have q136 : x29_3 < (l0.length : Int) := of_decide_eq_true (by first | (with_reducible assumption) | assumption)
                          obtain ⟨ad136, e136, hx136_0, hx136_1, hx136_2, hx136_3⟩ := at_T32 HR0.out x29_3 p136 q136
                          cases e136
                          replace hx136_0 := (HB.out.cell (World.block_lt_of_cell? w _ hx136_0)).trans hx136_0
                          replace hx136_1 := (HB.out.cell (World.block_lt_of_cell? w _ hx136_1)).trans hx136_1
                          replace hx136_2 := (HB.out.cell (World.block_lt_of_cell? w _ hx136_2)).trans hx136_2
                          replace hx136_3 := (HB.out.cell (World.block_lt_of_cell? w _ hx136_3)).trans hx136_3
                          replace p136 := eq_true p136
                          replace q136 := eq_true q136
                          go_wp2_with (first | ((with_reducible refine gate_dst (N := 6) rfl ?_); refine box_event ?hg (N := 6) ?hd (cs := #[.string (⟨#[]⟩ : ByteArray), .int .u16 0, .int .u32 0, .string (⟨#[]⟩ : ByteArray)]) (t := 32) ?hr ?_; (case hd => rfl); (case hg => rfl); (case hr => first | (go_simp; done) | (go_simp; rfl)); intro gb137 hg w14 hbox hb; have n0_ := Aside0.mk (below_step (by repeat (first | (with_reducible first | exact HB.out | apply below_alloc | apply pw_below_drewN | apply below_drew1) | exact HB.out)) hb); have n1_ := Aside0.mk (hbox); have n2_ := Aside0.mk ((by rw [hg]; exact (below_size (by repeat (first | (with_reducible first | exact HB.out | apply below_alloc | apply pw_below_drewN | apply below_drew1) | exact HB.out))) : w.heap.size ≤ gb137)); have n3_ := Aside0.mk ((by rw [hg]; exact (below_size (by repeat (first | (with_reducible first | exact HB.out | apply below_alloc | apply pw_below_drewN | apply below_drew1) | exact HB.out))) : w.heap.size ≤ gb137)); clear HB; have HB := n0_; have BK137 := n1_; have GW137 := n2_; have GE137 := n3_; clear n0_ n1_ n2_ n3_; clear hb hbox hg; have hcz15_0 : w14.cell? ⟨gb137, 0, none⟩ = some (.string (⟨#[]⟩ : ByteArray)) := (blk_cell BK137.out 0).trans rfl; have hcz15_1 : w14.cell? ⟨gb137, 1, none⟩ = some (.int .u16 0) := (blk_cell BK137.out 1).trans rfl; have hcz15_2 : w14.cell? ⟨gb137, 2, none⟩ = some (.int .u32 0) := (blk_cell BK137.out 2).trans rfl; have hcz15_3 : w14.cell? ⟨gb137, 3, none⟩ = some (.string (⟨#[]⟩ : ByteArray)) := (blk_cell BK137.out 3).trans rfl; have hfz15_0 := blk_frozen BK137.out 0; have hfz15_1 := blk_frozen BK137.out 1; have hfz15_2 := blk_frozen BK137.out 2; have hfz15_3 := blk_frozen BK137.out 3; have p138 : 0 ≤ (0 : Int) := (by omega); have q138 : 0 < (l0.length : Int) := of_decide_eq_true (by first | (with_reducible assumption) | assumption); obtain ⟨ad138, e138, hx138_0, hx138_1, hx138_2, hx138_3⟩ := at_T32 HR0.out 0 p138 q138; obtain rfl : ad136 = ad138 := (by injection e138); have qi138 : (0 < l0.length) = True := eq_true (by omega); (try rw [show ((0 : Int)).toNat = 0 from rfl] at hx138_0); (try rw [show 0 * 4 = 0 from rfl] at hx138_0); (try rw [Addr.add_zero'] at hx138_0); (try rw [show ((0 : Int)).toNat = 0 from rfl] at hx138_1); (try rw [show 0 * 4 = 0 from rfl] at hx138_1); (try rw [Addr.add_zero'] at hx138_1); (try rw [show ((0 : Int)).toNat = 0 from rfl] at hx138_2); (try rw [show 0 * 4 = 0 from rfl] at hx138_2); (try rw [Addr.add_zero'] at hx138_2); (try rw [show ((0 : Int)).toNat = 0 from rfl] at hx138_3); (try rw [show 0 * 4 = 0 from rfl] at hx138_3); (try rw [Addr.add_zero'] at hx138_3); have hn138_0 : ad136.block ≠ gb137 := Nat.ne_of_lt (Nat.lt_of_lt_of_le (by have := World.block_lt_of_cell? _ _ hx138_0; first | rwa [add_block] at this | exact this) GW137.out); have hn138_1 : ad136.block ≠ gb137 := Nat.ne_of_lt (Nat.lt_of_lt_of_le (by have := World.block_lt_of_cell? _ _ hx138_0; first | rwa [add_block] at this | exact this) GW137.out); have hn138_2 : ad136.block ≠ gb137 := Nat.ne_of_lt (Nat.lt_of_lt_of_le (by have := World.block_lt_of_cell? _ _ hx138_0; first | rwa [add_block] at this | exact this) GW137.out); have hn138_3 : ad136.block ≠ gb137 := Nat.ne_of_lt (Nat.lt_of_lt_of_le (by have := World.block_lt_of_cell? _ _ hx138_0; first | rwa [add_block] at this | exact this) GW137.out); replace hx138_0 := (HB.out.cell (World.block_lt_of_cell? w _ hx138_0)).trans hx138_0; replace hx138_1 := (HB.out.cell (World.block_lt_of_cell? w _ hx138_1)).trans hx138_1; replace hx138_2 := (HB.out.cell (World.block_lt_of_cell? w _ hx138_2)).trans hx138_2; replace hx138_3 := (HB.out.cell (World.block_lt_of_cell? w _ hx138_3)).trans hx138_3; replace hx138_0 := (cell_far (p := ⟨gb137, 0, none⟩) (by first | (rw [add_block]; exact hn138_0) | (show (Addr.add _ _).block ≠ _; rw [add_block]; exact hn138_0) | exact hn138_0) (.string ((rd_T32 l0 x29_3).f0))).trans hx138_0; replace hx138_1 := (cell_far (p := ⟨gb137, 0, none⟩) (by first | (rw [add_block]; exact hn138_0) | (show (Addr.add _ _).block ≠ _; rw [add_block]; exact hn138_0) | exact hn138_0) (.string ((rd_T32 l0 x29_3).f0))).trans hx138_1; replace hx138_2 := (cell_far (p := ⟨gb137, 0, none⟩) (by first | (rw [add_block]; exact hn138_0) | (show (Addr.add _ _).block ≠ _; rw [add_block]; exact hn138_0) | exact hn138_0) (.string ((rd_T32 l0 x29_3).f0))).trans hx138_2; replace hx138_3 := (cell_far (p := ⟨gb137, 0, none⟩) (by first | (rw [add_block]; exact hn138_0) | (show (Addr.add _ _).block ≠ _; rw [add_block]; exact hn138_0) | exact hn138_0) (.string ((rd_T32 l0 x29_3).f0))).trans hx138_3; replace hx138_0 := (cell_far (p := ⟨gb137, 1, none⟩) (by first | (rw [add_block]; exact hn138_1) | (show (Addr.add _ _).block ≠ _; rw [add_block]; exact hn138_1) | exact hn138_1) (.int .u16 ((rd_T32 l0 x29_3).f1))).trans hx138_0; replace hx138_1 := (cell_far (p := ⟨gb137, 1, none⟩) (by first | (rw [add_block]; exact hn138_1) | (show (Addr.add _ _).block ≠ _; rw [add_block]; exact hn138_1) | exact hn138_1) (.int .u16 ((rd_T32 l0 x29_3).f1))).trans hx138_1; replace hx138_2 := (cell_far (p := ⟨gb137, 1, none⟩) (by first | (rw [add_block]; exact hn138_1) | (show (Addr.add _ _).block ≠ _; rw [add_block]; exact hn138_1) | exact hn138_1) (.int .u16 ((rd_T32 l0 x29_3).f1))).trans hx138_2; replace hx138_3 := (cell_far (p := ⟨gb137, 1, none⟩) (by first | (rw [add_block]; exact hn138_1) | (show (Addr.add _ _).block ≠ _; rw [add_block]; exact hn138_1) | exact hn138_1) (.int .u16 ((rd_T32 l0 x29_3).f1))).trans hx138_3; replace hx138_0 := (cell_far (p := ⟨gb137, 2, none⟩) (by first | (rw [add_block]; exact hn138_2) | (show (Addr.add _ _).block ≠ _; rw [add_block]; exact hn138_2) | exact hn138_2) (.int .u32 ((rd_T32 l0 x29_3).f2))).trans hx138_0; replace hx138_1 := (cell_far (p := ⟨gb137, 2, none⟩) (by first | (rw [add_block]; exact hn138_2) | (show (Addr.add _ _).block ≠ _; rw [add_block]; exact hn138_2) | exact hn138_2) (.int .u32 ((rd_T32 l0 x29_3).f2))).trans hx138_1; replace hx138_2 := (cell_far (p := ⟨gb137, 2, none⟩) (by first | (rw [add_block]; exact hn138_2) | (show (Addr.add _ _).block ≠ _; rw [add_block]; exact hn138_2) | exact hn138_2) (.int .u32 ((rd_T32 l0 x29_3).f2))).trans hx138_2; replace hx138_3 := (cell_far (p := ⟨gb137, 2, none⟩) (by first | (rw [add_block]; exact hn138_2) | (show (Addr.add _ _).block ≠ _; rw [add_block]; exact hn138_2) | exact hn138_2) (.int .u32 ((rd_T32 l0 x29_3).f2))).trans hx138_3; replace hx138_0 := (cell_far (p := ⟨gb137, 3, none⟩) (by first | (rw [add_block]; exact hn138_3) | (show (Addr.add _ _).block ≠ _; rw [add_block]; exact hn138_3) | exact hn138_3) (.string ((rd_T32 l0 x29_3).f3))).trans hx138_0; replace hx138_1 := (cell_far (p := ⟨gb137, 3, none⟩) (by first | (rw [add_block]; exact hn138_3) | (show (Addr.add _ _).block ≠ _; rw [add_block]; exact hn138_3) | exact hn138_3) (.string ((rd_T32 l0 x29_3).f3))).trans hx138_1; replace hx138_2 := (cell_far (p := ⟨gb137, 3, none⟩) (by first | (rw [add_block]; exact hn138_3) | (show (Addr.add _ _).block ≠ _; rw [add_block]; exact hn138_3) | exact hn138_3) (.string ((rd_T32 l0 x29_3).f3))).trans hx138_2; replace hx138_3 := (cell_far (p := ⟨gb137, 3, none⟩) (by first | (rw [add_block]; exact hn138_3) | (show (Addr.add _ _).block ≠ _; rw [add_block]; exact hn138_3) | exact hn138_3) (.string ((rd_T32 l0 x29_3).f3))).trans hx138_3; (try have hy138_0 := fun (n_ : Nat) => (show ((((((w14.drewN n_).setCell ⟨gb137, 0, none⟩ (.string ((rd_T32 l0 x29_3).f0))).setCell ⟨gb137, 1, none⟩ (.int .u16 ((rd_T32 l0 x29_3).f1))).setCell ⟨gb137, 2, none⟩ (.int .u32 ((rd_T32 l0 x29_3).f2))).setCell ⟨gb137, 3, none⟩ (.string ((rd_T32 l0 x29_3).f3)))).cell? _ = some _ from hx138_0)); (try have hy138_1 := fun (n_ : Nat) => (show ((((((w14.drewN n_).setCell ⟨gb137, 0, none⟩ (.string ((rd_T32 l0 x29_3).f0))).setCell ⟨gb137, 1, none⟩ (.int .u16 ((rd_T32 l0 x29_3).f1))).setCell ⟨gb137, 2, none⟩ (.int .u32 ((rd_T32 l0 x29_3).f2))).setCell ⟨gb137, 3, none⟩ (.string ((rd_T32 l0 x29_3).f3)))).cell? _ = some _ from hx138_1)); (try have hy138_2 := fun (n_ : Nat) => (show ((((((w14.drewN n_).setCell ⟨gb137, 0, none⟩ (.string ((rd_T32 l0 x29_3).f0))).setCell ⟨gb137, 1, none⟩ (.int .u16 ((rd_T32 l0 x29_3).f1))).setCell ⟨gb137, 2, none⟩ (.int .u32 ((rd_T32 l0 x29_3).f2))).setCell ⟨gb137, 3, none⟩ (.string ((rd_T32 l0 x29_3).f3)))).cell? _ = some _ from hx138_2)); (try have hy138_3 := fun (n_ : Nat) => (show ((((((w14.drewN n_).setCell ⟨gb137, 0, none⟩ (.string ((rd_T32 l0 x29_3).f0))).setCell ⟨gb137, 1, none⟩ (.int .u16 ((rd_T32 l0 x29_3).f1))).setCell ⟨gb137, 2, none⟩ (.int .u32 ((rd_T32 l0 x29_3).f2))).setCell ⟨gb137, 3, none⟩ (.string ((rd_T32 l0 x29_3).f3)))).cell? _ = some _ from hx138_3)); clear hn138_0; clear hn138_1; clear hn138_2; clear hn138_3; replace p138 := eq_true p138; replace q138 := eq_true q138))
                          repeat (go_quiet (first | ((with_reducible refine gate_dst (N := 6) rfl ?_); refine box_event ?hg (N := 6) ?hd (cs := #[.string (⟨#[]⟩ : ByteArray), .int .u16 0, .int .u32 0, .string (⟨#[]⟩ : ByteArray)]) (t := 32) ?hr ?_; (case hd => rfl); (case hg => rfl); (case hr => first | (go_simp; done) | (go_simp; rfl)); intro gb137 hg w14 hbox hb; have n0_ := Aside0.mk (below_step (by repeat (first | (with_reducible first | exact HB.out | apply below_alloc | apply pw_below_drewN | apply below_drew1) | exact HB.out)) hb); have n1_ := Aside0.mk (hbox); have n2_ := Aside0.mk ((by rw [hg]; exact (below_size (by repeat (first | (with_reducible first | exact HB.out | apply below_alloc | apply pw_below_drewN | apply below_drew1) | exact HB.out))) : w.heap.size ≤ gb137)); have n3_ := Aside0.mk ((by rw [hg]; exact (below_size (by repeat (first | (with_reducible first | exact HB.out | apply below_alloc | apply pw_below_drewN | apply below_drew1) | exact HB.out))) : w.heap.size ≤ gb137)); clear HB; have HB := n0_; have BK137 := n1_; have GW137 := n2_; have GE137 := n3_; clear n0_ n1_ n2_ n3_; clear hb hbox hg; have hcz15_0 : w14.cell? ⟨gb137, 0, none⟩ = some (.string (⟨#[]⟩ : ByteArray)) := (blk_cell BK137.out 0).trans rfl; have hcz15_1 : w14.cell? ⟨gb137, 1, none⟩ = some (.int .u16 0) := (blk_cell BK137.out 1).trans rfl; have hcz15_2 : w14.cell? ⟨gb137, 2, none⟩ = some (.int .u32 0) := (blk_cell BK137.out 2).trans rfl; have hcz15_3 : w14.cell? ⟨gb137, 3, none⟩ = some (.string (⟨#[]⟩ : ByteArray)) := (blk_cell BK137.out 3).trans rfl; have hfz15_0 := blk_frozen BK137.out 0; have hfz15_1 := blk_frozen BK137.out 1; have hfz15_2 := blk_frozen BK137.out 2; have hfz15_3 := blk_frozen BK137.out 3; have p138 : 0 ≤ (0 : Int) := (by omega); have q138 : 0 < (l0.length : Int) := of_decide_eq_true (by first | (with_reducible assumption) | assumption); obtain ⟨ad138, e138, hx138_0, hx138_1, hx138_2, hx138_3⟩ := at_T32 HR0.out 0 p138 q138; obtain rfl : ad136 = ad138 := (by injection e138); have qi138 : (0 < l0.length) = True := eq_true (by omega); (try rw [show ((0 : Int)).toNat = 0 from rfl] at hx138_0); (try rw [show 0 * 4 = 0 from rfl] at hx138_0); (try rw [Addr.add_zero'] at hx138_0); (try rw [show ((0 : Int)).toNat = 0 from rfl] at hx138_1); (try rw [show 0 * 4 = 0 from rfl] at hx138_1); (try rw [Addr.add_zero'] at hx138_1); (try rw [show ((0 : Int)).toNat = 0 from rfl] at hx138_2); (try rw [show 0 * 4 = 0 from rfl] at hx138_2); (try rw [Addr.add_zero'] at hx138_2); (try rw [show ((0 : Int)).toNat = 0 from rfl] at hx138_3); (try rw [show 0 * 4 = 0 from rfl] at hx138_3); (try rw [Addr.add_zero'] at hx138_3); have hn138_0 : ad136.block ≠ gb137 := Nat.ne_of_lt (Nat.lt_of_lt_of_le (by have := World.block_lt_of_cell? _ _ hx138_0; first | rwa [add_block] at this | exact this) GW137.out); have hn138_1 : ad136.block ≠ gb137 := Nat.ne_of_lt (Nat.lt_of_lt_of_le (by have := World.block_lt_of_cell? _ _ hx138_0; first | rwa [add_block] at this | exact this) GW137.out); have hn138_2 : ad136.block ≠ gb137 := Nat.ne_of_lt (Nat.lt_of_lt_of_le (by have := World.block_lt_of_cell? _ _ hx138_0; first | rwa [add_block] at this | exact this) GW137.out); have hn138_3 : ad136.block ≠ gb137 := Nat.ne_of_lt (Nat.lt_of_lt_of_le (by have := World.block_lt_of_cell? _ _ hx138_0; first | rwa [add_block] at this | exact this) GW137.out); replace hx138_0 := (HB.out.cell (World.block_lt_of_cell? w _ hx138_0)).trans hx138_0; replace hx138_1 := (HB.out.cell (World.block_lt_of_cell? w _ hx138_1)).trans hx138_1; replace hx138_2 := (HB.out.cell (World.block_lt_of_cell? w _ hx138_2)).trans hx138_2; replace hx138_3 := (HB.out.cell (World.block_lt_of_cell? w _ hx138_3)).trans hx138_3; replace hx138_0 := (cell_far (p := ⟨gb137, 0, none⟩) (by first | (rw [add_block]; exact hn138_0) | (show (Addr.add _ _).block ≠ _; rw [add_block]; exact hn138_0) | exact hn138_0) (.string ((rd_T32 l0 x29_3).f0))).trans hx138_0; replace hx138_1 := (cell_far (p := ⟨gb137, 0, none⟩) (by first | (rw [add_block]; exact hn138_0) | (show (Addr.add _ _).block ≠ _; rw [add_block]; exact hn138_0) | exact hn138_0) (.string ((rd_T32 l0 x29_3).f0))).trans hx138_1; replace hx138_2 := (cell_far (p := ⟨gb137, 0, none⟩) (by first | (rw [add_block]; exact hn138_0) | (show (Addr.add _ _).block ≠ _; rw [add_block]; exact hn138_0) | exact hn138_0) (.string ((rd_T32 l0 x29_3).f0))).trans hx138_2; replace hx138_3 := (cell_far (p := ⟨gb137, 0, none⟩) (by first | (rw [add_block]; exact hn138_0) | (show (Addr.add _ _).block ≠ _; rw [add_block]; exact hn138_0) | exact hn138_0) (.string ((rd_T32 l0 x29_3).f0))).trans hx138_3; replace hx138_0 := (cell_far (p := ⟨gb137, 1, none⟩) (by first | (rw [add_block]; exact hn138_1) | (show (Addr.add _ _).block ≠ _; rw [add_block]; exact hn138_1) | exact hn138_1) (.int .u16 ((rd_T32 l0 x29_3).f1))).trans hx138_0; replace hx138_1 := (cell_far (p := ⟨gb137, 1, none⟩) (by first | (rw [add_block]; exact hn138_1) | (show (Addr.add _ _).block ≠ _; rw [add_block]; exact hn138_1) | exact hn138_1) (.int .u16 ((rd_T32 l0 x29_3).f1))).trans hx138_1; replace hx138_2 := (cell_far (p := ⟨gb137, 1, none⟩) (by first | (rw [add_block]; exact hn138_1) | (show (Addr.add _ _).block ≠ _; rw [add_block]; exact hn138_1) | exact hn138_1) (.int .u16 ((rd_T32 l0 x29_3).f1))).trans hx138_2; replace hx138_3 := (cell_far (p := ⟨gb137, 1, none⟩) (by first | (rw [add_block]; exact hn138_1) | (show (Addr.add _ _).block ≠ _; rw [add_block]; exact hn138_1) | exact hn138_1) (.int .u16 ((rd_T32 l0 x29_3).f1))).trans hx138_3; replace hx138_0 := (cell_far (p := ⟨gb137, 2, none⟩) (by first | (rw [add_block]; exact hn138_2) | (show (Addr.add _ _).block ≠ _; rw [add_block]; exact hn138_2) | exact hn138_2) (.int .u32 ((rd_T32 l0 x29_3).f2))).trans hx138_0; replace hx138_1 := (cell_far (p := ⟨gb137, 2, none⟩) (by first | (rw [add_block]; exact hn138_2) | (show (Addr.add _ _).block ≠ _; rw [add_block]; exact hn138_2) | exact hn138_2) (.int .u32 ((rd_T32 l0 x29_3).f2))).trans hx138_1; replace hx138_2 := (cell_far (p := ⟨gb137, 2, none⟩) (by first | (rw [add_block]; exact hn138_2) | (show (Addr.add _ _).block ≠ _; rw [add_block]; exact hn138_2) | exact hn138_2) (.int .u32 ((rd_T32 l0 x29_3).f2))).trans hx138_2; replace hx138_3 := (cell_far (p := ⟨gb137, 2, none⟩) (by first | (rw [add_block]; exact hn138_2) | (show (Addr.add _ _).block ≠ _; rw [add_block]; exact hn138_2) | exact hn138_2) (.int .u32 ((rd_T32 l0 x29_3).f2))).trans hx138_3; replace hx138_0 := (cell_far (p := ⟨gb137, 3, none⟩) (by first | (rw [add_block]; exact hn138_3) | (show (Addr.add _ _).block ≠ _; rw [add_block]; exact hn138_3) | exact hn138_3) (.string ((rd_T32 l0 x29_3).f3))).trans hx138_0; replace hx138_1 := (cell_far (p := ⟨gb137, 3, none⟩) (by first | (rw [add_block]; exact hn138_3) | (show (Addr.add _ _).block ≠ _; rw [add_block]; exact hn138_3) | exact hn138_3) (.string ((rd_T32 l0 x29_3).f3))).trans hx138_1; replace hx138_2 := (cell_far (p := ⟨gb137, 3, none⟩) (by first | (rw [add_block]; exact hn138_3) | (show (Addr.add _ _).block ≠ _; rw [add_block]; exact hn138_3) | exact hn138_3) (.string ((rd_T32 l0 x29_3).f3))).trans hx138_2; replace hx138_3 := (cell_far (p := ⟨gb137, 3, none⟩) (by first | (rw [add_block]; exact hn138_3) | (show (Addr.add _ _).block ≠ _; rw [add_block]; exact hn138_3) | exact hn138_3) (.string ((rd_T32 l0 x29_3).f3))).trans hx138_3; (try have hy138_0 := fun (n_ : Nat) => (show ((((((w14.drewN n_).setCell ⟨gb137, 0, none⟩ (.string ((rd_T32 l0 x29_3).f0))).setCell ⟨gb137, 1, none⟩ (.int .u16 ((rd_T32 l0 x29_3).f1))).setCell ⟨gb137, 2, none⟩ (.int .u32 ((rd_T32 l0 x29_3).f2))).setCell ⟨gb137, 3, none⟩ (.string ((rd_T32 l0 x29_3).f3)))).cell? _ = some _ from hx138_0)); (try have hy138_1 := fun (n_ : Nat) => (show ((((((w14.drewN n_).setCell ⟨gb137, 0, none⟩ (.string ((rd_T32 l0 x29_3).f0))).setCell ⟨gb137, 1, none⟩ (.int .u16 ((rd_T32 l0 x29_3).f1))).setCell ⟨gb137, 2, none⟩ (.int .u32 ((rd_T32 l0 x29_3).f2))).setCell ⟨gb137, 3, none⟩ (.string ((rd_T32 l0 x29_3).f3)))).cell? _ = some _ from hx138_1)); (try have hy138_2 := fun (n_ : Nat) => (show ((((((w14.drewN n_).setCell ⟨gb137, 0, none⟩ (.string ((rd_T32 l0 x29_3).f0))).setCell ⟨gb137, 1, none⟩ (.int .u16 ((rd_T32 l0 x29_3).f1))).setCell ⟨gb137, 2, none⟩ (.int .u32 ((rd_T32 l0 x29_3).f2))).setCell ⟨gb137, 3, none⟩ (.string ((rd_T32 l0 x29_3).f3)))).cell? _ = some _ from hx138_2)); (try have hy138_3 := fun (n_ : Nat) => (show ((((((w14.drewN n_).setCell ⟨gb137, 0, none⟩ (.string ((rd_T32 l0 x29_3).f0))).setCell ⟨gb137, 1, none⟩ (.int .u16 ((rd_T32 l0 x29_3).f1))).setCell ⟨gb137, 2, none⟩ (.int .u32 ((rd_T32 l0 x29_3).f2))).setCell ⟨gb137, 3, none⟩ (.string ((rd_T32 l0 x29_3).f3)))).cell? _ = some _ from hx138_3)); clear hn138_0; clear hn138_1; clear hn138_2; clear hn138_3; replace p138 := eq_true p138; replace q138 := eq_true q138)); try go_wp2_with (first | ((with_reducible refine gate_dst (N := 6) rfl ?_); refine box_event ?hg (N := 6) ?hd (cs := #[.string (⟨#[]⟩ : ByteArray), .int .u16 0, .int .u32 0, .string (⟨#[]⟩ : ByteArray)]) (t := 32) ?hr ?_; (case hd => rfl); (case hg => rfl); (case hr => first | (go_simp; done) | (go_simp; rfl)); intro gb137 hg w14 hbox hb; have n0_ := Aside0.mk (below_step (by repeat (first | (with_reducible first | exact HB.out | apply below_alloc | apply pw_below_drewN | apply below_drew1) | exact HB.out)) hb); have n1_ := Aside0.mk (hbox); have n2_ := Aside0.mk ((by rw [hg]; exact (below_size (by repeat (first | (with_reducible first | exact HB.out | apply below_alloc | apply pw_below_drewN | apply below_drew1) | exact HB.out))) : w.heap.size ≤ gb137)); have n3_ := Aside0.mk ((by rw [hg]; exact (below_size (by repeat (first | (with_reducible first | exact HB.out | apply below_alloc | apply pw_below_drewN | apply below_drew1) | exact HB.out))) : w.heap.size ≤ gb137)); clear HB; have HB := n0_; have BK137 := n1_; have GW137 := n2_; have GE137 := n3_; clear n0_ n1_ n2_ n3_; clear hb hbox hg; have hcz15_0 : w14.cell? ⟨gb137, 0, none⟩ = some (.string (⟨#[]⟩ : ByteArray)) := (blk_cell BK137.out 0).trans rfl; have hcz15_1 : w14.cell? ⟨gb137, 1, none⟩ = some (.int .u16 0) := (blk_cell BK137.out 1).trans rfl; have hcz15_2 : w14.cell? ⟨gb137, 2, none⟩ = some (.int .u32 0) := (blk_cell BK137.out 2).trans rfl; have hcz15_3 : w14.cell? ⟨gb137, 3, none⟩ = some (.string (⟨#[]⟩ : ByteArray)) := (blk_cell BK137.out 3).trans rfl; have hfz15_0 := blk_frozen BK137.out 0; have hfz15_1 := blk_frozen BK137.out 1; have hfz15_2 := blk_frozen BK137.out 2; have hfz15_3 := blk_frozen BK137.out 3; have p138 : 0 ≤ (0 : Int) := (by omega); have q138 : 0 < (l0.length : Int) := of_decide_eq_true (by first | (with_reducible assumption) | assumption); obtain ⟨ad138, e138, hx138_0, hx138_1, hx138_2, hx138_3⟩ := at_T32 HR0.out 0 p138 q138; obtain rfl : ad136 = ad138 := (by injection e138); have qi138 : (0 < l0.length) = True := eq_true (by omega); (try rw [show ((0 : Int)).toNat = 0 from rfl] at hx138_0); (try rw [show 0 * 4 = 0 from rfl] at hx138_0); (try rw [Addr.add_zero'] at hx138_0); (try rw [show ((0 : Int)).toNat = 0 from rfl] at hx138_1); (try rw [show 0 * 4 = 0 from rfl] at hx138_1); (try rw [Addr.add_zero'] at hx138_1); (try rw [show ((0 : Int)).toNat = 0 from rfl] at hx138_2); (try rw [show 0 * 4 = 0 from rfl] at hx138_2); (try rw [Addr.add_zero'] at hx138_2); (try rw [show ((0 : Int)).toNat = 0 from rfl] at hx138_3); (try rw [show 0 * 4 = 0 from rfl] at hx138_3); (try rw [Addr.add_zero'] at hx138_3); have hn138_0 : ad136.block ≠ gb137 := Nat.ne_of_lt (Nat.lt_of_lt_of_le (by have := World.block_lt_of_cell? _ _ hx138_0; first | rwa [add_block] at this | exact this) GW137.out); have hn138_1 : ad136.block ≠ gb137 := Nat.ne_of_lt (Nat.lt_of_lt_of_le (by have := World.block_lt_of_cell? _ _ hx138_0; first | rwa [add_block] at this | exact this) GW137.out); have hn138_2 : ad136.block ≠ gb137 := Nat.ne_of_lt (Nat.lt_of_lt_of_le (by have := World.block_lt_of_cell? _ _ hx138_0; first | rwa [add_block] at this | exact this) GW137.out); have hn138_3 : ad136.block ≠ gb137 := Nat.ne_of_lt (Nat.lt_of_lt_of_le (by have := World.block_lt_of_cell? _ _ hx138_0; first | rwa [add_block] at this | exact this) GW137.out); replace hx138_0 := (HB.out.cell (World.block_lt_of_cell? w _ hx138_0)).trans hx138_0; replace hx138_1 := (HB.out.cell (World.block_lt_of_cell? w _ hx138_1)).trans hx138_1; replace hx138_2 := (HB.out.cell (World.block_lt_of_cell? w _ hx138_2)).trans hx138_2; replace hx138_3 := (HB.out.cell (World.block_lt_of_cell? w _ hx138_3)).trans hx138_3; replace hx138_0 := (cell_far (p := ⟨gb137, 0, none⟩) (by first | (rw [add_block]; exact hn138_0) | (show (Addr.add _ _).block ≠ _; rw [add_block]; exact hn138_0) | exact hn138_0) (.string ((rd_T32 l0 x29_3).f0))).trans hx138_0; replace hx138_1 := (cell_far (p := ⟨gb137, 0, none⟩) (by first | (rw [add_block]; exact hn138_0) | (show (Addr.add _ _).block ≠ _; rw [add_block]; exact hn138_0) | exact hn138_0) (.string ((rd_T32 l0 x29_3).f0))).trans hx138_1; replace hx138_2 := (cell_far (p := ⟨gb137, 0, none⟩) (by first | (rw [add_block]; exact hn138_0) | (show (Addr.add _ _).block ≠ _; rw [add_block]; exact hn138_0) | exact hn138_0) (.string ((rd_T32 l0 x29_3).f0))).trans hx138_2; replace hx138_3 := (cell_far (p := ⟨gb137, 0, none⟩) (by first | (rw [add_block]; exact hn138_0) | (show (Addr.add _ _).block ≠ _; rw [add_block]; exact hn138_0) | exact hn138_0) (.string ((rd_T32 l0 x29_3).f0))).trans hx138_3; replace hx138_0 := (cell_far (p := ⟨gb137, 1, none⟩) (by first | (rw [add_block]; exact hn138_1) | (show (Addr.add _ _).block ≠ _; rw [add_block]; exact hn138_1) | exact hn138_1) (.int .u16 ((rd_T32 l0 x29_3).f1))).trans hx138_0; replace hx138_1 := (cell_far (p := ⟨gb137, 1, none⟩) (by first | (rw [add_block]; exact hn138_1) | (show (Addr.add _ _).block ≠ _; rw [add_block]; exact hn138_1) | exact hn138_1) (.int .u16 ((rd_T32 l0 x29_3).f1))).trans hx138_1; replace hx138_2 := (cell_far (p := ⟨gb137, 1, none⟩) (by first | (rw [add_block]; exact hn138_1) | (show (Addr.add _ _).block ≠ _; rw [add_block]; exact hn138_1) | exact hn138_1) (.int .u16 ((rd_T32 l0 x29_3).f1))).trans hx138_2; replace hx138_3 := (cell_far (p := ⟨gb137, 1, none⟩) (by first | (rw [add_block]; exact hn138_1) | (show (Addr.add _ _).block ≠ _; rw [add_block]; exact hn138_1) | exact hn138_1) (.int .u16 ((rd_T32 l0 x29_3).f1))).trans hx138_3; replace hx138_0 := (cell_far (p := ⟨gb137, 2, none⟩) (by first | (rw [add_block]; exact hn138_2) | (show (Addr.add _ _).block ≠ _; rw [add_block]; exact hn138_2) | exact hn138_2) (.int .u32 ((rd_T32 l0 x29_3).f2))).trans hx138_0; replace hx138_1 := (cell_far (p := ⟨gb137, 2, none⟩) (by first | (rw [add_block]; exact hn138_2) | (show (Addr.add _ _).block ≠ _; rw [add_block]; exact hn138_2) | exact hn138_2) (.int .u32 ((rd_T32 l0 x29_3).f2))).trans hx138_1; replace hx138_2 := (cell_far (p := ⟨gb137, 2, none⟩) (by first | (rw [add_block]; exact hn138_2) | (show (Addr.add _ _).block ≠ _; rw [add_block]; exact hn138_2) | exact hn138_2) (.int .u32 ((rd_T32 l0 x29_3).f2))).trans hx138_2; replace hx138_3 := (cell_far (p := ⟨gb137, 2, none⟩) (by first | (rw [add_block]; exact hn138_2) | (show (Addr.add _ _).block ≠ _; rw [add_block]; exact hn138_2) | exact hn138_2) (.int .u32 ((rd_T32 l0 x29_3).f2))).trans hx138_3; replace hx138_0 := (cell_far (p := ⟨gb137, 3, none⟩) (by first | (rw [add_block]; exact hn138_3) | (show (Addr.add _ _).block ≠ _; rw [add_block]; exact hn138_3) | exact hn138_3) (.string ((rd_T32 l0 x29_3).f3))).trans hx138_0; replace hx138_1 := (cell_far (p := ⟨gb137, 3, none⟩) (by first | (rw [add_block]; exact hn138_3) | (show (Addr.add _ _).block ≠ _; rw [add_block]; exact hn138_3) | exact hn138_3) (.string ((rd_T32 l0 x29_3).f3))).trans hx138_1; replace hx138_2 := (cell_far (p := ⟨gb137, 3, none⟩) (by first | (rw [add_block]; exact hn138_3) | (show (Addr.add _ _).block ≠ _; rw [add_block]; exact hn138_3) | exact hn138_3) (.string ((rd_T32 l0 x29_3).f3))).trans hx138_2; replace hx138_3 := (cell_far (p := ⟨gb137, 3, none⟩) (by first | (rw [add_block]; exact hn138_3) | (show (Addr.add _ _).block ≠ _; rw [add_block]; exact hn138_3) | exact hn138_3) (.string ((rd_T32 l0 x29_3).f3))).trans hx138_3; (try have hy138_0 := fun (n_ : Nat) => (show ((((((w14.drewN n_).setCell ⟨gb137, 0, none⟩ (.string ((rd_T32 l0 x29_3).f0))).setCell ⟨gb137, 1, none⟩ (.int .u16 ((rd_T32 l0 x29_3).f1))).setCell ⟨gb137, 2, none⟩ (.int .u32 ((rd_T32 l0 x29_3).f2))).setCell ⟨gb137, 3, none⟩ (.string ((rd_T32 l0 x29_3).f3)))).cell? _ = some _ from hx138_0)); (try have hy138_1 := fun (n_ : Nat) => (show ((((((w14.drewN n_).setCell ⟨gb137, 0, none⟩ (.string ((rd_T32 l0 x29_3).f0))).setCell ⟨gb137, 1, none⟩ (.int .u16 ((rd_T32 l0 x29_3).f1))).setCell ⟨gb137, 2, none⟩ (.int .u32 ((rd_T32 l0 x29_3).f2))).setCell ⟨gb137, 3, none⟩ (.string ((rd_T32 l0 x29_3).f3)))).cell? _ = some _ from hx138_1)); (try have hy138_2 := fun (n_ : Nat) => (show ((((((w14.drewN n_).setCell ⟨gb137, 0, none⟩ (.string ((rd_T32 l0 x29_3).f0))).setCell ⟨gb137, 1, none⟩ (.int .u16 ((rd_T32 l0 x29_3).f1))).setCell ⟨gb137, 2, none⟩ (.int .u32 ((rd_T32 l0 x29_3).f2))).setCell ⟨gb137, 3, none⟩ (.string ((rd_T32 l0 x29_3).f3)))).cell? _ = some _ from hx138_2)); (try have hy138_3 := fun (n_ : Nat) => (show ((((((w14.drewN n_).setCell ⟨gb137, 0, none⟩ (.string ((rd_T32 l0 x29_3).f0))).setCell ⟨gb137, 1, none⟩ (.int .u16 ((rd_T32 l0 x29_3).f1))).setCell ⟨gb137, 2, none⟩ (.int .u32 ((rd_T32 l0 x29_3).f2))).setCell ⟨gb137, 3, none⟩ (.string ((rd_T32 l0 x29_3).f3)))).cell? _ = some _ from hx138_3)); clear hn138_0; clear hn138_1; clear hn138_2; clear hn138_3; replace p138 := eq_true p138; replace q138 := eq_true q138)))
                          go_roundg k3
                          case measure => have := HJ2.out; have := HJ6.out; have := HK3.out; omega
                          case rel => exact ⟨(wrap64 (x4_3 + 1)), (wrap64 (x29_3 + 1)), (by first | rfl | (simp; done) | (simp [*]; done)), (by first | rfl | (simp; done) | (simp [*]; done)), H', ⟨by have := HJ2.out; have := HJ6.out; have := HK3.out; omega⟩, ⟨by repeat (first | (with_reducible first | exact HB.out | apply below_alloc | apply pw_below_drewN | apply below_drew1 | refine below_set ?_ GE137.out) | exact HB.out)⟩⟩
                        · rw [if_neg c13] at H
                          have c13b0 : ((((rd_T32 l0 x29_3).f0).toList) == (((rd_T32 l0 0).f0).toList) && (((rd_T32 l0 x29_3).f1) == ((rd_T32 l0 0).f1) && (((rd_T32 l0 x29_3).f2) == ((rd_T32 l0 0).f2) && ((((rd_T32 l0 x29_3).f3).toList) == (((rd_T32 l0 0).f3).toList))))) = false := by simpa using c13
                          (try (have c13b1 : decide ((((rd_T32 l0 x29_3).f0).toList) = (((rd_T32 l0 0).f0).toList) && (((rd_T32 l0 x29_3).f1) == ((rd_T32 l0 0).f1) && (((rd_T32 l0 x29_3).f2) == ((rd_T32 l0 0).f2) && ((((rd_T32 l0 x29_3).f3).toList) == (((rd_T32 l0 0).f3).toList))))) = false := by simpa using c13))
                          (try (have c13b2 : ((((rd_T32 l0 x29_3).f0).toList) == (((rd_T32 l0 0).f0).toList) && (((rd_T32 l0 x29_3).f1) == ((rd_T32 l0 0).f1) && (((rd_T32 l0 x29_3).f2) == ((rd_T32 l0 0).f2) && ((((rd_T32 l0 x29_3).f3).toList) == (((rd_T32 l0 0).f3).toList))))) = false := by simpa using c13))
                          (try (have c13b3 : ¬ ((((rd_T32 l0 x29_3).f0).toList) = (((rd_T32 l0 0).f0).toList) && (((rd_T32 l0 x29_3).f1) == ((rd_T32 l0 0).f1) && (((rd_T32 l0 x29_3).f2) == ((rd_T32 l0 0).f2) && ((((rd_T32 l0 x29_3).f3).toList) == (((rd_T32 l0 0).f3).toList))))) := by simpa using c13))
                          clear c13
                          have H' := Aside0.mk H
                          clear H
                          have p136 : 0 ≤ (x29_3 : Int) := of_decide_eq_true (by first | (with_reducible assumption) | assumption)
                          have q136 : x29_3 < (l0.length : Int) := of_decide_eq_true (by first | (with_reducible assumption) | assumption)
                          obtain ⟨ad136, e136, hx136_0, hx136_1, hx136_2, hx136_3⟩ := at_T32 HR0.out x29_3 p136 q136
                          cases e136
                          replace hx136_0 := (HB.out.cell (World.block_lt_of_cell? w _ hx136_0)).trans hx136_0
                          replace hx136_1 := (HB.out.cell (World.block_lt_of_cell? w _ hx136_1)).trans hx136_1
                          replace hx136_2 := (HB.out.cell (World.block_lt_of_cell? w _ hx136_2)).trans hx136_2
                          replace hx136_3 := (HB.out.cell (World.block_lt_of_cell? w _ hx136_3)).trans hx136_3
                          replace p136 := eq_true p136
                          replace q136 := eq_true q136
                          go_wp2_with (first | ((with_reducible refine gate_dst (N := 6) rfl ?_); refine box_event ?hg (N := 6) ?hd (cs := #[.string (⟨#[]⟩ : ByteArray), .int .u16 0, .int .u32 0, .string (⟨#[]⟩ : ByteArray)]) (t := 32) ?hr ?_; (case hd => rfl); (case hg => rfl); (case hr => first | (go_simp; done) | (go_simp; rfl)); intro gb137 hg w16 hbox hb; have n0_ := Aside0.mk (below_step (by repeat (first | (with_reducible first | exact HB.out | apply below_alloc | apply pw_below_drewN | apply below_drew1) | exact HB.out)) hb); have n1_ := Aside0.mk (hbox); have n2_ := Aside0.mk ((by rw [hg]; exact (below_size (by repeat (first | (with_reducible first | exact HB.out | apply below_alloc | apply pw_below_drewN | apply below_drew1) | exact HB.out))) : w.heap.size ≤ gb137)); have n3_ := Aside0.mk ((by rw [hg]; exact (below_size (by repeat (first | (with_reducible first | exact HB.out | apply below_alloc | apply pw_below_drewN | apply below_drew1) | exact HB.out))) : w.heap.size ≤ gb137)); clear HB; have HB := n0_; have BK137 := n1_; have GW137 := n2_; have GE137 := n3_; clear n0_ n1_ n2_ n3_; clear hb hbox hg; have hcz17_0 : w16.cell? ⟨gb137, 0, none⟩ = some (.string (⟨#[]⟩ : ByteArray)) := (blk_cell BK137.out 0).trans rfl; have hcz17_1 : w16.cell? ⟨gb137, 1, none⟩ = some (.int .u16 0) := (blk_cell BK137.out 1).trans rfl; have hcz17_2 : w16.cell? ⟨gb137, 2, none⟩ = some (.int .u32 0) := (blk_cell BK137.out 2).trans rfl; have hcz17_3 : w16.cell? ⟨gb137, 3, none⟩ = some (.string (⟨#[]⟩ : ByteArray)) := (blk_cell BK137.out 3).trans rfl; have hfz17_0 := blk_frozen BK137.out 0; have hfz17_1 := blk_frozen BK137.out 1; have hfz17_2 := blk_frozen BK137.out 2; have hfz17_3 := blk_frozen BK137.out 3; have p138 : 0 ≤ (0 : Int) := (by omega); have q138 : 0 < (l0.length : Int) := of_decide_eq_true (by first | (with_reducible assumption) | assumption); obtain ⟨ad138, e138, hx138_0, hx138_1, hx138_2, hx138_3⟩ := at_T32 HR0.out 0 p138 q138; obtain rfl : ad136 = ad138 := (by injection e138); have qi138 : (0 < l0.length) = True := eq_true (by omega); (try rw [show ((0 : Int)).toNat = 0 from rfl] at hx138_0); (try rw [show 0 * 4 = 0 from rfl] at hx138_0); (try rw [Addr.add_zero'] at hx138_0); (try rw [show ((0 : Int)).toNat = 0 from rfl] at hx138_1); (try rw [show 0 * 4 = 0 from rfl] at hx138_1); (try rw [Addr.add_zero'] at hx138_1); (try rw [show ((0 : Int)).toNat = 0 from rfl] at hx138_2); (try rw [show 0 * 4 = 0 from rfl] at hx138_2); (try rw [Addr.add_zero'] at hx138_2); (try rw [show ((0 : Int)).toNat = 0 from rfl] at hx138_3); (try rw [show 0 * 4 = 0 from rfl] at hx138_3); (try rw [Addr.add_zero'] at hx138_3); have hn138_0 : ad136.block ≠ gb137 := Nat.ne_of_lt (Nat.lt_of_lt_of_le (by have := World.block_lt_of_cell? _ _ hx138_0; first | rwa [add_block] at this | exact this) GW137.out); have hn138_1 : ad136.block ≠ gb137 := Nat.ne_of_lt (Nat.lt_of_lt_of_le (by have := World.block_lt_of_cell? _ _ hx138_0; first | rwa [add_block] at this | exact this) GW137.out); have hn138_2 : ad136.block ≠ gb137 := Nat.ne_of_lt (Nat.lt_of_lt_of_le (by have := World.block_lt_of_cell? _ _ hx138_0; first | rwa [add_block] at this | exact this) GW137.out); have hn138_3 : ad136.block ≠ gb137 := Nat.ne_of_lt (Nat.lt_of_lt_of_le (by have := World.block_lt_of_cell? _ _ hx138_0; first | rwa [add_block] at this | exact this) GW137.out); replace hx138_0 := (HB.out.cell (World.block_lt_of_cell? w _ hx138_0)).trans hx138_0; replace hx138_1 := (HB.out.cell (World.block_lt_of_cell? w _ hx138_1)).trans hx138_1; replace hx138_2 := (HB.out.cell (World.block_lt_of_cell? w _ hx138_2)).trans hx138_2; replace hx138_3 := (HB.out.cell (World.block_lt_of_cell? w _ hx138_3)).trans hx138_3; replace hx138_0 := (cell_far (p := ⟨gb137, 0, none⟩) (by first | (rw [add_block]; exact hn138_0) | (show (Addr.add _ _).block ≠ _; rw [add_block]; exact hn138_0) | exact hn138_0) (.string ((rd_T32 l0 x29_3).f0))).trans hx138_0; replace hx138_1 := (cell_far (p := ⟨gb137, 0, none⟩) (by first | (rw [add_block]; exact hn138_0) | (show (Addr.add _ _).block ≠ _; rw [add_block]; exact hn138_0) | exact hn138_0) (.string ((rd_T32 l0 x29_3).f0))).trans hx138_1; replace hx138_2 := (cell_far (p := ⟨gb137, 0, none⟩) (by first | (rw [add_block]; exact hn138_0) | (show (Addr.add _ _).block ≠ _; rw [add_block]; exact hn138_0) | exact hn138_0) (.string ((rd_T32 l0 x29_3).f0))).trans hx138_2; replace hx138_3 := (cell_far (p := ⟨gb137, 0, none⟩) (by first | (rw [add_block]; exact hn138_0) | (show (Addr.add _ _).block ≠ _; rw [add_block]; exact hn138_0) | exact hn138_0) (.string ((rd_T32 l0 x29_3).f0))).trans hx138_3; replace hx138_0 := (cell_far (p := ⟨gb137, 1, none⟩) (by first | (rw [add_block]; exact hn138_1) | (show (Addr.add _ _).block ≠ _; rw [add_block]; exact hn138_1) | exact hn138_1) (.int .u16 ((rd_T32 l0 x29_3).f1))).trans hx138_0; replace hx138_1 := (cell_far (p := ⟨gb137, 1, none⟩) (by first | (rw [add_block]; exact hn138_1) | (show (Addr.add _ _).block ≠ _; rw [add_block]; exact hn138_1) | exact hn138_1) (.int .u16 ((rd_T32 l0 x29_3).f1))).trans hx138_1; replace hx138_2 := (cell_far (p := ⟨gb137, 1, none⟩) (by first | (rw [add_block]; exact hn138_1) | (show (Addr.add _ _).block ≠ _; rw [add_block]; exact hn138_1) | exact hn138_1) (.int .u16 ((rd_T32 l0 x29_3).f1))).trans hx138_2; replace hx138_3 := (cell_far (p := ⟨gb137, 1, none⟩) (by first | (rw [add_block]; exact hn138_1) | (show (Addr.add _ _).block ≠ _; rw [add_block]; exact hn138_1) | exact hn138_1) (.int .u16 ((rd_T32 l0 x29_3).f1))).trans hx138_3; replace hx138_0 := (cell_far (p := ⟨gb137, 2, none⟩) (by first | (rw [add_block]; exact hn138_2) | (show (Addr.add _ _).block ≠ _; rw [add_block]; exact hn138_2) | exact hn138_2) (.int .u32 ((rd_T32 l0 x29_3).f2))).trans hx138_0; replace hx138_1 := (cell_far (p := ⟨gb137, 2, none⟩) (by first | (rw [add_block]; exact hn138_2) | (show (Addr.add _ _).block ≠ _; rw [add_block]; exact hn138_2) | exact hn138_2) (.int .u32 ((rd_T32 l0 x29_3).f2))).trans hx138_1; replace hx138_2 := (cell_far (p := ⟨gb137, 2, none⟩) (by first | (rw [add_block]; exact hn138_2) | (show (Addr.add _ _).block ≠ _; rw [add_block]; exact hn138_2) | exact hn138_2) (.int .u32 ((rd_T32 l0 x29_3).f2))).trans hx138_2; replace hx138_3 := (cell_far (p := ⟨gb137, 2, none⟩) (by first | (rw [add_block]; exact hn138_2) | (show (Addr.add _ _).block ≠ _; rw [add_block]; exact hn138_2) | exact hn138_2) (.int .u32 ((rd_T32 l0 x29_3).f2))).trans hx138_3; replace hx138_0 := (cell_far (p := ⟨gb137, 3, none⟩) (by first | (rw [add_block]; exact hn138_3) | (show (Addr.add _ _).block ≠ _; rw [add_block]; exact hn138_3) | exact hn138_3) (.string ((rd_T32 l0 x29_3).f3))).trans hx138_0; replace hx138_1 := (cell_far (p := ⟨gb137, 3, none⟩) (by first | (rw [add_block]; exact hn138_3) | (show (Addr.add _ _).block ≠ _; rw [add_block]; exact hn138_3) | exact hn138_3) (.string ((rd_T32 l0 x29_3).f3))).trans hx138_1; replace hx138_2 := (cell_far (p := ⟨gb137, 3, none⟩) (by first | (rw [add_block]; exact hn138_3) | (show (Addr.add _ _).block ≠ _; rw [add_block]; exact hn138_3) | exact hn138_3) (.string ((rd_T32 l0 x29_3).f3))).trans hx138_2; replace hx138_3 := (cell_far (p := ⟨gb137, 3, none⟩) (by first | (rw [add_block]; exact hn138_3) | (show (Addr.add _ _).block ≠ _; rw [add_block]; exact hn138_3) | exact hn138_3) (.string ((rd_T32 l0 x29_3).f3))).trans hx138_3; (try have hy138_0 := fun (n_ : Nat) => (show ((((((w16.drewN n_).setCell ⟨gb137, 0, none⟩ (.string ((rd_T32 l0 x29_3).f0))).setCell ⟨gb137, 1, none⟩ (.int .u16 ((rd_T32 l0 x29_3).f1))).setCell ⟨gb137, 2, none⟩ (.int .u32 ((rd_T32 l0 x29_3).f2))).setCell ⟨gb137, 3, none⟩ (.string ((rd_T32 l0 x29_3).f3)))).cell? _ = some _ from hx138_0)); (try have hy138_1 := fun (n_ : Nat) => (show ((((((w16.drewN n_).setCell ⟨gb137, 0, none⟩ (.string ((rd_T32 l0 x29_3).f0))).setCell ⟨gb137, 1, none⟩ (.int .u16 ((rd_T32 l0 x29_3).f1))).setCell ⟨gb137, 2, none⟩ (.int .u32 ((rd_T32 l0 x29_3).f2))).setCell ⟨gb137, 3, none⟩ (.string ((rd_T32 l0 x29_3).f3)))).cell? _ = some _ from hx138_1)); (try have hy138_2 := fun (n_ : Nat) => (show ((((((w16.drewN n_).setCell ⟨gb137, 0, none⟩ (.string ((rd_T32 l0 x29_3).f0))).setCell ⟨gb137, 1, none⟩ (.int .u16 ((rd_T32 l0 x29_3).f1))).setCell ⟨gb137, 2, none⟩ (.int .u32 ((rd_T32 l0 x29_3).f2))).setCell ⟨gb137, 3, none⟩ (.string ((rd_T32 l0 x29_3).f3)))).cell? _ = some _ from hx138_2)); (try have hy138_3 := fun (n_ : Nat) => (show ((((((w16.drewN n_).setCell ⟨gb137, 0, none⟩ (.string ((rd_T32 l0 x29_3).f0))).setCell ⟨gb137, 1, none⟩ (.int .u16 ((rd_T32 l0 x29_3).f1))).setCell ⟨gb137, 2, none⟩ (.int .u32 ((rd_T32 l0 x29_3).f2))).setCell ⟨gb137, 3, none⟩ (.string ((rd_T32 l0 x29_3).f3)))).cell? _ = some _ from hx138_3)); clear hn138_0; clear hn138_1; clear hn138_2; clear hn138_3; replace p138 := eq_true p138; replace q138 := eq_true q138))
                          repeat (go_quiet (first | ((with_reducible refine gate_dst (N := 6) rfl ?_); refine box_event ?hg (N := 6) ?hd (cs := #[.string (⟨#[]⟩ : ByteArray), .int .u16 0, .int .u32 0, .string (⟨#[]⟩ : ByteArray)]) (t := 32) ?hr ?_; (case hd => rfl); (case hg => rfl); (case hr => first | (go_simp; done) | (go_simp; rfl)); intro gb137 hg w16 hbox hb; have n0_ := Aside0.mk (below_step (by repeat (first | (with_reducible first | exact HB.out | apply below_alloc | apply pw_below_drewN | apply below_drew1) | exact HB.out)) hb); have n1_ := Aside0.mk (hbox); have n2_ := Aside0.mk ((by rw [hg]; exact (below_size (by repeat (first | (with_reducible first | exact HB.out | apply below_alloc | apply pw_below_drewN | apply below_drew1) | exact HB.out))) : w.heap.size ≤ gb137)); have n3_ := Aside0.mk ((by rw [hg]; exact (below_size (by repeat (first | (with_reducible first | exact HB.out | apply below_alloc | apply pw_below_drewN | apply below_drew1) | exact HB.out))) : w.heap.size ≤ gb137)); clear HB; have HB := n0_; have BK137 := n1_; have GW137 := n2_; have GE137 := n3_; clear n0_ n1_ n2_ n3_; clear hb hbox hg; have hcz17_0 : w16.cell? ⟨gb137, 0, none⟩ = some (.string (⟨#[]⟩ : ByteArray)) := (blk_cell BK137.out 0).trans rfl; have hcz17_1 : w16.cell? ⟨gb137, 1, none⟩ = some (.int .u16 0) := (blk_cell BK137.out 1).trans rfl; have hcz17_2 : w16.cell? ⟨gb137, 2, none⟩ = some (.int .u32 0) := (blk_cell BK137.out 2).trans rfl; have hcz17_3 : w16.cell? ⟨gb137, 3, none⟩ = some (.string (⟨#[]⟩ : ByteArray)) := (blk_cell BK137.out 3).trans rfl; have hfz17_0 := blk_frozen BK137.out 0; have hfz17_1 := blk_frozen BK137.out 1; have hfz17_2 := blk_frozen BK137.out 2; have hfz17_3 := blk_frozen BK137.out 3; have p138 : 0 ≤ (0 : Int) := (by omega); have q138 : 0 < (l0.length : Int) := of_decide_eq_true (by first | (with_reducible assumption) | assumption); obtain ⟨ad138, e138, hx138_0, hx138_1, hx138_2, hx138_3⟩ := at_T32 HR0.out 0 p138 q138; obtain rfl : ad136 = ad138 := (by injection e138); have qi138 : (0 < l0.length) = True := eq_true (by omega); (try rw [show ((0 : Int)).toNat = 0 from rfl] at hx138_0); (try rw [show 0 * 4 = 0 from rfl] at hx138_0); (try rw [Addr.add_zero'] at hx138_0); (try rw [show ((0 : Int)).toNat = 0 from rfl] at hx138_1); (try rw [show 0 * 4 = 0 from rfl] at hx138_1); (try rw [Addr.add_zero'] at hx138_1); (try rw [show ((0 : Int)).toNat = 0 from rfl] at hx138_2); (try rw [show 0 * 4 = 0 from rfl] at hx138_2); (try rw [Addr.add_zero'] at hx138_2); (try rw [show ((0 : Int)).toNat = 0 from rfl] at hx138_3); (try rw [show 0 * 4 = 0 from rfl] at hx138_3); (try rw [Addr.add_zero'] at hx138_3); have hn138_0 : ad136.block ≠ gb137 := Nat.ne_of_lt (Nat.lt_of_lt_of_le (by have := World.block_lt_of_cell? _ _ hx138_0; first | rwa [add_block] at this | exact this) GW137.out); have hn138_1 : ad136.block ≠ gb137 := Nat.ne_of_lt (Nat.lt_of_lt_of_le (by have := World.block_lt_of_cell? _ _ hx138_0; first | rwa [add_block] at this | exact this) GW137.out); have hn138_2 : ad136.block ≠ gb137 := Nat.ne_of_lt (Nat.lt_of_lt_of_le (by have := World.block_lt_of_cell? _ _ hx138_0; first | rwa [add_block] at this | exact this) GW137.out); have hn138_3 : ad136.block ≠ gb137 := Nat.ne_of_lt (Nat.lt_of_lt_of_le (by have := World.block_lt_of_cell? _ _ hx138_0; first | rwa [add_block] at this | exact this) GW137.out); replace hx138_0 := (HB.out.cell (World.block_lt_of_cell? w _ hx138_0)).trans hx138_0; replace hx138_1 := (HB.out.cell (World.block_lt_of_cell? w _ hx138_1)).trans hx138_1; replace hx138_2 := (HB.out.cell (World.block_lt_of_cell? w _ hx138_2)).trans hx138_2; replace hx138_3 := (HB.out.cell (World.block_lt_of_cell? w _ hx138_3)).trans hx138_3; replace hx138_0 := (cell_far (p := ⟨gb137, 0, none⟩) (by first | (rw [add_block]; exact hn138_0) | (show (Addr.add _ _).block ≠ _; rw [add_block]; exact hn138_0) | exact hn138_0) (.string ((rd_T32 l0 x29_3).f0))).trans hx138_0; replace hx138_1 := (cell_far (p := ⟨gb137, 0, none⟩) (by first | (rw [add_block]; exact hn138_0) | (show (Addr.add _ _).block ≠ _; rw [add_block]; exact hn138_0) | exact hn138_0) (.string ((rd_T32 l0 x29_3).f0))).trans hx138_1; replace hx138_2 := (cell_far (p := ⟨gb137, 0, none⟩) (by first | (rw [add_block]; exact hn138_0) | (show (Addr.add _ _).block ≠ _; rw [add_block]; exact hn138_0) | exact hn138_0) (.string ((rd_T32 l0 x29_3).f0))).trans hx138_2; replace hx138_3 := (cell_far (p := ⟨gb137, 0, none⟩) (by first | (rw [add_block]; exact hn138_0) | (show (Addr.add _ _).block ≠ _; rw [add_block]; exact hn138_0) | exact hn138_0) (.string ((rd_T32 l0 x29_3).f0))).trans hx138_3; replace hx138_0 := (cell_far (p := ⟨gb137, 1, none⟩) (by first | (rw [add_block]; exact hn138_1) | (show (Addr.add _ _).block ≠ _; rw [add_block]; exact hn138_1) | exact hn138_1) (.int .u16 ((rd_T32 l0 x29_3).f1))).trans hx138_0; replace hx138_1 := (cell_far (p := ⟨gb137, 1, none⟩) (by first | (rw [add_block]; exact hn138_1) | (show (Addr.add _ _).block ≠ _; rw [add_block]; exact hn138_1) | exact hn138_1) (.int .u16 ((rd_T32 l0 x29_3).f1))).trans hx138_1; replace hx138_2 := (cell_far (p := ⟨gb137, 1, none⟩) (by first | (rw [add_block]; exact hn138_1) | (show (Addr.add _ _).block ≠ _; rw [add_block]; exact hn138_1) | exact hn138_1) (.int .u16 ((rd_T32 l0 x29_3).f1))).trans hx138_2; replace hx138_3 := (cell_far (p := ⟨gb137, 1, none⟩) (by first | (rw [add_block]; exact hn138_1) | (show (Addr.add _ _).block ≠ _; rw [add_block]; exact hn138_1) | exact hn138_1) (.int .u16 ((rd_T32 l0 x29_3).f1))).trans hx138_3; replace hx138_0 := (cell_far (p := ⟨gb137, 2, none⟩) (by first | (rw [add_block]; exact hn138_2) | (show (Addr.add _ _).block ≠ _; rw [add_block]; exact hn138_2) | exact hn138_2) (.int .u32 ((rd_T32 l0 x29_3).f2))).trans hx138_0; replace hx138_1 := (cell_far (p := ⟨gb137, 2, none⟩) (by first | (rw [add_block]; exact hn138_2) | (show (Addr.add _ _).block ≠ _; rw [add_block]; exact hn138_2) | exact hn138_2) (.int .u32 ((rd_T32 l0 x29_3).f2))).trans hx138_1; replace hx138_2 := (cell_far (p := ⟨gb137, 2, none⟩) (by first | (rw [add_block]; exact hn138_2) | (show (Addr.add _ _).block ≠ _; rw [add_block]; exact hn138_2) | exact hn138_2) (.int .u32 ((rd_T32 l0 x29_3).f2))).trans hx138_2; replace hx138_3 := (cell_far (p := ⟨gb137, 2, none⟩) (by first | (rw [add_block]; exact hn138_2) | (show (Addr.add _ _).block ≠ _; rw [add_block]; exact hn138_2) | exact hn138_2) (.int .u32 ((rd_T32 l0 x29_3).f2))).trans hx138_3; replace hx138_0 := (cell_far (p := ⟨gb137, 3, none⟩) (by first | (rw [add_block]; exact hn138_3) | (show (Addr.add _ _).block ≠ _; rw [add_block]; exact hn138_3) | exact hn138_3) (.string ((rd_T32 l0 x29_3).f3))).trans hx138_0; replace hx138_1 := (cell_far (p := ⟨gb137, 3, none⟩) (by first | (rw [add_block]; exact hn138_3) | (show (Addr.add _ _).block ≠ _; rw [add_block]; exact hn138_3) | exact hn138_3) (.string ((rd_T32 l0 x29_3).f3))).trans hx138_1; replace hx138_2 := (cell_far (p := ⟨gb137, 3, none⟩) (by first | (rw [add_block]; exact hn138_3) | (show (Addr.add _ _).block ≠ _; rw [add_block]; exact hn138_3) | exact hn138_3) (.string ((rd_T32 l0 x29_3).f3))).trans hx138_2; replace hx138_3 := (cell_far (p := ⟨gb137, 3, none⟩) (by first | (rw [add_block]; exact hn138_3) | (show (Addr.add _ _).block ≠ _; rw [add_block]; exact hn138_3) | exact hn138_3) (.string ((rd_T32 l0 x29_3).f3))).trans hx138_3; (try have hy138_0 := fun (n_ : Nat) => (show ((((((w16.drewN n_).setCell ⟨gb137, 0, none⟩ (.string ((rd_T32 l0 x29_3).f0))).setCell ⟨gb137, 1, none⟩ (.int .u16 ((rd_T32 l0 x29_3).f1))).setCell ⟨gb137, 2, none⟩ (.int .u32 ((rd_T32 l0 x29_3).f2))).setCell ⟨gb137, 3, none⟩ (.string ((rd_T32 l0 x29_3).f3)))).cell? _ = some _ from hx138_0)); (try have hy138_1 := fun (n_ : Nat) => (show ((((((w16.drewN n_).setCell ⟨gb137, 0, none⟩ (.string ((rd_T32 l0 x29_3).f0))).setCell ⟨gb137, 1, none⟩ (.int .u16 ((rd_T32 l0 x29_3).f1))).setCell ⟨gb137, 2, none⟩ (.int .u32 ((rd_T32 l0 x29_3).f2))).setCell ⟨gb137, 3, none⟩ (.string ((rd_T32 l0 x29_3).f3)))).cell? _ = some _ from hx138_1)); (try have hy138_2 := fun (n_ : Nat) => (show ((((((w16.drewN n_).setCell ⟨gb137, 0, none⟩ (.string ((rd_T32 l0 x29_3).f0))).setCell ⟨gb137, 1, none⟩ (.int .u16 ((rd_T32 l0 x29_3).f1))).setCell ⟨gb137, 2, none⟩ (.int .u32 ((rd_T32 l0 x29_3).f2))).setCell ⟨gb137, 3, none⟩ (.string ((rd_T32 l0 x29_3).f3)))).cell? _ = some _ from hx138_2)); (try have hy138_3 := fun (n_ : Nat) => (show ((((((w16.drewN n_).setCell ⟨gb137, 0, none⟩ (.string ((rd_T32 l0 x29_3).f0))).setCell ⟨gb137, 1, none⟩ (.int .u16 ((rd_T32 l0 x29_3).f1))).setCell ⟨gb137, 2, none⟩ (.int .u32 ((rd_T32 l0 x29_3).f2))).setCell ⟨gb137, 3, none⟩ (.string ((rd_T32 l0 x29_3).f3)))).cell? _ = some _ from hx138_3)); clear hn138_0; clear hn138_1; clear hn138_2; clear hn138_3; replace p138 := eq_true p138; replace q138 := eq_true q138)); try go_wp2_with (first | ((with_reducible refine gate_dst (N := 6) rfl ?_); refine box_event ?hg (N := 6) ?hd (cs := #[.string (⟨#[]⟩ : ByteArray), .int .u16 0, .int .u32 0, .string (⟨#[]⟩ : ByteArray)]) (t := 32) ?hr ?_; (case hd => rfl); (case hg => rfl); (case hr => first | (go_simp; done) | (go_simp; rfl)); intro gb137 hg w16 hbox hb; have n0_ := Aside0.mk (below_step (by repeat (first | (with_reducible first | exact HB.out | apply below_alloc | apply pw_below_drewN | apply below_drew1) | exact HB.out)) hb); have n1_ := Aside0.mk (hbox); have n2_ := Aside0.mk ((by rw [hg]; exact (below_size (by repeat (first | (with_reducible first | exact HB.out | apply below_alloc | apply pw_below_drewN | apply below_drew1) | exact HB.out))) : w.heap.size ≤ gb137)); have n3_ := Aside0.mk ((by rw [hg]; exact (below_size (by repeat (first | (with_reducible first | exact HB.out | apply below_alloc | apply pw_below_drewN | apply below_drew1) | exact HB.out))) : w.heap.size ≤ gb137)); clear HB; have HB := n0_; have BK137 := n1_; have GW137 := n2_; have GE137 := n3_; clear n0_ n1_ n2_ n3_; clear hb hbox hg; have hcz17_0 : w16.cell? ⟨gb137, 0, none⟩ = some (.string (⟨#[]⟩ : ByteArray)) := (blk_cell BK137.out 0).trans rfl; have hcz17_1 : w16.cell? ⟨gb137, 1, none⟩ = some (.int .u16 0) := (blk_cell BK137.out 1).trans rfl; have hcz17_2 : w16.cell? ⟨gb137, 2, none⟩ = some (.int .u32 0) := (blk_cell BK137.out 2).trans rfl; have hcz17_3 : w16.cell? ⟨gb137, 3, none⟩ = some (.string (⟨#[]⟩ : ByteArray)) := (blk_cell BK137.out 3).trans rfl; have hfz17_0 := blk_frozen BK137.out 0; have hfz17_1 := blk_frozen BK137.out 1; have hfz17_2 := blk_frozen BK137.out 2; have hfz17_3 := blk_frozen BK137.out 3; have p138 : 0 ≤ (0 : Int) := (by omega); have q138 : 0 < (l0.length : Int) := of_decide_eq_true (by first | (with_reducible assumption) | assumption); obtain ⟨ad138, e138, hx138_0, hx138_1, hx138_2, hx138_3⟩ := at_T32 HR0.out 0 p138 q138; obtain rfl : ad136 = ad138 := (by injection e138); have qi138 : (0 < l0.length) = True := eq_true (by omega); (try rw [show ((0 : Int)).toNat = 0 from rfl] at hx138_0); (try rw [show 0 * 4 = 0 from rfl] at hx138_0); (try rw [Addr.add_zero'] at hx138_0); (try rw [show ((0 : Int)).toNat = 0 from rfl] at hx138_1); (try rw [show 0 * 4 = 0 from rfl] at hx138_1); (try rw [Addr.add_zero'] at hx138_1); (try rw [show ((0 : Int)).toNat = 0 from rfl] at hx138_2); (try rw [show 0 * 4 = 0 from rfl] at hx138_2); (try rw [Addr.add_zero'] at hx138_2); (try rw [show ((0 : Int)).toNat = 0 from rfl] at hx138_3); (try rw [show 0 * 4 = 0 from rfl] at hx138_3); (try rw [Addr.add_zero'] at hx138_3); have hn138_0 : ad136.block ≠ gb137 := Nat.ne_of_lt (Nat.lt_of_lt_of_le (by have := World.block_lt_of_cell? _ _ hx138_0; first | rwa [add_block] at this | exact this) GW137.out); have hn138_1 : ad136.block ≠ gb137 := Nat.ne_of_lt (Nat.lt_of_lt_of_le (by have := World.block_lt_of_cell? _ _ hx138_0; first | rwa [add_block] at this | exact this) GW137.out); have hn138_2 : ad136.block ≠ gb137 := Nat.ne_of_lt (Nat.lt_of_lt_of_le (by have := World.block_lt_of_cell? _ _ hx138_0; first | rwa [add_block] at this | exact this) GW137.out); have hn138_3 : ad136.block ≠ gb137 := Nat.ne_of_lt (Nat.lt_of_lt_of_le (by have := World.block_lt_of_cell? _ _ hx138_0; first | rwa [add_block] at this | exact this) GW137.out); replace hx138_0 := (HB.out.cell (World.block_lt_of_cell? w _ hx138_0)).trans hx138_0; replace hx138_1 := (HB.out.cell (World.block_lt_of_cell? w _ hx138_1)).trans hx138_1; replace hx138_2 := (HB.out.cell (World.block_lt_of_cell? w _ hx138_2)).trans hx138_2; replace hx138_3 := (HB.out.cell (World.block_lt_of_cell? w _ hx138_3)).trans hx138_3; replace hx138_0 := (cell_far (p := ⟨gb137, 0, none⟩) (by first | (rw [add_block]; exact hn138_0) | (show (Addr.add _ _).block ≠ _; rw [add_block]; exact hn138_0) | exact hn138_0) (.string ((rd_T32 l0 x29_3).f0))).trans hx138_0; replace hx138_1 := (cell_far (p := ⟨gb137, 0, none⟩) (by first | (rw [add_block]; exact hn138_0) | (show (Addr.add _ _).block ≠ _; rw [add_block]; exact hn138_0) | exact hn138_0) (.string ((rd_T32 l0 x29_3).f0))).trans hx138_1; replace hx138_2 := (cell_far (p := ⟨gb137, 0, none⟩) (by first | (rw [add_block]; exact hn138_0) | (show (Addr.add _ _).block ≠ _; rw [add_block]; exact hn138_0) | exact hn138_0) (.string ((rd_T32 l0 x29_3).f0))).trans hx138_2; replace hx138_3 := (cell_far (p := ⟨gb137, 0, none⟩) (by first | (rw [add_block]; exact hn138_0) | (show (Addr.add _ _).block ≠ _; rw [add_block]; exact hn138_0) | exact hn138_0) (.string ((rd_T32 l0 x29_3).f0))).trans hx138_3; replace hx138_0 := (cell_far (p := ⟨gb137, 1, none⟩) (by first | (rw [add_block]; exact hn138_1) | (show (Addr.add _ _).block ≠ _; rw [add_block]; exact hn138_1) | exact hn138_1) (.int .u16 ((rd_T32 l0 x29_3).f1))).trans hx138_0; replace hx138_1 := (cell_far (p := ⟨gb137, 1, none⟩) (by first | (rw [add_block]; exact hn138_1) | (show (Addr.add _ _).block ≠ _; rw [add_block]; exact hn138_1) | exact hn138_1) (.int .u16 ((rd_T32 l0 x29_3).f1))).trans hx138_1; replace hx138_2 := (cell_far (p := ⟨gb137, 1, none⟩) (by first | (rw [add_block]; exact hn138_1) | (show (Addr.add _ _).block ≠ _; rw [add_block]; exact hn138_1) | exact hn138_1) (.int .u16 ((rd_T32 l0 x29_3).f1))).trans hx138_2; replace hx138_3 := (cell_far (p := ⟨gb137, 1, none⟩) (by first | (rw [add_block]; exact hn138_1) | (show (Addr.add _ _).block ≠ _; rw [add_block]; exact hn138_1) | exact hn138_1) (.int .u16 ((rd_T32 l0 x29_3).f1))).trans hx138_3; replace hx138_0 := (cell_far (p := ⟨gb137, 2, none⟩) (by first | (rw [add_block]; exact hn138_2) | (show (Addr.add _ _).block ≠ _; rw [add_block]; exact hn138_2) | exact hn138_2) (.int .u32 ((rd_T32 l0 x29_3).f2))).trans hx138_0; replace hx138_1 := (cell_far (p := ⟨gb137, 2, none⟩) (by first | (rw [add_block]; exact hn138_2) | (show (Addr.add _ _).block ≠ _; rw [add_block]; exact hn138_2) | exact hn138_2) (.int .u32 ((rd_T32 l0 x29_3).f2))).trans hx138_1; replace hx138_2 := (cell_far (p := ⟨gb137, 2, none⟩) (by first | (rw [add_block]; exact hn138_2) | (show (Addr.add _ _).block ≠ _; rw [add_block]; exact hn138_2) | exact hn138_2) (.int .u32 ((rd_T32 l0 x29_3).f2))).trans hx138_2; replace hx138_3 := (cell_far (p := ⟨gb137, 2, none⟩) (by first | (rw [add_block]; exact hn138_2) | (show (Addr.add _ _).block ≠ _; rw [add_block]; exact hn138_2) | exact hn138_2) (.int .u32 ((rd_T32 l0 x29_3).f2))).trans hx138_3; replace hx138_0 := (cell_far (p := ⟨gb137, 3, none⟩) (by first | (rw [add_block]; exact hn138_3) | (show (Addr.add _ _).block ≠ _; rw [add_block]; exact hn138_3) | exact hn138_3) (.string ((rd_T32 l0 x29_3).f3))).trans hx138_0; replace hx138_1 := (cell_far (p := ⟨gb137, 3, none⟩) (by first | (rw [add_block]; exact hn138_3) | (show (Addr.add _ _).block ≠ _; rw [add_block]; exact hn138_3) | exact hn138_3) (.string ((rd_T32 l0 x29_3).f3))).trans hx138_1; replace hx138_2 := (cell_far (p := ⟨gb137, 3, none⟩) (by first | (rw [add_block]; exact hn138_3) | (show (Addr.add _ _).block ≠ _; rw [add_block]; exact hn138_3) | exact hn138_3) (.string ((rd_T32 l0 x29_3).f3))).trans hx138_2; replace hx138_3 := (cell_far (p := ⟨gb137, 3, none⟩) (by first | (rw [add_block]; exact hn138_3) | (show (Addr.add _ _).block ≠ _; rw [add_block]; exact hn138_3) | exact hn138_3) (.string ((rd_T32 l0 x29_3).f3))).trans hx138_3; (try have hy138_0 := fun (n_ : Nat) => (show ((((((w16.drewN n_).setCell ⟨gb137, 0, none⟩ (.string ((rd_T32 l0 x29_3).f0))).setCell ⟨gb137, 1, none⟩ (.int .u16 ((rd_T32 l0 x29_3).f1))).setCell ⟨gb137, 2, none⟩ (.int .u32 ((rd_T32 l0 x29_3).f2))).setCell ⟨gb137, 3, none⟩ (.string ((rd_T32 l0 x29_3).f3)))).cell? _ = some _ from hx138_0)); (try have hy138_1 := fun (n_ : Nat) => (show ((((((w16.drewN n_).setCell ⟨gb137, 0, none⟩ (.string ((rd_T32 l0 x29_3).f0))).setCell ⟨gb137, 1, none⟩ (.int .u16 ((rd_T32 l0 x29_3).f1))).setCell ⟨gb137, 2, none⟩ (.int .u32 ((rd_T32 l0 x29_3).f2))).setCell ⟨gb137, 3, none⟩ (.string ((rd_T32 l0 x29_3).f3)))).cell? _ = some _ from hx138_1)); (try have hy138_2 := fun (n_ : Nat) => (show ((((((w16.drewN n_).setCell ⟨gb137, 0, none⟩ (.string ((rd_T32 l0 x29_3).f0))).setCell ⟨gb137, 1, none⟩ (.int .u16 ((rd_T32 l0 x29_3).f1))).setCell ⟨gb137, 2, none⟩ (.int .u32 ((rd_T32 l0 x29_3).f2))).setCell ⟨gb137, 3, none⟩ (.string ((rd_T32 l0 x29_3).f3)))).cell? _ = some _ from hx138_2)); (try have hy138_3 := fun (n_ : Nat) => (show ((((((w16.drewN n_).setCell ⟨gb137, 0, none⟩ (.string ((rd_T32 l0 x29_3).f0))).setCell ⟨gb137, 1, none⟩ (.int .u16 ((rd_T32 l0 x29_3).f1))).setCell ⟨gb137, 2, none⟩ (.int .u32 ((rd_T32 l0 x29_3).f2))).setCell ⟨gb137, 3, none⟩ (.string ((rd_T32 l0 x29_3).f3)))).cell? _ = some _ from hx138_3)); clear hn138_0; clear hn138_1; clear hn138_2; clear hn138_3; replace p138 := eq_true p138; replace q138 := eq_true q138)))
                          go_roundg k3
                          case measure => have := HJ2.out; have := HJ6.out; have := HK3.out; omega
                          case rel => exact ⟨(x4_3), (wrap64 (x29_3 + 1)), (by first | rfl | (simp; done) | (simp [*]; done)), (by first | rfl | (simp; done) | (simp [*]; done)), H', ⟨by have := HJ2.out; have := HJ6.out; have := HK3.out; omega⟩, ⟨by repeat (first | (with_reducible first | exact HB.out | apply below_alloc | apply pw_below_drewN | apply below_drew1 | refine below_set ?_ GE137.out) | exact HB.out)⟩⟩
                      · rw [if_neg c12] at H
                        exact absurd H (by simp)
                    · rw [if_neg c11] at H
                      exact absurd H (by simp)
                  · rw [if_neg c10] at H
                    exact absurd H (by simp)
                · rw [if_neg c9] at H
                  have c9b0 : decide (x29_3 < (l0.length : Int)) = false := decide_eq_false c9
                  clear c9
                  obtain rfl := Option.some.inj H
                  go_wp2
                  repeat (go_quiet (fail); try go_wp2)
                  go_ret
                  exact ⟨by first | rfl | (simp [errW_none, errW_some] <;> rfl) | (simp [*, errW_none, errW_some] <;> rfl), by repeat (first | (with_reducible first | exact HB.out | apply below_alloc | apply pw_below_drewN | apply below_drew1) | exact HB.out)⟩
def point_Cut.l0 : Nat → ByteArray → Int → Option (ByteArray × ByteArray × Bool)
  | 0, _, _ => none
  | k + 1, x0, x5 => if x5 < (x0.size : Int) then (if 0 ≤ x5 then (if (bt x0 x5) = 0 then (if x5 ≤ (x0.size : Int) then ((name_May.f k (x0.extract 0 (x5 : Int).toNat)).bind fun t139 => (if t139 = true then (if 0 ≤ (wrap64 (x5 + 1)) then (if (wrap64 (x5 + 1)) ≤ (x0.size : Int) then (some (x0.extract 0 (x5 : Int).toNat, x0.extract ((wrap64 (x5 + 1)) : Int).toNat x0.size, true)) else (none)) else (none)) else (some ((⟨#[]⟩ : ByteArray), (⟨#[]⟩ : ByteArray), false)))) else (none)) else (point_Cut.l0 k x0 (wrap64 (x5 + (wrap64 (1 + (wrap64 (bt x0 x5)))))))) else (none)) else (some ((⟨#[]⟩ : ByteArray), (⟨#[]⟩ : ByteArray), false))
def point_Cut.f (k : Nat) (a0 : ByteArray) : Option (ByteArray × ByteArray × Bool) := point_Cut.l0 k a0 0
theorem point_Cut.mono_l : ∀ k, (∀ y0 y1, LeO (point_Cut.l0 k y0 y1) (point_Cut.l0 (k + 1) y0 y1))
  | 0 => fun _ _ r h => by simp [point_Cut.l0] at h
  | k + 1 => by
    have ih0 := point_Cut.mono_l k
    · intro y0 y1
      unfold point_Cut.l0
      repeat' first
      | (with_reducible exact ih0 _ _)
      | (with_reducible exact name_May.mono _ _)
      | (with_reducible exact LeO.refl _)
      | (with_reducible exact LeO.none _)
      | (with_reducible refine LeO.ite ?_ ?_)
      | (with_reducible refine LeO.bind ?_ (fun _ => ?_))
      | exact ih0 _ _
      | exact name_May.mono _ _
      | exact LeO.none _
      | refine LeO.ite ?_ ?_
      | refine LeO.bind ?_ (fun _ => ?_)
theorem point_Cut.mono : ∀ a0 k, LeO (point_Cut.f k a0) (point_Cut.f (k + 1) a0) := by
  intro a0 k
  have ih0 := point_Cut.mono_l k
  unfold point_Cut.f
  repeat' first
      | (with_reducible exact ih0 _ _)
      | (with_reducible exact name_May.mono _ _)
      | (with_reducible exact LeO.refl _)
      | (with_reducible exact LeO.none _)
      | (with_reducible refine LeO.ite ?_ ?_)
      | (with_reducible refine LeO.bind ?_ (fun _ => ?_))
      | exact ih0 _ _
      | exact name_May.mono _ _
      | exact LeO.none _
      | refine LeO.ite ?_ ?_
      | refine LeO.bind ?_ (fun _ => ?_)
set_option maxHeartbeats 8000000 in
set_option maxRecDepth 100000 in
theorem point_Cut.calls (k : Nat) (a0 : ByteArray) (r1 : ByteArray) (r2 : ByteArray) (r3 : Bool) (w : World) (h : point_Cut.f k a0 = some (r1, r2, r3)) :
    Calls Try.prog 45 #[.string a0] w fun e w' => e = .returned (.tuple #[.string r1, .string r2, .bool r3]) ∧ Below w.heap.size w w' := by
  have HB := Aside0.mk (Below.refl w.heap.size w)
  have H : (point_Cut.l0 k a0 0) = some (r1, r2, r3) := h
  clear h
  have H' := Aside0.mk H
  clear H
  go_enter Try.func45, Try.ntmps45
  go_wp2
  repeat (go_quiet (fail); try go_wp2)
  go_loopg [5] k (fun kq v5 w' => ∃ (x5_1 : Int), v5 = .int .i64 x5_1 ∧ Aside0 (point_Cut.l0 kq a0 x5_1 = some (r1, r2, r3)) ∧ Aside0 (kq ≤ k) ∧ Aside0 (Below w.heap.size w w'))
  case atStart => exact ⟨(0), (by first | rfl | (simp; done) | (simp [*]; done)), H', ⟨Nat.le_refl _⟩, ⟨by repeat (first | (with_reducible first | exact HB.out | apply below_alloc | apply pw_below_drewN | apply below_drew1) | exact HB.out)⟩⟩
  case round =>
    clear H'
    obtain ⟨x5_1, rfl, HA, HK1, HB⟩ := hrel
    cases gk with
    | zero => exact absurd HA.out (by simp [point_Cut.l0])
    | succ k1 =>
      have H := HA.out
      clear HA
      simp only [point_Cut.l0] at H
      by_cases c2 : x5_1 < (a0.size : Int)
      · rw [if_pos c2] at H
        have c2b0 : decide (x5_1 < (a0.size : Int)) = true := decide_eq_true c2
        clear c2
        by_cases c3 : 0 ≤ x5_1
        · rw [if_pos c3] at H
          have c3b0 : decide (0 ≤ x5_1) = true := decide_eq_true c3
          clear c3
          by_cases c5 : (bt a0 x5_1) = 0
          · rw [if_pos c5] at H
            have c5b0 : ((bt a0 x5_1) == 0) = true := beq_iff_eq.mpr c5
            have c5b1 : ((bt a0 x5_1) != 0) = false := bne_eq_false_iff_eq.mpr c5
            clear c5
            have c6b0 := eq_true (of_decide_eq_true (by first | (with_reducible assumption) | assumption) : 0 ≤ x5_1)
            by_cases c7 : x5_1 ≤ (a0.size : Int)
            · rw [if_pos c7] at H
              have c7b0 := eq_true c7
              have c7b1 : decide (x5_1 ≤ (a0.size : Int)) = true := decide_eq_true c7
              clear c7
              replace H := Option.bind_eq_some_iff.mp H
              obtain ⟨t139, A80, H⟩ := H
              replace H : (if t139 = true then (if 0 ≤ (wrap64 (x5_1 + 1)) then (if (wrap64 (x5_1 + 1)) ≤ (a0.size : Int) then (some (a0.extract 0 (x5_1 : Int).toNat, a0.extract ((wrap64 (x5_1 + 1)) : Int).toNat a0.size, true)) else (none)) else (none)) else (some ((⟨#[]⟩ : ByteArray), (⟨#[]⟩ : ByteArray), false))) = some (r1, r2, r3) := H
              have A8 := Aside0.mk A80
              clear A80
              by_cases c9 : t139 = true
              · subst c9
                have H1 : (if 0 ≤ (wrap64 (x5_1 + 1)) then (if (wrap64 (x5_1 + 1)) ≤ (a0.size : Int) then (some (a0.extract 0 (x5_1 : Int).toNat, a0.extract ((wrap64 (x5_1 + 1)) : Int).toNat a0.size, true)) else (none)) else (none)) = some (r1, r2, r3) := by rw [if_pos rfl] at H; exact H
                clear H
                have H := H1
                clear H1
                obtain ⟨ji10, hji10⟩ : ∃ j_ : Int, (wrap64 (x5_1 + 1)) = j_ := ⟨_, rfl⟩
                replace H : (if 0 ≤ (ji10) then (if (ji10) ≤ (a0.size : Int) then (some (a0.extract 0 (x5_1 : Int).toNat, a0.extract ((ji10) : Int).toNat a0.size, true)) else (none)) else (none)) = some (r1, r2, r3) := by first | (rw [hji10] at H; exact H) | (simp only [hji10] at H ⊢; exact H)
                (try rw [hji10] at A8)
                have hji10w : (IntKind.i64.wrap (x5_1 + 1)) = ji10 := (i64_w _).trans hji10
                by_cases c11 : 0 ≤ (ji10)
                · rw [if_pos c11] at H
                  have c11b0 := eq_true c11
                  have c11b1 : decide (0 ≤ (ji10)) = true := decide_eq_true c11
                  clear c11
                  by_cases c12 : (ji10) ≤ (a0.size : Int)
                  · rw [if_pos c12] at H
                    have c12b0 := eq_true c12
                    have c12b1 : decide ((ji10) ≤ (a0.size : Int)) = true := decide_eq_true c12
                    clear c12
                    simp only [Option.some.injEq, Prod.mk.injEq] at H
                    obtain ⟨rfl, rfl, rfl⟩ := H
                    have p4 : 0 ≤ (x5_1 : Int) := of_decide_eq_true (by first | (with_reducible assumption) | assumption)
                    have q4 : x5_1 < (a0.size : Int) := of_decide_eq_true (by first | (with_reducible assumption) | assumption)
                    have hx4 := bt_at a0 x5_1
                    replace p4 := eq_true p4
                    replace q4 := eq_true q4
                    go_wp2_with (first | (go_at_call 17; (with_reducible refine (name_May.calls k1 (a0.extract 0 (x5_1 : Int).toNat) true _ A8.out).mono ?_); rintro e w13 ⟨rfl, hb⟩; have n0_ := Aside0.mk (below_step (by repeat (first | (with_reducible first | exact HB.out | apply below_alloc | apply pw_below_drewN | apply below_drew1) | exact HB.out)) hb); clear HB; have HB := n0_; clear n0_; (try clear hb); (try clear hb2); (try clear hk); (try clear hi)))
                    repeat (go_quiet (first | (go_at_call 17; (with_reducible refine (name_May.calls k1 (a0.extract 0 (x5_1 : Int).toNat) true _ A8.out).mono ?_); rintro e w13 ⟨rfl, hb⟩; have n0_ := Aside0.mk (below_step (by repeat (first | (with_reducible first | exact HB.out | apply below_alloc | apply pw_below_drewN | apply below_drew1) | exact HB.out)) hb); clear HB; have HB := n0_; clear n0_; (try clear hb); (try clear hb2); (try clear hk); (try clear hi))); try go_wp2_with (first | (go_at_call 17; (with_reducible refine (name_May.calls k1 (a0.extract 0 (x5_1 : Int).toNat) true _ A8.out).mono ?_); rintro e w13 ⟨rfl, hb⟩; have n0_ := Aside0.mk (below_step (by repeat (first | (with_reducible first | exact HB.out | apply below_alloc | apply pw_below_drewN | apply below_drew1) | exact HB.out)) hb); clear HB; have HB := n0_; clear n0_; (try clear hb); (try clear hb2); (try clear hk); (try clear hi))))
                    go_ret3
                    exact ⟨by first | rfl | (simp [errW_none, errW_some] <;> rfl) | (simp only [← hji10]; first | rfl | (simp [errW_none, errW_some] <;> rfl)) | (simp [*, errW_none, errW_some] <;> rfl), by repeat (first | (with_reducible first | exact HB.out | apply below_alloc | apply pw_below_drewN | apply below_drew1) | exact HB.out)⟩
                  · rw [if_neg c12] at H
                    exact absurd H (by simp)
                · rw [if_neg c11] at H
                  exact absurd H (by simp)
              · replace c9 := Bool.eq_false_iff.mpr c9
                subst c9
                have H1 : (some ((⟨#[]⟩ : ByteArray), (⟨#[]⟩ : ByteArray), false)) = some (r1, r2, r3) := by rw [if_neg (show ¬ (false = true) by decide)] at H; exact H
                clear H
                have H := H1
                clear H1
                simp only [Option.some.injEq, Prod.mk.injEq] at H
                obtain ⟨rfl, rfl, rfl⟩ := H
                have p4 : 0 ≤ (x5_1 : Int) := of_decide_eq_true (by first | (with_reducible assumption) | assumption)
                have q4 : x5_1 < (a0.size : Int) := of_decide_eq_true (by first | (with_reducible assumption) | assumption)
                have hx4 := bt_at a0 x5_1
                replace p4 := eq_true p4
                replace q4 := eq_true q4
                go_wp2_with (first | (go_at_call 17; (with_reducible refine (name_May.calls k1 (a0.extract 0 (x5_1 : Int).toNat) false _ A8.out).mono ?_); rintro e w14 ⟨rfl, hb⟩; have n0_ := Aside0.mk (below_step (by repeat (first | (with_reducible first | exact HB.out | apply below_alloc | apply pw_below_drewN | apply below_drew1) | exact HB.out)) hb); clear HB; have HB := n0_; clear n0_; (try clear hb); (try clear hb2); (try clear hk); (try clear hi)))
                repeat (go_quiet (first | (go_at_call 17; (with_reducible refine (name_May.calls k1 (a0.extract 0 (x5_1 : Int).toNat) false _ A8.out).mono ?_); rintro e w14 ⟨rfl, hb⟩; have n0_ := Aside0.mk (below_step (by repeat (first | (with_reducible first | exact HB.out | apply below_alloc | apply pw_below_drewN | apply below_drew1) | exact HB.out)) hb); clear HB; have HB := n0_; clear n0_; (try clear hb); (try clear hb2); (try clear hk); (try clear hi))); try go_wp2_with (first | (go_at_call 17; (with_reducible refine (name_May.calls k1 (a0.extract 0 (x5_1 : Int).toNat) false _ A8.out).mono ?_); rintro e w14 ⟨rfl, hb⟩; have n0_ := Aside0.mk (below_step (by repeat (first | (with_reducible first | exact HB.out | apply below_alloc | apply pw_below_drewN | apply below_drew1) | exact HB.out)) hb); clear HB; have HB := n0_; clear n0_; (try clear hb); (try clear hb2); (try clear hk); (try clear hi))))
                go_ret3
                exact ⟨by first | rfl | (simp [errW_none, errW_some] <;> rfl) | (simp [*, errW_none, errW_some] <;> rfl), by repeat (first | (with_reducible first | exact HB.out | apply below_alloc | apply pw_below_drewN | apply below_drew1) | exact HB.out)⟩
            · rw [if_neg c7] at H
              exact absurd H (by simp)
          · rw [if_neg c5] at H
            have c5b0 : ((bt a0 x5_1) == 0) = false := beq_eq_false_iff_ne.mpr c5
            have c5b1 : ((bt a0 x5_1) != 0) = true := bne_iff_ne.mpr c5
            have H' := Aside0.mk H
            clear H
            have p4 : 0 ≤ (x5_1 : Int) := of_decide_eq_true (by first | (with_reducible assumption) | assumption)
            have q4 : x5_1 < (a0.size : Int) := of_decide_eq_true (by first | (with_reducible assumption) | assumption)
            have hx4 := bt_at a0 x5_1
            replace p4 := eq_true p4
            replace q4 := eq_true q4
            have p15 : 0 ≤ (x5_1 : Int) := of_decide_eq_true (by first | (with_reducible assumption) | assumption)
            have q15 : x5_1 < (a0.size : Int) := of_decide_eq_true (by first | (with_reducible assumption) | assumption)
            have hx15 := bt_at a0 x5_1
            replace p15 := eq_true p15
            replace q15 := eq_true q15
            go_wp2
            repeat (go_quiet (fail); try go_wp2)
            go_roundg k1
            case measure => have := HK1.out; omega
            case rel => exact ⟨(wrap64 (x5_1 + (wrap64 (1 + (wrap64 (bt a0 x5_1)))))), (by first | rfl | (simp; done) | (simp [*]; done)), H', ⟨by have := HK1.out; omega⟩, ⟨by repeat (first | (with_reducible first | exact HB.out | apply below_alloc | apply pw_below_drewN | apply below_drew1) | exact HB.out)⟩⟩
        · rw [if_neg c3] at H
          exact absurd H (by simp)
      · rw [if_neg c2] at H
        have c2b0 : decide (x5_1 < (a0.size : Int)) = false := decide_eq_false c2
        clear c2
        simp only [Option.some.injEq, Prod.mk.injEq] at H
        obtain ⟨rfl, rfl, rfl⟩ := H
        go_wp2
        repeat (go_quiet (fail); try go_wp2)
        go_ret3
        exact ⟨by first | rfl | (simp [errW_none, errW_some] <;> rfl) | (simp [*, errW_none, errW_some] <;> rfl), by repeat (first | (with_reducible first | exact HB.out | apply below_alloc | apply pw_below_drewN | apply below_drew1) | exact HB.out)⟩
def rdata_soa.f (k : Nat) (a0 : ByteArray) : Option (ByteArray × ByteArray × ByteArray × Bool) := (point_Cut.f k a0).bind fun bt140 => ((point_Cut.f k bt140.2.1).bind fun bt143 => (if bt140.2.2 = true then (if bt143.2.2 = true then (if (bt143.2.1.size : Int) = 20 then (some (bt140.1, bt143.1, bt143.2.1, true)) else (some ((⟨#[]⟩ : ByteArray), (⟨#[]⟩ : ByteArray), (⟨#[]⟩ : ByteArray), false))) else (some ((⟨#[]⟩ : ByteArray), (⟨#[]⟩ : ByteArray), (⟨#[]⟩ : ByteArray), false))) else (some ((⟨#[]⟩ : ByteArray), (⟨#[]⟩ : ByteArray), (⟨#[]⟩ : ByteArray), false))))
theorem rdata_soa.mono : ∀ a0 k, LeO (rdata_soa.f k a0) (rdata_soa.f (k + 1) a0) := by
  intro a0 k
  unfold rdata_soa.f
  repeat' first
      | (with_reducible exact point_Cut.mono _ _)
      | (with_reducible exact LeO.refl _)
      | (with_reducible exact LeO.none _)
      | (with_reducible refine LeO.ite ?_ ?_)
      | (with_reducible refine LeO.bind ?_ (fun _ => ?_))
      | exact point_Cut.mono _ _
      | exact LeO.none _
      | refine LeO.ite ?_ ?_
      | refine LeO.bind ?_ (fun _ => ?_)
set_option maxHeartbeats 8000000 in
set_option maxRecDepth 100000 in
theorem rdata_soa.calls (k : Nat) (a0 : ByteArray) (r1 : ByteArray) (r2 : ByteArray) (r3 : ByteArray) (r4 : Bool) (w : World) (h : rdata_soa.f k a0 = some (r1, r2, r3, r4)) :
    Calls Try.prog 43 #[.string a0] w fun e w' => e = .returned (.tuple #[.string r1, .string r2, .string r3, .bool r4]) ∧ Below w.heap.size w w' := by
  have HB := Aside0.mk (Below.refl w.heap.size w)
  have H : ((point_Cut.f k a0).bind fun bt140 => ((point_Cut.f k bt140.2.1).bind fun bt143 => (if bt140.2.2 = true then (if bt143.2.2 = true then (if (bt143.2.1.size : Int) = 20 then (some (bt140.1, bt143.1, bt143.2.1, true)) else (some ((⟨#[]⟩ : ByteArray), (⟨#[]⟩ : ByteArray), (⟨#[]⟩ : ByteArray), false))) else (some ((⟨#[]⟩ : ByteArray), (⟨#[]⟩ : ByteArray), (⟨#[]⟩ : ByteArray), false))) else (some ((⟨#[]⟩ : ByteArray), (⟨#[]⟩ : ByteArray), (⟨#[]⟩ : ByteArray), false))))) = some (r1, r2, r3, r4) := h
  clear h
  replace H := Option.bind_eq_some_iff.mp H
  obtain ⟨⟨t140, t141, t142⟩, A20, H⟩ := H
  replace H : ((point_Cut.f k t141).bind fun bt143 => (if t142 = true then (if bt143.2.2 = true then (if (bt143.2.1.size : Int) = 20 then (some (t140, bt143.1, bt143.2.1, true)) else (some ((⟨#[]⟩ : ByteArray), (⟨#[]⟩ : ByteArray), (⟨#[]⟩ : ByteArray), false))) else (some ((⟨#[]⟩ : ByteArray), (⟨#[]⟩ : ByteArray), (⟨#[]⟩ : ByteArray), false))) else (some ((⟨#[]⟩ : ByteArray), (⟨#[]⟩ : ByteArray), (⟨#[]⟩ : ByteArray), false)))) = some (r1, r2, r3, r4) := H
  have A2 := Aside0.mk A20
  clear A20
  replace H := Option.bind_eq_some_iff.mp H
  obtain ⟨⟨t143, t144, t145⟩, A30, H⟩ := H
  replace H : (if t142 = true then (if t145 = true then (if (t144.size : Int) = 20 then (some (t140, t143, t144, true)) else (some ((⟨#[]⟩ : ByteArray), (⟨#[]⟩ : ByteArray), (⟨#[]⟩ : ByteArray), false))) else (some ((⟨#[]⟩ : ByteArray), (⟨#[]⟩ : ByteArray), (⟨#[]⟩ : ByteArray), false))) else (some ((⟨#[]⟩ : ByteArray), (⟨#[]⟩ : ByteArray), (⟨#[]⟩ : ByteArray), false))) = some (r1, r2, r3, r4) := H
  have A3 := Aside0.mk A30
  clear A30
  by_cases c4 : t142 = true
  · subst c4
    have H1 : (if t145 = true then (if (t144.size : Int) = 20 then (some (t140, t143, t144, true)) else (some ((⟨#[]⟩ : ByteArray), (⟨#[]⟩ : ByteArray), (⟨#[]⟩ : ByteArray), false))) else (some ((⟨#[]⟩ : ByteArray), (⟨#[]⟩ : ByteArray), (⟨#[]⟩ : ByteArray), false))) = some (r1, r2, r3, r4) := by rw [if_pos rfl] at H; exact H
    clear H
    have H := H1
    clear H1
    by_cases c5 : t145 = true
    · subst c5
      have H1 : (if (t144.size : Int) = 20 then (some (t140, t143, t144, true)) else (some ((⟨#[]⟩ : ByteArray), (⟨#[]⟩ : ByteArray), (⟨#[]⟩ : ByteArray), false))) = some (r1, r2, r3, r4) := by rw [if_pos rfl] at H; exact H
      clear H
      have H := H1
      clear H1
      by_cases c6 : (t144.size : Int) = 20
      · rw [if_pos c6] at H
        have c6b0 : ((t144.size : Int) == 20) = true := beq_iff_eq.mpr c6
        have c6b1 : ((t144.size : Int) != 20) = false := bne_eq_false_iff_eq.mpr c6
        clear c6
        simp only [Option.some.injEq, Prod.mk.injEq] at H
        obtain ⟨rfl, rfl, rfl, rfl⟩ := H
        go_enter Try.func43, Try.ntmps43
        go_wp2_with (first | ((with_reducible refine gate_callee (f := 45) rfl ?_); refine goesL_ (some 14) rfl rfl Try.func45 (by kernel_rfl) rfl #[.string a0] rfl (by (try simp only [List.map_toArray, List.map_cons, List.map_nil]); first | done | rfl | (simp only [List.length_drop, List.length_take]; rfl)) ?_; (with_reducible refine (point_Cut.calls k a0 t140 t141 true _ A2.out).mono ?_); rintro e w7 ⟨rfl, hb⟩; refine ⟨_, rfl, ?_⟩; have n0_ := Aside0.mk (below_step (by repeat (first | (with_reducible first | exact HB.out | apply below_alloc | apply pw_below_drewN | apply below_drew1) | exact HB.out)) hb); clear HB; have HB := n0_; clear n0_; (try clear hb); (try clear hb2); (try clear hk); (try clear hi)) | ((with_reducible refine gate_callee (f := 45) rfl ?_); refine goesL_ (some 20) rfl rfl Try.func45 (by kernel_rfl) rfl #[.string t141] rfl (by (try simp only [List.map_toArray, List.map_cons, List.map_nil]); first | done | rfl | (simp only [List.length_drop, List.length_take]; rfl)) ?_; (with_reducible refine (point_Cut.calls k t141 t143 t144 true _ A3.out).mono ?_); rintro e w8 ⟨rfl, hb⟩; refine ⟨_, rfl, ?_⟩; have n0_ := Aside0.mk (below_step (by repeat (first | (with_reducible first | exact HB.out | apply below_alloc | apply pw_below_drewN | apply below_drew1) | exact HB.out)) hb); clear HB; have HB := n0_; clear n0_; (try clear hb); (try clear hb2); (try clear hk); (try clear hi)))
        refine bodyPost_ret (results_list (rs := [.tmp 2, .tmp 3, .tmp 4, .tmp 5]) rfl (by simp) (.tmp (.tmp (.tmp (.tmp .nil))))) rfl ?_
        exact ⟨by first | rfl | (simp [errW_none, errW_some] <;> rfl) | (simp [*, errW_none, errW_some] <;> rfl), by repeat (first | (with_reducible first | exact HB.out | apply below_alloc | apply pw_below_drewN | apply below_drew1) | exact HB.out)⟩
      · rw [if_neg c6] at H
        have c6b0 : ((t144.size : Int) == 20) = false := beq_eq_false_iff_ne.mpr c6
        have c6b1 : ((t144.size : Int) != 20) = true := bne_iff_ne.mpr c6
        simp only [Option.some.injEq, Prod.mk.injEq] at H
        obtain ⟨rfl, rfl, rfl, rfl⟩ := H
        go_enter Try.func43, Try.ntmps43
        go_wp2_with (first | ((with_reducible refine gate_callee (f := 45) rfl ?_); refine goesL_ (some 14) rfl rfl Try.func45 (by kernel_rfl) rfl #[.string a0] rfl (by (try simp only [List.map_toArray, List.map_cons, List.map_nil]); first | done | rfl | (simp only [List.length_drop, List.length_take]; rfl)) ?_; (with_reducible refine (point_Cut.calls k a0 t140 t141 true _ A2.out).mono ?_); rintro e w9 ⟨rfl, hb⟩; refine ⟨_, rfl, ?_⟩; have n0_ := Aside0.mk (below_step (by repeat (first | (with_reducible first | exact HB.out | apply below_alloc | apply pw_below_drewN | apply below_drew1) | exact HB.out)) hb); clear HB; have HB := n0_; clear n0_; (try clear hb); (try clear hb2); (try clear hk); (try clear hi)) | ((with_reducible refine gate_callee (f := 45) rfl ?_); refine goesL_ (some 20) rfl rfl Try.func45 (by kernel_rfl) rfl #[.string t141] rfl (by (try simp only [List.map_toArray, List.map_cons, List.map_nil]); first | done | rfl | (simp only [List.length_drop, List.length_take]; rfl)) ?_; (with_reducible refine (point_Cut.calls k t141 t143 t144 true _ A3.out).mono ?_); rintro e w10 ⟨rfl, hb⟩; refine ⟨_, rfl, ?_⟩; have n0_ := Aside0.mk (below_step (by repeat (first | (with_reducible first | exact HB.out | apply below_alloc | apply pw_below_drewN | apply below_drew1) | exact HB.out)) hb); clear HB; have HB := n0_; clear n0_; (try clear hb); (try clear hb2); (try clear hk); (try clear hi)))
        refine bodyPost_ret (results_list (rs := [.tmp 2, .tmp 3, .tmp 4, .tmp 5]) rfl (by simp) (.tmp (.tmp (.tmp (.tmp .nil))))) rfl ?_
        exact ⟨by first | rfl | (simp [errW_none, errW_some] <;> rfl) | (simp [*, errW_none, errW_some] <;> rfl), by repeat (first | (with_reducible first | exact HB.out | apply below_alloc | apply pw_below_drewN | apply below_drew1) | exact HB.out)⟩
    · replace c5 := Bool.eq_false_iff.mpr c5
      subst c5
      have H1 : (some ((⟨#[]⟩ : ByteArray), (⟨#[]⟩ : ByteArray), (⟨#[]⟩ : ByteArray), false)) = some (r1, r2, r3, r4) := by rw [if_neg (show ¬ (false = true) by decide)] at H; exact H
      clear H
      have H := H1
      clear H1
      simp only [Option.some.injEq, Prod.mk.injEq] at H
      obtain ⟨rfl, rfl, rfl, rfl⟩ := H
      go_enter Try.func43, Try.ntmps43
      go_wp2_with (first | ((with_reducible refine gate_callee (f := 45) rfl ?_); refine goesL_ (some 14) rfl rfl Try.func45 (by kernel_rfl) rfl #[.string a0] rfl (by (try simp only [List.map_toArray, List.map_cons, List.map_nil]); first | done | rfl | (simp only [List.length_drop, List.length_take]; rfl)) ?_; (with_reducible refine (point_Cut.calls k a0 t140 t141 true _ A2.out).mono ?_); rintro e w11 ⟨rfl, hb⟩; refine ⟨_, rfl, ?_⟩; have n0_ := Aside0.mk (below_step (by repeat (first | (with_reducible first | exact HB.out | apply below_alloc | apply pw_below_drewN | apply below_drew1) | exact HB.out)) hb); clear HB; have HB := n0_; clear n0_; (try clear hb); (try clear hb2); (try clear hk); (try clear hi)) | ((with_reducible refine gate_callee (f := 45) rfl ?_); refine goesL_ (some 20) rfl rfl Try.func45 (by kernel_rfl) rfl #[.string t141] rfl (by (try simp only [List.map_toArray, List.map_cons, List.map_nil]); first | done | rfl | (simp only [List.length_drop, List.length_take]; rfl)) ?_; (with_reducible refine (point_Cut.calls k t141 t143 t144 false _ A3.out).mono ?_); rintro e w12 ⟨rfl, hb⟩; refine ⟨_, rfl, ?_⟩; have n0_ := Aside0.mk (below_step (by repeat (first | (with_reducible first | exact HB.out | apply below_alloc | apply pw_below_drewN | apply below_drew1) | exact HB.out)) hb); clear HB; have HB := n0_; clear n0_; (try clear hb); (try clear hb2); (try clear hk); (try clear hi)))
      refine bodyPost_ret (results_list (rs := [.tmp 2, .tmp 3, .tmp 4, .tmp 5]) rfl (by simp) (.tmp (.tmp (.tmp (.tmp .nil))))) rfl ?_
      exact ⟨by first | rfl | (simp [errW_none, errW_some] <;> rfl) | (simp [*, errW_none, errW_some] <;> rfl), by repeat (first | (with_reducible first | exact HB.out | apply below_alloc | apply pw_below_drewN | apply below_drew1) | exact HB.out)⟩
  · replace c4 := Bool.eq_false_iff.mpr c4
    subst c4
    have H1 : (some ((⟨#[]⟩ : ByteArray), (⟨#[]⟩ : ByteArray), (⟨#[]⟩ : ByteArray), false)) = some (r1, r2, r3, r4) := by rw [if_neg (show ¬ (false = true) by decide)] at H; exact H
    clear H
    have H := H1
    clear H1
    simp only [Option.some.injEq, Prod.mk.injEq] at H
    obtain ⟨rfl, rfl, rfl, rfl⟩ := H
    go_enter Try.func43, Try.ntmps43
    go_wp2_with (first | ((with_reducible refine gate_callee (f := 45) rfl ?_); refine goesL_ (some 14) rfl rfl Try.func45 (by kernel_rfl) rfl #[.string a0] rfl (by (try simp only [List.map_toArray, List.map_cons, List.map_nil]); first | done | rfl | (simp only [List.length_drop, List.length_take]; rfl)) ?_; (with_reducible refine (point_Cut.calls k a0 t140 t141 false _ A2.out).mono ?_); rintro e w13 ⟨rfl, hb⟩; refine ⟨_, rfl, ?_⟩; have n0_ := Aside0.mk (below_step (by repeat (first | (with_reducible first | exact HB.out | apply below_alloc | apply pw_below_drewN | apply below_drew1) | exact HB.out)) hb); clear HB; have HB := n0_; clear n0_; (try clear hb); (try clear hb2); (try clear hk); (try clear hi)) | ((with_reducible refine gate_callee (f := 45) rfl ?_); refine goesL_ (some 20) rfl rfl Try.func45 (by kernel_rfl) rfl #[.string t141] rfl (by (try simp only [List.map_toArray, List.map_cons, List.map_nil]); first | done | rfl | (simp only [List.length_drop, List.length_take]; rfl)) ?_; (with_reducible refine (point_Cut.calls k t141 t143 t144 t145 _ A3.out).mono ?_); rintro e w14 ⟨rfl, hb⟩; refine ⟨_, rfl, ?_⟩; have n0_ := Aside0.mk (below_step (by repeat (first | (with_reducible first | exact HB.out | apply below_alloc | apply pw_below_drewN | apply below_drew1) | exact HB.out)) hb); clear HB; have HB := n0_; clear n0_; (try clear hb); (try clear hb2); (try clear hk); (try clear hi)))
    refine bodyPost_ret (results_list (rs := [.tmp 2, .tmp 3, .tmp 4, .tmp 5]) rfl (by simp) (.tmp (.tmp (.tmp (.tmp .nil))))) rfl ?_
    exact ⟨by first | rfl | (simp [errW_none, errW_some] <;> rfl) | (simp [*, errW_none, errW_some] <;> rfl), by repeat (first | (with_reducible first | exact HB.out | apply below_alloc | apply pw_below_drewN | apply below_drew1) | exact HB.out)⟩
def rdata_texts.l0 : Nat → ByteArray → Int → Option (Bool)
  | 0, _, _ => none
  | k + 1, x0, x3 => if x3 ≥ (x0.size : Int) then (if x3 = (x0.size : Int) then (some (decide (x3 > 0))) else (some false)) else (if 0 ≤ x3 then (if x3 < (x0.size : Int) then (rdata_texts.l0 k x0 (wrap64 (x3 + (wrap64 (1 + (wrap64 (bt x0 x3))))))) else (none)) else (none))
def rdata_texts.f (k : Nat) (a0 : ByteArray) : Option (Bool) := rdata_texts.l0 k a0 0
theorem rdata_texts.mono_l : ∀ k, (∀ y0 y1, LeO (rdata_texts.l0 k y0 y1) (rdata_texts.l0 (k + 1) y0 y1))
  | 0 => fun _ _ r h => by simp [rdata_texts.l0] at h
  | k + 1 => by
    have ih0 := rdata_texts.mono_l k
    · intro y0 y1
      unfold rdata_texts.l0
      repeat' first
      | (with_reducible exact ih0 _ _)
      | (with_reducible exact LeO.refl _)
      | (with_reducible exact LeO.none _)
      | (with_reducible refine LeO.ite ?_ ?_)
      | (with_reducible refine LeO.bind ?_ (fun _ => ?_))
      | exact ih0 _ _
      | exact LeO.none _
      | refine LeO.ite ?_ ?_
      | refine LeO.bind ?_ (fun _ => ?_)
theorem rdata_texts.mono : ∀ a0 k, LeO (rdata_texts.f k a0) (rdata_texts.f (k + 1) a0) := by
  intro a0 k
  have ih0 := rdata_texts.mono_l k
  unfold rdata_texts.f
  repeat' first
      | (with_reducible exact ih0 _ _)
      | (with_reducible exact LeO.refl _)
      | (with_reducible exact LeO.none _)
      | (with_reducible refine LeO.ite ?_ ?_)
      | (with_reducible refine LeO.bind ?_ (fun _ => ?_))
      | exact ih0 _ _
      | exact LeO.none _
      | refine LeO.ite ?_ ?_
      | refine LeO.bind ?_ (fun _ => ?_)
set_option maxHeartbeats 8000000 in
set_option maxRecDepth 100000 in
theorem rdata_texts.calls (k : Nat) (a0 : ByteArray) (r : Bool) (w : World) (h : rdata_texts.f k a0 = some r) :
    Calls Try.prog 44 #[.string a0] w fun e w' => e = .returned (.bool r) ∧ Drawn0 w w' := by
  have H : (rdata_texts.l0 k a0 0) = some r := h
  clear h
  have H' := Aside0.mk H
  clear H
  go_enter Try.func44, Try.ntmps44
  go_wp2
  go_loopg [3] k (fun kq v3 w' => ∃ (x3_1 : Int), v3 = .int .i64 x3_1 ∧ Aside0 (rdata_texts.l0 kq a0 x3_1 = some r) ∧ Aside0 (kq ≤ k) ∧ Drawn0 w w')
  case atStart => exact ⟨(0), (by first | rfl | (simp; done) | (simp [*]; done)), H', ⟨Nat.le_refl _⟩, by repeat (first | exact Drawn0.refl _ | apply Drawn0.step)⟩
  case round =>
    clear H'
    obtain ⟨x3_1, rfl, HA, HK1, ⟨m1, rfl⟩⟩ := hrel
    cases gk with
    | zero => exact absurd HA.out (by simp [rdata_texts.l0])
    | succ k1 =>
      have H := HA.out
      clear HA
      simp only [rdata_texts.l0] at H
      by_cases c2 : x3_1 ≥ (a0.size : Int)
      · rw [if_pos c2] at H
        have c2b0 : decide ((a0.size : Int) ≤ x3_1) = true := decide_eq_true c2
        clear c2
        by_cases c3 : x3_1 = (a0.size : Int)
        · rw [if_pos c3] at H
          have c3b0 : (x3_1 == (a0.size : Int)) = true := beq_iff_eq.mpr c3
          have c3b1 : (x3_1 != (a0.size : Int)) = false := bne_eq_false_iff_eq.mpr c3
          clear c3
          obtain rfl := Option.some.inj H
          go_wp2
          go_ret
          exact ⟨by first | rfl | (simp; done) | (simp [*]; done), by repeat (first | exact Drawn0.refl _ | apply Drawn0.step)⟩
        · rw [if_neg c3] at H
          have c3b0 : (x3_1 == (a0.size : Int)) = false := beq_eq_false_iff_ne.mpr c3
          have c3b1 : (x3_1 != (a0.size : Int)) = true := bne_iff_ne.mpr c3
          obtain rfl := Option.some.inj H
          go_wp2
          go_ret
          exact ⟨by first | rfl | (simp; done) | (simp [*]; done), by repeat (first | exact Drawn0.refl _ | apply Drawn0.step)⟩
      · rw [if_neg c2] at H
        have c2b0 : decide ((a0.size : Int) ≤ x3_1) = false := decide_eq_false c2
        clear c2
        by_cases c4 : 0 ≤ x3_1
        · rw [if_pos c4] at H
          have c4b0 : decide (0 ≤ x3_1) = true := decide_eq_true c4
          clear c4
          by_cases c5 : x3_1 < (a0.size : Int)
          · rw [if_pos c5] at H
            have c5b0 : decide (x3_1 < (a0.size : Int)) = true := decide_eq_true c5
            clear c5
            have H' := Aside0.mk H
            clear H
            have p6 : 0 ≤ (x3_1 : Int) := of_decide_eq_true (by first | (with_reducible assumption) | assumption)
            have q6 : x3_1 < (a0.size : Int) := of_decide_eq_true (by first | (with_reducible assumption) | assumption)
            have hx6 := bt_at a0 x3_1
            replace p6 := eq_true p6
            replace q6 := eq_true q6
            go_wp2
            go_roundg k1
            case measure => have := HK1.out; omega
            case rel => exact ⟨(wrap64 (x3_1 + (wrap64 (1 + (wrap64 (bt a0 x3_1)))))), (by first | rfl | (simp; done) | (simp [*]; done)), H', ⟨by have := HK1.out; omega⟩, by repeat (first | exact Drawn0.refl _ | apply Drawn0.step)⟩
          · rw [if_neg c5] at H
            exact absurd H (by simp)
        · rw [if_neg c4] at H
          exact absurd H (by simp)
end Go.Proofs.Ytlobjcokopfbkaa.PY
