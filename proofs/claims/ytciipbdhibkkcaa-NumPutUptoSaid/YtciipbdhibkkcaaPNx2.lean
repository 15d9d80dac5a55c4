-- written by a program of this session out of the loaded program (its tools: wip/tools)
import Derived.Test.YtciipbdhibkkcaaPNx0
import Derived.Test.YtciipbdhibkkcaaPNx1
namespace Go.Proofs.Ytciipbdhibkkcaa.PN
open Go.RowKit Go.Proofs.YtciipbdhibkkcaaW.PrintWords Go.Proofs.YtciipbdhibkkcaaW.PrintLast Go.Proofs.YtciipbdhibkkcaaW.PrintMore
attribute [local go_sem] max2_int min2_int max_two min_two max_three min_three max_four min_four   -- for this text's walks alone
set_option linter.unusedVariables false
set_option linter.unusedSimpArgs false

/-! ### bolterlaw01_NumPut: function 4 -/
mutual
def bolterlaw01_NumPut.j0 : Nat → List Int → List Int → List Int → List Int → List Int → Bool → Option (Bool)
  | 0, _, _, _, _, _, _ => none
  | k + 1, x0, x1, x2, x7, x8, x65 => if x65 = true then (some false) else (bolterlaw01_NumPut.l0 k x0 x2 x7 x8 x1 (x1.length : Int) 0)
def bolterlaw01_NumPut.l0 : Nat → List Int → List Int → List Int → List Int → List Int → Int → Int → Option (Bool)
  | 0, _, _, _, _, _, _, _ => none
  | k + 1, x0, x2, x7, x8, x66, x67, x68 => if x68 < x67 then (if 0 ≤ x68 then (if x68 < (x66.length : Int) then (if 0 ≤ (wrap64 ((x0.length : Int) + (wrap64 (2 * x68)))) then (if (wrap64 ((x0.length : Int) + (wrap64 (2 * x68)))) < (x7.length : Int) then (if 0 ≤ (wrap64 ((wrap64 ((x0.length : Int) + (wrap64 (2 * x68)))) + 1)) then (if (wrap64 ((wrap64 ((x0.length : Int) + (wrap64 (2 * x68)))) + 1)) < (x7.length : Int) then (if (wrap64 ((wrap64 ((wrap64 (rd x7 (wrap64 ((x0.length : Int) + (wrap64 (2 * x68)))))) * 256)) + (wrap64 (rd x7 (wrap64 ((wrap64 ((x0.length : Int) + (wrap64 (2 * x68)))) + 1)))))) = (wrap64 (rd x66 x68)) then (bolterlaw01_NumPut.l0 k x0 x2 x7 x8 x66 x67 (wrap64 (x68 + 1))) else (some false)) else (none)) else (none)) else (none)) else (none)) else (none)) else (none)) else (bolterlaw01_NumPut.l1 k x0 x8 x2 (x2.length : Int) 0)
def bolterlaw01_NumPut.l1 : Nat → List Int → List Int → List Int → Int → Int → Option (Bool)
  | 0, _, _, _, _, _ => none
  | k + 1, x0, x8, x95, x96, x97 => if x97 < x96 then (if 0 ≤ x97 then (if x97 < (x95.length : Int) then (if 0 ≤ (wrap64 ((x0.length : Int) + (wrap64 (4 * x97)))) then (if (wrap64 ((x0.length : Int) + (wrap64 (4 * x97)))) ≤ (wrap64 ((wrap64 ((x0.length : Int) + (wrap64 (4 * x97)))) + 4)) then (if (wrap64 ((wrap64 ((x0.length : Int) + (wrap64 (4 * x97)))) + 4)) ≤ (x8.length : Int) then ((some ((x8.take ((wrap64 ((wrap64 ((x0.length : Int) + (wrap64 (4 * x97)))) + 4)) : Int).toNat).drop ((wrap64 ((x0.length : Int) + (wrap64 (4 * x97)))) : Int).toNat : List Int)).bind fun y161 => (bolterlaw01_NumPut.l2 k x0 x8 (rd x95 x97) 0 x95 x96 x97 y161 (y161.length : Int) 0)) else (none)) else (none)) else (none)) else (none)) else (none)) else (some true)
def bolterlaw01_NumPut.l2 : Nat → List Int → List Int → Int → Int → List Int → Int → Int → List Int → Int → Int → Option (Bool)
  | 0, _, _, _, _, _, _, _, _, _, _ => none
  | k + 1, x0, x8, x13, x15, x95, x96, x97, x111, x112, x113 => if x113 < x112 then (if 0 ≤ x113 then (if x113 < (x111.length : Int) then (bolterlaw01_NumPut.l2 k x0 x8 x13 (wrap64 ((wrap64 (x15 * 256)) + (wrap64 (rd x111 x113)))) x95 x96 x97 x111 x112 (wrap64 (x113 + 1))) else (none)) else (none)) else (if x15 = (wrap64 (x13)) then (bolterlaw01_NumPut.l1 k x0 x8 x95 x96 (wrap64 (x97 + 1))) else (some false))
end
def bolterlaw01_NumPut.f (k : Nat) (l0 : List Int) (l1 : List Int) (l2 : List Int) : Option (Bool) := (bolterlaw01_awake.f k).bind fun t142 => (if t142 = true then ((num_Put16.f k l0 l1).bind fun t143 => ((num_Put32.f k l0 l2).bind fun t146 => (if (t143.length : Int) = (wrap64 ((l0.length : Int) + (wrap64 (2 * (l1.length : Int))))) then (if (t146.length : Int) = (wrap64 ((l0.length : Int) + (wrap64 (4 * (l2.length : Int))))) then (if 0 ≤ (l0.length : Int) then (if (l0.length : Int) ≤ (t143.length : Int) then (if (strOfNums (t143.take ((l0.length : Int) : Int).toNat)).toList = (strOfNums l0).toList then (if (l0.length : Int) ≤ (t146.length : Int) then (bolterlaw01_NumPut.j0 k l0 l1 l2 t143 t146 ((strOfNums (t146.take ((l0.length : Int) : Int).toNat)).toList != (strOfNums l0).toList)) else (none)) else (bolterlaw01_NumPut.j0 k l0 l1 l2 t143 t146 true)) else (none)) else (none)) else (bolterlaw01_NumPut.j0 k l0 l1 l2 t143 t146 true)) else (bolterlaw01_NumPut.j0 k l0 l1 l2 t143 t146 true)))) else (some false))
theorem bolterlaw01_NumPut.mono_l : ∀ k, (∀ y0 y1 y2 y3 y4 y5, LeO (bolterlaw01_NumPut.j0 k y0 y1 y2 y3 y4 y5) (bolterlaw01_NumPut.j0 (k + 1) y0 y1 y2 y3 y4 y5)) ∧ (∀ y0 y1 y2 y3 y4 y5 y6, LeO (bolterlaw01_NumPut.l0 k y0 y1 y2 y3 y4 y5 y6) (bolterlaw01_NumPut.l0 (k + 1) y0 y1 y2 y3 y4 y5 y6)) ∧ (∀ y0 y1 y2 y3 y4, LeO (bolterlaw01_NumPut.l1 k y0 y1 y2 y3 y4) (bolterlaw01_NumPut.l1 (k + 1) y0 y1 y2 y3 y4)) ∧ (∀ y0 y1 y2 y3 y4 y5 y6 y7 y8 y9, LeO (bolterlaw01_NumPut.l2 k y0 y1 y2 y3 y4 y5 y6 y7 y8 y9) (bolterlaw01_NumPut.l2 (k + 1) y0 y1 y2 y3 y4 y5 y6 y7 y8 y9))
  | 0 => ⟨fun _ _ _ _ _ _ r h => by simp [bolterlaw01_NumPut.j0] at h, fun _ _ _ _ _ _ _ r h => by simp [bolterlaw01_NumPut.l0] at h, fun _ _ _ _ _ r h => by simp [bolterlaw01_NumPut.l1] at h, fun _ _ _ _ _ _ _ _ _ _ r h => by simp [bolterlaw01_NumPut.l2] at h⟩
  | k + 1 => by
    obtain ⟨ih0, ih1, ih2, ih3⟩ := bolterlaw01_NumPut.mono_l k
    refine ⟨?_, ?_, ?_, ?_⟩
    · intro y0 y1 y2 y3 y4 y5
      unfold bolterlaw01_NumPut.j0
      repeat' first
      | (with_reducible exact ih0 _ _ _ _ _ _)
      | (with_reducible exact ih1 _ _ _ _ _ _ _)
      | (with_reducible exact ih2 _ _ _ _ _)
      | (with_reducible exact ih3 _ _ _ _ _ _ _ _ _ _)
      | (with_reducible exact bolterlaw01_awake.mono _)
      | (with_reducible exact num_Put16.mono _ _ _)
      | (with_reducible exact num_Put32.mono _ _ _)
      | (with_reducible exact LeO.refl _)
      | (with_reducible exact LeO.none _)
      | (with_reducible refine LeO.ite ?_ ?_)
      | (with_reducible refine LeO.bind ?_ (fun _ => ?_))
      | exact ih0 _ _ _ _ _ _
      | exact ih1 _ _ _ _ _ _ _
      | exact ih2 _ _ _ _ _
      | exact ih3 _ _ _ _ _ _ _ _ _ _
      | exact bolterlaw01_awake.mono _
      | exact num_Put16.mono _ _ _
      | exact num_Put32.mono _ _ _
      | exact LeO.none _
      | refine LeO.ite ?_ ?_
      | refine LeO.bind ?_ (fun _ => ?_)
    · intro y0 y1 y2 y3 y4 y5 y6
      unfold bolterlaw01_NumPut.l0
      repeat' first
      | (with_reducible exact ih0 _ _ _ _ _ _)
      | (with_reducible exact ih1 _ _ _ _ _ _ _)
      | (with_reducible exact ih2 _ _ _ _ _)
      | (with_reducible exact ih3 _ _ _ _ _ _ _ _ _ _)
      | (with_reducible exact bolterlaw01_awake.mono _)
      | (with_reducible exact num_Put16.mono _ _ _)
      | (with_reducible exact num_Put32.mono _ _ _)
      | (with_reducible exact LeO.refl _)
      | (with_reducible exact LeO.none _)
      | (with_reducible refine LeO.ite ?_ ?_)
      | (with_reducible refine LeO.bind ?_ (fun _ => ?_))
      | exact ih0 _ _ _ _ _ _
      | exact ih1 _ _ _ _ _ _ _
      | exact ih2 _ _ _ _ _
      | exact ih3 _ _ _ _ _ _ _ _ _ _
      | exact bolterlaw01_awake.mono _
      | exact num_Put16.mono _ _ _
      | exact num_Put32.mono _ _ _
      | exact LeO.none _
      | refine LeO.ite ?_ ?_
      | refine LeO.bind ?_ (fun _ => ?_)
    · intro y0 y1 y2 y3 y4
      unfold bolterlaw01_NumPut.l1
      repeat' first
      | (with_reducible exact ih0 _ _ _ _ _ _)
      | (with_reducible exact ih1 _ _ _ _ _ _ _)
      | (with_reducible exact ih2 _ _ _ _ _)
      | (with_reducible exact ih3 _ _ _ _ _ _ _ _ _ _)
      | (with_reducible exact bolterlaw01_awake.mono _)
      | (with_reducible exact num_Put16.mono _ _ _)
      | (with_reducible exact num_Put32.mono _ _ _)
      | (with_reducible exact LeO.refl _)
      | (with_reducible exact LeO.none _)
      | (with_reducible refine LeO.ite ?_ ?_)
      | (with_reducible refine LeO.bind ?_ (fun _ => ?_))
      | exact ih0 _ _ _ _ _ _
      | exact ih1 _ _ _ _ _ _ _
      | exact ih2 _ _ _ _ _
      | exact ih3 _ _ _ _ _ _ _ _ _ _
      | exact bolterlaw01_awake.mono _
      | exact num_Put16.mono _ _ _
      | exact num_Put32.mono _ _ _
      | exact LeO.none _
      | refine LeO.ite ?_ ?_
      | refine LeO.bind ?_ (fun _ => ?_)
    · intro y0 y1 y2 y3 y4 y5 y6 y7 y8 y9
      unfold bolterlaw01_NumPut.l2
      repeat' first
      | (with_reducible exact ih0 _ _ _ _ _ _)
      | (with_reducible exact ih1 _ _ _ _ _ _ _)
      | (with_reducible exact ih2 _ _ _ _ _)
      | (with_reducible exact ih3 _ _ _ _ _ _ _ _ _ _)
      | (with_reducible exact bolterlaw01_awake.mono _)
      | (with_reducible exact num_Put16.mono _ _ _)
      | (with_reducible exact num_Put32.mono _ _ _)
      | (with_reducible exact LeO.refl _)
      | (with_reducible exact LeO.none _)
      | (with_reducible refine LeO.ite ?_ ?_)
      | (with_reducible refine LeO.bind ?_ (fun _ => ?_))
      | exact ih0 _ _ _ _ _ _
      | exact ih1 _ _ _ _ _ _ _
      | exact ih2 _ _ _ _ _
      | exact ih3 _ _ _ _ _ _ _ _ _ _
      | exact bolterlaw01_awake.mono _
      | exact num_Put16.mono _ _ _
      | exact num_Put32.mono _ _ _
      | exact LeO.none _
      | refine LeO.ite ?_ ?_
      | refine LeO.bind ?_ (fun _ => ?_)
theorem bolterlaw01_NumPut.mono : ∀ a0 a1 a2 k, LeO (bolterlaw01_NumPut.f k a0 a1 a2) (bolterlaw01_NumPut.f (k + 1) a0 a1 a2) := by
  intro a0 a1 a2 k
  obtain ⟨ih0, ih1, ih2, ih3⟩ := bolterlaw01_NumPut.mono_l k
  unfold bolterlaw01_NumPut.f
  repeat' first
      | (with_reducible exact ih0 _ _ _ _ _ _)
      | (with_reducible exact ih1 _ _ _ _ _ _ _)
      | (with_reducible exact ih2 _ _ _ _ _)
      | (with_reducible exact ih3 _ _ _ _ _ _ _ _ _ _)
      | (with_reducible exact bolterlaw01_awake.mono _)
      | (with_reducible exact num_Put16.mono _ _ _)
      | (with_reducible exact num_Put32.mono _ _ _)
      | (with_reducible exact LeO.refl _)
      | (with_reducible exact LeO.none _)
      | (with_reducible refine LeO.ite ?_ ?_)
      | (with_reducible refine LeO.bind ?_ (fun _ => ?_))
      | exact ih0 _ _ _ _ _ _
      | exact ih1 _ _ _ _ _ _ _
      | exact ih2 _ _ _ _ _
      | exact ih3 _ _ _ _ _ _ _ _ _ _
      | exact bolterlaw01_awake.mono _
      | exact num_Put16.mono _ _ _
      | exact num_Put32.mono _ _ _
      | exact LeO.none _
      | refine LeO.ite ?_ ?_
      | refine LeO.bind ?_ (fun _ => ?_)
set_option maxHeartbeats 8000000 in
set_option maxRecDepth 100000 in
theorem bolterlaw01_NumPut.calls (k : Nat) (A0 : Option Addr) (c0 : Nat) (l0 : List Int) (A1 : Option Addr) (c1 : Nat) (l1 : List Int) (A2 : Option Addr) (c2 : Nat) (l2 : List Int) (r : Bool) (w : World) (hr0 : Kd.C (Kd.int .u8) w A0 l0.length l0) (hc0 : l0.length ≤ c0) (hr1 : Kd.C (Kd.int .u16) w A1 l1.length l1) (hc1 : l1.length ≤ c1) (hr2 : Kd.C (Kd.int .u32) w A2 l2.length l2) (hc2 : l2.length ≤ c2) (h : bolterlaw01_NumPut.f k l0 l1 l2 = some r) :
    Calls Try.prog 4 #[.slice A0 l0.length c0, .slice A1 l1.length c1, .slice A2 l2.length c2] w fun e w' => e = .returned (.bool r) ∧ Below w.heap.size w w' := by
  have HR0 := Aside0.mk hr0
  have HC0 := Aside0.mk hc0
  clear hr0 hc0
  have HR1 := Aside0.mk hr1
  have HC1 := Aside0.mk hc1
  clear hr1 hc1
  have HR2 := Aside0.mk hr2
  have HC2 := Aside0.mk hc2
  clear hr2 hc2
  have HB := Aside0.mk (Below.refl w.heap.size w)
  have H : ((bolterlaw01_awake.f k).bind fun t142 => (if t142 = true then ((num_Put16.f k l0 l1).bind fun t143 => ((num_Put32.f k l0 l2).bind fun t146 => (if (t143.length : Int) = (wrap64 ((l0.length : Int) + (wrap64 (2 * (l1.length : Int))))) then (if (t146.length : Int) = (wrap64 ((l0.length : Int) + (wrap64 (4 * (l2.length : Int))))) then (if 0 ≤ (l0.length : Int) then (if (l0.length : Int) ≤ (t143.length : Int) then (if (strOfNums (t143.take ((l0.length : Int) : Int).toNat)).toList = (strOfNums l0).toList then (if (l0.length : Int) ≤ (t146.length : Int) then (bolterlaw01_NumPut.j0 k l0 l1 l2 t143 t146 ((strOfNums (t146.take ((l0.length : Int) : Int).toNat)).toList != (strOfNums l0).toList)) else (none)) else (bolterlaw01_NumPut.j0 k l0 l1 l2 t143 t146 true)) else (none)) else (none)) else (bolterlaw01_NumPut.j0 k l0 l1 l2 t143 t146 true)) else (bolterlaw01_NumPut.j0 k l0 l1 l2 t143 t146 true)))) else (some false))) = some r := h
  clear h
  replace H := Option.bind_eq_some_iff.mp H
  obtain ⟨t142, A40, H⟩ := H
  replace H : (if t142 = true then ((num_Put16.f k l0 l1).bind fun t143 => ((num_Put32.f k l0 l2).bind fun t146 => (if (t143.length : Int) = (wrap64 ((l0.length : Int) + (wrap64 (2 * (l1.length : Int))))) then (if (t146.length : Int) = (wrap64 ((l0.length : Int) + (wrap64 (4 * (l2.length : Int))))) then (if 0 ≤ (l0.length : Int) then (if (l0.length : Int) ≤ (t143.length : Int) then (if (strOfNums (t143.take ((l0.length : Int) : Int).toNat)).toList = (strOfNums l0).toList then (if (l0.length : Int) ≤ (t146.length : Int) then (bolterlaw01_NumPut.j0 k l0 l1 l2 t143 t146 ((strOfNums (t146.take ((l0.length : Int) : Int).toNat)).toList != (strOfNums l0).toList)) else (none)) else (bolterlaw01_NumPut.j0 k l0 l1 l2 t143 t146 true)) else (none)) else (none)) else (bolterlaw01_NumPut.j0 k l0 l1 l2 t143 t146 true)) else (bolterlaw01_NumPut.j0 k l0 l1 l2 t143 t146 true)))) else (some false)) = some r := H
  have A4 := Aside0.mk A40
  clear A40
  by_cases c5 : t142 = true
  · subst c5
    have H1 : ((num_Put16.f k l0 l1).bind fun t143 => ((num_Put32.f k l0 l2).bind fun t146 => (if (t143.length : Int) = (wrap64 ((l0.length : Int) + (wrap64 (2 * (l1.length : Int))))) then (if (t146.length : Int) = (wrap64 ((l0.length : Int) + (wrap64 (4 * (l2.length : Int))))) then (if 0 ≤ (l0.length : Int) then (if (l0.length : Int) ≤ (t143.length : Int) then (if (strOfNums (t143.take ((l0.length : Int) : Int).toNat)).toList = (strOfNums l0).toList then (if (l0.length : Int) ≤ (t146.length : Int) then (bolterlaw01_NumPut.j0 k l0 l1 l2 t143 t146 ((strOfNums (t146.take ((l0.length : Int) : Int).toNat)).toList != (strOfNums l0).toList)) else (none)) else (bolterlaw01_NumPut.j0 k l0 l1 l2 t143 t146 true)) else (none)) else (none)) else (bolterlaw01_NumPut.j0 k l0 l1 l2 t143 t146 true)) else (bolterlaw01_NumPut.j0 k l0 l1 l2 t143 t146 true)))) = some r := by rw [if_pos rfl] at H; exact H
    clear H
    have H := H1
    clear H1
    replace H := Option.bind_eq_some_iff.mp H
    obtain ⟨t143, A60, H⟩ := H
    replace H : ((num_Put32.f k l0 l2).bind fun t146 => (if (t143.length : Int) = (wrap64 ((l0.length : Int) + (wrap64 (2 * (l1.length : Int))))) then (if (t146.length : Int) = (wrap64 ((l0.length : Int) + (wrap64 (4 * (l2.length : Int))))) then (if 0 ≤ (l0.length : Int) then (if (l0.length : Int) ≤ (t143.length : Int) then (if (strOfNums (t143.take ((l0.length : Int) : Int).toNat)).toList = (strOfNums l0).toList then (if (l0.length : Int) ≤ (t146.length : Int) then (bolterlaw01_NumPut.j0 k l0 l1 l2 t143 t146 ((strOfNums (t146.take ((l0.length : Int) : Int).toNat)).toList != (strOfNums l0).toList)) else (none)) else (bolterlaw01_NumPut.j0 k l0 l1 l2 t143 t146 true)) else (none)) else (none)) else (bolterlaw01_NumPut.j0 k l0 l1 l2 t143 t146 true)) else (bolterlaw01_NumPut.j0 k l0 l1 l2 t143 t146 true))) = some r := H
    have A6 := Aside0.mk A60
    clear A60
    replace H := Option.bind_eq_some_iff.mp H
    obtain ⟨t146, A70, H⟩ := H
    replace H : (if (t143.length : Int) = (wrap64 ((l0.length : Int) + (wrap64 (2 * (l1.length : Int))))) then (if (t146.length : Int) = (wrap64 ((l0.length : Int) + (wrap64 (4 * (l2.length : Int))))) then (if 0 ≤ (l0.length : Int) then (if (l0.length : Int) ≤ (t143.length : Int) then (if (strOfNums (t143.take ((l0.length : Int) : Int).toNat)).toList = (strOfNums l0).toList then (if (l0.length : Int) ≤ (t146.length : Int) then (bolterlaw01_NumPut.j0 k l0 l1 l2 t143 t146 ((strOfNums (t146.take ((l0.length : Int) : Int).toNat)).toList != (strOfNums l0).toList)) else (none)) else (bolterlaw01_NumPut.j0 k l0 l1 l2 t143 t146 true)) else (none)) else (none)) else (bolterlaw01_NumPut.j0 k l0 l1 l2 t143 t146 true)) else (bolterlaw01_NumPut.j0 k l0 l1 l2 t143 t146 true)) = some r := H
    have A7 := Aside0.mk A70
    clear A70
    have HC8 := Aside0.mk H
    clear H
    go_enter Try.func4, Try.ntmps4
    go_upto_region 4 with (first | (go_at_call 8; (with_reducible refine (bolterlaw01_awake.calls k  true _ A4.out).mono ?_); rintro e w9 ⟨rfl, hb⟩; have n0_ := Aside0.mk (below_step (by repeat (first | (with_reducible first | exact HB.out | apply below_alloc | apply pw_below_drewN | apply below_drew1) | exact HB.out)) hb); clear HB; have HB := n0_; clear n0_; (try clear hb); (try clear hb2); (try clear hk); (try clear hi)) | (go_at_call 11; (with_reducible refine (num_Put16.calls k _ _ l0 _ _ l1 t143 _ ?side1 ?side2 ?side3 ?side4 A6.out).mono ?_); (case side1 => repeat (first | exact (Kd.C_below HR0.out HB.out) | (with_reducible refine Kd.C_alloc ?_ _) | (with_reducible refine Kd.C_drewN ?_ _) | (with_reducible refine Kd.C_drew ?_))); (case side2 => exact HC0.out); (case side3 => repeat (first | exact (Kd.C_below HR1.out HB.out) | (with_reducible refine Kd.C_alloc ?_ _) | (with_reducible refine Kd.C_drewN ?_ _) | (with_reducible refine Kd.C_drew ?_))); (case side4 => exact HC1.out); rintro e w10 ⟨v144, rfl, ho0, hb⟩; have n0_ := Aside0.mk (Kd.R_lower ho0 (below_size (by repeat (first | (with_reducible first | exact HB.out | apply below_alloc | apply pw_below_drewN | apply below_drew1) | exact HB.out)))); have n1_ := Aside0.mk (below_step (by repeat (first | (with_reducible first | exact HB.out | apply below_alloc | apply pw_below_drewN | apply below_drew1) | exact HB.out)) hb); clear HB; have HO145 := n0_; have HB := n1_; clear n0_ n1_; (try clear hb); (try clear hb2); (try clear hk); (try clear hi); (try clear ho0)) | (go_at_call 12; (with_reducible refine (num_Put32.calls k _ _ l0 _ _ l2 t146 _ ?side1 ?side2 ?side3 ?side4 A7.out).mono ?_); (case side1 => repeat (first | exact (Kd.C_below HR0.out HB.out) | (with_reducible refine Kd.C_alloc ?_ _) | (with_reducible refine Kd.C_drewN ?_ _) | (with_reducible refine Kd.C_drew ?_))); (case side2 => exact HC0.out); (case side3 => repeat (first | exact (Kd.C_below HR2.out HB.out) | (with_reducible refine Kd.C_alloc ?_ _) | (with_reducible refine Kd.C_drewN ?_ _) | (with_reducible refine Kd.C_drew ?_))); (case side4 => exact HC2.out); rintro e w11 ⟨v147, rfl, ho0, hb⟩; have n0_ := Aside0.mk (Kd.R_elder' (by (with_reducible repeat (first | apply Kd.R_alloc | apply Kd.R_drewN | apply Kd.R_drew)); exact HO145.out) (Kd.R_base ho0) hb); have n1_ := Aside0.mk (Kd.R_lower (Kd.R_new' ho0 (Kd.R_lt (by (with_reducible repeat (first | apply Kd.R_alloc | apply Kd.R_drewN | apply Kd.R_drew)); exact HO145.out))) (below_size (by repeat (first | (with_reducible first | exact HB.out | apply below_alloc | apply pw_below_drewN | apply below_drew1) | exact HB.out)))); have n2_ := Aside0.mk (below_step (by repeat (first | (with_reducible first | exact HB.out | apply below_alloc | apply pw_below_drewN | apply below_drew1) | exact HB.out)) hb); clear HO145; clear HB; have HO145 := n0_; have HO148 := n1_; have HB := n2_; clear n0_ n1_ n2_; (try clear hb); (try clear hb2); (try clear hk); (try clear hi); (try clear ho0)))
    repeat (go_quiet (first | (go_at_call 8; (with_reducible refine (bolterlaw01_awake.calls k  true _ A4.out).mono ?_); rintro e w9 ⟨rfl, hb⟩; have n0_ := Aside0.mk (below_step (by repeat (first | (with_reducible first | exact HB.out | apply below_alloc | apply pw_below_drewN | apply below_drew1) | exact HB.out)) hb); clear HB; have HB := n0_; clear n0_; (try clear hb); (try clear hb2); (try clear hk); (try clear hi)) | (go_at_call 11; (with_reducible refine (num_Put16.calls k _ _ l0 _ _ l1 t143 _ ?side1 ?side2 ?side3 ?side4 A6.out).mono ?_); (case side1 => repeat (first | exact (Kd.C_below HR0.out HB.out) | (with_reducible refine Kd.C_alloc ?_ _) | (with_reducible refine Kd.C_drewN ?_ _) | (with_reducible refine Kd.C_drew ?_))); (case side2 => exact HC0.out); (case side3 => repeat (first | exact (Kd.C_below HR1.out HB.out) | (with_reducible refine Kd.C_alloc ?_ _) | (with_reducible refine Kd.C_drewN ?_ _) | (with_reducible refine Kd.C_drew ?_))); (case side4 => exact HC1.out); rintro e w10 ⟨v144, rfl, ho0, hb⟩; have n0_ := Aside0.mk (Kd.R_lower ho0 (below_size (by repeat (first | (with_reducible first | exact HB.out | apply below_alloc | apply pw_below_drewN | apply below_drew1) | exact HB.out)))); have n1_ := Aside0.mk (below_step (by repeat (first | (with_reducible first | exact HB.out | apply below_alloc | apply pw_below_drewN | apply below_drew1) | exact HB.out)) hb); clear HB; have HO145 := n0_; have HB := n1_; clear n0_ n1_; (try clear hb); (try clear hb2); (try clear hk); (try clear hi); (try clear ho0)) | (go_at_call 12; (with_reducible refine (num_Put32.calls k _ _ l0 _ _ l2 t146 _ ?side1 ?side2 ?side3 ?side4 A7.out).mono ?_); (case side1 => repeat (first | exact (Kd.C_below HR0.out HB.out) | (with_reducible refine Kd.C_alloc ?_ _) | (with_reducible refine Kd.C_drewN ?_ _) | (with_reducible refine Kd.C_drew ?_))); (case side2 => exact HC0.out); (case side3 => repeat (first | exact (Kd.C_below HR2.out HB.out) | (with_reducible refine Kd.C_alloc ?_ _) | (with_reducible refine Kd.C_drewN ?_ _) | (with_reducible refine Kd.C_drew ?_))); (case side4 => exact HC2.out); rintro e w11 ⟨v147, rfl, ho0, hb⟩; have n0_ := Aside0.mk (Kd.R_elder' (by (with_reducible repeat (first | apply Kd.R_alloc | apply Kd.R_drewN | apply Kd.R_drew)); exact HO145.out) (Kd.R_base ho0) hb); have n1_ := Aside0.mk (Kd.R_lower (Kd.R_new' ho0 (Kd.R_lt (by (with_reducible repeat (first | apply Kd.R_alloc | apply Kd.R_drewN | apply Kd.R_drew)); exact HO145.out))) (below_size (by repeat (first | (with_reducible first | exact HB.out | apply below_alloc | apply pw_below_drewN | apply below_drew1) | exact HB.out)))); have n2_ := Aside0.mk (below_step (by repeat (first | (with_reducible first | exact HB.out | apply below_alloc | apply pw_below_drewN | apply below_drew1) | exact HB.out)) hb); clear HO145; clear HB; have HO145 := n0_; have HO148 := n1_; have HB := n2_; clear n0_ n1_ n2_; (try clear hb); (try clear hb2); (try clear hk); (try clear hi); (try clear ho0))); go_upto_region 4 with (first | (go_at_call 8; (with_reducible refine (bolterlaw01_awake.calls k  true _ A4.out).mono ?_); rintro e w9 ⟨rfl, hb⟩; have n0_ := Aside0.mk (below_step (by repeat (first | (with_reducible first | exact HB.out | apply below_alloc | apply pw_below_drewN | apply below_drew1) | exact HB.out)) hb); clear HB; have HB := n0_; clear n0_; (try clear hb); (try clear hb2); (try clear hk); (try clear hi)) | (go_at_call 11; (with_reducible refine (num_Put16.calls k _ _ l0 _ _ l1 t143 _ ?side1 ?side2 ?side3 ?side4 A6.out).mono ?_); (case side1 => repeat (first | exact (Kd.C_below HR0.out HB.out) | (with_reducible refine Kd.C_alloc ?_ _) | (with_reducible refine Kd.C_drewN ?_ _) | (with_reducible refine Kd.C_drew ?_))); (case side2 => exact HC0.out); (case side3 => repeat (first | exact (Kd.C_below HR1.out HB.out) | (with_reducible refine Kd.C_alloc ?_ _) | (with_reducible refine Kd.C_drewN ?_ _) | (with_reducible refine Kd.C_drew ?_))); (case side4 => exact HC1.out); rintro e w10 ⟨v144, rfl, ho0, hb⟩; have n0_ := Aside0.mk (Kd.R_lower ho0 (below_size (by repeat (first | (with_reducible first | exact HB.out | apply below_alloc | apply pw_below_drewN | apply below_drew1) | exact HB.out)))); have n1_ := Aside0.mk (below_step (by repeat (first | (with_reducible first | exact HB.out | apply below_alloc | apply pw_below_drewN | apply below_drew1) | exact HB.out)) hb); clear HB; have HO145 := n0_; have HB := n1_; clear n0_ n1_; (try clear hb); (try clear hb2); (try clear hk); (try clear hi); (try clear ho0)) | (go_at_call 12; (with_reducible refine (num_Put32.calls k _ _ l0 _ _ l2 t146 _ ?side1 ?side2 ?side3 ?side4 A7.out).mono ?_); (case side1 => repeat (first | exact (Kd.C_below HR0.out HB.out) | (with_reducible refine Kd.C_alloc ?_ _) | (with_reducible refine Kd.C_drewN ?_ _) | (with_reducible refine Kd.C_drew ?_))); (case side2 => exact HC0.out); (case side3 => repeat (first | exact (Kd.C_below HR2.out HB.out) | (with_reducible refine Kd.C_alloc ?_ _) | (with_reducible refine Kd.C_drewN ?_ _) | (with_reducible refine Kd.C_drew ?_))); (case side4 => exact HC2.out); rintro e w11 ⟨v147, rfl, ho0, hb⟩; have n0_ := Aside0.mk (Kd.R_elder' (by (with_reducible repeat (first | apply Kd.R_alloc | apply Kd.R_drewN | apply Kd.R_drew)); exact HO145.out) (Kd.R_base ho0) hb); have n1_ := Aside0.mk (Kd.R_lower (Kd.R_new' ho0 (Kd.R_lt (by (with_reducible repeat (first | apply Kd.R_alloc | apply Kd.R_drewN | apply Kd.R_drew)); exact HO145.out))) (below_size (by repeat (first | (with_reducible first | exact HB.out | apply below_alloc | apply pw_below_drewN | apply below_drew1) | exact HB.out)))); have n2_ := Aside0.mk (below_step (by repeat (first | (with_reducible first | exact HB.out | apply below_alloc | apply pw_below_drewN | apply below_drew1) | exact HB.out)) hb); clear HO145; clear HB; have HO145 := n0_; have HO148 := n1_; have HB := n2_; clear n0_ n1_ n2_; (try clear hb); (try clear hb2); (try clear hk); (try clear hi); (try clear ho0))))
    (try simp only [Act.put, List.setIfInBounds_toArray, List.set_cons_zero, List.set_cons_succ])
    go_cut [65] (fun v65 wc => ∃ (kq : Nat) (x65_7 : Bool), v65 = .bool x65_7 ∧ Aside0 (bolterlaw01_NumPut.j0 kq l0 l1 l2 t143 t146 x65_7 = some r) ∧ Aside0 (kq ≤ k) ∧ Aside0 (Kd.R (Kd.int .u8) 5 wc w.heap.size (fun k_ => some k_ ≠ (v147 : Value).ownBlock) v144 t143) ∧ Aside0 (Kd.R (Kd.int .u8) 5 wc w.heap.size (fun k_ => some k_ ≠ (v144 : Value).ownBlock) v147 t146) ∧ Aside0 (Below w.heap.size w wc))
    case first =>
      have H := HC8.out
      clear HC8
      by_cases c12 : (t143.length : Int) = (wrap64 ((l0.length : Int) + (wrap64 (2 * (l1.length : Int)))))
      · rw [if_pos c12] at H
        have c12b0 : ((t143.length : Int) == (wrap64 ((l0.length : Int) + (wrap64 (2 * (l1.length : Int)))))) = true := beq_iff_eq.mpr c12
        have c12b1 : ((t143.length : Int) != (wrap64 ((l0.length : Int) + (wrap64 (2 * (l1.length : Int)))))) = false := bne_eq_false_iff_eq.mpr c12
        (try (have c12b2 : ((t143.length : Int) == (IntKind.i64.wrap ((l0.length : Int) + (IntKind.i64.wrap (2 * (l1.length : Int)))))) = true := by simp only [i64_w]; exact (beq_iff_eq.mpr c12)))
        (try (have c12b3 : ((t143.length : Int) != (IntKind.i64.wrap ((l0.length : Int) + (IntKind.i64.wrap (2 * (l1.length : Int)))))) = false := by simp only [i64_w]; exact (bne_eq_false_iff_eq.mpr c12)))
        clear c12
        (first | rw [c12b0] | (simp only [i64_w, i32_w]; rw [c12b0]) | skip)
        by_cases c13 : (t146.length : Int) = (wrap64 ((l0.length : Int) + (wrap64 (4 * (l2.length : Int)))))
        · rw [if_pos c13] at H
          have c13b0 : ((t146.length : Int) == (wrap64 ((l0.length : Int) + (wrap64 (4 * (l2.length : Int)))))) = true := beq_iff_eq.mpr c13
          have c13b1 : ((t146.length : Int) != (wrap64 ((l0.length : Int) + (wrap64 (4 * (l2.length : Int)))))) = false := bne_eq_false_iff_eq.mpr c13
          (try (have c13b2 : ((t146.length : Int) == (IntKind.i64.wrap ((l0.length : Int) + (IntKind.i64.wrap (4 * (l2.length : Int)))))) = true := by simp only [i64_w]; exact (beq_iff_eq.mpr c13)))
          (try (have c13b3 : ((t146.length : Int) != (IntKind.i64.wrap ((l0.length : Int) + (IntKind.i64.wrap (4 * (l2.length : Int)))))) = false := by simp only [i64_w]; exact (bne_eq_false_iff_eq.mpr c13)))
          clear c13
          by_cases c14 : 0 ≤ (l0.length : Int)
          · rw [if_pos c14] at H
            have c14b0 := eq_true c14
            have c14b1 : decide (0 ≤ (l0.length : Int)) = true := decide_eq_true c14
            clear c14
            by_cases c15 : (l0.length : Int) ≤ (t143.length : Int)
            · rw [if_pos c15] at H
              have c15b0 := eq_true c15
              have c15b1 : decide ((l0.length : Int) ≤ (t143.length : Int)) = true := decide_eq_true c15
              clear c15
              obtain ⟨y149, hy149⟩ : ∃ y_ : List Int, y_ = (t143.take ((l0.length : Int) : Int).toNat) := ⟨_, rfl⟩
              replace H : (if (strOfNums y149).toList = (strOfNums l0).toList then (if (l0.length : Int) ≤ (t146.length : Int) then (bolterlaw01_NumPut.j0 k l0 l1 l2 t143 t146 ((strOfNums (t146.take ((l0.length : Int) : Int).toNat)).toList != (strOfNums l0).toList)) else (none)) else (bolterlaw01_NumPut.j0 k l0 l1 l2 t143 t146 true)) = some r := by first | (rw [hy149]; with_reducible exact H) | (have H2_ := (Option.bind_some _ _).symm.trans H; rw [hy149]; with_reducible exact H2_) | (have H2_ := (Option.bind_some _ _).symm.trans H; with_reducible exact H2_) | with_reducible exact H | (rw [hy149]; exact H) | exact H
              have Ny149 := Aside0.mk hy149
              clear hy149
              by_cases c16 : (strOfNums y149).toList = (strOfNums l0).toList
              · rw [if_pos c16] at H
                have c16b0 : ((strOfNums y149).toList == (strOfNums l0).toList) = true := beq_iff_eq.mpr c16
                have c16b1 : ((strOfNums y149).toList != (strOfNums l0).toList) = false := bne_eq_false_iff_eq.mpr c16
                clear c16
                have c17b0 := eq_true (of_decide_eq_true (by first | (with_reducible assumption) | assumption) : 0 ≤ (l0.length : Int))
                by_cases c18 : (l0.length : Int) ≤ (t146.length : Int)
                · rw [if_pos c18] at H
                  have c18b0 := eq_true c18
                  have c18b1 : decide ((l0.length : Int) ≤ (t146.length : Int)) = true := decide_eq_true c18
                  clear c18
                  obtain ⟨y153, hy153⟩ : ∃ y_ : List Int, y_ = (t146.take ((l0.length : Int) : Int).toNat) := ⟨_, rfl⟩
                  replace H : (bolterlaw01_NumPut.j0 k l0 l1 l2 t143 t146 ((strOfNums y153).toList != (strOfNums l0).toList)) = some r := by first | (rw [hy153]; with_reducible exact H) | (have H2_ := (Option.bind_some _ _).symm.trans H; rw [hy153]; with_reducible exact H2_) | (have H2_ := (Option.bind_some _ _).symm.trans H; with_reducible exact H2_) | with_reducible exact H | (rw [hy153]; exact H) | exact H
                  have Ny153 := Aside0.mk hy153
                  clear hy153
                  have H' := Aside0.mk H
                  clear H
                  obtain ⟨Ao19, co19, eo19⟩ := Kd.R_slice HO145.out
                  subst eo19
                  obtain ⟨Ao20, co20, eo20⟩ := Kd.R_slice HO148.out
                  subst eo20
                  have q21 : ((l0.length : Int) : Int) ≤ ((t143.length : Int) : Int) := of_decide_eq_true (by first | (with_reducible assumption) | assumption)
                  obtain ⟨i021, hi021, _, hsz21, _⟩ := info_parts info5
                  have hroom21 : t143.length ≤ co19 := (Kd.R_reads' HO145.out).2.1
                  have hC21 : Kd.C (Kd.int .u8) _ Ao19 t143.length t143 := (Kd.R_reads' HO145.out).2.2
                  have hcut21 := cut_to (P := Try.prog) 29 5 .i64 Try.underlying29 hi021 Ao19 t143.length co19 (l0.length : Int) (of_decide_eq_true (by first | (with_reducible assumption) | assumption)) q21 hroom21
                  have hr21 := Kd.C_take (m := ((l0.length : Int) : Int).toNat) hC21 (by omega)
                  have hy21 : y149.length = ((l0.length : Int) : Int).toNat := (by rw [Ny149.out, List.length_take]; omega)
                  rw [← Ny149.out] at hr21
                  rw [← hy21] at hcut21
                  have HR152 := Aside0.mk hr21
                  have HC152 := Aside0.mk (show y149.length ≤ co19 from by omega)
                  clear hr21 hC21 hroom21 hi021 hsz21
                  have KY21 := Aside0.mk hy21
                  clear hy21
                  have KL21 := Aside0.mk (show ((l0.length : Int) : Int).toNat ≤ t143.length from by omega)
                  replace q21 := eq_true q21
                  have hcv22 := Kd.C_string (P := Try.prog) (A := Ao19) (c := co19) Try.underlying29 Try.underlying5 Try.underlying9 (by repeat (first | (with_reducible exact HR152.out) | (with_reducible refine Kd.C_alloc ?_ _) | (with_reducible refine Kd.C_drewN ?_ _) | (with_reducible refine Kd.C_drew ?_) | exact HR152.out))
                  have hcvd23 := fun m_ : Nat => Kd.C_string (P := Try.prog) (A := Ao19) (c := co19) Try.underlying29 Try.underlying5 Try.underlying9 (Kd.C_drewN (by repeat (first | (with_reducible exact HR152.out) | (with_reducible refine Kd.C_alloc ?_ _) | (with_reducible refine Kd.C_drewN ?_ _) | (with_reducible refine Kd.C_drew ?_) | exact HR152.out)) m_)
                  have hcv24 := Kd.C_string (P := Try.prog) (A := A0) (c := c0) Try.underlying29 Try.underlying5 Try.underlying9 (Kd.C_below HR0.out HB.out)
                  have hcvd25 := fun m_ : Nat => Kd.C_string (P := Try.prog) (A := A0) (c := c0) Try.underlying29 Try.underlying5 Try.underlying9 (Kd.C_drewN (Kd.C_below HR0.out HB.out) m_)
                  have q26 : ((l0.length : Int) : Int) ≤ ((t146.length : Int) : Int) := of_decide_eq_true (by first | (with_reducible assumption) | assumption)
                  obtain ⟨i026, hi026, _, hsz26, _⟩ := info_parts info5
                  have hroom26 : t146.length ≤ co20 := (Kd.R_reads' HO148.out).2.1
                  have hC26 : Kd.C (Kd.int .u8) _ Ao20 t146.length t146 := (Kd.R_reads' HO148.out).2.2
                  have hcut26 := cut_to (P := Try.prog) 29 5 .i64 Try.underlying29 hi026 Ao20 t146.length co20 (l0.length : Int) (of_decide_eq_true (by first | (with_reducible assumption) | assumption)) q26 hroom26
                  have hr26 := Kd.C_take (m := ((l0.length : Int) : Int).toNat) hC26 (by omega)
                  have hy26 : y153.length = ((l0.length : Int) : Int).toNat := (by rw [Ny153.out, List.length_take]; omega)
                  rw [← Ny153.out] at hr26
                  rw [← hy26] at hcut26
                  have HR156 := Aside0.mk hr26
                  have HC156 := Aside0.mk (show y153.length ≤ co20 from by omega)
                  clear hr26 hC26 hroom26 hi026 hsz26
                  have KY26 := Aside0.mk hy26
                  clear hy26
                  have KL26 := Aside0.mk (show ((l0.length : Int) : Int).toNat ≤ t146.length from by omega)
                  replace q26 := eq_true q26
                  have hcv27 := Kd.C_string (P := Try.prog) (A := Ao20) (c := co20) Try.underlying29 Try.underlying5 Try.underlying9 (by repeat (first | (with_reducible exact HR156.out) | (with_reducible refine Kd.C_alloc ?_ _) | (with_reducible refine Kd.C_drewN ?_ _) | (with_reducible refine Kd.C_drew ?_) | exact HR156.out))
                  have hcvd28 := fun m_ : Nat => Kd.C_string (P := Try.prog) (A := Ao20) (c := co20) Try.underlying29 Try.underlying5 Try.underlying9 (Kd.C_drewN (by repeat (first | (with_reducible exact HR156.out) | (with_reducible refine Kd.C_alloc ?_ _) | (with_reducible refine Kd.C_drewN ?_ _) | (with_reducible refine Kd.C_drew ?_) | exact HR156.out)) m_)
                  have hcv29 := Kd.C_string (P := Try.prog) (A := A0) (c := c0) Try.underlying29 Try.underlying5 Try.underlying9 (Kd.C_below HR0.out HB.out)
                  have hcvd30 := fun m_ : Nat => Kd.C_string (P := Try.prog) (A := A0) (c := c0) Try.underlying29 Try.underlying5 Try.underlying9 (Kd.C_drewN (Kd.C_below HR0.out HB.out) m_)
                  go_wp2
                  repeat (go_quiet (fail); try go_wp2)
                  go_meet
                  case rel => exact ⟨_, (((strOfNums y153).toList != (strOfNums l0).toList)), (by first | rfl | (simp; done) | (simp [*]; done)), H', ⟨by first | omega | exact Nat.le_refl _⟩, ⟨by (with_reducible repeat (first | apply Kd.R_alloc | apply Kd.R_drewN | apply Kd.R_drew)); exact Kd.R_mono HO145.out (fun _ hk => hk.2)⟩, ⟨by (with_reducible repeat (first | apply Kd.R_alloc | apply Kd.R_drewN | apply Kd.R_drew)); exact Kd.R_mono HO148.out (fun _ hk => hk.2)⟩, ⟨by repeat (first | (with_reducible first | exact HB.out | apply below_alloc | apply pw_below_drewN | apply below_drew1) | exact HB.out)⟩⟩
                · rw [if_neg c18] at H
                  exact absurd H (by simp)
              · rw [if_neg c16] at H
                have c16b0 : ((strOfNums y149).toList == (strOfNums l0).toList) = false := beq_eq_false_iff_ne.mpr c16
                have c16b1 : ((strOfNums y149).toList != (strOfNums l0).toList) = true := bne_iff_ne.mpr c16
                have H' := Aside0.mk H
                clear H
                obtain ⟨Ao31, co31, eo31⟩ := Kd.R_slice HO145.out
                subst eo31
                obtain ⟨Ao32, co32, eo32⟩ := Kd.R_slice HO148.out
                subst eo32
                have q33 : ((l0.length : Int) : Int) ≤ ((t143.length : Int) : Int) := of_decide_eq_true (by first | (with_reducible assumption) | assumption)
                obtain ⟨i033, hi033, _, hsz33, _⟩ := info_parts info5
                have hroom33 : t143.length ≤ co31 := (Kd.R_reads' HO145.out).2.1
                have hC33 : Kd.C (Kd.int .u8) _ Ao31 t143.length t143 := (Kd.R_reads' HO145.out).2.2
                have hcut33 := cut_to (P := Try.prog) 29 5 .i64 Try.underlying29 hi033 Ao31 t143.length co31 (l0.length : Int) (of_decide_eq_true (by first | (with_reducible assumption) | assumption)) q33 hroom33
                have hr33 := Kd.C_take (m := ((l0.length : Int) : Int).toNat) hC33 (by omega)
                have hy33 : y149.length = ((l0.length : Int) : Int).toNat := (by rw [Ny149.out, List.length_take]; omega)
                rw [← Ny149.out] at hr33
                rw [← hy33] at hcut33
                have HR152 := Aside0.mk hr33
                have HC152 := Aside0.mk (show y149.length ≤ co31 from by omega)
                clear hr33 hC33 hroom33 hi033 hsz33
                have KY33 := Aside0.mk hy33
                clear hy33
                have KL33 := Aside0.mk (show ((l0.length : Int) : Int).toNat ≤ t143.length from by omega)
                replace q33 := eq_true q33
                have hcv34 := Kd.C_string (P := Try.prog) (A := Ao31) (c := co31) Try.underlying29 Try.underlying5 Try.underlying9 (by repeat (first | (with_reducible exact HR152.out) | (with_reducible refine Kd.C_alloc ?_ _) | (with_reducible refine Kd.C_drewN ?_ _) | (with_reducible refine Kd.C_drew ?_) | exact HR152.out))
                have hcvd35 := fun m_ : Nat => Kd.C_string (P := Try.prog) (A := Ao31) (c := co31) Try.underlying29 Try.underlying5 Try.underlying9 (Kd.C_drewN (by repeat (first | (with_reducible exact HR152.out) | (with_reducible refine Kd.C_alloc ?_ _) | (with_reducible refine Kd.C_drewN ?_ _) | (with_reducible refine Kd.C_drew ?_) | exact HR152.out)) m_)
                have hcv36 := Kd.C_string (P := Try.prog) (A := A0) (c := c0) Try.underlying29 Try.underlying5 Try.underlying9 (Kd.C_below HR0.out HB.out)
                have hcvd37 := fun m_ : Nat => Kd.C_string (P := Try.prog) (A := A0) (c := c0) Try.underlying29 Try.underlying5 Try.underlying9 (Kd.C_drewN (Kd.C_below HR0.out HB.out) m_)
                go_wp2
                repeat (go_quiet (fail); try go_wp2)
                go_meet
                case rel => exact ⟨_, (true), (by first | rfl | (simp; done) | (simp [*]; done)), H', ⟨by first | omega | exact Nat.le_refl _⟩, ⟨by (with_reducible repeat (first | apply Kd.R_alloc | apply Kd.R_drewN | apply Kd.R_drew)); exact Kd.R_mono HO145.out (fun _ hk => hk.2)⟩, ⟨by (with_reducible repeat (first | apply Kd.R_alloc | apply Kd.R_drewN | apply Kd.R_drew)); exact Kd.R_mono HO148.out (fun _ hk => hk.2)⟩, ⟨by repeat (first | (with_reducible first | exact HB.out | apply below_alloc | apply pw_below_drewN | apply below_drew1) | exact HB.out)⟩⟩
            · rw [if_neg c15] at H
              exact absurd H (by simp)
          · rw [if_neg c14] at H
            exact absurd H (by simp)
        · rw [if_neg c13] at H
          have c13b0 : ((t146.length : Int) == (wrap64 ((l0.length : Int) + (wrap64 (4 * (l2.length : Int)))))) = false := beq_eq_false_iff_ne.mpr c13
          have c13b1 : ((t146.length : Int) != (wrap64 ((l0.length : Int) + (wrap64 (4 * (l2.length : Int)))))) = true := bne_iff_ne.mpr c13
          (try (have c13b2 : ((t146.length : Int) == (IntKind.i64.wrap ((l0.length : Int) + (IntKind.i64.wrap (4 * (l2.length : Int)))))) = false := by simp only [i64_w]; exact (beq_eq_false_iff_ne.mpr c13)))
          (try (have c13b3 : ((t146.length : Int) != (IntKind.i64.wrap ((l0.length : Int) + (IntKind.i64.wrap (4 * (l2.length : Int)))))) = true := by simp only [i64_w]; exact (bne_iff_ne.mpr c13)))
          have H' := Aside0.mk H
          clear H
          obtain ⟨Ao38, co38, eo38⟩ := Kd.R_slice HO145.out
          subst eo38
          obtain ⟨Ao39, co39, eo39⟩ := Kd.R_slice HO148.out
          subst eo39
          go_wp2
          repeat (go_quiet (fail); try go_wp2)
          go_meet
          case rel => exact ⟨_, (true), (by first | rfl | (simp; done) | (simp [*]; done)), H', ⟨by first | omega | exact Nat.le_refl _⟩, ⟨by (with_reducible repeat (first | apply Kd.R_alloc | apply Kd.R_drewN | apply Kd.R_drew)); exact Kd.R_mono HO145.out (fun _ hk => hk.2)⟩, ⟨by (with_reducible repeat (first | apply Kd.R_alloc | apply Kd.R_drewN | apply Kd.R_drew)); exact Kd.R_mono HO148.out (fun _ hk => hk.2)⟩, ⟨by repeat (first | (with_reducible first | exact HB.out | apply below_alloc | apply pw_below_drewN | apply below_drew1) | exact HB.out)⟩⟩
      · rw [if_neg c12] at H
        have c12b0 : ((t143.length : Int) == (wrap64 ((l0.length : Int) + (wrap64 (2 * (l1.length : Int)))))) = false := beq_eq_false_iff_ne.mpr c12
        have c12b1 : ((t143.length : Int) != (wrap64 ((l0.length : Int) + (wrap64 (2 * (l1.length : Int)))))) = true := bne_iff_ne.mpr c12
        (try (have c12b2 : ((t143.length : Int) == (IntKind.i64.wrap ((l0.length : Int) + (IntKind.i64.wrap (2 * (l1.length : Int)))))) = false := by simp only [i64_w]; exact (beq_eq_false_iff_ne.mpr c12)))
        (try (have c12b3 : ((t143.length : Int) != (IntKind.i64.wrap ((l0.length : Int) + (IntKind.i64.wrap (2 * (l1.length : Int)))))) = true := by simp only [i64_w]; exact (bne_iff_ne.mpr c12)))
        (first | rw [c12b0] | (simp only [i64_w, i32_w]; rw [c12b0]) | skip)
        have H' := Aside0.mk H
        clear H
        obtain ⟨Ao40, co40, eo40⟩ := Kd.R_slice HO145.out
        subst eo40
        go_wp2
        repeat (go_quiet (fail); try go_wp2)
        go_meet
        case rel => exact ⟨_, (true), (by first | rfl | (simp; done) | (simp [*]; done)), H', ⟨by first | omega | exact Nat.le_refl _⟩, ⟨by (with_reducible repeat (first | apply Kd.R_alloc | apply Kd.R_drewN | apply Kd.R_drew)); exact Kd.R_mono HO145.out (fun _ hk => hk.2)⟩, ⟨by (with_reducible repeat (first | apply Kd.R_alloc | apply Kd.R_drewN | apply Kd.R_drew)); exact Kd.R_mono HO148.out (fun _ hk => hk.2)⟩, ⟨by repeat (first | (with_reducible first | exact HB.out | apply below_alloc | apply pw_below_drewN | apply below_drew1) | exact HB.out)⟩⟩
    case rest =>
      clear HC8
      try clear c1
      try clear c2
      try clear p2
      try clear q2
      try clear hcv2
      try clear q3
      try clear hcv3
      try clear c4
      try clear c5
      try clear p6
      try clear c12
      try clear c12b0
      try clear c12b1
      try clear c12b2
      try clear c13
      try clear c13b0
      try clear c13b1
      try clear c13b2
      try clear c14
      try clear c14b0
      try clear c14b1
      try clear c15
      try clear c15b0
      try clear c15b1
      try clear c16
      try clear c16b0
      try clear c16b1
      try clear c17
      try clear c17b0
      try clear c18
      try clear c18b0
      try clear c18b1
      try clear q21
      try clear hcv22
      try clear hcv24
      try clear q26
      try clear hcv27
      try clear hcv29
      try clear q33
      try clear hcv34
      try clear hcv36
      try clear q21
      try clear q26
      try clear q33
      obtain ⟨kq, x65_7, rfl, HA, HJ7, HO_7, HO_8, HB⟩ := hcut
      cases kq with
      | zero => exact absurd HA.out (by simp [bolterlaw01_NumPut.j0])
      | succ kj7 =>
        have H := HA.out
        clear HA
        simp only [bolterlaw01_NumPut.j0] at H
        by_cases c41 : x65_7 = true
        · subst c41
          have H1 : (some false) = some r := by rw [if_pos rfl] at H; exact H
          clear H
          have H := H1
          clear H1
          obtain rfl := Option.some.inj H
          go_wp2
          repeat (go_quiet (fail); try go_wp2)
          go_ret
          exact ⟨by first | rfl | (simp [errW_none, errW_some] <;> rfl) | (simp [*, errW_none, errW_some] <;> rfl), by repeat (first | (with_reducible first | exact HB.out | apply below_alloc | apply pw_below_drewN | apply below_drew1) | exact HB.out)⟩
        · replace c41 := Bool.eq_false_iff.mpr c41
          subst c41
          have H1 : (bolterlaw01_NumPut.l0 kj7 l0 l2 t143 t146 l1 (l1.length : Int) 0) = some r := by rw [if_neg (show ¬ (false = true) by decide)] at H; exact H
          clear H
          have H := H1
          clear H1
          have H' := Aside0.mk H
          clear H
          go_wp2
          repeat (go_quiet (fail); try go_wp2)
          go_loopg [68] kj7 (fun kq v68 w' => ∃ (x68_2 : Int), v68 = .int .i64 x68_2 ∧ Aside0 (bolterlaw01_NumPut.l0 kq l0 l2 t143 t146 l1 (l1.length : Int) x68_2 = some r) ∧ Aside0 (kq ≤ kj7) ∧ Aside0 (Kd.R (Kd.int .u8) 5 w' w.heap.size (fun k_ => some k_ ≠ (v147 : Value).ownBlock) v144 t143) ∧ Aside0 (Kd.R (Kd.int .u8) 5 w' w.heap.size (fun k_ => some k_ ≠ (v144 : Value).ownBlock) v147 t146) ∧ Aside0 (Below w.heap.size w w'))
          case atStart => exact ⟨(0), (by first | rfl | (simp; done) | (simp [*]; done)), H', ⟨Nat.le_refl _⟩, ⟨by (with_reducible repeat (first | apply Kd.R_alloc | apply Kd.R_drewN | apply Kd.R_drew)); exact HO_7.out⟩, ⟨by (with_reducible repeat (first | apply Kd.R_alloc | apply Kd.R_drewN | apply Kd.R_drew)); exact HO_8.out⟩, ⟨by repeat (first | (with_reducible first | exact HB.out | apply below_alloc | apply pw_below_drewN | apply below_drew1) | exact HB.out)⟩⟩
          case round =>
            clear H'
            try clear c1
            try clear c2
            try clear p2
            try clear q2
            try clear hcv2
            try clear q3
            try clear hcv3
            try clear c4
            try clear c5
            try clear p6
            try clear c12
            try clear c12b0
            try clear c12b1
            try clear c12b2
            try clear c13
            try clear c13b0
            try clear c13b1
            try clear c13b2
            try clear c14
            try clear c14b0
            try clear c14b1
            try clear c15
            try clear c15b0
            try clear c15b1
            try clear c16
            try clear c16b0
            try clear c16b1
            try clear c17
            try clear c17b0
            try clear c18
            try clear c18b0
            try clear c18b1
            try clear q21
            try clear hcv22
            try clear hcv24
            try clear q26
            try clear hcv27
            try clear hcv29
            try clear q33
            try clear hcv34
            try clear hcv36
            try clear c41
            try clear p2
            try clear p6
            try clear q2
            try clear q21
            try clear q26
            try clear q3
            try clear q33
            obtain ⟨x68_2, rfl, HA, HK2, HO_7, HO_8, HB⟩ := hrel
            cases gk with
            | zero => exact absurd HA.out (by simp [bolterlaw01_NumPut.l0])
            | succ k2 =>
              have H := HA.out
              clear HA
              simp only [bolterlaw01_NumPut.l0] at H
              by_cases c42 : x68_2 < (l1.length : Int)
              · rw [if_pos c42] at H
                have c42b0 : decide (x68_2 < (l1.length : Int)) = true := decide_eq_true c42
                clear c42
                by_cases c43 : 0 ≤ x68_2
                · rw [if_pos c43] at H
                  have c43b0 : decide (0 ≤ x68_2) = true := decide_eq_true c43
                  clear c43
                  by_cases c44 : x68_2 < (l1.length : Int)
                  · rw [if_pos c44] at H
                    have c44b0 : decide (x68_2 < (l1.length : Int)) = true := decide_eq_true c44
                    clear c44
                    obtain ⟨ji45, hji45⟩ : ∃ j_ : Int, (wrap64 ((l0.length : Int) + (wrap64 (2 * x68_2)))) = j_ := ⟨_, rfl⟩
                    replace H : (if 0 ≤ (ji45) then (if (ji45) < (t143.length : Int) then (if 0 ≤ (wrap64 ((ji45) + 1)) then (if (wrap64 ((ji45) + 1)) < (t143.length : Int) then (if (wrap64 ((wrap64 ((wrap64 (rd t143 (ji45))) * 256)) + (wrap64 (rd t143 (wrap64 ((ji45) + 1)))))) = (wrap64 (rd l1 x68_2)) then (bolterlaw01_NumPut.l0 k2 l0 l2 t143 t146 l1 (l1.length : Int) (wrap64 (x68_2 + 1))) else (some false)) else (none)) else (none)) else (none)) else (none)) = some r := by first | (rw [hji45] at H; exact H) | (simp only [hji45] at H ⊢; exact H)
                    have hji45w : (IntKind.i64.wrap ((l0.length : Int) + (wrap64 (2 * x68_2)))) = ji45 := (i64_w _).trans hji45
                    by_cases c46 : 0 ≤ (ji45)
                    · rw [if_pos c46] at H
                      have c46b0 : decide (0 ≤ (ji45)) = true := decide_eq_true c46
                      clear c46
                      by_cases c47 : (ji45) < (t143.length : Int)
                      · rw [if_pos c47] at H
                        have c47b0 : decide ((ji45) < (t143.length : Int)) = true := decide_eq_true c47
                        clear c47
                        obtain ⟨ji48, hji48⟩ : ∃ j_ : Int, (wrap64 ((ji45) + 1)) = j_ := ⟨_, rfl⟩
                        replace H : (if 0 ≤ (ji48) then (if (ji48) < (t143.length : Int) then (if (wrap64 ((wrap64 ((wrap64 (rd t143 (ji45))) * 256)) + (wrap64 (rd t143 (ji48))))) = (wrap64 (rd l1 x68_2)) then (bolterlaw01_NumPut.l0 k2 l0 l2 t143 t146 l1 (l1.length : Int) (wrap64 (x68_2 + 1))) else (some false)) else (none)) else (none)) = some r := by first | (rw [hji48] at H; exact H) | (simp only [hji48] at H ⊢; exact H)
                        have hji48w : (IntKind.i64.wrap ((ji45) + 1)) = ji48 := (i64_w _).trans hji48
                        by_cases c49 : 0 ≤ (ji48)
                        · rw [if_pos c49] at H
                          have c49b0 : decide (0 ≤ (ji48)) = true := decide_eq_true c49
                          clear c49
                          by_cases c50 : (ji48) < (t143.length : Int)
                          · rw [if_pos c50] at H
                            have c50b0 : decide ((ji48) < (t143.length : Int)) = true := decide_eq_true c50
                            clear c50
                            by_cases c51 : (wrap64 ((wrap64 ((wrap64 (rd t143 (ji45))) * 256)) + (wrap64 (rd t143 (ji48))))) = (wrap64 (rd l1 x68_2))
                            · rw [if_pos c51] at H
                              have c51b0 : ((wrap64 ((wrap64 ((wrap64 (rd t143 (ji45))) * 256)) + (wrap64 (rd t143 (ji48))))) == (wrap64 (rd l1 x68_2))) = true := beq_iff_eq.mpr c51
                              have c51b1 : ((wrap64 ((wrap64 ((wrap64 (rd t143 (ji45))) * 256)) + (wrap64 (rd t143 (ji48))))) != (wrap64 (rd l1 x68_2))) = false := bne_eq_false_iff_eq.mpr c51
                              (try (have c51b2 : ((IntKind.i64.wrap ((IntKind.i64.wrap ((IntKind.i64.wrap (rd t143 (ji45))) * 256)) + (IntKind.i64.wrap (rd t143 (ji48))))) == (IntKind.i64.wrap (rd l1 x68_2))) = true := by simp only [i64_w]; exact (beq_iff_eq.mpr c51)))
                              (try (have c51b3 : ((IntKind.i64.wrap ((IntKind.i64.wrap ((IntKind.i64.wrap (rd t143 (ji45))) * 256)) + (IntKind.i64.wrap (rd t143 (ji48))))) != (IntKind.i64.wrap (rd l1 x68_2))) = false := by simp only [i64_w]; exact (bne_eq_false_iff_eq.mpr c51)))
                              clear c51
                              have H' := Aside0.mk H
                              clear H
                              have p157 : 0 ≤ (x68_2 : Int) := of_decide_eq_true (by first | (with_reducible assumption) | assumption)
                              have q157 : x68_2 < (l1.length : Int) := of_decide_eq_true (by first | (with_reducible assumption) | assumption)
                              obtain ⟨ad157, e157, hx157_0⟩ := Kd.at_int HR1.out x68_2 p157 q157
                              cases e157
                              replace hx157_0 := (HB.out.cell (World.block_lt_of_cell? w _ hx157_0)).trans hx157_0
                              replace p157 := eq_true p157
                              replace q157 := eq_true q157
                              obtain ⟨Ao52, co52, eo52⟩ := Kd.R_slice HO_7.out
                              subst eo52
                              have p158 : 0 ≤ ((ji45) : Int) := of_decide_eq_true (by first | (with_reducible assumption) | assumption)
                              have q158 : (ji45) < (t143.length : Int) := of_decide_eq_true (by first | (with_reducible assumption) | assumption)
                              obtain ⟨ad158, e158, hx158_0⟩ := Kd.at_int (Kd.R_reads' HO_7.out).2.2 (ji45) p158 q158
                              cases e158
                              replace p158 := eq_true p158
                              replace q158 := eq_true q158
                              have p159 : 0 ≤ ((ji48) : Int) := of_decide_eq_true (by first | (with_reducible assumption) | assumption)
                              have q159 : (ji48) < (t143.length : Int) := of_decide_eq_true (by first | (with_reducible assumption) | assumption)
                              obtain ⟨ad159, e159, hx159_0⟩ := Kd.at_int (Kd.R_reads' HO_7.out).2.2 (ji48) p159 q159
                              obtain rfl : ad158 = ad159 := (by injection e159)
                              replace p159 := eq_true p159
                              replace q159 := eq_true q159
                              go_wp2
                              repeat (go_quiet (fail); try go_wp2)
                              go_roundg k2
                              case measure => have := HJ7.out; have := HK2.out; omega
                              case rel => exact ⟨(wrap64 (x68_2 + 1)), (by first | rfl | (simp; done) | (simp [*]; done)), H', ⟨by have := HJ7.out; have := HK2.out; omega⟩, ⟨by (with_reducible repeat (first | apply Kd.R_alloc | apply Kd.R_drewN | apply Kd.R_drew)); exact HO_7.out⟩, ⟨by (with_reducible repeat (first | apply Kd.R_alloc | apply Kd.R_drewN | apply Kd.R_drew)); exact HO_8.out⟩, ⟨by repeat (first | (with_reducible first | exact HB.out | apply below_alloc | apply pw_below_drewN | apply below_drew1) | exact HB.out)⟩⟩
                            · rw [if_neg c51] at H
                              have c51b0 : ((wrap64 ((wrap64 ((wrap64 (rd t143 (ji45))) * 256)) + (wrap64 (rd t143 (ji48))))) == (wrap64 (rd l1 x68_2))) = false := beq_eq_false_iff_ne.mpr c51
                              have c51b1 : ((wrap64 ((wrap64 ((wrap64 (rd t143 (ji45))) * 256)) + (wrap64 (rd t143 (ji48))))) != (wrap64 (rd l1 x68_2))) = true := bne_iff_ne.mpr c51
                              (try (have c51b2 : ((IntKind.i64.wrap ((IntKind.i64.wrap ((IntKind.i64.wrap (rd t143 (ji45))) * 256)) + (IntKind.i64.wrap (rd t143 (ji48))))) == (IntKind.i64.wrap (rd l1 x68_2))) = false := by simp only [i64_w]; exact (beq_eq_false_iff_ne.mpr c51)))
                              (try (have c51b3 : ((IntKind.i64.wrap ((IntKind.i64.wrap ((IntKind.i64.wrap (rd t143 (ji45))) * 256)) + (IntKind.i64.wrap (rd t143 (ji48))))) != (IntKind.i64.wrap (rd l1 x68_2))) = true := by simp only [i64_w]; exact (bne_iff_ne.mpr c51)))
                              obtain rfl := Option.some.inj H
                              have p157 : 0 ≤ (x68_2 : Int) := of_decide_eq_true (by first | (with_reducible assumption) | assumption)
                              have q157 : x68_2 < (l1.length : Int) := of_decide_eq_true (by first | (with_reducible assumption) | assumption)
                              obtain ⟨ad157, e157, hx157_0⟩ := Kd.at_int HR1.out x68_2 p157 q157
                              cases e157
                              replace hx157_0 := (HB.out.cell (World.block_lt_of_cell? w _ hx157_0)).trans hx157_0
                              replace p157 := eq_true p157
                              replace q157 := eq_true q157
                              obtain ⟨Ao53, co53, eo53⟩ := Kd.R_slice HO_7.out
                              subst eo53
                              have p158 : 0 ≤ ((ji45) : Int) := of_decide_eq_true (by first | (with_reducible assumption) | assumption)
                              have q158 : (ji45) < (t143.length : Int) := of_decide_eq_true (by first | (with_reducible assumption) | assumption)
                              obtain ⟨ad158, e158, hx158_0⟩ := Kd.at_int (Kd.R_reads' HO_7.out).2.2 (ji45) p158 q158
                              cases e158
                              replace p158 := eq_true p158
                              replace q158 := eq_true q158
                              have p159 : 0 ≤ ((ji48) : Int) := of_decide_eq_true (by first | (with_reducible assumption) | assumption)
                              have q159 : (ji48) < (t143.length : Int) := of_decide_eq_true (by first | (with_reducible assumption) | assumption)
                              obtain ⟨ad159, e159, hx159_0⟩ := Kd.at_int (Kd.R_reads' HO_7.out).2.2 (ji48) p159 q159
                              obtain rfl : ad158 = ad159 := (by injection e159)
                              replace p159 := eq_true p159
                              replace q159 := eq_true q159
                              go_wp2
                              repeat (go_quiet (fail); try go_wp2)
                              go_ret
                              exact ⟨by first | rfl | (simp [errW_none, errW_some] <;> rfl) | (simp only [← hji45, ← hji48]; first | rfl | (simp [errW_none, errW_some] <;> rfl)) | (simp [*, errW_none, errW_some] <;> rfl), by repeat (first | (with_reducible first | exact HB.out | apply below_alloc | apply pw_below_drewN | apply below_drew1) | exact HB.out)⟩
                          · rw [if_neg c50] at H
                            exact absurd H (by simp)
                        · rw [if_neg c49] at H
                          exact absurd H (by simp)
                      · rw [if_neg c47] at H
                        exact absurd H (by simp)
                    · rw [if_neg c46] at H
                      exact absurd H (by simp)
                  · rw [if_neg c44] at H
                    exact absurd H (by simp)
                · rw [if_neg c43] at H
                  exact absurd H (by simp)
              · rw [if_neg c42] at H
                have c42b0 : decide (x68_2 < (l1.length : Int)) = false := decide_eq_false c42
                clear c42
                have H' := Aside0.mk H
                clear H
                go_wp2
                repeat (go_quiet (fail); try go_wp2)
                go_loopg [97] k2 (fun kq v97 w' => ∃ (x97_3 : Int), v97 = .int .i64 x97_3 ∧ Aside0 (bolterlaw01_NumPut.l1 kq l0 t146 l2 (l2.length : Int) x97_3 = some r) ∧ Aside0 (kq ≤ k2) ∧ Aside0 (Kd.R (Kd.int .u8) 5 w' w.heap.size (fun _ => True) v147 t146) ∧ Aside0 (Below w.heap.size w w'))
                case atStart => exact ⟨(0), (by first | rfl | (simp; done) | (simp [*]; done)), H', ⟨Nat.le_refl _⟩, ⟨by (with_reducible repeat (first | apply Kd.R_alloc | apply Kd.R_drewN | apply Kd.R_drew)); exact Kd.R_mono HO_8.out (fun _ hk => trivial)⟩, ⟨by repeat (first | (with_reducible first | exact HB.out | apply below_alloc | apply pw_below_drewN | apply below_drew1) | exact HB.out)⟩⟩
                case round =>
                  clear H'
                  try clear c1
                  try clear p1
                  try clear q1
                  try clear hx1
                  try clear c2
                  try clear p2
                  try clear q2
                  try clear hcv2
                  try clear q3
                  try clear hcv3
                  try clear c4
                  try clear c5
                  try clear p6
                  try clear c12
                  try clear c12b0
                  try clear c12b1
                  try clear c12b2
                  try clear c13
                  try clear c13b0
                  try clear c13b1
                  try clear c13b2
                  try clear c14
                  try clear c14b0
                  try clear c14b1
                  try clear c15
                  try clear c15b0
                  try clear c15b1
                  try clear p15
                  try clear q15
                  try clear hx15
                  try clear c16
                  try clear c16b0
                  try clear c16b1
                  try clear c17
                  try clear c17b0
                  try clear c18
                  try clear c18b0
                  try clear c18b1
                  try clear q21
                  try clear hcv22
                  try clear hcv24
                  try clear q26
                  try clear hcv27
                  try clear hcv29
                  try clear q33
                  try clear hcv34
                  try clear hcv36
                  try clear c41
                  try clear c42
                  try clear c42b0
                  try clear c43
                  try clear c43b0
                  try clear c44
                  try clear c44b0
                  try clear c46
                  try clear c46b0
                  try clear c47
                  try clear c47b0
                  try clear c49
                  try clear c49b0
                  try clear c50
                  try clear c50b0
                  try clear c51
                  try clear c51b0
                  try clear c51b1
                  try clear c51b2
                  try clear hx157_0
                  try clear hx158_0
                  try clear hx159_0
                  try clear p157
                  try clear p158
                  try clear p159
                  try clear p2
                  try clear p6
                  try clear q157
                  try clear q158
                  try clear q159
                  try clear q2
                  try clear q21
                  try clear q26
                  try clear q3
                  try clear q33
                  obtain ⟨x97_3, rfl, HA, HK3, HO_8, HB⟩ := hrel
                  cases gk with
                  | zero => exact absurd HA.out (by simp [bolterlaw01_NumPut.l1])
                  | succ k3 =>
                    have H := HA.out
                    clear HA
                    simp only [bolterlaw01_NumPut.l1] at H
                    by_cases c54 : x97_3 < (l2.length : Int)
                    · rw [if_pos c54] at H
                      have c54b0 : decide (x97_3 < (l2.length : Int)) = true := decide_eq_true c54
                      clear c54
                      by_cases c55 : 0 ≤ x97_3
                      · rw [if_pos c55] at H
                        have c55b0 : decide (0 ≤ x97_3) = true := decide_eq_true c55
                        clear c55
                        by_cases c56 : x97_3 < (l2.length : Int)
                        · rw [if_pos c56] at H
                          have c56b0 : decide (x97_3 < (l2.length : Int)) = true := decide_eq_true c56
                          clear c56
                          obtain ⟨ji57, hji57⟩ : ∃ j_ : Int, (wrap64 ((l0.length : Int) + (wrap64 (4 * x97_3)))) = j_ := ⟨_, rfl⟩
                          replace H : (if 0 ≤ (ji57) then (if (ji57) ≤ (wrap64 ((ji57) + 4)) then (if (wrap64 ((ji57) + 4)) ≤ (t146.length : Int) then ((some ((t146.take ((wrap64 ((ji57) + 4)) : Int).toNat).drop ((ji57) : Int).toNat : List Int)).bind fun y161 => (bolterlaw01_NumPut.l2 k3 l0 t146 (rd l2 x97_3) 0 l2 (l2.length : Int) x97_3 y161 (y161.length : Int) 0)) else (none)) else (none)) else (none)) = some r := by first | (rw [hji57] at H; exact H) | (simp only [hji57] at H ⊢; exact H)
                          have hji57w : (IntKind.i64.wrap ((l0.length : Int) + (wrap64 (4 * x97_3)))) = ji57 := (i64_w _).trans hji57
                          by_cases c58 : 0 ≤ (ji57)
                          · rw [if_pos c58] at H
                            have c58b0 := eq_true c58
                            have c58b1 : decide (0 ≤ (ji57)) = true := decide_eq_true c58
                            clear c58
                            by_cases c59 : (ji57) ≤ (wrap64 ((ji57) + 4))
                            · rw [if_pos c59] at H
                              have c59b0 := eq_true c59
                              have c59b1 : decide ((ji57) ≤ (wrap64 ((ji57) + 4))) = true := decide_eq_true c59
                              by_cases c60 : (wrap64 ((ji57) + 4)) ≤ (t146.length : Int)
                              · rw [if_pos c60] at H
                                have c60b0 := eq_true c60
                                have c60b1 : decide ((wrap64 ((ji57) + 4)) ≤ (t146.length : Int)) = true := decide_eq_true c60
                                obtain ⟨y161, hy161⟩ : ∃ y_ : List Int, y_ = ((t146.take ((wrap64 ((ji57) + 4)) : Int).toNat).drop ((ji57) : Int).toNat) := ⟨_, rfl⟩
                                replace H : (bolterlaw01_NumPut.l2 k3 l0 t146 (rd l2 x97_3) 0 l2 (l2.length : Int) x97_3 y161 (y161.length : Int) 0) = some r := by first | (rw [hy161]; with_reducible exact H) | (have H2_ := (Option.bind_some _ _).symm.trans H; rw [hy161]; with_reducible exact H2_) | (have H2_ := (Option.bind_some _ _).symm.trans H; with_reducible exact H2_) | with_reducible exact H | (rw [hy161]; exact H) | exact H
                                have Ny161 := Aside0.mk hy161
                                clear hy161
                                have H' := Aside0.mk H
                                clear H
                                have p160 : 0 ≤ (x97_3 : Int) := of_decide_eq_true (by first | (with_reducible assumption) | assumption)
                                have q160 : x97_3 < (l2.length : Int) := of_decide_eq_true (by first | (with_reducible assumption) | assumption)
                                obtain ⟨ad160, e160, hx160_0⟩ := Kd.at_int HR2.out x97_3 p160 q160
                                cases e160
                                replace hx160_0 := (HB.out.cell (World.block_lt_of_cell? w _ hx160_0)).trans hx160_0
                                replace p160 := eq_true p160
                                replace q160 := eq_true q160
                                obtain ⟨Ao62, co62, eo62⟩ := Kd.R_slice HO_8.out
                                subst eo62
                                have q61 : ((wrap64 ((ji57) + 4)) : Int) ≤ ((t146.length : Int) : Int) := of_decide_eq_true (by first | (with_reducible assumption) | assumption)
                                obtain ⟨i061, hi061, _, hsz61, _⟩ := info_parts info5
                                have hroom61 : t146.length ≤ co62 := (Kd.R_reads' HO_8.out).2.1
                                have hC61 : Kd.C (Kd.int .u8) _ Ao62 t146.length t146 := (Kd.R_reads' HO_8.out).2.2
                                have ql61 : ((ji57) : Int) ≤ ((wrap64 ((ji57) + 4)) : Int) := of_decide_eq_true (by first | (with_reducible assumption) | assumption)
                                have q061 : (0 : Int) ≤ ((ji57) : Int) := of_decide_eq_true (by first | (with_reducible assumption) | assumption)
                                have hcut61 := cut_mid (P := Try.prog) 29 5 .i64 .i64 Try.underlying29 hi061 1 hsz61 Ao62 t146.length co62 (ji57) (wrap64 ((ji57) + 4)) q061 ql61 q61 hroom61
                                have hr61 := Kd.C_mid (lo := ((ji57) : Int).toNat) (hi := ((wrap64 ((ji57) + 4)) : Int).toNat) (c := co62) hC61 (by omega) (by omega) hroom61
                                obtain ⟨A61, hA61⟩ : ∃ A1, A1 = (if co62 = ((ji57) : Int).toNat then Ao62 else (Ao62 : Option Addr).map (·.add (((ji57) : Int).toNat * 1))) := ⟨_, rfl⟩
                                obtain ⟨c61, hc61⟩ : ∃ c1, c1 = co62 - ((ji57) : Int).toNat := ⟨_, rfl⟩
                                have hy61 : y161.length = ((wrap64 ((ji57) + 4)) : Int).toNat - ((ji57) : Int).toNat := (by rw [Ny161.out, List.length_drop, List.length_take] <;> omega)
                                rw [show ((t146).take ((wrap64 ((ji57) + 4)) : Int).toNat).drop ((ji57) : Int).toNat = y161 from Ny161.out.symm] at hr61
                                replace hr61 : Kd.C (Kd.int .u8) _ A61 y161.length y161 := (by rw [hA61]; exact hr61)
                                rw [← hy61, ← hA61, ← hc61] at hcut61
                                have HR164 := Aside0.mk hr61
                                have HC164 := Aside0.mk (show y161.length ≤ c61 from by rw [hy61, hc61]; exact Nat.sub_le_sub_right (Nat.le_trans (by omega) hroom61) _)
                                clear hr61 hC61 hroom61 hi061 hsz61 hc61
                                have KY61 := Aside0.mk hy61
                                have KA61 := Aside0.mk hA61
                                clear hy61 hA61
                                have KL61 := Aside0.mk (show ((wrap64 ((ji57) + 4)) : Int).toNat ≤ t146.length from by omega)
                                have KM61 := Aside0.mk (show ((ji57) : Int).toNat ≤ ((wrap64 ((ji57) + 4)) : Int).toNat from by omega)
                                replace q61 := eq_true q61
                                go_wp2
                                repeat (go_quiet (fail); try go_wp2)
                                go_loopg [15, 113] k3 (fun kq v15 v113 w' => ∃ (x15_4 : Int) (x113_4 : Int), v15 = .int .i64 x15_4 ∧ v113 = .int .i64 x113_4 ∧ Aside0 (bolterlaw01_NumPut.l2 kq l0 t146 (rd l2 x97_3) x15_4 l2 (l2.length : Int) x97_3 y161 (y161.length : Int) x113_4 = some r) ∧ Aside0 (kq ≤ k3) ∧ Aside0 (Kd.R (Kd.int .u8) 5 w' w.heap.size (fun _ => True) (.slice Ao62 t146.length co62) t146) ∧ Aside0 (Kd.C (Kd.int .u8) w' A61 y161.length y161) ∧ Aside0 (Below w.heap.size w w'))
                                case atStart => exact ⟨(0), (0), (by first | rfl | (simp; done) | (simp [*]; done)), (by first | rfl | (simp; done) | (simp [*]; done)), H', ⟨Nat.le_refl _⟩, ⟨by (with_reducible repeat (first | apply Kd.R_alloc | apply Kd.R_drewN | apply Kd.R_drew)); exact HO_8.out⟩, ⟨by repeat (first | (with_reducible exact HR164.out) | (with_reducible refine Kd.C_alloc ?_ _) | (with_reducible refine Kd.C_drewN ?_ _) | (with_reducible refine Kd.C_drew ?_) | exact HR164.out)⟩, ⟨by repeat (first | (with_reducible first | exact HB.out | apply below_alloc | apply pw_below_drewN | apply below_drew1) | exact HB.out)⟩⟩
                                case round =>
                                  clear H'
                                  try clear c1
                                  try clear p1
                                  try clear q1
                                  try clear hx1
                                  try clear c2
                                  try clear p2
                                  try clear q2
                                  try clear hcv2
                                  try clear q3
                                  try clear hcv3
                                  try clear c4
                                  try clear c5
                                  try clear c6
                                  try clear p6
                                  try clear q6
                                  try clear c12
                                  try clear c12b0
                                  try clear c12b1
                                  try clear c12b2
                                  try clear c13
                                  try clear c13b0
                                  try clear c13b1
                                  try clear c13b2
                                  try clear c14
                                  try clear c14b0
                                  try clear c14b1
                                  try clear c15
                                  try clear c15b0
                                  try clear c15b1
                                  try clear p15
                                  try clear q15
                                  try clear hx15
                                  try clear c16
                                  try clear c16b0
                                  try clear c16b1
                                  try clear p16
                                  try clear q16
                                  try clear hx16
                                  try clear c17
                                  try clear c17b0
                                  try clear c18
                                  try clear c18b0
                                  try clear c18b1
                                  try clear q21
                                  try clear hcv22
                                  try clear hcv24
                                  try clear q26
                                  try clear hcv27
                                  try clear hcv29
                                  try clear q33
                                  try clear hcv34
                                  try clear hcv36
                                  try clear c41
                                  try clear c42
                                  try clear c42b0
                                  try clear c43
                                  try clear c43b0
                                  try clear c44
                                  try clear c44b0
                                  try clear c46
                                  try clear c46b0
                                  try clear c47
                                  try clear c47b0
                                  try clear c49
                                  try clear c49b0
                                  try clear c50
                                  try clear c50b0
                                  try clear c51
                                  try clear c51b0
                                  try clear c51b1
                                  try clear c51b2
                                  try clear c54
                                  try clear c54b0
                                  try clear c55
                                  try clear c55b0
                                  try clear c56
                                  try clear c56b0
                                  try clear c58
                                  try clear c58b0
                                  try clear c58b1
                                  try clear c59
                                  try clear c59b0
                                  try clear c59b1
                                  try clear c60
                                  try clear c60b0
                                  try clear c60b1
                                  try clear c61
                                  try clear q61
                                  try clear hx157_0
                                  try clear hx158_0
                                  try clear hx159_0
                                  try clear hx160_0
                                  try clear p1
                                  try clear p15
                                  try clear p157
                                  try clear p158
                                  try clear p159
                                  try clear p160
                                  try clear p2
                                  try clear p6
                                  try clear q061
                                  try clear q1
                                  try clear q15
                                  try clear q157
                                  try clear q158
                                  try clear q159
                                  try clear q160
                                  try clear q2
                                  try clear q21
                                  try clear q26
                                  try clear q3
                                  try clear q33
                                  try clear q61
                                  obtain ⟨x15_4, x113_4, rfl, rfl, HA, HK4, HO_8, HR164, HB⟩ := hrel
                                  cases gk with
                                  | zero => exact absurd HA.out (by simp [bolterlaw01_NumPut.l2])
                                  | succ k4 =>
                                    have H := HA.out
                                    clear HA
                                    simp only [bolterlaw01_NumPut.l2] at H
                                    by_cases c63 : x113_4 < (y161.length : Int)
                                    · rw [if_pos c63] at H
                                      have c63b0 : decide (x113_4 < (y161.length : Int)) = true := decide_eq_true c63
                                      clear c63
                                      by_cases c64 : 0 ≤ x113_4
                                      · rw [if_pos c64] at H
                                        have c64b0 : decide (0 ≤ x113_4) = true := decide_eq_true c64
                                        clear c64
                                        by_cases c65 : x113_4 < (y161.length : Int)
                                        · rw [if_pos c65] at H
                                          have c65b0 : decide (x113_4 < (y161.length : Int)) = true := decide_eq_true c65
                                          clear c65
                                          have H' := Aside0.mk H
                                          clear H
                                          have p165 : 0 ≤ (x113_4 : Int) := of_decide_eq_true (by first | (with_reducible assumption) | assumption)
                                          have q165 : x113_4 < (y161.length : Int) := of_decide_eq_true (by first | (with_reducible assumption) | assumption)
                                          obtain ⟨ad165, e165, hx165_0⟩ := Kd.at_int HR164.out x113_4 p165 q165
                                          cases e165
                                          replace p165 := eq_true p165
                                          replace q165 := eq_true q165
                                          go_wp2
                                          repeat (go_quiet (fail); try go_wp2)
                                          go_roundg k4
                                          case measure => have := HJ7.out; have := HK2.out; have := HK3.out; have := HK4.out; omega
                                          case rel => exact ⟨(wrap64 ((wrap64 (x15_4 * 256)) + (wrap64 (rd y161 x113_4)))), (wrap64 (x113_4 + 1)), (by first | rfl | (simp; done) | (simp [*]; done)), (by first | rfl | (simp; done) | (simp [*]; done)), H', ⟨by have := HJ7.out; have := HK2.out; have := HK3.out; have := HK4.out; omega⟩, ⟨by (with_reducible repeat (first | apply Kd.R_alloc | apply Kd.R_drewN | apply Kd.R_drew)); exact HO_8.out⟩, ⟨by repeat (first | (with_reducible exact HR164.out) | (with_reducible refine Kd.C_alloc ?_ _) | (with_reducible refine Kd.C_drewN ?_ _) | (with_reducible refine Kd.C_drew ?_) | exact HR164.out)⟩, ⟨by repeat (first | (with_reducible first | exact HB.out | apply below_alloc | apply pw_below_drewN | apply below_drew1) | exact HB.out)⟩⟩
                                        · rw [if_neg c65] at H
                                          exact absurd H (by simp)
                                      · rw [if_neg c64] at H
                                        exact absurd H (by simp)
                                    · rw [if_neg c63] at H
                                      have c63b0 : decide (x113_4 < (y161.length : Int)) = false := decide_eq_false c63
                                      clear c63
                                      by_cases c66 : x15_4 = (wrap64 ((rd l2 x97_3)))
                                      · rw [if_pos c66] at H
                                        have c66b0 : (x15_4 == (wrap64 ((rd l2 x97_3)))) = true := beq_iff_eq.mpr c66
                                        have c66b1 : (x15_4 != (wrap64 ((rd l2 x97_3)))) = false := bne_eq_false_iff_eq.mpr c66
                                        (try (have c66b2 : (x15_4 == (IntKind.i64.wrap ((rd l2 x97_3)))) = true := by simp only [i64_w]; exact (beq_iff_eq.mpr c66)))
                                        (try (have c66b3 : (x15_4 != (IntKind.i64.wrap ((rd l2 x97_3)))) = false := by simp only [i64_w]; exact (bne_eq_false_iff_eq.mpr c66)))
                                        clear c66
                                        have H' := Aside0.mk H
                                        clear H
                                        go_wp2
                                        repeat (go_quiet (fail); try go_wp2)
                                        go_roundg k4
                                        case measure => have := HJ7.out; have := HK2.out; have := HK3.out; have := HK4.out; omega
                                        case rel => exact ⟨(wrap64 (x97_3 + 1)), (by first | rfl | (simp; done) | (simp [*]; done)), H', ⟨by have := HJ7.out; have := HK2.out; have := HK3.out; have := HK4.out; omega⟩, ⟨by (with_reducible repeat (first | apply Kd.R_alloc | apply Kd.R_drewN | apply Kd.R_drew)); exact HO_8.out⟩, ⟨by repeat (first | (with_reducible first | exact HB.out | apply below_alloc | apply pw_below_drewN | apply below_drew1) | exact HB.out)⟩⟩
                                      · rw [if_neg c66] at H
                                        have c66b0 : (x15_4 == (wrap64 ((rd l2 x97_3)))) = false := beq_eq_false_iff_ne.mpr c66
                                        have c66b1 : (x15_4 != (wrap64 ((rd l2 x97_3)))) = true := bne_iff_ne.mpr c66
                                        (try (have c66b2 : (x15_4 == (IntKind.i64.wrap ((rd l2 x97_3)))) = false := by simp only [i64_w]; exact (beq_eq_false_iff_ne.mpr c66)))
                                        (try (have c66b3 : (x15_4 != (IntKind.i64.wrap ((rd l2 x97_3)))) = true := by simp only [i64_w]; exact (bne_iff_ne.mpr c66)))
                                        obtain rfl := Option.some.inj H
                                        go_wp2
                                        repeat (go_quiet (fail); try go_wp2)
                                        go_ret
                                        exact ⟨by first | rfl | (simp [errW_none, errW_some] <;> rfl) | (simp only [← hji57]; first | rfl | (simp [errW_none, errW_some] <;> rfl)) | (simp [*, errW_none, errW_some] <;> rfl), by repeat (first | (with_reducible first | exact HB.out | apply below_alloc | apply pw_below_drewN | apply below_drew1) | exact HB.out)⟩
                              · rw [if_neg c60] at H
                                exact absurd H (by simp)
                            · rw [if_neg c59] at H
                              exact absurd H (by simp)
                          · rw [if_neg c58] at H
                            exact absurd H (by simp)
                        · rw [if_neg c56] at H
                          exact absurd H (by simp)
                      · rw [if_neg c55] at H
                        exact absurd H (by simp)
                    · rw [if_neg c54] at H
                      have c54b0 : decide (x97_3 < (l2.length : Int)) = false := decide_eq_false c54
                      clear c54
                      obtain rfl := Option.some.inj H
                      go_wp2
                      repeat (go_quiet (fail); try go_wp2)
                      go_ret
                      exact ⟨by first | rfl | (simp [errW_none, errW_some] <;> rfl) | (simp [*, errW_none, errW_some] <;> rfl), by repeat (first | (with_reducible first | exact HB.out | apply below_alloc | apply pw_below_drewN | apply below_drew1) | exact HB.out)⟩
  · replace c5 := Bool.eq_false_iff.mpr c5
    subst c5
    have H1 : (some false) = some r := by rw [if_neg (show ¬ (false = true) by decide)] at H; exact H
    clear H
    have H := H1
    clear H1
    obtain rfl := Option.some.inj H
    go_enter Try.func4, Try.ntmps4
    go_wp2_with (first | (go_at_call 8; (with_reducible refine (bolterlaw01_awake.calls k  false _ A4.out).mono ?_); rintro e w67 ⟨rfl, hb⟩; have n0_ := Aside0.mk (below_step (by repeat (first | (with_reducible first | exact HB.out | apply below_alloc | apply pw_below_drewN | apply below_drew1) | exact HB.out)) hb); clear HB; have HB := n0_; clear n0_; (try clear hb); (try clear hb2); (try clear hk); (try clear hi)))
    repeat (go_quiet (first | (go_at_call 8; (with_reducible refine (bolterlaw01_awake.calls k  false _ A4.out).mono ?_); rintro e w67 ⟨rfl, hb⟩; have n0_ := Aside0.mk (below_step (by repeat (first | (with_reducible first | exact HB.out | apply below_alloc | apply pw_below_drewN | apply below_drew1) | exact HB.out)) hb); clear HB; have HB := n0_; clear n0_; (try clear hb); (try clear hb2); (try clear hk); (try clear hi))); try go_wp2_with (first | (go_at_call 8; (with_reducible refine (bolterlaw01_awake.calls k  false _ A4.out).mono ?_); rintro e w67 ⟨rfl, hb⟩; have n0_ := Aside0.mk (below_step (by repeat (first | (with_reducible first | exact HB.out | apply below_alloc | apply pw_below_drewN | apply below_drew1) | exact HB.out)) hb); clear HB; have HB := n0_; clear n0_; (try clear hb); (try clear hb2); (try clear hk); (try clear hi))))
    go_ret
    exact ⟨by first | rfl | (simp [errW_none, errW_some] <;> rfl) | (simp [*, errW_none, errW_some] <;> rfl), by repeat (first | (with_reducible first | exact HB.out | apply below_alloc | apply pw_below_drewN | apply below_drew1) | exact HB.out)⟩

/-- THE ONE PURE STATEMENT of bolterlaw01_NumPut: yours. -/
def bolterlaw01_NumPut.Pure : Prop := ∀ (l0 : List Int) (l1 : List Int) (l2 : List Int), l0.length ≤ maxLen → l0.length * 1 ≤ 140737488351232 → (∀ x ∈ l0, (Lit.int .u8 x).wf = true) → l1.length ≤ maxLen → l1.length * 2 ≤ 140737488351232 → (∀ x ∈ l1, (Lit.int .u16 x).wf = true) → l2.length ≤ maxLen → l2.length * 4 ≤ 140737488351232 → (∀ x ∈ l2, (Lit.int .u32 x).wf = true) → ∃ k, bolterlaw01_NumPut.f k l0 l1 l2 = some true
theorem bolterlaw01_NumPut.walk (P : bolterlaw01_NumPut.Pure) (a0 : Option Addr) (len0 cap0 : Nat) (z0 : List Int) (a1 : Option Addr) (len1 cap1 : Nat) (z1 : List Int) (a2 : Option Addr) (len2 cap2 : Nat) (z2 : List Int) (w : World) (w0 : (a0 = none ∧ len0 = 0 ∧ cap0 = 0 ∧ z0 = []) ∨ ∃ x, a0 = some x ∧ len0 ≤ cap0 ∧ cap0 ≤ maxLen ∧ z0.length = cap0 ∧ (∀ i, i < z0.length → w.cell? (x.add i) = some (.int .u8 (z0.getD i 0))) ∧ ∀ n ∈ z0, (Lit.int .u8 n).wf = true) (y0 : len0 * 1 ≤ 140737488351232) (w1 : (a1 = none ∧ len1 = 0 ∧ cap1 = 0 ∧ z1 = []) ∨ ∃ x, a1 = some x ∧ len1 ≤ cap1 ∧ cap1 ≤ maxLen ∧ z1.length = cap1 ∧ (∀ i, i < z1.length → w.cell? (x.add i) = some (.int .u16 (z1.getD i 0))) ∧ ∀ n ∈ z1, (Lit.int .u16 n).wf = true) (y1 : len1 * 2 ≤ 140737488351232) (w2 : (a2 = none ∧ len2 = 0 ∧ cap2 = 0 ∧ z2 = []) ∨ ∃ x, a2 = some x ∧ len2 ≤ cap2 ∧ cap2 ≤ maxLen ∧ z2.length = cap2 ∧ (∀ i, i < z2.length → w.cell? (x.add i) = some (.int .u32 (z2.getD i 0))) ∧ ∀ n ∈ z2, (Lit.int .u32 n).wf = true) (y2 : len2 * 4 ≤ 140737488351232) :
    Calls Try.prog 4 #[.slice a0 len0 cap0, .slice a1 len1 cap1, .slice a2 len2 cap2] w fun e w' => e = .returned (.bool true) ∧ Below w.heap.size w w' := by
  obtain ⟨l0, rfl, hr0, hm0, hw0, hc0⟩ := ReadsInt.ofRowC w0
  obtain ⟨l1, rfl, hr1, hm1, hw1, hc1⟩ := ReadsInt.ofRowC w1
  obtain ⟨l2, rfl, hr2, hm2, hw2, hc2⟩ := ReadsInt.ofRowC w2
  obtain ⟨k, h⟩ := P l0 l1 l2 hm0 y0 hw0 hm1 y1 hw1 hm2 y2 hw2
  refine (bolterlaw01_NumPut.calls k _ _ l0 _ _ l1 _ _ l2 true w (Kd.C_of_reads (d := (0 : Int)) (h1 := fun _ => rfl) hr0) hc0 (Kd.C_of_reads (d := (0 : Int)) (h1 := fun _ => rfl) hr1) hc1 (Kd.C_of_reads (d := (0 : Int)) (h1 := fun _ => rfl) hr2) hc2 h).mono ?_
  rintro e w' ⟨rfl, hd⟩
  exact ⟨rfl, hd⟩

end Go.Proofs.Ytciipbdhibkkcaa.PN
