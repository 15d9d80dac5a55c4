-- written by a program of this session out of the loaded program (its tools: wip/tools)
import Derived.Test.YtmehkpkklnbidaaPUx0
import Derived.Test.YtmehkpkklnbidaaPUx1
namespace Go.Proofs.Ytmehkpkklnbidaa.PU
open Go.RowKit Go.Proofs.YtmehkpkklnbidaaW.PrintWords Go.Proofs.YtmehkpkklnbidaaW.PrintLast Go.Proofs.YtmehkpkklnbidaaW.PrintMore
attribute [local go_sem] max2_int min2_int max_two min_two max_three min_three max_four min_four   -- for this text's walks alone
set_option linter.unusedVariables false
set_option linter.unusedSimpArgs false


/-! ### bolterlaw22_FrameTorn: function 6 (by hand) -/
def bolterlaw22_FrameTorn.g (k : Nat) (q : List Int) : Option Bool := (frame_Cut.f k q).bind fun t3 => (frame_All.f k q).bind fun t4 => if t3.2.2 = false ∧ t4.1 = [] ∧ t4.2 = 0 then some true else none
def bolterlaw22_FrameTorn.f (k : Nat) (l0 : List Int) (a1 : Int) : Option Bool := (bolterlaw22_awake.f k).bind fun t1 => if t1 = true then (frame_Make.f k (l0.take 600)).bind (fun t2 => if t2.2 = true ∧ 0 < t2.1.length ∧ t2.1.length < 1099511627776 ∧ 0 ≤ a1 ∧ a1 < 65536 then bolterlaw22_FrameTorn.g k (t2.1.take (a1.toNat % t2.1.length)) else none) else none
theorem bolterlaw22_FrameTorn.mono : ∀ a0 a1 k, LeO (bolterlaw22_FrameTorn.f k a0 a1) (bolterlaw22_FrameTorn.f (k + 1) a0 a1) := by
  intro a0 a1 k
  unfold bolterlaw22_FrameTorn.f
  refine LeO.bind (bolterlaw22_awake.mono _) (fun _ => LeO.ite (LeO.bind (frame_Make.mono _ _) (fun _ => LeO.ite ?_ (LeO.refl _))) (LeO.refl _))
  unfold bolterlaw22_FrameTorn.g
  exact LeO.bind (frame_Cut.mono _ _) (fun _ => LeO.bind (frame_All.mono _ _) (fun _ => LeO.refl _))
set_option maxHeartbeats 1000000 in
theorem bolterlaw22_FrameTorn.calls (k : Nat) (A0 : Option Addr) (c0 : Nat) (l0 : List Int) (a1 : Int) (r : Bool) (w : World) (hr0 : Kd.C (Kd.int .u8) w A0 l0.length l0) (hc0 : l0.length ≤ c0) (h : bolterlaw22_FrameTorn.f k l0 a1 = some r) :
    Calls Try.prog 6 #[.slice A0 l0.length c0, .int .u16 a1] w fun e w' => e = .returned (.bool r) ∧ Below w.heap.size w w' := by
  obtain ⟨t1, A10, H⟩ := Option.bind_eq_some_iff.mp h
  clear h
  by_cases ht1 : t1 = true
  case neg => rw [if_neg ht1] at H; cases H
  subst ht1
  rw [if_pos rfl] at H
  obtain ⟨⟨fr, ok⟩, A20, H⟩ := Option.bind_eq_some_iff.mp H
  by_cases hc : ok = true ∧ 0 < fr.length ∧ fr.length < 1099511627776 ∧ 0 ≤ a1 ∧ a1 < 65536
  case neg => rw [if_neg hc] at H; cases H
  rw [if_pos hc] at H
  obtain ⟨rfl, hpos, hbig, ha0, ha1⟩ := hc
  obtain ⟨q, hq⟩ : ∃ q, fr.take (a1.toNat % fr.length) = q := ⟨_, rfl⟩
  dsimp only at H
  rw [hq] at H
  unfold bolterlaw22_FrameTorn.g at H
  obtain ⟨⟨x1, x2, x3⟩, A30, H3⟩ := Option.bind_eq_some_iff.mp H
  obtain ⟨⟨y1, y2⟩, A40, H4⟩ := Option.bind_eq_some_iff.mp H3
  clear H H3
  by_cases hc : x3 = false ∧ y1 = [] ∧ y2 = 0
  case neg => rw [if_neg hc] at H4; cases H4
  rw [if_pos hc] at H4
  obtain ⟨rfl, rfl, rfl⟩ := hc
  obtain rfl := Option.some.inj H4
  have hm : a1.toNat % fr.length < fr.length := Nat.mod_lt _ hpos
  have hql : q.length = a1.toNat % fr.length := by rw [← hq, List.length_take]; omega
  have hn : (Int.tmod a1 (fr.length : Int)) = ((a1.toNat % fr.length : Nat) : Int) := by
    obtain ⟨m, rfl⟩ := Int.eq_ofNat_of_zero_le ha0
    rfl
  have A1 := Aside0.mk A10
  have A2 := Aside0.mk A20
  have A3 := Aside0.mk A30
  have A4 := Aside0.mk A40
  clear A10 A20 A30 A40
  obtain ⟨m, hm6⟩ : ∃ m : Nat, (if 600 < (l0.length : Int) then 600 else (l0.length : Int)) = (m : Int) := by
    by_cases h6 : 600 < (l0.length : Int)
    · exact ⟨600, by rw [if_pos h6]; rfl⟩
    · exact ⟨l0.length, by rw [if_neg h6]⟩
  have hml : m ≤ l0.length := by split at hm6 <;> omega
  have htm : l0.take 600 = l0.take m := by
    split at hm6
    · rw [show m = 600 by omega]
    · rw [List.take_of_length_le (by omega), List.take_of_length_le (by omega)]
  have d1 : decide (0 ≤ (m : Int)) = true := decide_eq_true (by omega)
  have d2 : decide ((m : Int) ≤ (l0.length : Int)) = true := decide_eq_true (by omega)
  have HR0 := Aside0.mk hr0
  clear hr0
  go_enter Try.func6, Try.ntmps6
  go_wp2_with fail
  refine (bolterlaw22_awake.calls k true _ A1.out).mono ?_
  rintro e w1 ⟨rfl, hb⟩
  have HB := Aside0.mk hb
  clear hb
  go_wp2_with fail
  have hlm : (l0.take m).length = m := by rw [List.length_take]; omega
  have hA2 : frame_Make.f k (l0.take m) = some (fr, true) := by rw [← htm]; exact A2.out
  have key := frame_Make.calls k A0 c0 (l0.take m) fr true w1 (Kd.C_take (Kd.C_below HR0.out HB.out) hml) (by omega) hA2
  rw [hlm] at key
  refine key.mono ?_
  clear key
  rintro e w2 ⟨v2, rfl, ho, hb⟩
  obtain ⟨Ao, co, eo⟩ := Kd.R_slice ho
  subst eo
  have hco := (Kd.R_reads' ho).2.1
  have HO := Aside0.mk ho
  have HB2 := Aside0.mk (HB.out.trans (hb.mono (HB.out.size)))
  clear hb ho
  obtain ⟨z, hz0⟩ : ∃ z : Nat, a1.toNat % fr.length = z := ⟨_, rfl⟩
  rw [hz0] at hm hql hn hq
  have hzc : z ≤ co := by omega
  have d5 : decide ((z : Int) ≤ (co : Int)) = true := decide_eq_true (by omega)
  have hz : decide ((fr.length : Int) = 0) = false := decide_eq_false (by omega)
  have hz' : ((fr.length : Int) == 0) = false := beq_eq_false_iff_ne.mpr (by omega)
  have d3 : decide (0 ≤ (z : Int)) = true := decide_eq_true (by omega)
  have d4 : decide ((z : Int) ≤ (fr.length : Int)) = true := decide_eq_true (by omega)
  have hw1 : IntKind.i64.wrap a1 = a1 := by rw [i64_w]; exact (by unfold wrap64; omega)
  have hw2 : wrap64 a1 = a1 := (by unfold wrap64; omega)
  go_wp2_with fail
  have hC := Kd.C_take (Kd.R_reads' HO.out).2.2 (show z ≤ fr.length by omega)
  rw [hq] at hC
  have key := frame_Cut.calls k Ao co q x1 x2 false w2 hC (by omega) A3.out
  rw [hql] at key
  refine key.mono ?_
  clear key hC
  rintro e w3 ⟨v3, v4, rfl, ho3, ho4, hb⟩
  clear ho3 ho4
  have HO3 := Aside0.mk (Kd.R_below HO.out hb)
  have HB3 := Aside0.mk (HB2.out.trans (hb.mono (HB2.out.size)))
  clear hb
  go_wp2_with fail
  have hV : Kd.V (Kd.int .u8) 5 w3 w3.heap.size (fun _ => True) (.slice Ao z co) (fr.take z) := Kd.R_V (Kd.R_take HO3.out (show z ≤ fr.length by omega))
  rw [hq, ← hql] at hV
  have key := frame_All.calls k (fun _ => True) Ao co q [] 0 w3 hV A4.out
  rw [hql] at key
  refine key.mono ?_
  clear key hV
  rintro e w4 ⟨v5, rfl, ho5, hb⟩
  obtain ⟨A5, c5, e5⟩ := Kd.V_slice (Kd.S_V (base' := 0) ho5)
  subst e5
  clear ho5
  have HB4 := Aside0.mk (HB3.out.trans (hb.mono (HB3.out.size)))
  clear hb
  go_wp2
  go_ret
  exact ⟨by first | rfl | simp, HB4.out⟩

end Go.Proofs.Ytmehkpkklnbidaa.PU
