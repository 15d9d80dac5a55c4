import Derived.Test.YtnikfeaggppmpaaDoorPMx0
import Derived.Test.YtnikfeaggppmpaaDoorPMx6
import Derived.Test.YtnikfeaggppmpaaDoorPMx7
import Derived.Test.YtnikfeaggppmpaaDoorPMx8
namespace Go.Proofs.YtnikfeaggppmpaaDoor.PM
open Go.RowKit Go.Proofs.YtnikfeaggppmpaaDoorW.PrintWords Go.Proofs.YtnikfeaggppmpaaDoorW.PrintLast Go.Proofs.YtnikfeaggppmpaaDoorW.PrintMore
attribute [local go_sem] max2_int min2_int max_two min_two max_three min_three max_four min_four   -- for this text's walks alone
set_option linter.unusedVariables false
set_option linter.unusedSimpArgs false
def bolterlaw05_Make.f (k : Nat) (a0_0 : Int) (a0_1 : Bool) (a0_2 : Int) (a0_3 : Bool) (a0_4 : Bool) (a0_5 : Bool) (a0_6 : Bool) (a0_7 : Int) (l0_8 : List Int) (a0_9 : Int) (l0_10 : List (S110)) (l0_11 : List (S110)) (l0_12 : List (S110)) (a0_13 : Int) : Option (Int × Bool × Int × Bool × Bool × Bool × Bool × Int × ByteArray × Int × (List (S70)) × (List (S70)) × (List (S70)) × Int) := (bolterlaw02_Name.f k l0_8).bind fun t235 => ((bolterlaw05_Records.f k l0_10 12).bind fun t236 => ((bolterlaw05_Records.f k l0_11 12).bind fun t239 => ((bolterlaw05_Records.f k l0_12 12).bind fun t242 => (some (a0_0, a0_1, Int.tmod (wrap64 ((Int.tmod a0_2 16) + 16)) 16, a0_3, a0_4, a0_5, a0_6, Int.tmod (wrap64 ((Int.tmod a0_7 16) + 16)) 16, t235, a0_9, t236, t239, t242, wrap64 (a0_13))))))
theorem bolterlaw05_Make.mono : ∀ a0 a1 a2 a3 a4 a5 a6 a7 a8 a9 a10 a11 a12 a13 k, LeO (bolterlaw05_Make.f k a0 a1 a2 a3 a4 a5 a6 a7 a8 a9 a10 a11 a12 a13) (bolterlaw05_Make.f (k + 1) a0 a1 a2 a3 a4 a5 a6 a7 a8 a9 a10 a11 a12 a13) := by
  intro a0 a1 a2 a3 a4 a5 a6 a7 a8 a9 a10 a11 a12 a13 k
  unfold bolterlaw05_Make.f
  repeat' first
      | (with_reducible exact bolterlaw02_Name.mono _ _)
      | (with_reducible exact bolterlaw05_Records.mono _ _ _)
      | (with_reducible exact LeO.refl _)
      | (with_reducible exact LeO.none _)
      | (with_reducible refine LeO.ite ?_ ?_)
      | (with_reducible refine LeO.bind ?_ (fun _ => ?_))
      | exact bolterlaw02_Name.mono _ _
      | exact bolterlaw05_Records.mono _ _ _
      | exact LeO.none _
      | refine LeO.ite ?_ ?_
      | refine LeO.bind ?_ (fun _ => ?_)
def bolterlaw05_Make.T3 : Bool × List (List Nat × List Nat) := (true, [([], []), ([], []), ([1], [1]), ([2], [2]), ([], []), ([4], [4]), ([3, 5], [3, 5]), ([], []), ([7], [7]), ([8, 3], [8]), ([], []), ([10], [10]), ([11, 9], [11]), ([], []), ([13], [13]), ([14, 12], [14]), ([], []), ([16], [16]), ([17], [17]), ([0, 6, 9, 12, 15, 18], [0, 6, 9, 12, 15, 18]), ([19, 15, 0, 1, 2, 3, 4, 5, 6, 7, 8, 9, 10, 11, 12, 13, 14, 15, 16, 17, 18, 19], [19])])
def bolterlaw05_Make.B3 : List Nat := [0, 0, 2, 6, 0, 16, 62, 0, 128, 398, 0, 1024, 3982, 0, 8192, 32654, 0, 65536, 196608, 524287, 1048575]
theorem bolterlaw05_Make.tab3 : rtab .any (opsOf Tryd.f12 3) = bolterlaw05_Make.T3 := by kernel_rfl
theorem bolterlaw05_Make.bits3 : waitsOk bolterlaw05_Make.T3.2 bolterlaw05_Make.B3 = true := by kernel_rfl
set_option maxHeartbeats 8000000 in
set_option maxRecDepth 100000 in
theorem bolterlaw05_Make.calls (k : Nat) (a0_0 : Int) (a0_1 : Bool) (a0_2 : Int) (a0_3 : Bool) (a0_4 : Bool) (a0_5 : Bool) (a0_6 : Bool) (a0_7 : Int) (A0_8 : Option Addr) (c0_8 : Nat) (l0_8 : List Int) (a0_9 : Int) (A0_10 : Option Addr) (c0_10 : Nat) (l0_10 : List (S110)) (A0_11 : Option Addr) (c0_11 : Nat) (l0_11 : List (S110)) (A0_12 : Option Addr) (c0_12 : Nat) (l0_12 : List (S110)) (a0_13 : Int) (r1 : Int) (r2 : Bool) (r3 : Int) (r4 : Bool) (r5 : Bool) (r6 : Bool) (r7 : Bool) (r8 : Int) (r9 : ByteArray) (r10 : Int) (r11 : List (S70)) (r12 : List (S70)) (r13 : List (S70)) (r14 : Int) (w : World) (hr0_8 : Kd.C (Kd.int .u8) w A0_8 l0_8.length l0_8) (hc0_8 : l0_8.length ≤ c0_8) (hr0_10 : Kd.C k110 w A0_10 l0_10.length l0_10) (hc0_10 : l0_10.length ≤ c0_10) (hr0_11 : Kd.C k110 w A0_11 l0_11.length l0_11) (hc0_11 : l0_11.length ≤ c0_11) (hr0_12 : Kd.C k110 w A0_12 l0_12.length l0_12) (hc0_12 : l0_12.length ≤ c0_12) (h : bolterlaw05_Make.f k a0_0 a0_1 a0_2 a0_3 a0_4 a0_5 a0_6 a0_7 l0_8 a0_9 l0_10 l0_11 l0_12 a0_13 = some (r1, r2, r3, r4, r5, r6, r7, r8, r9, r10, r11, r12, r13, r14)) :
    Calls Tryd.prog 12 #[.agg #[.int .u16 a0_0, .bool a0_1, .int .i64 a0_2, .bool a0_3, .bool a0_4, .bool a0_5, .bool a0_6, .int .i64 a0_7, .slice A0_8 l0_8.length c0_8, .int .u16 a0_9, .slice A0_10 l0_10.length c0_10, .slice A0_11 l0_11.length c0_11, .slice A0_12 l0_12.length c0_12, .int .u16 a0_13]] w fun e w' => ∃ v10_ v11_ v12_ : Value, e = .returned (.agg #[.int .u16 r1, .bool r2, .int .i64 r3, .bool r4, .bool r5, .bool r6, .bool r7, .int .i64 r8, .string r9, .int .u16 r10, v10_, v11_, v12_, .int .i64 r14]) ∧ Kd.R k70 70 w' w.heap.size (fun k_ => some k_ ≠ (v11_ : Value).ownBlock ∧ some k_ ≠ (v12_ : Value).ownBlock) v10_ r11 ∧ Kd.R k70 70 w' w.heap.size (fun k_ => some k_ ≠ (v10_ : Value).ownBlock ∧ some k_ ≠ (v12_ : Value).ownBlock) v11_ r12 ∧ Kd.R k70 70 w' w.heap.size (fun k_ => some k_ ≠ (v10_ : Value).ownBlock ∧ some k_ ≠ (v11_ : Value).ownBlock) v12_ r13 ∧ Below w.heap.size w w' := by
  have hu47 := Tryd.underlying47
  have hu33 := Tryd.underlying33
  have hu26 := Tryd.underlying26
  have hu30 := Tryd.underlying30
  have HR0_8 := Aside0.mk hr0_8
  have HC0_8 := Aside0.mk hc0_8
  clear hr0_8 hc0_8
  have HR0_10 := Aside0.mk hr0_10
  have HC0_10 := Aside0.mk hc0_10
  clear hr0_10 hc0_10
  have HR0_11 := Aside0.mk hr0_11
  have HC0_11 := Aside0.mk hc0_11
  clear hr0_11 hc0_11
  have HR0_12 := Aside0.mk hr0_12
  have HC0_12 := Aside0.mk hc0_12
  clear hr0_12 hc0_12
  have HB := Aside0.mk (Below.refl w.heap.size w)
  have H : ((bolterlaw02_Name.f k l0_8).bind fun t235 => ((bolterlaw05_Records.f k l0_10 12).bind fun t236 => ((bolterlaw05_Records.f k l0_11 12).bind fun t239 => ((bolterlaw05_Records.f k l0_12 12).bind fun t242 => (some (a0_0, a0_1, Int.tmod (wrap64 ((Int.tmod a0_2 16) + 16)) 16, a0_3, a0_4, a0_5, a0_6, Int.tmod (wrap64 ((Int.tmod a0_7 16) + 16)) 16, t235, a0_9, t236, t239, t242, wrap64 (a0_13))))))) = some (r1, r2, r3, r4, r5, r6, r7, r8, r9, r10, r11, r12, r13, r14) := h
  clear h
  replace H := Option.bind_eq_some_iff.mp H
  obtain ⟨t235, A20, H⟩ := H
  replace H : ((bolterlaw05_Records.f k l0_10 12).bind fun t236 => ((bolterlaw05_Records.f k l0_11 12).bind fun t239 => ((bolterlaw05_Records.f k l0_12 12).bind fun t242 => (some (a0_0, a0_1, Int.tmod (wrap64 ((Int.tmod a0_2 16) + 16)) 16, a0_3, a0_4, a0_5, a0_6, Int.tmod (wrap64 ((Int.tmod a0_7 16) + 16)) 16, t235, a0_9, t236, t239, t242, wrap64 (a0_13)))))) = some (r1, r2, r3, r4, r5, r6, r7, r8, r9, r10, r11, r12, r13, r14) := H
  have A2 := Aside0.mk A20
  clear A20
  replace H := Option.bind_eq_some_iff.mp H
  obtain ⟨t236, A30, H⟩ := H
  replace H : ((bolterlaw05_Records.f k l0_11 12).bind fun t239 => ((bolterlaw05_Records.f k l0_12 12).bind fun t242 => (some (a0_0, a0_1, Int.tmod (wrap64 ((Int.tmod a0_2 16) + 16)) 16, a0_3, a0_4, a0_5, a0_6, Int.tmod (wrap64 ((Int.tmod a0_7 16) + 16)) 16, t235, a0_9, t236, t239, t242, wrap64 (a0_13))))) = some (r1, r2, r3, r4, r5, r6, r7, r8, r9, r10, r11, r12, r13, r14) := H
  have A3 := Aside0.mk A30
  clear A30
  replace H := Option.bind_eq_some_iff.mp H
  obtain ⟨t239, A40, H⟩ := H
  replace H : ((bolterlaw05_Records.f k l0_12 12).bind fun t242 => (some (a0_0, a0_1, Int.tmod (wrap64 ((Int.tmod a0_2 16) + 16)) 16, a0_3, a0_4, a0_5, a0_6, Int.tmod (wrap64 ((Int.tmod a0_7 16) + 16)) 16, t235, a0_9, t236, t239, t242, wrap64 (a0_13)))) = some (r1, r2, r3, r4, r5, r6, r7, r8, r9, r10, r11, r12, r13, r14) := H
  have A4 := Aside0.mk A40
  clear A40
  replace H := Option.bind_eq_some_iff.mp H
  obtain ⟨t242, A50, H⟩ := H
  replace H : (some (a0_0, a0_1, Int.tmod (wrap64 ((Int.tmod a0_2 16) + 16)) 16, a0_3, a0_4, a0_5, a0_6, Int.tmod (wrap64 ((Int.tmod a0_7 16) + 16)) 16, t235, a0_9, t236, t239, t242, wrap64 (a0_13))) = some (r1, r2, r3, r4, r5, r6, r7, r8, r9, r10, r11, r12, r13, r14) := H
  have A5 := Aside0.mk A50
  clear A50
  simp only [Option.some.injEq, Prod.mk.injEq] at H
  obtain ⟨rfl, rfl, rfl, rfl, rfl, rfl, rfl, rfl, rfl, rfl, rfl, rfl, rfl, rfl⟩ := H
  go_enter Tryd.func12, Tryd.ntmps12
  try go_wp2_with (first | ((with_reducible refine gate_dst (N := 1) rfl ?_); refine box_event ?hg (N := 1) ?hd (cs := #[.int .u16 a0_0, .bool a0_1, .int .i64 a0_2, .bool a0_3, .bool a0_4, .bool a0_5, .bool a0_6, .int .i64 a0_7, .slice A0_8 l0_8.length c0_8, .int .u16 a0_9, .slice A0_10 l0_10.length c0_10, .slice A0_11 l0_11.length c0_11, .slice A0_12 l0_12.length c0_12, .int .u16 a0_13]) (t := 47) ?hr ?_; (case hd => rfl); (case hg => rfl); (case hr => first | (go_simp; done) | (go_simp; rfl)); intro gb232 hg w6 hbox hb; have n0_ := Aside0.mk (below_step (by repeat (first | (with_reducible first | exact HB.out | apply below_alloc | apply pw_below_drewN | apply below_drew1) | exact HB.out)) hb); have n1_ := Aside0.mk (hbox); have n2_ := Aside0.mk ((by rw [hg]; exact (below_size (by repeat (first | (with_reducible first | exact HB.out | apply below_alloc | apply pw_below_drewN | apply below_drew1) | exact HB.out))) : w.heap.size ≤ gb232)); have n3_ := Aside0.mk ((by rw [hg]; exact (below_size (by repeat (first | (with_reducible first | exact HB.out | apply below_alloc | apply pw_below_drewN | apply below_drew1) | exact HB.out))) : w.heap.size ≤ gb232)); clear HB; have HB := n0_; have BK232 := n1_; have GW232 := n2_; have GE232 := n3_; clear n0_ n1_ n2_ n3_; clear hb hbox hg) | ((with_reducible refine gate_dst (N := 2) rfl ?_); refine box_event ?hg (N := 2) ?hd (cs := #[.int .u16 0, .bool false, .int .i64 0, .bool false, .bool false, .bool false, .bool false, .int .i64 0, .string (⟨#[]⟩ : ByteArray), .int .u16 0, .slice none 0 0, .slice none 0 0, .slice none 0 0, .int .i64 0]) (t := 33) ?hr ?_; (case hd => rfl); (case hg => rfl); (case hr => first | (go_simp; done) | (go_simp; rfl)); intro gb233 hg w7 hbox hb; have n0_ := Aside0.mk (blk_below (g := gb232) (o := .cells #[.int .u16 a0_0, .bool a0_1, .int .i64 a0_2, .bool a0_3, .bool a0_4, .bool a0_5, .bool a0_6, .int .i64 a0_7, .slice A0_8 l0_8.length c0_8, .int .u16 a0_9, .slice A0_10 l0_10.length c0_10, .slice A0_11 l0_11.length c0_11, .slice A0_12 l0_12.length c0_12, .int .u16 a0_13] 47 (0, 0)) (by (with_reducible repeat (first | refine blk_drewN ?_ _ | refine blk_drew ?_ | refine blk_alloc ?_ _)); exact BK232.out) hb); have n1_ := Aside0.mk (below_step (by repeat (first | (with_reducible first | exact HB.out | apply below_alloc | apply pw_below_drewN | apply below_drew1 | refine below_set ?_ GE232.out) | exact HB.out)) hb); have n2_ := Aside0.mk (hbox); have n3_ := Aside0.mk ((by rw [hg]; exact (below_size (by repeat (first | (with_reducible first | exact HB.out | apply below_alloc | apply pw_below_drewN | apply below_drew1 | refine below_set ?_ GE232.out) | exact HB.out))) : w.heap.size ≤ gb233)); have n4_ := Aside0.mk ((by rw [hg]; exact (below_size (by repeat (first | (with_reducible first | exact HB.out | apply below_alloc | apply pw_below_drewN | apply below_drew1 | refine below_set ?_ GE232.out) | exact HB.out))) : w.heap.size ≤ gb233)); have n5_ := Aside0.mk ((by rw [hg]; exact Nat.ne_of_lt (blk_lt (g := gb232) (o := .cells #[.int .u16 a0_0, .bool a0_1, .int .i64 a0_2, .bool a0_3, .bool a0_4, .bool a0_5, .bool a0_6, .int .i64 a0_7, .slice A0_8 l0_8.length c0_8, .int .u16 a0_9, .slice A0_10 l0_10.length c0_10, .slice A0_11 l0_11.length c0_11, .slice A0_12 l0_12.length c0_12, .int .u16 a0_13] 47 (0, 0)) (by (with_reducible repeat (first | refine blk_drewN ?_ _ | refine blk_drew ?_ | refine blk_alloc ?_ _)); exact BK232.out)) : gb232 ≠ gb233)); have n6_ := Aside0.mk ((by rw [hg]; exact Nat.ne_of_gt (blk_lt (g := gb232) (o := .cells #[.int .u16 a0_0, .bool a0_1, .int .i64 a0_2, .bool a0_3, .bool a0_4, .bool a0_5, .bool a0_6, .int .i64 a0_7, .slice A0_8 l0_8.length c0_8, .int .u16 a0_9, .slice A0_10 l0_10.length c0_10, .slice A0_11 l0_11.length c0_11, .slice A0_12 l0_12.length c0_12, .int .u16 a0_13] 47 (0, 0)) (by (with_reducible repeat (first | refine blk_drewN ?_ _ | refine blk_drew ?_ | refine blk_alloc ?_ _)); exact BK232.out)) : gb233 ≠ gb232)); clear BK232; clear HB; have BK232 := n0_; have HB := n1_; have BK233 := n2_; have GW233 := n3_; have GE233 := n4_; have NB232_233 := n5_; have NB233_232 := n6_; clear n0_ n1_ n2_ n3_ n4_ n5_ n6_; clear hb hbox hg; have hnb8 := NB232_233.out; have hnc8 := NB233_232.out; have hcz9_0 : w7.cell? ⟨gb232, 0, none⟩ = some (.int .u16 a0_0) := (blk_cell BK232.out 0).trans rfl; have hcz9_1 : w7.cell? ⟨gb232, 1, none⟩ = some (.bool a0_1) := (blk_cell BK232.out 1).trans rfl; have hcz9_2 : w7.cell? ⟨gb232, 2, none⟩ = some (.int .i64 a0_2) := (blk_cell BK232.out 2).trans rfl; have hcz9_3 : w7.cell? ⟨gb232, 3, none⟩ = some (.bool a0_3) := (blk_cell BK232.out 3).trans rfl; have hcz9_4 : w7.cell? ⟨gb232, 4, none⟩ = some (.bool a0_4) := (blk_cell BK232.out 4).trans rfl; have hcz9_5 : w7.cell? ⟨gb232, 5, none⟩ = some (.bool a0_5) := (blk_cell BK232.out 5).trans rfl; have hcz9_6 : w7.cell? ⟨gb232, 6, none⟩ = some (.bool a0_6) := (blk_cell BK232.out 6).trans rfl; have hcz9_7 : w7.cell? ⟨gb232, 7, none⟩ = some (.int .i64 a0_7) := (blk_cell BK232.out 7).trans rfl; have hcz9_8 : w7.cell? ⟨gb232, 8, none⟩ = some (.slice A0_8 l0_8.length c0_8) := (blk_cell BK232.out 8).trans rfl; have hcz9_9 : w7.cell? ⟨gb232, 9, none⟩ = some (.int .u16 a0_9) := (blk_cell BK232.out 9).trans rfl; have hcz9_10 : w7.cell? ⟨gb232, 10, none⟩ = some (.slice A0_10 l0_10.length c0_10) := (blk_cell BK232.out 10).trans rfl; have hcz9_11 : w7.cell? ⟨gb232, 11, none⟩ = some (.slice A0_11 l0_11.length c0_11) := (blk_cell BK232.out 11).trans rfl; have hcz9_12 : w7.cell? ⟨gb232, 12, none⟩ = some (.slice A0_12 l0_12.length c0_12) := (blk_cell BK232.out 12).trans rfl; have hcz9_13 : w7.cell? ⟨gb232, 13, none⟩ = some (.int .u16 a0_13) := (blk_cell BK232.out 13).trans rfl; have hfz9_0 := blk_frozen BK232.out 0; have hfz9_1 := blk_frozen BK232.out 1; have hfz9_2 := blk_frozen BK232.out 2; have hfz9_3 := blk_frozen BK232.out 3; have hfz9_4 := blk_frozen BK232.out 4; have hfz9_5 := blk_frozen BK232.out 5; have hfz9_6 := blk_frozen BK232.out 6; have hfz9_7 := blk_frozen BK232.out 7; have hfz9_8 := blk_frozen BK232.out 8; have hfz9_9 := blk_frozen BK232.out 9; have hfz9_10 := blk_frozen BK232.out 10; have hfz9_11 := blk_frozen BK232.out 11; have hfz9_12 := blk_frozen BK232.out 12; have hfz9_13 := blk_frozen BK232.out 13) | ((with_reducible refine gate_dst (N := 3) rfl ?_); refine box_event ?hg (N := 3) ?hd (cs := #[.int .u16 0, .bool false, .int .i64 0, .bool false, .bool false, .bool false, .bool false, .int .i64 0]) (t := 26) ?hr ?_; (case hd => rfl); (case hg => rfl); (case hr => first | (go_simp; done) | (go_simp; rfl)); intro gb234 hg w10 hbox hb; have n0_ := Aside0.mk (blk_below (g := gb232) (o := .cells #[.int .u16 a0_0, .bool a0_1, .int .i64 a0_2, .bool a0_3, .bool a0_4, .bool a0_5, .bool a0_6, .int .i64 a0_7, .slice A0_8 l0_8.length c0_8, .int .u16 a0_9, .slice A0_10 l0_10.length c0_10, .slice A0_11 l0_11.length c0_11, .slice A0_12 l0_12.length c0_12, .int .u16 a0_13] 47 (0, 0)) (by (with_reducible repeat (first | refine blk_drewN ?_ _ | refine blk_drew ?_ | refine blk_alloc ?_ _)); exact BK232.out) hb); have n1_ := Aside0.mk (blk_below (g := gb233) (o := .cells #[.int .u16 0, .bool false, .int .i64 0, .bool false, .bool false, .bool false, .bool false, .int .i64 0, .string (⟨#[]⟩ : ByteArray), .int .u16 0, .slice none 0 0, .slice none 0 0, .slice none 0 0, .int .i64 0] 33 (0, 0)) (by (with_reducible repeat (first | refine blk_drewN ?_ _ | refine blk_drew ?_ | refine blk_alloc ?_ _)); exact BK233.out) hb); have n2_ := Aside0.mk (below_step (by repeat (first | (with_reducible first | exact HB.out | apply below_alloc | apply pw_below_drewN | apply below_drew1 | refine below_set ?_ GE232.out | refine below_set ?_ GE233.out) | exact HB.out)) hb); have n3_ := Aside0.mk (hbox); have n4_ := Aside0.mk ((by rw [hg]; exact (below_size (by repeat (first | (with_reducible first | exact HB.out | apply below_alloc | apply pw_below_drewN | apply below_drew1 | refine below_set ?_ GE232.out | refine below_set ?_ GE233.out) | exact HB.out))) : w.heap.size ≤ gb234)); have n5_ := Aside0.mk ((by rw [hg]; exact (below_size (by repeat (first | (with_reducible first | exact HB.out | apply below_alloc | apply pw_below_drewN | apply below_drew1 | refine below_set ?_ GE232.out | refine below_set ?_ GE233.out) | exact HB.out))) : w.heap.size ≤ gb234)); have n6_ := Aside0.mk ((by rw [hg]; exact Nat.ne_of_lt (blk_lt (g := gb232) (o := .cells #[.int .u16 a0_0, .bool a0_1, .int .i64 a0_2, .bool a0_3, .bool a0_4, .bool a0_5, .bool a0_6, .int .i64 a0_7, .slice A0_8 l0_8.length c0_8, .int .u16 a0_9, .slice A0_10 l0_10.length c0_10, .slice A0_11 l0_11.length c0_11, .slice A0_12 l0_12.length c0_12, .int .u16 a0_13] 47 (0, 0)) (by (with_reducible repeat (first | refine blk_drewN ?_ _ | refine blk_drew ?_ | refine blk_alloc ?_ _)); exact BK232.out)) : gb232 ≠ gb234)); have n7_ := Aside0.mk ((by rw [hg]; exact Nat.ne_of_gt (blk_lt (g := gb232) (o := .cells #[.int .u16 a0_0, .bool a0_1, .int .i64 a0_2, .bool a0_3, .bool a0_4, .bool a0_5, .bool a0_6, .int .i64 a0_7, .slice A0_8 l0_8.length c0_8, .int .u16 a0_9, .slice A0_10 l0_10.length c0_10, .slice A0_11 l0_11.length c0_11, .slice A0_12 l0_12.length c0_12, .int .u16 a0_13] 47 (0, 0)) (by (with_reducible repeat (first | refine blk_drewN ?_ _ | refine blk_drew ?_ | refine blk_alloc ?_ _)); exact BK232.out)) : gb234 ≠ gb232)); have n8_ := Aside0.mk ((by rw [hg]; exact Nat.ne_of_lt (blk_lt (g := gb233) (o := .cells #[.int .u16 0, .bool false, .int .i64 0, .bool false, .bool false, .bool false, .bool false, .int .i64 0, .string (⟨#[]⟩ : ByteArray), .int .u16 0, .slice none 0 0, .slice none 0 0, .slice none 0 0, .int .i64 0] 33 (0, 0)) (by (with_reducible repeat (first | refine blk_drewN ?_ _ | refine blk_drew ?_ | refine blk_alloc ?_ _)); exact BK233.out)) : gb233 ≠ gb234)); have n9_ := Aside0.mk ((by rw [hg]; exact Nat.ne_of_gt (blk_lt (g := gb233) (o := .cells #[.int .u16 0, .bool false, .int .i64 0, .bool false, .bool false, .bool false, .bool false, .int .i64 0, .string (⟨#[]⟩ : ByteArray), .int .u16 0, .slice none 0 0, .slice none 0 0, .slice none 0 0, .int .i64 0] 33 (0, 0)) (by (with_reducible repeat (first | refine blk_drewN ?_ _ | refine blk_drew ?_ | refine blk_alloc ?_ _)); exact BK233.out)) : gb234 ≠ gb233)); clear BK232; clear BK233; clear HB; have BK232 := n0_; have BK233 := n1_; have HB := n2_; have BK234 := n3_; have GW234 := n4_; have GE234 := n5_; have NB232_234 := n6_; have NB234_232 := n7_; have NB233_234 := n8_; have NB234_233 := n9_; clear n0_ n1_ n2_ n3_ n4_ n5_ n6_ n7_ n8_ n9_; clear hb hbox hg; have hnb11 := NB234_232.out; have hnc11 := NB232_234.out; have hnb12 := NB234_233.out; have hnc12 := NB233_234.out; have hcz13_0 : w10.cell? ⟨gb234, 0, none⟩ = some (.int .u16 0) := (blk_cell BK234.out 0).trans rfl; have hcz13_1 : w10.cell? ⟨gb234, 1, none⟩ = some (.bool false) := (blk_cell BK234.out 1).trans rfl; have hcz13_2 : w10.cell? ⟨gb234, 2, none⟩ = some (.int .i64 0) := (blk_cell BK234.out 2).trans rfl; have hcz13_3 : w10.cell? ⟨gb234, 3, none⟩ = some (.bool false) := (blk_cell BK234.out 3).trans rfl; have hcz13_4 : w10.cell? ⟨gb234, 4, none⟩ = some (.bool false) := (blk_cell BK234.out 4).trans rfl; have hcz13_5 : w10.cell? ⟨gb234, 5, none⟩ = some (.bool false) := (blk_cell BK234.out 5).trans rfl; have hcz13_6 : w10.cell? ⟨gb234, 6, none⟩ = some (.bool false) := (blk_cell BK234.out 6).trans rfl; have hcz13_7 : w10.cell? ⟨gb234, 7, none⟩ = some (.int .i64 0) := (blk_cell BK234.out 7).trans rfl; have hfz13_0 := blk_frozen BK234.out 0; have hfz13_1 := blk_frozen BK234.out 1; have hfz13_2 := blk_frozen BK234.out 2; have hfz13_3 := blk_frozen BK234.out 3; have hfz13_4 := blk_frozen BK234.out 4; have hfz13_5 := blk_frozen BK234.out 5; have hfz13_6 := blk_frozen BK234.out 6; have hfz13_7 := blk_frozen BK234.out 7))
  have n0_ : Aside0 (((((((((((w10.setCell ⟨gb234, 0, none⟩ (.int .u16 a0_0)).setCell ⟨gb234, 1, none⟩ (.bool a0_1)).setCell ⟨gb234, 2, none⟩ (.int .i64 a0_2)).setCell ⟨gb234, 3, none⟩ (.bool a0_3)).setCell ⟨gb234, 4, none⟩ (.bool a0_4)).setCell ⟨gb234, 5, none⟩ (.bool a0_5)).setCell ⟨gb234, 6, none⟩ (.bool a0_6)).setCell ⟨gb234, 7, none⟩ (.int .i64 a0_7)).setCell ⟨gb234, 2, none⟩ (.int .i64 (Int.tmod (wrap64 ((Int.tmod a0_2 16) + 16)) 16))).setCell ⟨gb234, 7, none⟩ (.int .i64 (Int.tmod (wrap64 ((Int.tmod a0_7 16) + 16)) 16))).heap[gb232]? = some (.cells #[.int .u16 a0_0, .bool a0_1, .int .i64 a0_2, .bool a0_3, .bool a0_4, .bool a0_5, .bool a0_6, .int .i64 a0_7, .slice A0_8 l0_8.length c0_8, .int .u16 a0_9, .slice A0_10 l0_10.length c0_10, .slice A0_11 l0_11.length c0_11, .slice A0_12 l0_12.length c0_12, .int .u16 a0_13] 47 (0, 0))) := ⟨by (with_reducible repeat (first | refine blk_drewN ?_ _ | refine blk_drew ?_ | refine blk_alloc ?_ _)); refine blk_far ?_ NB232_234.out _; (with_reducible repeat (first | refine blk_drewN ?_ _ | refine blk_drew ?_ | refine blk_alloc ?_ _)); refine blk_far ?_ NB232_234.out _; (with_reducible repeat (first | refine blk_drewN ?_ _ | refine blk_drew ?_ | refine blk_alloc ?_ _)); refine blk_far ?_ NB232_234.out _; (with_reducible repeat (first | refine blk_drewN ?_ _ | refine blk_drew ?_ | refine blk_alloc ?_ _)); refine blk_far ?_ NB232_234.out _; (with_reducible repeat (first | refine blk_drewN ?_ _ | refine blk_drew ?_ | refine blk_alloc ?_ _)); refine blk_far ?_ NB232_234.out _; (with_reducible repeat (first | refine blk_drewN ?_ _ | refine blk_drew ?_ | refine blk_alloc ?_ _)); refine blk_far ?_ NB232_234.out _; (with_reducible repeat (first | refine blk_drewN ?_ _ | refine blk_drew ?_ | refine blk_alloc ?_ _)); refine blk_far ?_ NB232_234.out _; (with_reducible repeat (first | refine blk_drewN ?_ _ | refine blk_drew ?_ | refine blk_alloc ?_ _)); refine blk_far ?_ NB232_234.out _; (with_reducible repeat (first | refine blk_drewN ?_ _ | refine blk_drew ?_ | refine blk_alloc ?_ _)); refine blk_far ?_ NB232_234.out _; (with_reducible repeat (first | refine blk_drewN ?_ _ | refine blk_drew ?_ | refine blk_alloc ?_ _)); refine blk_far ?_ NB232_234.out _; (with_reducible repeat (first | refine blk_drewN ?_ _ | refine blk_drew ?_ | refine blk_alloc ?_ _)); exact BK232.out⟩
  have n1_ : Aside0 (((((((((((w10.setCell ⟨gb234, 0, none⟩ (.int .u16 a0_0)).setCell ⟨gb234, 1, none⟩ (.bool a0_1)).setCell ⟨gb234, 2, none⟩ (.int .i64 a0_2)).setCell ⟨gb234, 3, none⟩ (.bool a0_3)).setCell ⟨gb234, 4, none⟩ (.bool a0_4)).setCell ⟨gb234, 5, none⟩ (.bool a0_5)).setCell ⟨gb234, 6, none⟩ (.bool a0_6)).setCell ⟨gb234, 7, none⟩ (.int .i64 a0_7)).setCell ⟨gb234, 2, none⟩ (.int .i64 (Int.tmod (wrap64 ((Int.tmod a0_2 16) + 16)) 16))).setCell ⟨gb234, 7, none⟩ (.int .i64 (Int.tmod (wrap64 ((Int.tmod a0_7 16) + 16)) 16))).heap[gb233]? = some (.cells #[.int .u16 0, .bool false, .int .i64 0, .bool false, .bool false, .bool false, .bool false, .int .i64 0, .string (⟨#[]⟩ : ByteArray), .int .u16 0, .slice none 0 0, .slice none 0 0, .slice none 0 0, .int .i64 0] 33 (0, 0))) := ⟨by (with_reducible repeat (first | refine blk_drewN ?_ _ | refine blk_drew ?_ | refine blk_alloc ?_ _)); refine blk_far ?_ NB233_234.out _; (with_reducible repeat (first | refine blk_drewN ?_ _ | refine blk_drew ?_ | refine blk_alloc ?_ _)); refine blk_far ?_ NB233_234.out _; (with_reducible repeat (first | refine blk_drewN ?_ _ | refine blk_drew ?_ | refine blk_alloc ?_ _)); refine blk_far ?_ NB233_234.out _; (with_reducible repeat (first | refine blk_drewN ?_ _ | refine blk_drew ?_ | refine blk_alloc ?_ _)); refine blk_far ?_ NB233_234.out _; (with_reducible repeat (first | refine blk_drewN ?_ _ | refine blk_drew ?_ | refine blk_alloc ?_ _)); refine blk_far ?_ NB233_234.out _; (with_reducible repeat (first | refine blk_drewN ?_ _ | refine blk_drew ?_ | refine blk_alloc ?_ _)); refine blk_far ?_ NB233_234.out _; (with_reducible repeat (first | refine blk_drewN ?_ _ | refine blk_drew ?_ | refine blk_alloc ?_ _)); refine blk_far ?_ NB233_234.out _; (with_reducible repeat (first | refine blk_drewN ?_ _ | refine blk_drew ?_ | refine blk_alloc ?_ _)); refine blk_far ?_ NB233_234.out _; (with_reducible repeat (first | refine blk_drewN ?_ _ | refine blk_drew ?_ | refine blk_alloc ?_ _)); refine blk_far ?_ NB233_234.out _; (with_reducible repeat (first | refine blk_drewN ?_ _ | refine blk_drew ?_ | refine blk_alloc ?_ _)); refine blk_far ?_ NB233_234.out _; (with_reducible repeat (first | refine blk_drewN ?_ _ | refine blk_drew ?_ | refine blk_alloc ?_ _)); exact BK233.out⟩
  have n2_ : Aside0 (((((((((((w10.setCell ⟨gb234, 0, none⟩ (.int .u16 a0_0)).setCell ⟨gb234, 1, none⟩ (.bool a0_1)).setCell ⟨gb234, 2, none⟩ (.int .i64 a0_2)).setCell ⟨gb234, 3, none⟩ (.bool a0_3)).setCell ⟨gb234, 4, none⟩ (.bool a0_4)).setCell ⟨gb234, 5, none⟩ (.bool a0_5)).setCell ⟨gb234, 6, none⟩ (.bool a0_6)).setCell ⟨gb234, 7, none⟩ (.int .i64 a0_7)).setCell ⟨gb234, 2, none⟩ (.int .i64 (Int.tmod (wrap64 ((Int.tmod a0_2 16) + 16)) 16))).setCell ⟨gb234, 7, none⟩ (.int .i64 (Int.tmod (wrap64 ((Int.tmod a0_7 16) + 16)) 16))).heap[gb234]? = some (.cells #[.int .u16 a0_0, .bool a0_1, .int .i64 (Int.tmod (wrap64 ((Int.tmod a0_2 16) + 16)) 16), .bool a0_3, .bool a0_4, .bool a0_5, .bool a0_6, .int .i64 (Int.tmod (wrap64 ((Int.tmod a0_7 16) + 16)) 16)] 26 (0, 0))) := ⟨by (with_reducible repeat (first | refine blk_drewN ?_ _ | refine blk_drew ?_ | refine blk_alloc ?_ _)); refine blk_put (cs := #[.int .u16 a0_0, .bool a0_1, .int .i64 (Int.tmod (wrap64 ((Int.tmod a0_2 16) + 16)) 16), .bool a0_3, .bool a0_4, .bool a0_5, .bool a0_6, .int .i64 a0_7]) ?_ 7 _ rfl; (with_reducible repeat (first | refine blk_drewN ?_ _ | refine blk_drew ?_ | refine blk_alloc ?_ _)); refine blk_put (cs := #[.int .u16 a0_0, .bool a0_1, .int .i64 a0_2, .bool a0_3, .bool a0_4, .bool a0_5, .bool a0_6, .int .i64 a0_7]) ?_ 2 _ rfl; (with_reducible repeat (first | refine blk_drewN ?_ _ | refine blk_drew ?_ | refine blk_alloc ?_ _)); refine blk_put (cs := #[.int .u16 a0_0, .bool a0_1, .int .i64 a0_2, .bool a0_3, .bool a0_4, .bool a0_5, .bool a0_6, .int .i64 0]) ?_ 7 _ rfl; (with_reducible repeat (first | refine blk_drewN ?_ _ | refine blk_drew ?_ | refine blk_alloc ?_ _)); refine blk_put (cs := #[.int .u16 a0_0, .bool a0_1, .int .i64 a0_2, .bool a0_3, .bool a0_4, .bool a0_5, .bool false, .int .i64 0]) ?_ 6 _ rfl; (with_reducible repeat (first | refine blk_drewN ?_ _ | refine blk_drew ?_ | refine blk_alloc ?_ _)); refine blk_put (cs := #[.int .u16 a0_0, .bool a0_1, .int .i64 a0_2, .bool a0_3, .bool a0_4, .bool false, .bool false, .int .i64 0]) ?_ 5 _ rfl; (with_reducible repeat (first | refine blk_drewN ?_ _ | refine blk_drew ?_ | refine blk_alloc ?_ _)); refine blk_put (cs := #[.int .u16 a0_0, .bool a0_1, .int .i64 a0_2, .bool a0_3, .bool false, .bool false, .bool false, .int .i64 0]) ?_ 4 _ rfl; (with_reducible repeat (first | refine blk_drewN ?_ _ | refine blk_drew ?_ | refine blk_alloc ?_ _)); refine blk_put (cs := #[.int .u16 a0_0, .bool a0_1, .int .i64 a0_2, .bool false, .bool false, .bool false, .bool false, .int .i64 0]) ?_ 3 _ rfl; (with_reducible repeat (first | refine blk_drewN ?_ _ | refine blk_drew ?_ | refine blk_alloc ?_ _)); refine blk_put (cs := #[.int .u16 a0_0, .bool a0_1, .int .i64 0, .bool false, .bool false, .bool false, .bool false, .int .i64 0]) ?_ 2 _ rfl; (with_reducible repeat (first | refine blk_drewN ?_ _ | refine blk_drew ?_ | refine blk_alloc ?_ _)); refine blk_put (cs := #[.int .u16 a0_0, .bool false, .int .i64 0, .bool false, .bool false, .bool false, .bool false, .int .i64 0]) ?_ 1 _ rfl; (with_reducible repeat (first | refine blk_drewN ?_ _ | refine blk_drew ?_ | refine blk_alloc ?_ _)); refine blk_put (cs := #[.int .u16 0, .bool false, .int .i64 0, .bool false, .bool false, .bool false, .bool false, .int .i64 0]) ?_ 0 _ rfl; (with_reducible repeat (first | refine blk_drewN ?_ _ | refine blk_drew ?_ | refine blk_alloc ?_ _)); exact BK234.out⟩
  have n3_ : Aside0 (Below w.heap.size w ((((((((((w10.setCell ⟨gb234, 0, none⟩ (.int .u16 a0_0)).setCell ⟨gb234, 1, none⟩ (.bool a0_1)).setCell ⟨gb234, 2, none⟩ (.int .i64 a0_2)).setCell ⟨gb234, 3, none⟩ (.bool a0_3)).setCell ⟨gb234, 4, none⟩ (.bool a0_4)).setCell ⟨gb234, 5, none⟩ (.bool a0_5)).setCell ⟨gb234, 6, none⟩ (.bool a0_6)).setCell ⟨gb234, 7, none⟩ (.int .i64 a0_7)).setCell ⟨gb234, 2, none⟩ (.int .i64 (Int.tmod (wrap64 ((Int.tmod a0_2 16) + 16)) 16))).setCell ⟨gb234, 7, none⟩ (.int .i64 (Int.tmod (wrap64 ((Int.tmod a0_7 16) + 16)) 16)))) := ⟨by repeat (first | (with_reducible first | exact HB.out | apply below_alloc | apply pw_below_drewN | apply below_drew1 | refine below_set ?_ GE232.out | refine below_set ?_ GE233.out | refine below_set ?_ GE234.out) | exact HB.out)⟩
  (try clear BK232)
  (try clear BK233)
  (try clear BK234)
  (try clear HB)
  generalize ((((((((((w10.setCell ⟨gb234, 0, none⟩ (.int .u16 a0_0)).setCell ⟨gb234, 1, none⟩ (.bool a0_1)).setCell ⟨gb234, 2, none⟩ (.int .i64 a0_2)).setCell ⟨gb234, 3, none⟩ (.bool a0_3)).setCell ⟨gb234, 4, none⟩ (.bool a0_4)).setCell ⟨gb234, 5, none⟩ (.bool a0_5)).setCell ⟨gb234, 6, none⟩ (.bool a0_6)).setCell ⟨gb234, 7, none⟩ (.int .i64 a0_7)).setCell ⟨gb234, 2, none⟩ (.int .i64 (Int.tmod (wrap64 ((Int.tmod a0_2 16) + 16)) 16))).setCell ⟨gb234, 7, none⟩ (.int .i64 (Int.tmod (wrap64 ((Int.tmod a0_7 16) + 16)) 16))) = w14 at n0_ n1_ n2_ n3_ ⊢
  have BK232 := n0_
  have BK233 := n1_
  have BK234 := n2_
  have HB := n3_
  clear n0_ n1_ n2_ n3_
  have n0_ := Aside0.mk (blk_drew BK232.out)
  have n1_ := Aside0.mk (blk_drew BK233.out)
  have n2_ := Aside0.mk (blk_drew BK234.out)
  have n3_ := Aside0.mk (below_drew1 HB.out)
  clear BK232
  clear BK233
  clear BK234
  clear HB
  have BK232 := n0_
  have BK233 := n1_
  have BK234 := n2_
  have HB := n3_
  clear n0_ n1_ n2_ n3_
  refine start_ (n := 21) (S := fun w' => w'.cell? ⟨gb234, 0, none⟩ = some (.int .u16 a0_0) ∧ w'.cell? ⟨gb234, 1, none⟩ = some (.bool a0_1) ∧ w'.cell? ⟨gb234, 2, none⟩ = some (.int .i64 (Int.tmod (wrap64 ((Int.tmod a0_2 16) + 16)) 16)) ∧ w'.cell? ⟨gb234, 3, none⟩ = some (.bool a0_3) ∧ w'.cell? ⟨gb234, 4, none⟩ = some (.bool a0_4) ∧ w'.cell? ⟨gb234, 5, none⟩ = some (.bool a0_5) ∧ w'.cell? ⟨gb234, 6, none⟩ = some (.bool a0_6) ∧ w'.cell? ⟨gb234, 7, none⟩ = some (.int .i64 (Int.tmod (wrap64 ((Int.tmod a0_7 16) + 16)) 16)) ∧ w'.cell? ⟨gb232, 0, none⟩ = some (.int .u16 a0_0) ∧ w'.cell? ⟨gb232, 1, none⟩ = some (.bool a0_1) ∧ w'.cell? ⟨gb232, 2, none⟩ = some (.int .i64 a0_2) ∧ w'.cell? ⟨gb232, 3, none⟩ = some (.bool a0_3) ∧ w'.cell? ⟨gb232, 4, none⟩ = some (.bool a0_4) ∧ w'.cell? ⟨gb232, 5, none⟩ = some (.bool a0_5) ∧ w'.cell? ⟨gb232, 6, none⟩ = some (.bool a0_6) ∧ w'.cell? ⟨gb232, 7, none⟩ = some (.int .i64 a0_7) ∧ w'.cell? ⟨gb232, 8, none⟩ = some (.slice A0_8 l0_8.length c0_8) ∧ w'.cell? ⟨gb232, 9, none⟩ = some (.int .u16 a0_9) ∧ w'.cell? ⟨gb232, 10, none⟩ = some (.slice A0_10 l0_10.length c0_10) ∧ w'.cell? ⟨gb232, 11, none⟩ = some (.slice A0_11 l0_11.length c0_11) ∧ w'.cell? ⟨gb232, 12, none⟩ = some (.slice A0_12 l0_12.length c0_12) ∧ w'.cell? ⟨gb232, 13, none⟩ = some (.int .u16 a0_13)) (ds := []) #[false, false, false, false, false, false, false, false, false, false, false, false, false, false, false, false, false, false, false, false, false] (by kernel_rfl) rfl rfl ⟨(blk_cell BK234.out 0).trans rfl, (blk_cell BK234.out 1).trans rfl, (blk_cell BK234.out 2).trans rfl, (blk_cell BK234.out 3).trans rfl, (blk_cell BK234.out 4).trans rfl, (blk_cell BK234.out 5).trans rfl, (blk_cell BK234.out 6).trans rfl, (blk_cell BK234.out 7).trans rfl, (blk_cell BK232.out 0).trans rfl, (blk_cell BK232.out 1).trans rfl, (blk_cell BK232.out 2).trans rfl, (blk_cell BK232.out 3).trans rfl, (blk_cell BK232.out 4).trans rfl, (blk_cell BK232.out 5).trans rfl, (blk_cell BK232.out 6).trans rfl, (blk_cell BK232.out 7).trans rfl, (blk_cell BK232.out 8).trans rfl, (blk_cell BK232.out 9).trans rfl, (blk_cell BK232.out 10).trans rfl, (blk_cell BK232.out 11).trans rfl, (blk_cell BK232.out 12).trans rfl, (blk_cell BK232.out 13).trans rfl⟩ (fun hHeld => ?_); refine with_tabW bolterlaw05_Make.tab3 bolterlaw05_Make.bits3 (fun HT_ HW_ => ?_)
  generalize w14.drew = w15 at BK232 BK233 BK234 HB hHeld ⊢
  refine pure_ (i := 1) (N := some 19) (v := ?_) (a' := ?_) #[false, true, false, false, false, false, false, false, false, false, false, false, false, false, false, false, false, false, false, false, false] rfl rfl (any_of HT_.out (by kernel_rfl)) (fun _ _ _ h => h) (Or.inl ⟨by rfl, ?_⟩) ?_ ?_
  rotate_left
  · intro w'
    go_simp
    with_reducible rfl
  rotate_left
  · simp only [Act.put, List.setIfInBounds_toArray, List.set_cons_zero, List.set_cons_succ, i64_w, i32_w]
    rfl
  refine pure_ (i := 4) (N := some 22) (v := ?_) (a' := ?_) #[false, true, false, false, true, false, false, false, false, false, false, false, false, false, false, false, false, false, false, false, false] rfl rfl (any_of HT_.out (by kernel_rfl)) (fun _ _ _ h => h) (Or.inl ⟨by rfl, ?_⟩) ?_ ?_
  rotate_left
  · intro w'
    go_simp
    with_reducible rfl
  rotate_left
  · simp only [Act.put, List.setIfInBounds_toArray, List.set_cons_zero, List.set_cons_succ, i64_w, i32_w]
    rfl
  refine pure_ (i := 7) (N := some 25) (v := ?_) (a' := ?_) #[false, true, false, false, true, false, false, true, false, false, false, false, false, false, false, false, false, false, false, false, false] rfl rfl (any_of HT_.out (by kernel_rfl)) (fun _ _ _ h => h) (Or.inl ⟨by rfl, ?_⟩) ?_ ?_
  rotate_left
  · intro w'
    go_simp
    with_reducible rfl
  rotate_left
  · simp only [Act.put, List.setIfInBounds_toArray, List.set_cons_zero, List.set_cons_succ, i64_w, i32_w]
    rfl
  refine pure_ (i := 10) (N := some 28) (v := ?_) (a' := ?_) #[false, true, false, false, true, false, false, true, false, false, true, false, false, false, false, false, false, false, false, false, false] rfl rfl (any_of HT_.out (by kernel_rfl)) (fun _ _ _ h => h) (Or.inl ⟨by rfl, ?_⟩) ?_ ?_
  rotate_left
  · intro w'
    go_simp
    with_reducible rfl
  rotate_left
  · simp only [Act.put, List.setIfInBounds_toArray, List.set_cons_zero, List.set_cons_succ, i64_w, i32_w]
    rfl
  refine pure_ (i := 13) (N := some 31) (v := ?_) (a' := ?_) #[false, true, false, false, true, false, false, true, false, false, true, false, false, true, false, false, false, false, false, false, false] rfl rfl (any_of HT_.out (by kernel_rfl)) (fun _ _ _ h => h) (Or.inl ⟨by rfl, ?_⟩) ?_ ?_
  rotate_left
  · intro w'
    go_simp
    with_reducible rfl
  rotate_left
  · simp only [Act.put, List.setIfInBounds_toArray, List.set_cons_zero, List.set_cons_succ, i64_w, i32_w]
    rfl
  refine pure_ (i := 16) (N := some 34) (v := ?_) (a' := ?_) #[false, true, false, false, true, false, false, true, false, false, true, false, false, true, false, false, true, false, false, false, false] rfl rfl (any_of HT_.out (by kernel_rfl)) (fun _ _ _ h => h) (Or.inl ⟨by rfl, ?_⟩) ?_ ?_
  rotate_left
  · intro w'
    go_simp
    with_reducible rfl
  rotate_left
  · simp only [Act.put, List.setIfInBounds_toArray, List.set_cons_zero, List.set_cons_succ, i64_w, i32_w]
    rfl
  refine take_ (i := 0) (N := some 18) (v := ?_) (a' := ?_) #[true, true, false, false, true, false, false, true, false, false, true, false, false, true, false, false, true, false, false, false, false] rfl rfl (take_ofW HT_.out HW_.out (by kernel_rfl)) (fun _ _ _ h => h) (Or.inl ⟨by rfl, ?_⟩) hHeld ?_ ?_
  rotate_left
  · rintro w' ⟨s0, s1, s2, s3, s4, s5, s6, s7, s8, s9, s10, s11, s12, s13, s14, s15, s16, s17, s18, s19, s20, s21⟩
    go_simp
    with_reducible rfl
  rotate_left
  · simp only [Act.put, List.setIfInBounds_toArray, List.set_cons_zero, List.set_cons_succ, i64_w, i32_w]
    rfl
  refine take_ (i := 2) (N := some 20) (v := ?_) (a' := ?_) #[true, true, true, false, true, false, false, true, false, false, true, false, false, true, false, false, true, false, false, false, false] rfl rfl (take_ofW HT_.out HW_.out (by kernel_rfl)) (fun _ _ _ h => h) (Or.inl ⟨by rfl, ?_⟩) hHeld ?_ ?_
  rotate_left
  · rintro w' ⟨s0, s1, s2, s3, s4, s5, s6, s7, s8, s9, s10, s11, s12, s13, s14, s15, s16, s17, s18, s19, s20, s21⟩
    go_simp
    with_reducible rfl
  rotate_left
  · simp only [Act.put, List.setIfInBounds_toArray, List.set_cons_zero, List.set_cons_succ, i64_w, i32_w]
    rfl
  refine take_ (i := 5) (N := some 23) (v := ?_) (a' := ?_) #[true, true, true, false, true, true, false, true, false, false, true, false, false, true, false, false, true, false, false, false, false] rfl rfl (take_ofW HT_.out HW_.out (by kernel_rfl)) (fun _ _ _ h => h) (Or.inl ⟨by rfl, ?_⟩) hHeld ?_ ?_
  rotate_left
  · rintro w' ⟨s0, s1, s2, s3, s4, s5, s6, s7, s8, s9, s10, s11, s12, s13, s14, s15, s16, s17, s18, s19, s20, s21⟩
    go_simp
    with_reducible rfl
  rotate_left
  · simp only [Act.put, List.setIfInBounds_toArray, List.set_cons_zero, List.set_cons_succ, i64_w, i32_w]
    rfl
  refine take_ (i := 8) (N := some 26) (v := ?_) (a' := ?_) #[true, true, true, false, true, true, false, true, true, false, true, false, false, true, false, false, true, false, false, false, false] rfl rfl (take_ofW HT_.out HW_.out (by kernel_rfl)) (fun _ _ _ h => h) (Or.inl ⟨by rfl, ?_⟩) hHeld ?_ ?_
  rotate_left
  · rintro w' ⟨s0, s1, s2, s3, s4, s5, s6, s7, s8, s9, s10, s11, s12, s13, s14, s15, s16, s17, s18, s19, s20, s21⟩
    go_simp
    with_reducible rfl
  rotate_left
  · simp only [Act.put, List.setIfInBounds_toArray, List.set_cons_zero, List.set_cons_succ, i64_w, i32_w]
    rfl
  refine take_ (i := 11) (N := some 29) (v := ?_) (a' := ?_) #[true, true, true, false, true, true, false, true, true, false, true, true, false, true, false, false, true, false, false, false, false] rfl rfl (take_ofW HT_.out HW_.out (by kernel_rfl)) (fun _ _ _ h => h) (Or.inl ⟨by rfl, ?_⟩) hHeld ?_ ?_
  rotate_left
  · rintro w' ⟨s0, s1, s2, s3, s4, s5, s6, s7, s8, s9, s10, s11, s12, s13, s14, s15, s16, s17, s18, s19, s20, s21⟩
    go_simp
    with_reducible rfl
  rotate_left
  · simp only [Act.put, List.setIfInBounds_toArray, List.set_cons_zero, List.set_cons_succ, i64_w, i32_w]
    rfl
  refine take_ (i := 14) (N := some 32) (v := ?_) (a' := ?_) #[true, true, true, false, true, true, false, true, true, false, true, true, false, true, true, false, true, false, false, false, false] rfl rfl (take_ofW HT_.out HW_.out (by kernel_rfl)) (fun _ _ _ h => h) (Or.inl ⟨by rfl, ?_⟩) hHeld ?_ ?_
  rotate_left
  · rintro w' ⟨s0, s1, s2, s3, s4, s5, s6, s7, s8, s9, s10, s11, s12, s13, s14, s15, s16, s17, s18, s19, s20, s21⟩
    go_simp
    with_reducible rfl
  rotate_left
  · simp only [Act.put, List.setIfInBounds_toArray, List.set_cons_zero, List.set_cons_succ, i64_w, i32_w]
    rfl
  refine take_ (i := 17) (N := some 35) (v := ?_) (a' := ?_) #[true, true, true, false, true, true, false, true, true, false, true, true, false, true, true, false, true, true, false, false, false] rfl rfl (take_ofW HT_.out HW_.out (by kernel_rfl)) (fun _ _ _ h => h) (Or.inl ⟨by rfl, ?_⟩) hHeld ?_ ?_
  rotate_left
  · rintro w' ⟨s0, s1, s2, s3, s4, s5, s6, s7, s8, s9, s10, s11, s12, s13, s14, s15, s16, s17, s18, s19, s20, s21⟩
    go_simp
    with_reducible rfl
  rotate_left
  · simp only [Act.put, List.setIfInBounds_toArray, List.set_cons_zero, List.set_cons_succ, i64_w, i32_w]
    rfl
  refine pure_ (i := 18) (N := some 36) (v := ?_) (a' := ?_) #[true, true, true, false, true, true, false, true, true, false, true, true, false, true, true, false, true, true, true, false, false] rfl rfl (any_of HT_.out (by kernel_rfl)) (fun _ _ _ h => h) (Or.inl ⟨by rfl, ?_⟩) ?_ ?_
  rotate_left
  · intro w'
    go_simp
    with_reducible rfl
  rotate_left
  · simp only [Act.put, List.setIfInBounds_toArray, List.set_cons_zero, List.set_cons_succ, i64_w, i32_w]
    rfl
  refine one_ (i := 3) (N := some 21) #[true, true, true, true, true, true, false, true, true, false, true, true, false, true, true, false, true, true, true, false, false] rfl rfl (one_of HT_.out (by kernel_rfl)) (by decide) (fun K hK => ?_)
  refine goes_ Tryd.func23 (by kernel_rfl) rfl #[.slice A0_8 l0_8.length c0_8] (by rfl) rfl rfl (by (try simp only [List.map_toArray, List.map_cons, List.map_nil]); first | done | rfl | (simp only [List.length_drop, List.length_take]; rfl)) ?_
  with_reducible refine (bolterlaw02_Name.calls k _ _ l0_8 t235 _ ?side1 ?side2 A2.out).mono ?_
  (case side1 => repeat (first | exact (Kd.C_below HR0_8.out HB.out) | (with_reducible refine Kd.C_alloc ?_ _) | (with_reducible refine Kd.C_drewN ?_ _) | (with_reducible refine Kd.C_drew ?_)))
  (case side2 => exact HC0_8.out)
  rintro e w16 ⟨rfl, hb⟩
  refine ⟨_, rfl, ?_⟩
  have n0_ := Aside0.mk (blk_below (g := gb232) (o := .cells #[.int .u16 a0_0, .bool a0_1, .int .i64 a0_2, .bool a0_3, .bool a0_4, .bool a0_5, .bool a0_6, .int .i64 a0_7, .slice A0_8 l0_8.length c0_8, .int .u16 a0_9, .slice A0_10 l0_10.length c0_10, .slice A0_11 l0_11.length c0_11, .slice A0_12 l0_12.length c0_12, .int .u16 a0_13] 47 (0, 0)) (by (with_reducible repeat (first | refine blk_drewN ?_ _ | refine blk_drew ?_ | refine blk_alloc ?_ _)); exact BK232.out) hb)
  have n1_ := Aside0.mk (blk_below (g := gb233) (o := .cells #[.int .u16 0, .bool false, .int .i64 0, .bool false, .bool false, .bool false, .bool false, .int .i64 0, .string (⟨#[]⟩ : ByteArray), .int .u16 0, .slice none 0 0, .slice none 0 0, .slice none 0 0, .int .i64 0] 33 (0, 0)) (by (with_reducible repeat (first | refine blk_drewN ?_ _ | refine blk_drew ?_ | refine blk_alloc ?_ _)); exact BK233.out) hb)
  have n2_ := Aside0.mk (blk_below (g := gb234) (o := .cells #[.int .u16 a0_0, .bool a0_1, .int .i64 (Int.tmod (wrap64 ((Int.tmod a0_2 16) + 16)) 16), .bool a0_3, .bool a0_4, .bool a0_5, .bool a0_6, .int .i64 (Int.tmod (wrap64 ((Int.tmod a0_7 16) + 16)) 16)] 26 (0, 0)) (by (with_reducible repeat (first | refine blk_drewN ?_ _ | refine blk_drew ?_ | refine blk_alloc ?_ _)); exact BK234.out) hb)
  have n3_ := Aside0.mk (below_step (by repeat (first | (with_reducible first | exact HB.out | apply below_alloc | apply pw_below_drewN | apply below_drew1 | refine below_set ?_ GE232.out | refine below_set ?_ GE233.out | refine below_set ?_ GE234.out) | exact HB.out)) hb)
  clear BK232
  clear BK233
  clear BK234
  clear HB
  have BK232 := n0_
  have BK233 := n1_
  have BK234 := n2_
  have HB := n3_
  clear n0_ n1_ n2_ n3_
  (try clear hb)
  (try clear hb2)
  (try clear hk)
  (try clear hi)
  refine hK.out _ _ ⟨(blk_cell BK234.out 0).trans rfl, (blk_cell BK234.out 1).trans rfl, (blk_cell BK234.out 2).trans rfl, (blk_cell BK234.out 3).trans rfl, (blk_cell BK234.out 4).trans rfl, (blk_cell BK234.out 5).trans rfl, (blk_cell BK234.out 6).trans rfl, (blk_cell BK234.out 7).trans rfl, (blk_cell BK232.out 0).trans rfl, (blk_cell BK232.out 1).trans rfl, (blk_cell BK232.out 2).trans rfl, (blk_cell BK232.out 3).trans rfl, (blk_cell BK232.out 4).trans rfl, (blk_cell BK232.out 5).trans rfl, (blk_cell BK232.out 6).trans rfl, (blk_cell BK232.out 7).trans rfl, (blk_cell BK232.out 8).trans rfl, (blk_cell BK232.out 9).trans rfl, (blk_cell BK232.out 10).trans rfl, (blk_cell BK232.out 11).trans rfl, (blk_cell BK232.out 12).trans rfl, (blk_cell BK232.out 13).trans rfl⟩ (fun hHeld => ?_)
  clear hK K
  refine norm_ (a' := ?_) ?_ ?_
  rotate_left
  · show Act.put _ (some 21) _ = _
    simp only [Act.put, List.setIfInBounds_toArray, List.set_cons_zero, List.set_cons_succ, i64_w, i32_w]
    rfl
  refine pure_ (i := 6) (N := some 24) (v := ?_) (a' := ?_) #[true, true, true, true, true, true, true, true, true, false, true, true, false, true, true, false, true, true, true, false, false] rfl rfl (any_of HT_.out (by kernel_rfl)) (fun _ _ _ h => h) (Or.inl ⟨by rfl, ?_⟩) ?_ ?_
  rotate_left
  · intro w'
    go_simp
    with_reducible rfl
  rotate_left
  · simp only [Act.put, List.setIfInBounds_toArray, List.set_cons_zero, List.set_cons_succ, i64_w, i32_w]
    rfl
  refine one_ (i := 9) (N := some 27) #[true, true, true, true, true, true, true, true, true, true, true, true, false, true, true, false, true, true, true, false, false] rfl rfl (one_of HT_.out (by kernel_rfl)) (by decide) (fun K hK => ?_)
  refine goes_ Tryd.func24 (by kernel_rfl) rfl #[.slice A0_10 l0_10.length c0_10, .int .i64 12] (by rfl) rfl rfl (by (try simp only [List.map_toArray, List.map_cons, List.map_nil]); first | done | rfl | (simp only [List.length_drop, List.length_take]; rfl)) ?_
  with_reducible refine (bolterlaw05_Records.calls k _ _ l0_10 12 t236 _ ?side1 ?side2 A3.out).mono ?_
  (case side1 => repeat (first | exact (Kd.C_below HR0_10.out HB.out) | (with_reducible refine Kd.C_alloc ?_ _) | (with_reducible refine Kd.C_drewN ?_ _) | (with_reducible refine Kd.C_drew ?_)))
  (case side2 => exact HC0_10.out)
  rintro e w17 ⟨v237, rfl, ho0, hb⟩
  refine ⟨_, rfl, ?_⟩
  have n0_ := Aside0.mk (Kd.R_lower ho0 (below_size (by repeat (first | (with_reducible first | exact HB.out | apply below_alloc | apply pw_below_drewN | apply below_drew1 | refine below_set ?_ GE232.out | refine below_set ?_ GE233.out | refine below_set ?_ GE234.out) | exact HB.out))))
  have n1_ := Aside0.mk (blk_below (g := gb232) (o := .cells #[.int .u16 a0_0, .bool a0_1, .int .i64 a0_2, .bool a0_3, .bool a0_4, .bool a0_5, .bool a0_6, .int .i64 a0_7, .slice A0_8 l0_8.length c0_8, .int .u16 a0_9, .slice A0_10 l0_10.length c0_10, .slice A0_11 l0_11.length c0_11, .slice A0_12 l0_12.length c0_12, .int .u16 a0_13] 47 (0, 0)) (by (with_reducible repeat (first | refine blk_drewN ?_ _ | refine blk_drew ?_ | refine blk_alloc ?_ _)); exact BK232.out) hb)
  have n2_ := Aside0.mk (blk_below (g := gb233) (o := .cells #[.int .u16 0, .bool false, .int .i64 0, .bool false, .bool false, .bool false, .bool false, .int .i64 0, .string (⟨#[]⟩ : ByteArray), .int .u16 0, .slice none 0 0, .slice none 0 0, .slice none 0 0, .int .i64 0] 33 (0, 0)) (by (with_reducible repeat (first | refine blk_drewN ?_ _ | refine blk_drew ?_ | refine blk_alloc ?_ _)); exact BK233.out) hb)
  have n3_ := Aside0.mk (blk_below (g := gb234) (o := .cells #[.int .u16 a0_0, .bool a0_1, .int .i64 (Int.tmod (wrap64 ((Int.tmod a0_2 16) + 16)) 16), .bool a0_3, .bool a0_4, .bool a0_5, .bool a0_6, .int .i64 (Int.tmod (wrap64 ((Int.tmod a0_7 16) + 16)) 16)] 26 (0, 0)) (by (with_reducible repeat (first | refine blk_drewN ?_ _ | refine blk_drew ?_ | refine blk_alloc ?_ _)); exact BK234.out) hb)
  have n4_ := Aside0.mk (below_step (by repeat (first | (with_reducible first | exact HB.out | apply below_alloc | apply pw_below_drewN | apply below_drew1 | refine below_set ?_ GE232.out | refine below_set ?_ GE233.out | refine below_set ?_ GE234.out) | exact HB.out)) hb)
  clear BK232
  clear BK233
  clear BK234
  clear HB
  have HO238 := n0_
  have BK232 := n1_
  have BK233 := n2_
  have BK234 := n3_
  have HB := n4_
  clear n0_ n1_ n2_ n3_ n4_
  (try clear hb)
  (try clear hb2)
  (try clear hk)
  (try clear hi)
  (try clear ho0)
  refine hK.out _ _ ⟨(blk_cell BK234.out 0).trans rfl, (blk_cell BK234.out 1).trans rfl, (blk_cell BK234.out 2).trans rfl, (blk_cell BK234.out 3).trans rfl, (blk_cell BK234.out 4).trans rfl, (blk_cell BK234.out 5).trans rfl, (blk_cell BK234.out 6).trans rfl, (blk_cell BK234.out 7).trans rfl, (blk_cell BK232.out 0).trans rfl, (blk_cell BK232.out 1).trans rfl, (blk_cell BK232.out 2).trans rfl, (blk_cell BK232.out 3).trans rfl, (blk_cell BK232.out 4).trans rfl, (blk_cell BK232.out 5).trans rfl, (blk_cell BK232.out 6).trans rfl, (blk_cell BK232.out 7).trans rfl, (blk_cell BK232.out 8).trans rfl, (blk_cell BK232.out 9).trans rfl, (blk_cell BK232.out 10).trans rfl, (blk_cell BK232.out 11).trans rfl, (blk_cell BK232.out 12).trans rfl, (blk_cell BK232.out 13).trans rfl⟩ (fun hHeld => ?_)
  clear hK K
  refine norm_ (a' := ?_) ?_ ?_
  rotate_left
  · show Act.put _ (some 27) _ = _
    simp only [Act.put, List.setIfInBounds_toArray, List.set_cons_zero, List.set_cons_succ, i64_w, i32_w]
    rfl
  refine one_ (i := 12) (N := some 30) #[true, true, true, true, true, true, true, true, true, true, true, true, true, true, true, false, true, true, true, false, false] rfl rfl (one_of HT_.out (by kernel_rfl)) (by decide) (fun K hK => ?_)
  refine goes_ Tryd.func24 (by kernel_rfl) rfl #[.slice A0_11 l0_11.length c0_11, .int .i64 12] (by rfl) rfl rfl (by (try simp only [List.map_toArray, List.map_cons, List.map_nil]); first | done | rfl | (simp only [List.length_drop, List.length_take]; rfl)) ?_
  with_reducible refine (bolterlaw05_Records.calls k _ _ l0_11 12 t239 _ ?side1 ?side2 A4.out).mono ?_
  (case side1 => repeat (first | exact (Kd.C_below HR0_11.out HB.out) | (with_reducible refine Kd.C_alloc ?_ _) | (with_reducible refine Kd.C_drewN ?_ _) | (with_reducible refine Kd.C_drew ?_)))
  (case side2 => exact HC0_11.out)
  rintro e w18 ⟨v240, rfl, ho0, hb⟩
  refine ⟨_, rfl, ?_⟩
  have n0_ := Aside0.mk (Kd.R_elder' (by (with_reducible repeat (first | apply Kd.R_alloc | apply Kd.R_drewN | apply Kd.R_drew)); exact HO238.out) (Kd.R_base ho0) hb)
  have n1_ := Aside0.mk (Kd.R_lower (Kd.R_new' ho0 (Kd.R_lt (by (with_reducible repeat (first | apply Kd.R_alloc | apply Kd.R_drewN | apply Kd.R_drew)); exact HO238.out))) (below_size (by repeat (first | (with_reducible first | exact HB.out | apply below_alloc | apply pw_below_drewN | apply below_drew1 | refine below_set ?_ GE232.out | refine below_set ?_ GE233.out | refine below_set ?_ GE234.out) | exact HB.out))))
  have n2_ := Aside0.mk (blk_below (g := gb232) (o := .cells #[.int .u16 a0_0, .bool a0_1, .int .i64 a0_2, .bool a0_3, .bool a0_4, .bool a0_5, .bool a0_6, .int .i64 a0_7, .slice A0_8 l0_8.length c0_8, .int .u16 a0_9, .slice A0_10 l0_10.length c0_10, .slice A0_11 l0_11.length c0_11, .slice A0_12 l0_12.length c0_12, .int .u16 a0_13] 47 (0, 0)) (by (with_reducible repeat (first | refine blk_drewN ?_ _ | refine blk_drew ?_ | refine blk_alloc ?_ _)); exact BK232.out) hb)
  have n3_ := Aside0.mk (blk_below (g := gb233) (o := .cells #[.int .u16 0, .bool false, .int .i64 0, .bool false, .bool false, .bool false, .bool false, .int .i64 0, .string (⟨#[]⟩ : ByteArray), .int .u16 0, .slice none 0 0, .slice none 0 0, .slice none 0 0, .int .i64 0] 33 (0, 0)) (by (with_reducible repeat (first | refine blk_drewN ?_ _ | refine blk_drew ?_ | refine blk_alloc ?_ _)); exact BK233.out) hb)
  have n4_ := Aside0.mk (blk_below (g := gb234) (o := .cells #[.int .u16 a0_0, .bool a0_1, .int .i64 (Int.tmod (wrap64 ((Int.tmod a0_2 16) + 16)) 16), .bool a0_3, .bool a0_4, .bool a0_5, .bool a0_6, .int .i64 (Int.tmod (wrap64 ((Int.tmod a0_7 16) + 16)) 16)] 26 (0, 0)) (by (with_reducible repeat (first | refine blk_drewN ?_ _ | refine blk_drew ?_ | refine blk_alloc ?_ _)); exact BK234.out) hb)
  have n5_ := Aside0.mk (below_step (by repeat (first | (with_reducible first | exact HB.out | apply below_alloc | apply pw_below_drewN | apply below_drew1 | refine below_set ?_ GE232.out | refine below_set ?_ GE233.out | refine below_set ?_ GE234.out) | exact HB.out)) hb)
  clear HO238
  clear BK232
  clear BK233
  clear BK234
  clear HB
  have HO238 := n0_
  have HO241 := n1_
  have BK232 := n2_
  have BK233 := n3_
  have BK234 := n4_
  have HB := n5_
  clear n0_ n1_ n2_ n3_ n4_ n5_
  (try clear hb)
  (try clear hb2)
  (try clear hk)
  (try clear hi)
  (try clear ho0)
  refine hK.out _ _ ⟨(blk_cell BK234.out 0).trans rfl, (blk_cell BK234.out 1).trans rfl, (blk_cell BK234.out 2).trans rfl, (blk_cell BK234.out 3).trans rfl, (blk_cell BK234.out 4).trans rfl, (blk_cell BK234.out 5).trans rfl, (blk_cell BK234.out 6).trans rfl, (blk_cell BK234.out 7).trans rfl, (blk_cell BK232.out 0).trans rfl, (blk_cell BK232.out 1).trans rfl, (blk_cell BK232.out 2).trans rfl, (blk_cell BK232.out 3).trans rfl, (blk_cell BK232.out 4).trans rfl, (blk_cell BK232.out 5).trans rfl, (blk_cell BK232.out 6).trans rfl, (blk_cell BK232.out 7).trans rfl, (blk_cell BK232.out 8).trans rfl, (blk_cell BK232.out 9).trans rfl, (blk_cell BK232.out 10).trans rfl, (blk_cell BK232.out 11).trans rfl, (blk_cell BK232.out 12).trans rfl, (blk_cell BK232.out 13).trans rfl⟩ (fun hHeld => ?_)
  clear hK K
  refine norm_ (a' := ?_) ?_ ?_
  rotate_left
  · show Act.put _ (some 30) _ = _
    simp only [Act.put, List.setIfInBounds_toArray, List.set_cons_zero, List.set_cons_succ, i64_w, i32_w]
    rfl
  refine one_ (i := 15) (N := some 33) #[true, true, true, true, true, true, true, true, true, true, true, true, true, true, true, true, true, true, true, false, false] rfl rfl (one_of HT_.out (by kernel_rfl)) (by decide) (fun K hK => ?_)
  refine goes_ Tryd.func24 (by kernel_rfl) rfl #[.slice A0_12 l0_12.length c0_12, .int .i64 12] (by rfl) rfl rfl (by (try simp only [List.map_toArray, List.map_cons, List.map_nil]); first | done | rfl | (simp only [List.length_drop, List.length_take]; rfl)) ?_
  with_reducible refine (bolterlaw05_Records.calls k _ _ l0_12 12 t242 _ ?side1 ?side2 A5.out).mono ?_
  (case side1 => repeat (first | exact (Kd.C_below HR0_12.out HB.out) | (with_reducible refine Kd.C_alloc ?_ _) | (with_reducible refine Kd.C_drewN ?_ _) | (with_reducible refine Kd.C_drew ?_)))
  (case side2 => exact HC0_12.out)
  rintro e w19 ⟨v243, rfl, ho0, hb⟩
  refine ⟨_, rfl, ?_⟩
  have n0_ := Aside0.mk (Kd.R_elder' (by (with_reducible repeat (first | apply Kd.R_alloc | apply Kd.R_drewN | apply Kd.R_drew)); exact HO238.out) (Kd.R_base ho0) hb)
  have n1_ := Aside0.mk (Kd.R_elder' (by (with_reducible repeat (first | apply Kd.R_alloc | apply Kd.R_drewN | apply Kd.R_drew)); exact HO241.out) (Kd.R_base ho0) hb)
  have n2_ := Aside0.mk (Kd.R_lower (Kd.R_new' (Kd.R_new' ho0 (Kd.R_lt (by (with_reducible repeat (first | apply Kd.R_alloc | apply Kd.R_drewN | apply Kd.R_drew)); exact HO238.out))) (Kd.R_lt (by (with_reducible repeat (first | apply Kd.R_alloc | apply Kd.R_drewN | apply Kd.R_drew)); exact HO241.out))) (below_size (by repeat (first | (with_reducible first | exact HB.out | apply below_alloc | apply pw_below_drewN | apply below_drew1 | refine below_set ?_ GE232.out | refine below_set ?_ GE233.out | refine below_set ?_ GE234.out) | exact HB.out))))
  have n3_ := Aside0.mk (blk_below (g := gb232) (o := .cells #[.int .u16 a0_0, .bool a0_1, .int .i64 a0_2, .bool a0_3, .bool a0_4, .bool a0_5, .bool a0_6, .int .i64 a0_7, .slice A0_8 l0_8.length c0_8, .int .u16 a0_9, .slice A0_10 l0_10.length c0_10, .slice A0_11 l0_11.length c0_11, .slice A0_12 l0_12.length c0_12, .int .u16 a0_13] 47 (0, 0)) (by (with_reducible repeat (first | refine blk_drewN ?_ _ | refine blk_drew ?_ | refine blk_alloc ?_ _)); exact BK232.out) hb)
  have n4_ := Aside0.mk (blk_below (g := gb233) (o := .cells #[.int .u16 0, .bool false, .int .i64 0, .bool false, .bool false, .bool false, .bool false, .int .i64 0, .string (⟨#[]⟩ : ByteArray), .int .u16 0, .slice none 0 0, .slice none 0 0, .slice none 0 0, .int .i64 0] 33 (0, 0)) (by (with_reducible repeat (first | refine blk_drewN ?_ _ | refine blk_drew ?_ | refine blk_alloc ?_ _)); exact BK233.out) hb)
  have n5_ := Aside0.mk (blk_below (g := gb234) (o := .cells #[.int .u16 a0_0, .bool a0_1, .int .i64 (Int.tmod (wrap64 ((Int.tmod a0_2 16) + 16)) 16), .bool a0_3, .bool a0_4, .bool a0_5, .bool a0_6, .int .i64 (Int.tmod (wrap64 ((Int.tmod a0_7 16) + 16)) 16)] 26 (0, 0)) (by (with_reducible repeat (first | refine blk_drewN ?_ _ | refine blk_drew ?_ | refine blk_alloc ?_ _)); exact BK234.out) hb)
  have n6_ := Aside0.mk (below_step (by repeat (first | (with_reducible first | exact HB.out | apply below_alloc | apply pw_below_drewN | apply below_drew1 | refine below_set ?_ GE232.out | refine below_set ?_ GE233.out | refine below_set ?_ GE234.out) | exact HB.out)) hb)
  clear HO238
  clear HO241
  clear BK232
  clear BK233
  clear BK234
  clear HB
  have HO238 := n0_
  have HO241 := n1_
  have HO244 := n2_
  have BK232 := n3_
  have BK233 := n4_
  have BK234 := n5_
  have HB := n6_
  clear n0_ n1_ n2_ n3_ n4_ n5_ n6_
  (try clear hb)
  (try clear hb2)
  (try clear hk)
  (try clear hi)
  (try clear ho0)
  obtain ⟨Ao20, co20, eo20⟩ := Kd.R_slice HO244.out
  (first | subst eo20 | (injection eo20 with f1_ f2_ f3_; have f4_ := f1_.symm; have f5_ := f3_.symm; clear f1_ f2_ f3_; subst f4_; subst f5_))
  obtain ⟨Ao21, co21, eo21⟩ := Kd.R_slice HO241.out
  (first | subst eo21 | (injection eo21 with f1_ f2_ f3_; have f4_ := f1_.symm; have f5_ := f3_.symm; clear f1_ f2_ f3_; subst f4_; subst f5_))
  obtain ⟨Ao22, co22, eo22⟩ := Kd.R_slice HO238.out
  (first | subst eo22 | (injection eo22 with f1_ f2_ f3_; have f4_ := f1_.symm; have f5_ := f3_.symm; clear f1_ f2_ f3_; subst f4_; subst f5_))
  refine hK.out _ _ ⟨(blk_cell BK234.out 0).trans rfl, (blk_cell BK234.out 1).trans rfl, (blk_cell BK234.out 2).trans rfl, (blk_cell BK234.out 3).trans rfl, (blk_cell BK234.out 4).trans rfl, (blk_cell BK234.out 5).trans rfl, (blk_cell BK234.out 6).trans rfl, (blk_cell BK234.out 7).trans rfl, (blk_cell BK232.out 0).trans rfl, (blk_cell BK232.out 1).trans rfl, (blk_cell BK232.out 2).trans rfl, (blk_cell BK232.out 3).trans rfl, (blk_cell BK232.out 4).trans rfl, (blk_cell BK232.out 5).trans rfl, (blk_cell BK232.out 6).trans rfl, (blk_cell BK232.out 7).trans rfl, (blk_cell BK232.out 8).trans rfl, (blk_cell BK232.out 9).trans rfl, (blk_cell BK232.out 10).trans rfl, (blk_cell BK232.out 11).trans rfl, (blk_cell BK232.out 12).trans rfl, (blk_cell BK232.out 13).trans rfl⟩ (fun hHeld => ?_)
  clear hK K
  refine norm_ (a' := ?_) ?_ ?_
  rotate_left
  · show Act.put _ (some 33) _ = _
    simp only [Act.put, List.setIfInBounds_toArray, List.set_cons_zero, List.set_cons_succ, i64_w, i32_w]
    rfl
  refine pure_ (i := 19) (N := some 37) (v := ?_) (a' := ?_) #[true, true, true, true, true, true, true, true, true, true, true, true, true, true, true, true, true, true, true, true, false] rfl rfl (any_of HT_.out (by kernel_rfl)) (fun _ _ _ h => h) (Or.inl ⟨by rfl, ?_⟩) ?_ ?_
  rotate_left
  · intro w'
    go_simp
    with_reducible rfl
  rotate_left
  · simp only [Act.put, List.setIfInBounds_toArray, List.set_cons_zero, List.set_cons_succ, i64_w, i32_w]
    rfl
  refine one_ (i := 20) (N := none) #[true, true, true, true, true, true, true, true, true, true, true, true, true, true, true, true, true, true, true, true, true] rfl rfl (one_of HT_.out (by kernel_rfl)) (by decide) (fun K hK => ?_)
  have hs23 : w19.cell? ⟨gb233, 0, none⟩ = some (.int .u16 0) := (blk_cell BK233.out 0).trans rfl
  have hfs23 := blk_frozen BK233.out 0
  have hns23_0 := NB232_233.out
  have hns23_2 := NB234_233.out
  have hms23_0 := NB233_232.out
  have hms23_2 := NB233_234.out
  have hs24 : w19.cell? ⟨gb233, 1, none⟩ = some (.bool false) := (blk_cell BK233.out 1).trans rfl
  have hfs24 := blk_frozen BK233.out 1
  have hns24_0 := NB232_233.out
  have hns24_2 := NB234_233.out
  have hms24_0 := NB233_232.out
  have hms24_2 := NB233_234.out
  have hs25 : w19.cell? ⟨gb233, 2, none⟩ = some (.int .i64 0) := (blk_cell BK233.out 2).trans rfl
  have hfs25 := blk_frozen BK233.out 2
  have hns25_0 := NB232_233.out
  have hns25_2 := NB234_233.out
  have hms25_0 := NB233_232.out
  have hms25_2 := NB233_234.out
  have hs26 : w19.cell? ⟨gb233, 3, none⟩ = some (.bool false) := (blk_cell BK233.out 3).trans rfl
  have hfs26 := blk_frozen BK233.out 3
  have hns26_0 := NB232_233.out
  have hns26_2 := NB234_233.out
  have hms26_0 := NB233_232.out
  have hms26_2 := NB233_234.out
  have hs27 : w19.cell? ⟨gb233, 4, none⟩ = some (.bool false) := (blk_cell BK233.out 4).trans rfl
  have hfs27 := blk_frozen BK233.out 4
  have hns27_0 := NB232_233.out
  have hns27_2 := NB234_233.out
  have hms27_0 := NB233_232.out
  have hms27_2 := NB233_234.out
  have hs28 : w19.cell? ⟨gb233, 5, none⟩ = some (.bool false) := (blk_cell BK233.out 5).trans rfl
  have hfs28 := blk_frozen BK233.out 5
  have hns28_0 := NB232_233.out
  have hns28_2 := NB234_233.out
  have hms28_0 := NB233_232.out
  have hms28_2 := NB233_234.out
  have hs29 : w19.cell? ⟨gb233, 6, none⟩ = some (.bool false) := (blk_cell BK233.out 6).trans rfl
  have hfs29 := blk_frozen BK233.out 6
  have hns29_0 := NB232_233.out
  have hns29_2 := NB234_233.out
  have hms29_0 := NB233_232.out
  have hms29_2 := NB233_234.out
  have hs30 : w19.cell? ⟨gb233, 7, none⟩ = some (.int .i64 0) := (blk_cell BK233.out 7).trans rfl
  have hfs30 := blk_frozen BK233.out 7
  have hns30_0 := NB232_233.out
  have hns30_2 := NB234_233.out
  have hms30_0 := NB233_232.out
  have hms30_2 := NB233_234.out
  have hs31 : w19.cell? ⟨gb233, 8, none⟩ = some (.string (⟨#[]⟩ : ByteArray)) := (blk_cell BK233.out 8).trans rfl
  have hfs31 := blk_frozen BK233.out 8
  have hns31_0 := NB232_233.out
  have hns31_2 := NB234_233.out
  have hms31_0 := NB233_232.out
  have hms31_2 := NB233_234.out
  have hs32 : w19.cell? ⟨gb233, 9, none⟩ = some (.int .u16 0) := (blk_cell BK233.out 9).trans rfl
  have hfs32 := blk_frozen BK233.out 9
  have hns32_0 := NB232_233.out
  have hns32_2 := NB234_233.out
  have hms32_0 := NB233_232.out
  have hms32_2 := NB233_234.out
  have hs33 : w19.cell? ⟨gb233, 10, none⟩ = some (.slice none 0 0) := (blk_cell BK233.out 10).trans rfl
  have hfs33 := blk_frozen BK233.out 10
  have hns33_0 := NB232_233.out
  have hns33_2 := NB234_233.out
  have hms33_0 := NB233_232.out
  have hms33_2 := NB233_234.out
  have hs34 : w19.cell? ⟨gb233, 11, none⟩ = some (.slice none 0 0) := (blk_cell BK233.out 11).trans rfl
  have hfs34 := blk_frozen BK233.out 11
  have hns34_0 := NB232_233.out
  have hns34_2 := NB234_233.out
  have hms34_0 := NB233_232.out
  have hms34_2 := NB233_234.out
  have hs35 : w19.cell? ⟨gb233, 12, none⟩ = some (.slice none 0 0) := (blk_cell BK233.out 12).trans rfl
  have hfs35 := blk_frozen BK233.out 12
  have hns35_0 := NB232_233.out
  have hns35_2 := NB234_233.out
  have hms35_0 := NB233_232.out
  have hms35_2 := NB233_234.out
  have hs36 : w19.cell? ⟨gb233, 13, none⟩ = some (.int .i64 0) := (blk_cell BK233.out 13).trans rfl
  have hfs36 := blk_frozen BK233.out 13
  have hns36_0 := NB232_233.out
  have hns36_2 := NB234_233.out
  have hms36_0 := NB233_232.out
  have hms36_2 := NB233_234.out
  refine skip_ (w1 := ?_) (by rfl) rfl ?_ ?_
  rotate_left
  · go_simp
    rfl
  refine hK.out _ _ ⟨((cell_far (p := ⟨gb233, _, none⟩) NB234_233.out _).trans (((cell_far (p := ⟨gb233, _, none⟩) NB234_233.out _).trans (((cell_far (p := ⟨gb233, _, none⟩) NB234_233.out _).trans (((cell_far (p := ⟨gb233, _, none⟩) NB234_233.out _).trans (((cell_far (p := ⟨gb233, _, none⟩) NB234_233.out _).trans (((cell_far (p := ⟨gb233, _, none⟩) NB234_233.out _).trans (((cell_far (p := ⟨gb233, _, none⟩) NB234_233.out _).trans (((cell_far (p := ⟨gb233, _, none⟩) NB234_233.out _).trans (((cell_far (p := ⟨gb233, _, none⟩) NB234_233.out _).trans (((cell_far (p := ⟨gb233, _, none⟩) NB234_233.out _).trans (((cell_far (p := ⟨gb233, _, none⟩) NB234_233.out _).trans (((cell_far (p := ⟨gb233, _, none⟩) NB234_233.out _).trans (((cell_far (p := ⟨gb233, _, none⟩) NB234_233.out _).trans (((cell_far (p := ⟨gb233, _, none⟩) NB234_233.out _).trans (hHeld.1)))))))))))))))))))))))))))), ((cell_far (p := ⟨gb233, _, none⟩) NB234_233.out _).trans (((cell_far (p := ⟨gb233, _, none⟩) NB234_233.out _).trans (((cell_far (p := ⟨gb233, _, none⟩) NB234_233.out _).trans (((cell_far (p := ⟨gb233, _, none⟩) NB234_233.out _).trans (((cell_far (p := ⟨gb233, _, none⟩) NB234_233.out _).trans (((cell_far (p := ⟨gb233, _, none⟩) NB234_233.out _).trans (((cell_far (p := ⟨gb233, _, none⟩) NB234_233.out _).trans (((cell_far (p := ⟨gb233, _, none⟩) NB234_233.out _).trans (((cell_far (p := ⟨gb233, _, none⟩) NB234_233.out _).trans (((cell_far (p := ⟨gb233, _, none⟩) NB234_233.out _).trans (((cell_far (p := ⟨gb233, _, none⟩) NB234_233.out _).trans (((cell_far (p := ⟨gb233, _, none⟩) NB234_233.out _).trans (((cell_far (p := ⟨gb233, _, none⟩) NB234_233.out _).trans (((cell_far (p := ⟨gb233, _, none⟩) NB234_233.out _).trans (hHeld.2.1)))))))))))))))))))))))))))), ((cell_far (p := ⟨gb233, _, none⟩) NB234_233.out _).trans (((cell_far (p := ⟨gb233, _, none⟩) NB234_233.out _).trans (((cell_far (p := ⟨gb233, _, none⟩) NB234_233.out _).trans (((cell_far (p := ⟨gb233, _, none⟩) NB234_233.out _).trans (((cell_far (p := ⟨gb233, _, none⟩) NB234_233.out _).trans (((cell_far (p := ⟨gb233, _, none⟩) NB234_233.out _).trans (((cell_far (p := ⟨gb233, _, none⟩) NB234_233.out _).trans (((cell_far (p := ⟨gb233, _, none⟩) NB234_233.out _).trans (((cell_far (p := ⟨gb233, _, none⟩) NB234_233.out _).trans (((cell_far (p := ⟨gb233, _, none⟩) NB234_233.out _).trans (((cell_far (p := ⟨gb233, _, none⟩) NB234_233.out _).trans (((cell_far (p := ⟨gb233, _, none⟩) NB234_233.out _).trans (((cell_far (p := ⟨gb233, _, none⟩) NB234_233.out _).trans (((cell_far (p := ⟨gb233, _, none⟩) NB234_233.out _).trans (hHeld.2.2.1)))))))))))))))))))))))))))), ((cell_far (p := ⟨gb233, _, none⟩) NB234_233.out _).trans (((cell_far (p := ⟨gb233, _, none⟩) NB234_233.out _).trans (((cell_far (p := ⟨gb233, _, none⟩) NB234_233.out _).trans (((cell_far (p := ⟨gb233, _, none⟩) NB234_233.out _).trans (((cell_far (p := ⟨gb233, _, none⟩) NB234_233.out _).trans (((cell_far (p := ⟨gb233, _, none⟩) NB234_233.out _).trans (((cell_far (p := ⟨gb233, _, none⟩) NB234_233.out _).trans (((cell_far (p := ⟨gb233, _, none⟩) NB234_233.out _).trans (((cell_far (p := ⟨gb233, _, none⟩) NB234_233.out _).trans (((cell_far (p := ⟨gb233, _, none⟩) NB234_233.out _).trans (((cell_far (p := ⟨gb233, _, none⟩) NB234_233.out _).trans (((cell_far (p := ⟨gb233, _, none⟩) NB234_233.out _).trans (((cell_far (p := ⟨gb233, _, none⟩) NB234_233.out _).trans (((cell_far (p := ⟨gb233, _, none⟩) NB234_233.out _).trans (hHeld.2.2.2.1)))))))))))))))))))))))))))), ((cell_far (p := ⟨gb233, _, none⟩) NB234_233.out _).trans (((cell_far (p := ⟨gb233, _, none⟩) NB234_233.out _).trans (((cell_far (p := ⟨gb233, _, none⟩) NB234_233.out _).trans (((cell_far (p := ⟨gb233, _, none⟩) NB234_233.out _).trans (((cell_far (p := ⟨gb233, _, none⟩) NB234_233.out _).trans (((cell_far (p := ⟨gb233, _, none⟩) NB234_233.out _).trans (((cell_far (p := ⟨gb233, _, none⟩) NB234_233.out _).trans (((cell_far (p := ⟨gb233, _, none⟩) NB234_233.out _).trans (((cell_far (p := ⟨gb233, _, none⟩) NB234_233.out _).trans (((cell_far (p := ⟨gb233, _, none⟩) NB234_233.out _).trans (((cell_far (p := ⟨gb233, _, none⟩) NB234_233.out _).trans (((cell_far (p := ⟨gb233, _, none⟩) NB234_233.out _).trans (((cell_far (p := ⟨gb233, _, none⟩) NB234_233.out _).trans (((cell_far (p := ⟨gb233, _, none⟩) NB234_233.out _).trans (hHeld.2.2.2.2.1)))))))))))))))))))))))))))), ((cell_far (p := ⟨gb233, _, none⟩) NB234_233.out _).trans (((cell_far (p := ⟨gb233, _, none⟩) NB234_233.out _).trans (((cell_far (p := ⟨gb233, _, none⟩) NB234_233.out _).trans (((cell_far (p := ⟨gb233, _, none⟩) NB234_233.out _).trans (((cell_far (p := ⟨gb233, _, none⟩) NB234_233.out _).trans (((cell_far (p := ⟨gb233, _, none⟩) NB234_233.out _).trans (((cell_far (p := ⟨gb233, _, none⟩) NB234_233.out _).trans (((cell_far (p := ⟨gb233, _, none⟩) NB234_233.out _).trans (((cell_far (p := ⟨gb233, _, none⟩) NB234_233.out _).trans (((cell_far (p := ⟨gb233, _, none⟩) NB234_233.out _).trans (((cell_far (p := ⟨gb233, _, none⟩) NB234_233.out _).trans (((cell_far (p := ⟨gb233, _, none⟩) NB234_233.out _).trans (((cell_far (p := ⟨gb233, _, none⟩) NB234_233.out _).trans (((cell_far (p := ⟨gb233, _, none⟩) NB234_233.out _).trans (hHeld.2.2.2.2.2.1)))))))))))))))))))))))))))), ((cell_far (p := ⟨gb233, _, none⟩) NB234_233.out _).trans (((cell_far (p := ⟨gb233, _, none⟩) NB234_233.out _).trans (((cell_far (p := ⟨gb233, _, none⟩) NB234_233.out _).trans (((cell_far (p := ⟨gb233, _, none⟩) NB234_233.out _).trans (((cell_far (p := ⟨gb233, _, none⟩) NB234_233.out _).trans (((cell_far (p := ⟨gb233, _, none⟩) NB234_233.out _).trans (((cell_far (p := ⟨gb233, _, none⟩) NB234_233.out _).trans (((cell_far (p := ⟨gb233, _, none⟩) NB234_233.out _).trans (((cell_far (p := ⟨gb233, _, none⟩) NB234_233.out _).trans (((cell_far (p := ⟨gb233, _, none⟩) NB234_233.out _).trans (((cell_far (p := ⟨gb233, _, none⟩) NB234_233.out _).trans (((cell_far (p := ⟨gb233, _, none⟩) NB234_233.out _).trans (((cell_far (p := ⟨gb233, _, none⟩) NB234_233.out _).trans (((cell_far (p := ⟨gb233, _, none⟩) NB234_233.out _).trans (hHeld.2.2.2.2.2.2.1)))))))))))))))))))))))))))), ((cell_far (p := ⟨gb233, _, none⟩) NB234_233.out _).trans (((cell_far (p := ⟨gb233, _, none⟩) NB234_233.out _).trans (((cell_far (p := ⟨gb233, _, none⟩) NB234_233.out _).trans (((cell_far (p := ⟨gb233, _, none⟩) NB234_233.out _).trans (((cell_far (p := ⟨gb233, _, none⟩) NB234_233.out _).trans (((cell_far (p := ⟨gb233, _, none⟩) NB234_233.out _).trans (((cell_far (p := ⟨gb233, _, none⟩) NB234_233.out _).trans (((cell_far (p := ⟨gb233, _, none⟩) NB234_233.out _).trans (((cell_far (p := ⟨gb233, _, none⟩) NB234_233.out _).trans (((cell_far (p := ⟨gb233, _, none⟩) NB234_233.out _).trans (((cell_far (p := ⟨gb233, _, none⟩) NB234_233.out _).trans (((cell_far (p := ⟨gb233, _, none⟩) NB234_233.out _).trans (((cell_far (p := ⟨gb233, _, none⟩) NB234_233.out _).trans (((cell_far (p := ⟨gb233, _, none⟩) NB234_233.out _).trans (hHeld.2.2.2.2.2.2.2.1)))))))))))))))))))))))))))), ((cell_far (p := ⟨gb233, _, none⟩) NB232_233.out _).trans (((cell_far (p := ⟨gb233, _, none⟩) NB232_233.out _).trans (((cell_far (p := ⟨gb233, _, none⟩) NB232_233.out _).trans (((cell_far (p := ⟨gb233, _, none⟩) NB232_233.out _).trans (((cell_far (p := ⟨gb233, _, none⟩) NB232_233.out _).trans (((cell_far (p := ⟨gb233, _, none⟩) NB232_233.out _).trans (((cell_far (p := ⟨gb233, _, none⟩) NB232_233.out _).trans (((cell_far (p := ⟨gb233, _, none⟩) NB232_233.out _).trans (((cell_far (p := ⟨gb233, _, none⟩) NB232_233.out _).trans (((cell_far (p := ⟨gb233, _, none⟩) NB232_233.out _).trans (((cell_far (p := ⟨gb233, _, none⟩) NB232_233.out _).trans (((cell_far (p := ⟨gb233, _, none⟩) NB232_233.out _).trans (((cell_far (p := ⟨gb233, _, none⟩) NB232_233.out _).trans (((cell_far (p := ⟨gb233, _, none⟩) NB232_233.out _).trans (hHeld.2.2.2.2.2.2.2.2.1)))))))))))))))))))))))))))), ((cell_far (p := ⟨gb233, _, none⟩) NB232_233.out _).trans (((cell_far (p := ⟨gb233, _, none⟩) NB232_233.out _).trans (((cell_far (p := ⟨gb233, _, none⟩) NB232_233.out _).trans (((cell_far (p := ⟨gb233, _, none⟩) NB232_233.out _).trans (((cell_far (p := ⟨gb233, _, none⟩) NB232_233.out _).trans (((cell_far (p := ⟨gb233, _, none⟩) NB232_233.out _).trans (((cell_far (p := ⟨gb233, _, none⟩) NB232_233.out _).trans (((cell_far (p := ⟨gb233, _, none⟩) NB232_233.out _).trans (((cell_far (p := ⟨gb233, _, none⟩) NB232_233.out _).trans (((cell_far (p := ⟨gb233, _, none⟩) NB232_233.out _).trans (((cell_far (p := ⟨gb233, _, none⟩) NB232_233.out _).trans (((cell_far (p := ⟨gb233, _, none⟩) NB232_233.out _).trans (((cell_far (p := ⟨gb233, _, none⟩) NB232_233.out _).trans (((cell_far (p := ⟨gb233, _, none⟩) NB232_233.out _).trans (hHeld.2.2.2.2.2.2.2.2.2.1)))))))))))))))))))))))))))), ((cell_far (p := ⟨gb233, _, none⟩) NB232_233.out _).trans (((cell_far (p := ⟨gb233, _, none⟩) NB232_233.out _).trans (((cell_far (p := ⟨gb233, _, none⟩) NB232_233.out _).trans (((cell_far (p := ⟨gb233, _, none⟩) NB232_233.out _).trans (((cell_far (p := ⟨gb233, _, none⟩) NB232_233.out _).trans (((cell_far (p := ⟨gb233, _, none⟩) NB232_233.out _).trans (((cell_far (p := ⟨gb233, _, none⟩) NB232_233.out _).trans (((cell_far (p := ⟨gb233, _, none⟩) NB232_233.out _).trans (((cell_far (p := ⟨gb233, _, none⟩) NB232_233.out _).trans (((cell_far (p := ⟨gb233, _, none⟩) NB232_233.out _).trans (((cell_far (p := ⟨gb233, _, none⟩) NB232_233.out _).trans (((cell_far (p := ⟨gb233, _, none⟩) NB232_233.out _).trans (((cell_far (p := ⟨gb233, _, none⟩) NB232_233.out _).trans (((cell_far (p := ⟨gb233, _, none⟩) NB232_233.out _).trans (hHeld.2.2.2.2.2.2.2.2.2.2.1)))))))))))))))))))))))))))), ((cell_far (p := ⟨gb233, _, none⟩) NB232_233.out _).trans (((cell_far (p := ⟨gb233, _, none⟩) NB232_233.out _).trans (((cell_far (p := ⟨gb233, _, none⟩) NB232_233.out _).trans (((cell_far (p := ⟨gb233, _, none⟩) NB232_233.out _).trans (((cell_far (p := ⟨gb233, _, none⟩) NB232_233.out _).trans (((cell_far (p := ⟨gb233, _, none⟩) NB232_233.out _).trans (((cell_far (p := ⟨gb233, _, none⟩) NB232_233.out _).trans (((cell_far (p := ⟨gb233, _, none⟩) NB232_233.out _).trans (((cell_far (p := ⟨gb233, _, none⟩) NB232_233.out _).trans (((cell_far (p := ⟨gb233, _, none⟩) NB232_233.out _).trans (((cell_far (p := ⟨gb233, _, none⟩) NB232_233.out _).trans (((cell_far (p := ⟨gb233, _, none⟩) NB232_233.out _).trans (((cell_far (p := ⟨gb233, _, none⟩) NB232_233.out _).trans (((cell_far (p := ⟨gb233, _, none⟩) NB232_233.out _).trans (hHeld.2.2.2.2.2.2.2.2.2.2.2.1)))))))))))))))))))))))))))), ((cell_far (p := ⟨gb233, _, none⟩) NB232_233.out _).trans (((cell_far (p := ⟨gb233, _, none⟩) NB232_233.out _).trans (((cell_far (p := ⟨gb233, _, none⟩) NB232_233.out _).trans (((cell_far (p := ⟨gb233, _, none⟩) NB232_233.out _).trans (((cell_far (p := ⟨gb233, _, none⟩) NB232_233.out _).trans (((cell_far (p := ⟨gb233, _, none⟩) NB232_233.out _).trans (((cell_far (p := ⟨gb233, _, none⟩) NB232_233.out _).trans (((cell_far (p := ⟨gb233, _, none⟩) NB232_233.out _).trans (((cell_far (p := ⟨gb233, _, none⟩) NB232_233.out _).trans (((cell_far (p := ⟨gb233, _, none⟩) NB232_233.out _).trans (((cell_far (p := ⟨gb233, _, none⟩) NB232_233.out _).trans (((cell_far (p := ⟨gb233, _, none⟩) NB232_233.out _).trans (((cell_far (p := ⟨gb233, _, none⟩) NB232_233.out _).trans (((cell_far (p := ⟨gb233, _, none⟩) NB232_233.out _).trans (hHeld.2.2.2.2.2.2.2.2.2.2.2.2.1)))))))))))))))))))))))))))), ((cell_far (p := ⟨gb233, _, none⟩) NB232_233.out _).trans (((cell_far (p := ⟨gb233, _, none⟩) NB232_233.out _).trans (((cell_far (p := ⟨gb233, _, none⟩) NB232_233.out _).trans (((cell_far (p := ⟨gb233, _, none⟩) NB232_233.out _).trans (((cell_far (p := ⟨gb233, _, none⟩) NB232_233.out _).trans (((cell_far (p := ⟨gb233, _, none⟩) NB232_233.out _).trans (((cell_far (p := ⟨gb233, _, none⟩) NB232_233.out _).trans (((cell_far (p := ⟨gb233, _, none⟩) NB232_233.out _).trans (((cell_far (p := ⟨gb233, _, none⟩) NB232_233.out _).trans (((cell_far (p := ⟨gb233, _, none⟩) NB232_233.out _).trans (((cell_far (p := ⟨gb233, _, none⟩) NB232_233.out _).trans (((cell_far (p := ⟨gb233, _, none⟩) NB232_233.out _).trans (((cell_far (p := ⟨gb233, _, none⟩) NB232_233.out _).trans (((cell_far (p := ⟨gb233, _, none⟩) NB232_233.out _).trans (hHeld.2.2.2.2.2.2.2.2.2.2.2.2.2.1)))))))))))))))))))))))))))), ((cell_far (p := ⟨gb233, _, none⟩) NB232_233.out _).trans (((cell_far (p := ⟨gb233, _, none⟩) NB232_233.out _).trans (((cell_far (p := ⟨gb233, _, none⟩) NB232_233.out _).trans (((cell_far (p := ⟨gb233, _, none⟩) NB232_233.out _).trans (((cell_far (p := ⟨gb233, _, none⟩) NB232_233.out _).trans (((cell_far (p := ⟨gb233, _, none⟩) NB232_233.out _).trans (((cell_far (p := ⟨gb233, _, none⟩) NB232_233.out _).trans (((cell_far (p := ⟨gb233, _, none⟩) NB232_233.out _).trans (((cell_far (p := ⟨gb233, _, none⟩) NB232_233.out _).trans (((cell_far (p := ⟨gb233, _, none⟩) NB232_233.out _).trans (((cell_far (p := ⟨gb233, _, none⟩) NB232_233.out _).trans (((cell_far (p := ⟨gb233, _, none⟩) NB232_233.out _).trans (((cell_far (p := ⟨gb233, _, none⟩) NB232_233.out _).trans (((cell_far (p := ⟨gb233, _, none⟩) NB232_233.out _).trans (hHeld.2.2.2.2.2.2.2.2.2.2.2.2.2.2.1)))))))))))))))))))))))))))), ((cell_far (p := ⟨gb233, _, none⟩) NB232_233.out _).trans (((cell_far (p := ⟨gb233, _, none⟩) NB232_233.out _).trans (((cell_far (p := ⟨gb233, _, none⟩) NB232_233.out _).trans (((cell_far (p := ⟨gb233, _, none⟩) NB232_233.out _).trans (((cell_far (p := ⟨gb233, _, none⟩) NB232_233.out _).trans (((cell_far (p := ⟨gb233, _, none⟩) NB232_233.out _).trans (((cell_far (p := ⟨gb233, _, none⟩) NB232_233.out _).trans (((cell_far (p := ⟨gb233, _, none⟩) NB232_233.out _).trans (((cell_far (p := ⟨gb233, _, none⟩) NB232_233.out _).trans (((cell_far (p := ⟨gb233, _, none⟩) NB232_233.out _).trans (((cell_far (p := ⟨gb233, _, none⟩) NB232_233.out _).trans (((cell_far (p := ⟨gb233, _, none⟩) NB232_233.out _).trans (((cell_far (p := ⟨gb233, _, none⟩) NB232_233.out _).trans (((cell_far (p := ⟨gb233, _, none⟩) NB232_233.out _).trans (hHeld.2.2.2.2.2.2.2.2.2.2.2.2.2.2.2.1)))))))))))))))))))))))))))), ((cell_far (p := ⟨gb233, _, none⟩) NB232_233.out _).trans (((cell_far (p := ⟨gb233, _, none⟩) NB232_233.out _).trans (((cell_far (p := ⟨gb233, _, none⟩) NB232_233.out _).trans (((cell_far (p := ⟨gb233, _, none⟩) NB232_233.out _).trans (((cell_far (p := ⟨gb233, _, none⟩) NB232_233.out _).trans (((cell_far (p := ⟨gb233, _, none⟩) NB232_233.out _).trans (((cell_far (p := ⟨gb233, _, none⟩) NB232_233.out _).trans (((cell_far (p := ⟨gb233, _, none⟩) NB232_233.out _).trans (((cell_far (p := ⟨gb233, _, none⟩) NB232_233.out _).trans (((cell_far (p := ⟨gb233, _, none⟩) NB232_233.out _).trans (((cell_far (p := ⟨gb233, _, none⟩) NB232_233.out _).trans (((cell_far (p := ⟨gb233, _, none⟩) NB232_233.out _).trans (((cell_far (p := ⟨gb233, _, none⟩) NB232_233.out _).trans (((cell_far (p := ⟨gb233, _, none⟩) NB232_233.out _).trans (hHeld.2.2.2.2.2.2.2.2.2.2.2.2.2.2.2.2.1)))))))))))))))))))))))))))), ((cell_far (p := ⟨gb233, _, none⟩) NB232_233.out _).trans (((cell_far (p := ⟨gb233, _, none⟩) NB232_233.out _).trans (((cell_far (p := ⟨gb233, _, none⟩) NB232_233.out _).trans (((cell_far (p := ⟨gb233, _, none⟩) NB232_233.out _).trans (((cell_far (p := ⟨gb233, _, none⟩) NB232_233.out _).trans (((cell_far (p := ⟨gb233, _, none⟩) NB232_233.out _).trans (((cell_far (p := ⟨gb233, _, none⟩) NB232_233.out _).trans (((cell_far (p := ⟨gb233, _, none⟩) NB232_233.out _).trans (((cell_far (p := ⟨gb233, _, none⟩) NB232_233.out _).trans (((cell_far (p := ⟨gb233, _, none⟩) NB232_233.out _).trans (((cell_far (p := ⟨gb233, _, none⟩) NB232_233.out _).trans (((cell_far (p := ⟨gb233, _, none⟩) NB232_233.out _).trans (((cell_far (p := ⟨gb233, _, none⟩) NB232_233.out _).trans (((cell_far (p := ⟨gb233, _, none⟩) NB232_233.out _).trans (hHeld.2.2.2.2.2.2.2.2.2.2.2.2.2.2.2.2.2.1)))))))))))))))))))))))))))), ((cell_far (p := ⟨gb233, _, none⟩) NB232_233.out _).trans (((cell_far (p := ⟨gb233, _, none⟩) NB232_233.out _).trans (((cell_far (p := ⟨gb233, _, none⟩) NB232_233.out _).trans (((cell_far (p := ⟨gb233, _, none⟩) NB232_233.out _).trans (((cell_far (p := ⟨gb233, _, none⟩) NB232_233.out _).trans (((cell_far (p := ⟨gb233, _, none⟩) NB232_233.out _).trans (((cell_far (p := ⟨gb233, _, none⟩) NB232_233.out _).trans (((cell_far (p := ⟨gb233, _, none⟩) NB232_233.out _).trans (((cell_far (p := ⟨gb233, _, none⟩) NB232_233.out _).trans (((cell_far (p := ⟨gb233, _, none⟩) NB232_233.out _).trans (((cell_far (p := ⟨gb233, _, none⟩) NB232_233.out _).trans (((cell_far (p := ⟨gb233, _, none⟩) NB232_233.out _).trans (((cell_far (p := ⟨gb233, _, none⟩) NB232_233.out _).trans (((cell_far (p := ⟨gb233, _, none⟩) NB232_233.out _).trans (hHeld.2.2.2.2.2.2.2.2.2.2.2.2.2.2.2.2.2.2.1)))))))))))))))))))))))))))), ((cell_far (p := ⟨gb233, _, none⟩) NB232_233.out _).trans (((cell_far (p := ⟨gb233, _, none⟩) NB232_233.out _).trans (((cell_far (p := ⟨gb233, _, none⟩) NB232_233.out _).trans (((cell_far (p := ⟨gb233, _, none⟩) NB232_233.out _).trans (((cell_far (p := ⟨gb233, _, none⟩) NB232_233.out _).trans (((cell_far (p := ⟨gb233, _, none⟩) NB232_233.out _).trans (((cell_far (p := ⟨gb233, _, none⟩) NB232_233.out _).trans (((cell_far (p := ⟨gb233, _, none⟩) NB232_233.out _).trans (((cell_far (p := ⟨gb233, _, none⟩) NB232_233.out _).trans (((cell_far (p := ⟨gb233, _, none⟩) NB232_233.out _).trans (((cell_far (p := ⟨gb233, _, none⟩) NB232_233.out _).trans (((cell_far (p := ⟨gb233, _, none⟩) NB232_233.out _).trans (((cell_far (p := ⟨gb233, _, none⟩) NB232_233.out _).trans (((cell_far (p := ⟨gb233, _, none⟩) NB232_233.out _).trans (hHeld.2.2.2.2.2.2.2.2.2.2.2.2.2.2.2.2.2.2.2.1)))))))))))))))))))))))))))), ((cell_far (p := ⟨gb233, _, none⟩) NB232_233.out _).trans (((cell_far (p := ⟨gb233, _, none⟩) NB232_233.out _).trans (((cell_far (p := ⟨gb233, _, none⟩) NB232_233.out _).trans (((cell_far (p := ⟨gb233, _, none⟩) NB232_233.out _).trans (((cell_far (p := ⟨gb233, _, none⟩) NB232_233.out _).trans (((cell_far (p := ⟨gb233, _, none⟩) NB232_233.out _).trans (((cell_far (p := ⟨gb233, _, none⟩) NB232_233.out _).trans (((cell_far (p := ⟨gb233, _, none⟩) NB232_233.out _).trans (((cell_far (p := ⟨gb233, _, none⟩) NB232_233.out _).trans (((cell_far (p := ⟨gb233, _, none⟩) NB232_233.out _).trans (((cell_far (p := ⟨gb233, _, none⟩) NB232_233.out _).trans (((cell_far (p := ⟨gb233, _, none⟩) NB232_233.out _).trans (((cell_far (p := ⟨gb233, _, none⟩) NB232_233.out _).trans (((cell_far (p := ⟨gb233, _, none⟩) NB232_233.out _).trans (hHeld.2.2.2.2.2.2.2.2.2.2.2.2.2.2.2.2.2.2.2.2.1)))))))))))))))))))))))))))), ((cell_far (p := ⟨gb233, _, none⟩) NB232_233.out _).trans (((cell_far (p := ⟨gb233, _, none⟩) NB232_233.out _).trans (((cell_far (p := ⟨gb233, _, none⟩) NB232_233.out _).trans (((cell_far (p := ⟨gb233, _, none⟩) NB232_233.out _).trans (((cell_far (p := ⟨gb233, _, none⟩) NB232_233.out _).trans (((cell_far (p := ⟨gb233, _, none⟩) NB232_233.out _).trans (((cell_far (p := ⟨gb233, _, none⟩) NB232_233.out _).trans (((cell_far (p := ⟨gb233, _, none⟩) NB232_233.out _).trans (((cell_far (p := ⟨gb233, _, none⟩) NB232_233.out _).trans (((cell_far (p := ⟨gb233, _, none⟩) NB232_233.out _).trans (((cell_far (p := ⟨gb233, _, none⟩) NB232_233.out _).trans (((cell_far (p := ⟨gb233, _, none⟩) NB232_233.out _).trans (((cell_far (p := ⟨gb233, _, none⟩) NB232_233.out _).trans (((cell_far (p := ⟨gb233, _, none⟩) NB232_233.out _).trans (hHeld.2.2.2.2.2.2.2.2.2.2.2.2.2.2.2.2.2.2.2.2.2))))))))))))))))))))))))))))⟩ (fun hHeld => ?_)
  clear hK K
  refine done_ (done_of HT_.out (by kernel_rfl)) ?_
  try go_wp2
  refine bodyPost_ret (results_cell_row rfl _ _ gb233 33 #[.int .u16 a0_0, .bool a0_1, .int .i64 (Int.tmod (wrap64 ((Int.tmod a0_2 16) + 16)) 16), .bool a0_3, .bool a0_4, .bool a0_5, .bool a0_6, .int .i64 (Int.tmod (wrap64 ((Int.tmod a0_7 16) + 16)) 16), .string t235, .int .u16 a0_9, .slice Ao22 t236.length co22, .slice Ao21 t239.length co21, .slice Ao20 t242.length co20, .int .i64 (wrap64 (a0_13))] (0, 0) _ rfl (by (with_reducible repeat (first | refine blk_drewN ?_ _ | refine blk_drew ?_ | refine blk_alloc ?_ _)); refine blk_put (cs := #[.int .u16 a0_0, .bool a0_1, .int .i64 (Int.tmod (wrap64 ((Int.tmod a0_2 16) + 16)) 16), .bool a0_3, .bool a0_4, .bool a0_5, .bool a0_6, .int .i64 (Int.tmod (wrap64 ((Int.tmod a0_7 16) + 16)) 16), .string t235, .int .u16 a0_9, .slice Ao22 t236.length co22, .slice Ao21 t239.length co21, .slice Ao20 t242.length co20, .int .i64 0]) ?_ 13 _ rfl; (with_reducible repeat (first | refine blk_drewN ?_ _ | refine blk_drew ?_ | refine blk_alloc ?_ _)); refine blk_put (cs := #[.int .u16 a0_0, .bool a0_1, .int .i64 (Int.tmod (wrap64 ((Int.tmod a0_2 16) + 16)) 16), .bool a0_3, .bool a0_4, .bool a0_5, .bool a0_6, .int .i64 (Int.tmod (wrap64 ((Int.tmod a0_7 16) + 16)) 16), .string t235, .int .u16 a0_9, .slice Ao22 t236.length co22, .slice Ao21 t239.length co21, .slice none 0 0, .int .i64 0]) ?_ 12 _ rfl; (with_reducible repeat (first | refine blk_drewN ?_ _ | refine blk_drew ?_ | refine blk_alloc ?_ _)); refine blk_put (cs := #[.int .u16 a0_0, .bool a0_1, .int .i64 (Int.tmod (wrap64 ((Int.tmod a0_2 16) + 16)) 16), .bool a0_3, .bool a0_4, .bool a0_5, .bool a0_6, .int .i64 (Int.tmod (wrap64 ((Int.tmod a0_7 16) + 16)) 16), .string t235, .int .u16 a0_9, .slice Ao22 t236.length co22, .slice none 0 0, .slice none 0 0, .int .i64 0]) ?_ 11 _ rfl; (with_reducible repeat (first | refine blk_drewN ?_ _ | refine blk_drew ?_ | refine blk_alloc ?_ _)); refine blk_put (cs := #[.int .u16 a0_0, .bool a0_1, .int .i64 (Int.tmod (wrap64 ((Int.tmod a0_2 16) + 16)) 16), .bool a0_3, .bool a0_4, .bool a0_5, .bool a0_6, .int .i64 (Int.tmod (wrap64 ((Int.tmod a0_7 16) + 16)) 16), .string t235, .int .u16 a0_9, .slice none 0 0, .slice none 0 0, .slice none 0 0, .int .i64 0]) ?_ 10 _ rfl; (with_reducible repeat (first | refine blk_drewN ?_ _ | refine blk_drew ?_ | refine blk_alloc ?_ _)); refine blk_put (cs := #[.int .u16 a0_0, .bool a0_1, .int .i64 (Int.tmod (wrap64 ((Int.tmod a0_2 16) + 16)) 16), .bool a0_3, .bool a0_4, .bool a0_5, .bool a0_6, .int .i64 (Int.tmod (wrap64 ((Int.tmod a0_7 16) + 16)) 16), .string t235, .int .u16 0, .slice none 0 0, .slice none 0 0, .slice none 0 0, .int .i64 0]) ?_ 9 _ rfl; (with_reducible repeat (first | refine blk_drewN ?_ _ | refine blk_drew ?_ | refine blk_alloc ?_ _)); refine blk_put (cs := #[.int .u16 a0_0, .bool a0_1, .int .i64 (Int.tmod (wrap64 ((Int.tmod a0_2 16) + 16)) 16), .bool a0_3, .bool a0_4, .bool a0_5, .bool a0_6, .int .i64 (Int.tmod (wrap64 ((Int.tmod a0_7 16) + 16)) 16), .string (⟨#[]⟩ : ByteArray), .int .u16 0, .slice none 0 0, .slice none 0 0, .slice none 0 0, .int .i64 0]) ?_ 8 _ rfl; (with_reducible repeat (first | refine blk_drewN ?_ _ | refine blk_drew ?_ | refine blk_alloc ?_ _)); refine blk_put (cs := #[.int .u16 a0_0, .bool a0_1, .int .i64 (Int.tmod (wrap64 ((Int.tmod a0_2 16) + 16)) 16), .bool a0_3, .bool a0_4, .bool a0_5, .bool a0_6, .int .i64 0, .string (⟨#[]⟩ : ByteArray), .int .u16 0, .slice none 0 0, .slice none 0 0, .slice none 0 0, .int .i64 0]) ?_ 7 _ rfl; (with_reducible repeat (first | refine blk_drewN ?_ _ | refine blk_drew ?_ | refine blk_alloc ?_ _)); refine blk_put (cs := #[.int .u16 a0_0, .bool a0_1, .int .i64 (Int.tmod (wrap64 ((Int.tmod a0_2 16) + 16)) 16), .bool a0_3, .bool a0_4, .bool a0_5, .bool false, .int .i64 0, .string (⟨#[]⟩ : ByteArray), .int .u16 0, .slice none 0 0, .slice none 0 0, .slice none 0 0, .int .i64 0]) ?_ 6 _ rfl; (with_reducible repeat (first | refine blk_drewN ?_ _ | refine blk_drew ?_ | refine blk_alloc ?_ _)); refine blk_put (cs := #[.int .u16 a0_0, .bool a0_1, .int .i64 (Int.tmod (wrap64 ((Int.tmod a0_2 16) + 16)) 16), .bool a0_3, .bool a0_4, .bool false, .bool false, .int .i64 0, .string (⟨#[]⟩ : ByteArray), .int .u16 0, .slice none 0 0, .slice none 0 0, .slice none 0 0, .int .i64 0]) ?_ 5 _ rfl; (with_reducible repeat (first | refine blk_drewN ?_ _ | refine blk_drew ?_ | refine blk_alloc ?_ _)); refine blk_put (cs := #[.int .u16 a0_0, .bool a0_1, .int .i64 (Int.tmod (wrap64 ((Int.tmod a0_2 16) + 16)) 16), .bool a0_3, .bool false, .bool false, .bool false, .int .i64 0, .string (⟨#[]⟩ : ByteArray), .int .u16 0, .slice none 0 0, .slice none 0 0, .slice none 0 0, .int .i64 0]) ?_ 4 _ rfl; (with_reducible repeat (first | refine blk_drewN ?_ _ | refine blk_drew ?_ | refine blk_alloc ?_ _)); refine blk_put (cs := #[.int .u16 a0_0, .bool a0_1, .int .i64 (Int.tmod (wrap64 ((Int.tmod a0_2 16) + 16)) 16), .bool false, .bool false, .bool false, .bool false, .int .i64 0, .string (⟨#[]⟩ : ByteArray), .int .u16 0, .slice none 0 0, .slice none 0 0, .slice none 0 0, .int .i64 0]) ?_ 3 _ rfl; (with_reducible repeat (first | refine blk_drewN ?_ _ | refine blk_drew ?_ | refine blk_alloc ?_ _)); refine blk_put (cs := #[.int .u16 a0_0, .bool a0_1, .int .i64 0, .bool false, .bool false, .bool false, .bool false, .int .i64 0, .string (⟨#[]⟩ : ByteArray), .int .u16 0, .slice none 0 0, .slice none 0 0, .slice none 0 0, .int .i64 0]) ?_ 2 _ rfl; (with_reducible repeat (first | refine blk_drewN ?_ _ | refine blk_drew ?_ | refine blk_alloc ?_ _)); refine blk_put (cs := #[.int .u16 a0_0, .bool false, .int .i64 0, .bool false, .bool false, .bool false, .bool false, .int .i64 0, .string (⟨#[]⟩ : ByteArray), .int .u16 0, .slice none 0 0, .slice none 0 0, .slice none 0 0, .int .i64 0]) ?_ 1 _ rfl; (with_reducible repeat (first | refine blk_drewN ?_ _ | refine blk_drew ?_ | refine blk_alloc ?_ _)); refine blk_put (cs := #[.int .u16 0, .bool false, .int .i64 0, .bool false, .bool false, .bool false, .bool false, .int .i64 0, .string (⟨#[]⟩ : ByteArray), .int .u16 0, .slice none 0 0, .slice none 0 0, .slice none 0 0, .int .i64 0]) ?_ 0 _ rfl; (with_reducible repeat (first | refine blk_drewN ?_ _ | refine blk_drew ?_ | refine blk_alloc ?_ _)); exact BK233.out) Tryd.underlying33 rfl (by kernel_rfl)) rfl ?_
  exact ⟨_, _, _, by first | rfl | (simp [errW_none, errW_some] <;> rfl) | (simp [*, errW_none, errW_some] <;> rfl), by (with_reducible repeat (first | apply Kd.R_alloc | apply Kd.R_drewN | apply Kd.R_drew)); exact Kd.R_mono (Kd.R_far (p := ⟨gb233, 13, none⟩) (Kd.R_far (p := ⟨gb233, 12, none⟩) (Kd.R_far (p := ⟨gb233, 11, none⟩) (Kd.R_far (p := ⟨gb233, 10, none⟩) (Kd.R_far (p := ⟨gb233, 9, none⟩) (Kd.R_far (p := ⟨gb233, 8, none⟩) (Kd.R_far (p := ⟨gb233, 7, none⟩) (Kd.R_far (p := ⟨gb233, 6, none⟩) (Kd.R_far (p := ⟨gb233, 5, none⟩) (Kd.R_far (p := ⟨gb233, 4, none⟩) (Kd.R_far (p := ⟨gb233, 3, none⟩) (Kd.R_far (p := ⟨gb233, 2, none⟩) (Kd.R_far (p := ⟨gb233, 1, none⟩) (Kd.R_far (p := ⟨gb233, 0, none⟩) (Kd.R_types HO238.out BK233.out (by decide)) (fun _ hk => hk.2) (.int .u16 a0_0)) (fun _ hk => hk.2) (.bool a0_1)) (fun _ hk => hk.2) (.int .i64 (Int.tmod (wrap64 ((Int.tmod a0_2 16) + 16)) 16))) (fun _ hk => hk.2) (.bool a0_3)) (fun _ hk => hk.2) (.bool a0_4)) (fun _ hk => hk.2) (.bool a0_5)) (fun _ hk => hk.2) (.bool a0_6)) (fun _ hk => hk.2) (.int .i64 (Int.tmod (wrap64 ((Int.tmod a0_7 16) + 16)) 16))) (fun _ hk => hk.2) (.string t235)) (fun _ hk => hk.2) (.int .u16 a0_9)) (fun _ hk => hk.2) (.slice Ao22 t236.length co22)) (fun _ hk => hk.2) (.slice Ao21 t239.length co21)) (fun _ hk => hk.2) (.slice Ao20 t242.length co20)) (fun _ hk => hk.2) (.int .i64 (wrap64 (a0_13)))) (fun _ hk => ⟨hk.1.1.2, hk.1.2⟩), by (with_reducible repeat (first | apply Kd.R_alloc | apply Kd.R_drewN | apply Kd.R_drew)); exact Kd.R_mono (Kd.R_far (p := ⟨gb233, 13, none⟩) (Kd.R_far (p := ⟨gb233, 12, none⟩) (Kd.R_far (p := ⟨gb233, 11, none⟩) (Kd.R_far (p := ⟨gb233, 10, none⟩) (Kd.R_far (p := ⟨gb233, 9, none⟩) (Kd.R_far (p := ⟨gb233, 8, none⟩) (Kd.R_far (p := ⟨gb233, 7, none⟩) (Kd.R_far (p := ⟨gb233, 6, none⟩) (Kd.R_far (p := ⟨gb233, 5, none⟩) (Kd.R_far (p := ⟨gb233, 4, none⟩) (Kd.R_far (p := ⟨gb233, 3, none⟩) (Kd.R_far (p := ⟨gb233, 2, none⟩) (Kd.R_far (p := ⟨gb233, 1, none⟩) (Kd.R_far (p := ⟨gb233, 0, none⟩) (Kd.R_types HO241.out BK233.out (by decide)) (fun _ hk => hk.2) (.int .u16 a0_0)) (fun _ hk => hk.2) (.bool a0_1)) (fun _ hk => hk.2) (.int .i64 (Int.tmod (wrap64 ((Int.tmod a0_2 16) + 16)) 16))) (fun _ hk => hk.2) (.bool a0_3)) (fun _ hk => hk.2) (.bool a0_4)) (fun _ hk => hk.2) (.bool a0_5)) (fun _ hk => hk.2) (.bool a0_6)) (fun _ hk => hk.2) (.int .i64 (Int.tmod (wrap64 ((Int.tmod a0_7 16) + 16)) 16))) (fun _ hk => hk.2) (.string t235)) (fun _ hk => hk.2) (.int .u16 a0_9)) (fun _ hk => hk.2) (.slice Ao22 t236.length co22)) (fun _ hk => hk.2) (.slice Ao21 t239.length co21)) (fun _ hk => hk.2) (.slice Ao20 t242.length co20)) (fun _ hk => hk.2) (.int .i64 (wrap64 (a0_13)))) (fun _ hk => ⟨hk.1.1.2, hk.1.2⟩), by (with_reducible repeat (first | apply Kd.R_alloc | apply Kd.R_drewN | apply Kd.R_drew)); exact Kd.R_mono (Kd.R_far (p := ⟨gb233, 13, none⟩) (Kd.R_far (p := ⟨gb233, 12, none⟩) (Kd.R_far (p := ⟨gb233, 11, none⟩) (Kd.R_far (p := ⟨gb233, 10, none⟩) (Kd.R_far (p := ⟨gb233, 9, none⟩) (Kd.R_far (p := ⟨gb233, 8, none⟩) (Kd.R_far (p := ⟨gb233, 7, none⟩) (Kd.R_far (p := ⟨gb233, 6, none⟩) (Kd.R_far (p := ⟨gb233, 5, none⟩) (Kd.R_far (p := ⟨gb233, 4, none⟩) (Kd.R_far (p := ⟨gb233, 3, none⟩) (Kd.R_far (p := ⟨gb233, 2, none⟩) (Kd.R_far (p := ⟨gb233, 1, none⟩) (Kd.R_far (p := ⟨gb233, 0, none⟩) (Kd.R_types HO244.out BK233.out (by decide)) (fun _ hk => hk.2) (.int .u16 a0_0)) (fun _ hk => hk.2) (.bool a0_1)) (fun _ hk => hk.2) (.int .i64 (Int.tmod (wrap64 ((Int.tmod a0_2 16) + 16)) 16))) (fun _ hk => hk.2) (.bool a0_3)) (fun _ hk => hk.2) (.bool a0_4)) (fun _ hk => hk.2) (.bool a0_5)) (fun _ hk => hk.2) (.bool a0_6)) (fun _ hk => hk.2) (.int .i64 (Int.tmod (wrap64 ((Int.tmod a0_7 16) + 16)) 16))) (fun _ hk => hk.2) (.string t235)) (fun _ hk => hk.2) (.int .u16 a0_9)) (fun _ hk => hk.2) (.slice Ao22 t236.length co22)) (fun _ hk => hk.2) (.slice Ao21 t239.length co21)) (fun _ hk => hk.2) (.slice Ao20 t242.length co20)) (fun _ hk => hk.2) (.int .i64 (wrap64 (a0_13)))) (fun _ hk => ⟨hk.1.1.2, hk.1.2⟩), by repeat (first | (with_reducible first | exact HB.out | apply below_alloc | apply pw_below_drewN | apply below_drew1 | refine below_set ?_ GE232.out | refine below_set ?_ GE233.out | refine below_set ?_ GE234.out) | exact HB.out)⟩
def message_ID.f (l0 : List Int) : Option (Int × Bool) := (num_Get16.f (strOfNums l0) 0).bind fun bt246 => (some (bt246.1, bt246.2))
end Go.Proofs.YtnikfeaggppmpaaDoor.PM
