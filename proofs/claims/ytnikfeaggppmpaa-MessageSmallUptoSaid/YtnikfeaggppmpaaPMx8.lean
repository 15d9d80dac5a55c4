import Derived.Test.YtnikfeaggppmpaaPMx0
import Derived.Test.YtnikfeaggppmpaaPMx6
import Derived.Test.YtnikfeaggppmpaaPMx7
namespace Go.Proofs.Ytnikfeaggppmpaa.PM
open Go.RowKit Go.Proofs.YtnikfeaggppmpaaW.PrintWords Go.Proofs.YtnikfeaggppmpaaW.PrintLast Go.Proofs.YtnikfeaggppmpaaW.PrintMore
attribute [local go_sem] max2_int min2_int max_two min_two max_three min_three max_four min_four   -- for this text's walks alone
set_option linter.unusedVariables false
set_option linter.unusedSimpArgs false
def bolterlaw05_Make.f (k : Nat) (a0_0 : Int) (a0_1 : Bool) (a0_2 : Int) (a0_3 : Bool) (a0_4 : Bool) (a0_5 : Bool) (a0_6 : Bool) (a0_7 : Int) (l0_8 : List Int) (a0_9 : Int) (l0_10 : List (S94)) (l0_11 : List (S94)) (l0_12 : List (S94)) (a0_13 : Int) : Option (Int × Bool × Int × Bool × Bool × Bool × Bool × Int × ByteArray × Int × (List (S37)) × (List (S37)) × (List (S37)) × Int) := (bolterlaw02_Name.f k l0_8).bind fun t205 => ((bolterlaw05_Records.f k l0_10 12).bind fun t206 => ((bolterlaw05_Records.f k l0_11 12).bind fun t209 => ((bolterlaw05_Records.f k l0_12 12).bind fun t212 => (some (a0_0, a0_1, Int.tmod (wrap64 ((Int.tmod a0_2 16) + 16)) 16, a0_3, a0_4, a0_5, a0_6, Int.tmod (wrap64 ((Int.tmod a0_7 16) + 16)) 16, t205, a0_9, t206, t209, t212, wrap64 (a0_13))))))
theorem bolterlaw05_Make.mono : ∀ a0 a1 a2 a3 a4 a5 a6 a7 a8 a9 a10 a11 a12 a13 k, LeO (bolterlaw05_Make.f k a0 a1 a2 a3 a4 a5 a6 a7 a8 a9 a10 a11 a12 a13) (bolterlaw05_Make.f (k + 1) a0 a1 a2 a3 a4 a5 a6 a7 a8 a9 a10 a11 a12 a13) := by
  intro a0 a1 a2 a3 a4 a5 a6 a7 a8 a9 a10 a11 a12 a13 k
  unfold bolterlaw05_Make.f
  repeat' first
      | (with_reducible exact bolterlaw02_Name.mono _ _)
      | (with_reducible exact bolterlaw05_Records.mono _ _ _)
      | (with_reducible exact LeO.refl _)
      | (with_reducible exact LeO.none _)
      | (with_reducible refine LeO.ite ?_ ?_)
      | (with_reducible refine LeO.bind ?_ (fun _ => ?_))
      | exact bolterlaw02_Name.mono _ _
      | exact bolterlaw05_Records.mono _ _ _
      | exact LeO.none _
      | refine LeO.ite ?_ ?_
      | refine LeO.bind ?_ (fun _ => ?_)
def bolterlaw05_Make.T3 : Bool × List (List Nat × List Nat) := (true, [([], []), ([], []), ([1], [1]), ([2], [2]), ([], []), ([4], [4]), ([3, 5], [3, 5]), ([], []), ([7], [7]), ([8, 3], [8]), ([], []), ([10], [10]), ([11, 9], [11]), ([], []), ([13], [13]), ([14, 12], [14]), ([], []), ([16], [16]), ([17], [17]), ([0, 6, 9, 12, 15, 18], [0, 6, 9, 12, 15, 18]), ([19, 15, 0, 1, 2, 3, 4, 5, 6, 7, 8, 9, 10, 11, 12, 13, 14, 15, 16, 17, 18, 19], [19])])
def bolterlaw05_Make.B3 : List Nat := [0, 0, 2, 6, 0, 16, 62, 0, 128, 398, 0, 1024, 3982, 0, 8192, 32654, 0, 65536, 196608, 524287, 1048575]
theorem bolterlaw05_Make.tab3 : rtab .any (opsOf Try.f12 3) = bolterlaw05_Make.T3 := by kernel_rfl
theorem bolterlaw05_Make.bits3 : waitsOk bolterlaw05_Make.T3.2 bolterlaw05_Make.B3 = true := by kernel_rfl
set_option maxHeartbeats 8000000 in
set_option maxRecDepth 100000 in
theorem bolterlaw05_Make.calls (k : Nat) (a0_0 : Int) (a0_1 : Bool) (a0_2 : Int) (a0_3 : Bool) (a0_4 : Bool) (a0_5 : Bool) (a0_6 : Bool) (a0_7 : Int) (A0_8 : Option Addr) (c0_8 : Nat) (l0_8 : List Int) (a0_9 : Int) (A0_10 : Option Addr) (c0_10 : Nat) (l0_10 : List (S94)) (A0_11 : Option Addr) (c0_11 : Nat) (l0_11 : List (S94)) (A0_12 : Option Addr) (c0_12 : Nat) (l0_12 : List (S94)) (a0_13 : Int) (r1 : Int) (r2 : Bool) (r3 : Int) (r4 : Bool) (r5 : Bool) (r6 : Bool) (r7 : Bool) (r8 : Int) (r9 : ByteArray) (r10 : Int) (r11 : List (S37)) (r12 : List (S37)) (r13 : List (S37)) (r14 : Int) (w : World) (hr0_8 : Kd.C (Kd.int .u8) w A0_8 l0_8.length l0_8) (hc0_8 : l0_8.length ≤ c0_8) (hr0_10 : Kd.C k94 w A0_10 l0_10.length l0_10) (hc0_10 : l0_10.length ≤ c0_10) (hr0_11 : Kd.C k94 w A0_11 l0_11.length l0_11) (hc0_11 : l0_11.length ≤ c0_11) (hr0_12 : Kd.C k94 w A0_12 l0_12.length l0_12) (hc0_12 : l0_12.length ≤ c0_12) (h : bolterlaw05_Make.f k a0_0 a0_1 a0_2 a0_3 a0_4 a0_5 a0_6 a0_7 l0_8 a0_9 l0_10 l0_11 l0_12 a0_13 = some (r1, r2, r3, r4, r5, r6, r7, r8, r9, r10, r11, r12, r13, r14)) :
    Calls Try.prog 12 #[.agg #[.int .u16 a0_0, .bool a0_1, .int .i64 a0_2, .bool a0_3, .bool a0_4, .bool a0_5, .bool a0_6, .int .i64 a0_7, .slice A0_8 l0_8.length c0_8, .int .u16 a0_9, .slice A0_10 l0_10.length c0_10, .slice A0_11 l0_11.length c0_11, .slice A0_12 l0_12.length c0_12, .int .u16 a0_13]] w fun e w' => ∃ v10_ v11_ v12_ : Value, e = .returned (.agg #[.int .u16 r1, .bool r2, .int .i64 r3, .bool r4, .bool r5, .bool r6, .bool r7, .int .i64 r8, .string r9, .int .u16 r10, v10_, v11_, v12_, .int .i64 r14]) ∧ Kd.R k37 37 w' w.heap.size (fun k_ => some k_ ≠ (v11_ : Value).ownBlock ∧ some k_ ≠ (v12_ : Value).ownBlock) v10_ r11 ∧ Kd.R k37 37 w' w.heap.size (fun k_ => some k_ ≠ (v10_ : Value).ownBlock ∧ some k_ ≠ (v12_ : Value).ownBlock) v11_ r12 ∧ Kd.R k37 37 w' w.heap.size (fun k_ => some k_ ≠ (v10_ : Value).ownBlock ∧ some k_ ≠ (v11_ : Value).ownBlock) v12_ r13 ∧ Below w.heap.size w w' := by
  have hu46 := Try.underlying46
  have hu31 := Try.underlying31
  have hu24 := Try.underlying24
  have hu28 := Try.underlying28
  have HR0_8 := Aside0.mk hr0_8
  have HC0_8 := Aside0.mk hc0_8
  clear hr0_8 hc0_8
  have HR0_10 := Aside0.mk hr0_10
  have HC0_10 := Aside0.mk hc0_10
  clear hr0_10 hc0_10
  have HR0_11 := Aside0.mk hr0_11
  have HC0_11 := Aside0.mk hc0_11
  clear hr0_11 hc0_11
  have HR0_12 := Aside0.mk hr0_12
  have HC0_12 := Aside0.mk hc0_12
  clear hr0_12 hc0_12
  have HB := Aside0.mk (Below.refl w.heap.size w)
  have H : ((bolterlaw02_Name.f k l0_8).bind fun t205 => ((bolterlaw05_Records.f k l0_10 12).bind fun t206 => ((bolterlaw05_Records.f k l0_11 12).bind fun t209 => ((bolterlaw05_Records.f k l0_12 12).bind fun t212 => (some (a0_0, a0_1, Int.tmod (wrap64 ((Int.tmod a0_2 16) + 16)) 16, a0_3, a0_4, a0_5, a0_6, Int.tmod (wrap64 ((Int.tmod a0_7 16) + 16)) 16, t205, a0_9, t206, t209, t212, wrap64 (a0_13))))))) = some (r1, r2, r3, r4, r5, r6, r7, r8, r9, r10, r11, r12, r13, r14) := h
  clear h
  replace H := Option.bind_eq_some_iff.mp H
  obtain ⟨t205, A20, H⟩ := H
  replace H : ((bolterlaw05_Records.f k l0_10 12).bind fun t206 => ((bolterlaw05_Records.f k l0_11 12).bind fun t209 => ((bolterlaw05_Records.f k l0_12 12).bind fun t212 => (some (a0_0, a0_1, Int.tmod (wrap64 ((Int.tmod a0_2 16) + 16)) 16, a0_3, a0_4, a0_5, a0_6, Int.tmod (wrap64 ((Int.tmod a0_7 16) + 16)) 16, t205, a0_9, t206, t209, t212, wrap64 (a0_13)))))) = some (r1, r2, r3, r4, r5, r6, r7, r8, r9, r10, r11, r12, r13, r14) := H
  have A2 := Aside0.mk A20
  clear A20
  replace H := Option.bind_eq_some_iff.mp H
  obtain ⟨t206, A30, H⟩ := H
  replace H : ((bolterlaw05_Records.f k l0_11 12).bind fun t209 => ((bolterlaw05_Records.f k l0_12 12).bind fun t212 => (some (a0_0, a0_1, Int.tmod (wrap64 ((Int.tmod a0_2 16) + 16)) 16, a0_3, a0_4, a0_5, a0_6, Int.tmod (wrap64 ((Int.tmod a0_7 16) + 16)) 16, t205, a0_9, t206, t209, t212, wrap64 (a0_13))))) = some (r1, r2, r3, r4, r5, r6, r7, r8, r9, r10, r11, r12, r13, r14) := H
  have A3 := Aside0.mk A30
  clear A30
  replace H := Option.bind_eq_some_iff.mp H
  obtain ⟨t209, A40, H⟩ := H
  replace H : ((bolterlaw05_Records.f k l0_12 12).bind fun t212 => (some (a0_0, a0_1, Int.tmod (wrap64 ((Int.tmod a0_2 16) + 16)) 16, a0_3, a0_4, a0_5, a0_6, Int.tmod (wrap64 ((Int.tmod a0_7 16) + 16)) 16, t205, a0_9, t206, t209, t212, wrap64 (a0_13)))) = some (r1, r2, r3, r4, r5, r6, r7, r8, r9, r10, r11, r12, r13, r14) := H
  have A4 := Aside0.mk A40
  clear A40
  replace H := Option.bind_eq_some_iff.mp H
  obtain ⟨t212, A50, H⟩ := H
  replace H : (some (a0_0, a0_1, Int.tmod (wrap64 ((Int.tmod a0_2 16) + 16)) 16, a0_3, a0_4, a0_5, a0_6, Int.tmod (wrap64 ((Int.tmod a0_7 16) + 16)) 16, t205, a0_9, t206, t209, t212, wrap64 (a0_13))) = some (r1, r2, r3, r4, r5, r6, r7, r8, r9, r10, r11, r12, r13, r14) := H
  have A5 := Aside0.mk A50
  clear A50
  simp only [Option.some.injEq, Prod.mk.injEq] at H
  obtain ⟨rfl, rfl, rfl, rfl, rfl, rfl, rfl, rfl, rfl, rfl, rfl, rfl, rfl, rfl⟩ := H
  go_enter Try.func12, Try.ntmps12
  try go_wp2_with (first | ((with_reducible refine gate_dst (N := 1) rfl ?_); refine box_event ?hg (N := 1) ?hd (cs := #[.int .u16 a0_0, .bool a0_1, .int .i64 a0_2, .bool a0_3, .bool a0_4, .bool a0_5, .bool a0_6, .int .i64 a0_7, .slice A0_8 l0_8.length c0_8, .int .u16 a0_9, .slice A0_10 l0_10.length c0_10, .slice A0_11 l0_11.length c0_11, .slice A0_12 l0_12.length c0_12, .int .u16 a0_13]) (t := 46) ?hr ?_; (case hd => rfl); (case hg => rfl); (case hr => first | (go_simp; done) | (go_simp; rfl)); intro gb202 hg w6 hbox hb; have n0_ := Aside0.mk (below_step (by repeat (first | (with_reducible first | exact HB.out | apply below_alloc | apply pw_below_drewN | apply below_drew1) | exact HB.out)) hb); have n1_ := Aside0.mk (hbox); have n2_ := Aside0.mk ((by rw [hg]; exact (below_size (by repeat (first | (with_reducible first | exact HB.out | apply below_alloc | apply pw_below_drewN | apply below_drew1) | exact HB.out))) : w.heap.size ≤ gb202)); have n3_ := Aside0.mk ((by rw [hg]; exact (below_size (by repeat (first | (with_reducible first | exact HB.out | apply below_alloc | apply pw_below_drewN | apply below_drew1) | exact HB.out))) : w.heap.size ≤ gb202)); clear HB; have HB := n0_; have BK202 := n1_; have GW202 := n2_; have GE202 := n3_; clear n0_ n1_ n2_ n3_; clear hb hbox hg) | ((with_reducible refine gate_dst (N := 2) rfl ?_); refine box_event ?hg (N := 2) ?hd (cs := #[.int .u16 0, .bool false, .int .i64 0, .bool false, .bool false, .bool false, .bool false, .int .i64 0, .string (⟨#[]⟩ : ByteArray), .int .u16 0, .slice none 0 0, .slice none 0 0, .slice none 0 0, .int .i64 0]) (t := 31) ?hr ?_; (case hd => rfl); (case hg => rfl); (case hr => first | (go_simp; done) | (go_simp; rfl)); intro gb203 hg w7 hbox hb; have n0_ := Aside0.mk (blk_below (g := gb202) (o := .cells #[.int .u16 a0_0, .bool a0_1, .int .i64 a0_2, .bool a0_3, .bool a0_4, .bool a0_5, .bool a0_6, .int .i64 a0_7, .slice A0_8 l0_8.length c0_8, .int .u16 a0_9, .slice A0_10 l0_10.length c0_10, .slice A0_11 l0_11.length c0_11, .slice A0_12 l0_12.length c0_12, .int .u16 a0_13] 46 (0, 0)) (by (with_reducible repeat (first | refine blk_drewN ?_ _ | refine blk_drew ?_ | refine blk_alloc ?_ _)); exact BK202.out) hb); have n1_ := Aside0.mk (below_step (by repeat (first | (with_reducible first | exact HB.out | apply below_alloc | apply pw_below_drewN | apply below_drew1 | refine below_set ?_ GE202.out) | exact HB.out)) hb); have n2_ := Aside0.mk (hbox); have n3_ := Aside0.mk ((by rw [hg]; exact (below_size (by repeat (first | (with_reducible first | exact HB.out | apply below_alloc | apply pw_below_drewN | apply below_drew1 | refine below_set ?_ GE202.out) | exact HB.out))) : w.heap.size ≤ gb203)); have n4_ := Aside0.mk ((by rw [hg]; exact (below_size (by repeat (first | (with_reducible first | exact HB.out | apply below_alloc | apply pw_below_drewN | apply below_drew1 | refine below_set ?_ GE202.out) | exact HB.out))) : w.heap.size ≤ gb203)); have n5_ := Aside0.mk ((by rw [hg]; exact Nat.ne_of_lt (blk_lt (g := gb202) (o := .cells #[.int .u16 a0_0, .bool a0_1, .int .i64 a0_2, .bool a0_3, .bool a0_4, .bool a0_5, .bool a0_6, .int .i64 a0_7, .slice A0_8 l0_8.length c0_8, .int .u16 a0_9, .slice A0_10 l0_10.length c0_10, .slice A0_11 l0_11.length c0_11, .slice A0_12 l0_12.length c0_12, .int .u16 a0_13] 46 (0, 0)) (by (with_reducible repeat (first | refine blk_drewN ?_ _ | refine blk_drew ?_ | refine blk_alloc ?_ _)); exact BK202.out)) : gb202 ≠ gb203)); have n6_ := Aside0.mk ((by rw [hg]; exact Nat.ne_of_gt (blk_lt (g := gb202) (o := .cells #[.int .u16 a0_0, .bool a0_1, .int .i64 a0_2, .bool a0_3, .bool a0_4, .bool a0_5, .bool a0_6, .int .i64 a0_7, .slice A0_8 l0_8.length c0_8, .int .u16 a0_9, .slice A0_10 l0_10.length c0_10, .slice A0_11 l0_11.length c0_11, .slice A0_12 l0_12.length c0_12, .int .u16 a0_13] 46 (0, 0)) (by (with_reducible repeat (first | refine blk_drewN ?_ _ | refine blk_drew ?_ | refine blk_alloc ?_ _)); exact BK202.out)) : gb203 ≠ gb202)); clear BK202; clear HB; have BK202 := n0_; have HB := n1_; have BK203 := n2_; have GW203 := n3_; have GE203 := n4_; have NB202_203 := n5_; have NB203_202 := n6_; clear n0_ n1_ n2_ n3_ n4_ n5_ n6_; clear hb hbox hg; have hnb8 := NB202_203.out; have hnc8 := NB203_202.out; have hcz9_0 : w7.cell? ⟨gb202, 0, none⟩ = some (.int .u16 a0_0) := (blk_cell BK202.out 0).trans rfl; have hcz9_1 : w7.cell? ⟨gb202, 1, none⟩ = some (.bool a0_1) := (blk_cell BK202.out 1).trans rfl; have hcz9_2 : w7.cell? ⟨gb202, 2, none⟩ = some (.int .i64 a0_2) := (blk_cell BK202.out 2).trans rfl; have hcz9_3 : w7.cell? ⟨gb202, 3, none⟩ = some (.bool a0_3) := (blk_cell BK202.out 3).trans rfl; have hcz9_4 : w7.cell? ⟨gb202, 4, none⟩ = some (.bool a0_4) := (blk_cell BK202.out 4).trans rfl; have hcz9_5 : w7.cell? ⟨gb202, 5, none⟩ = some (.bool a0_5) := (blk_cell BK202.out 5).trans rfl; have hcz9_6 : w7.cell? ⟨gb202, 6, none⟩ = some (.bool a0_6) := (blk_cell BK202.out 6).trans rfl; have hcz9_7 : w7.cell? ⟨gb202, 7, none⟩ = some (.int .i64 a0_7) := (blk_cell BK202.out 7).trans rfl; have hcz9_8 : w7.cell? ⟨gb202, 8, none⟩ = some (.slice A0_8 l0_8.length c0_8) := (blk_cell BK202.out 8).trans rfl; have hcz9_9 : w7.cell? ⟨gb202, 9, none⟩ = some (.int .u16 a0_9) := (blk_cell BK202.out 9).trans rfl; have hcz9_10 : w7.cell? ⟨gb202, 10, none⟩ = some (.slice A0_10 l0_10.length c0_10) := (blk_cell BK202.out 10).trans rfl; have hcz9_11 : w7.cell? ⟨gb202, 11, none⟩ = some (.slice A0_11 l0_11.length c0_11) := (blk_cell BK202.out 11).trans rfl; have hcz9_12 : w7.cell? ⟨gb202, 12, none⟩ = some (.slice A0_12 l0_12.length c0_12) := (blk_cell BK202.out 12).trans rfl; have hcz9_13 : w7.cell? ⟨gb202, 13, none⟩ = some (.int .u16 a0_13) := (blk_cell BK202.out 13).trans rfl; have hfz9_0 := blk_frozen BK202.out 0; have hfz9_1 := blk_frozen BK202.out 1; have hfz9_2 := blk_frozen BK202.out 2; have hfz9_3 := blk_frozen BK202.out 3; have hfz9_4 := blk_frozen BK202.out 4; have hfz9_5 := blk_frozen BK202.out 5; have hfz9_6 := blk_frozen BK202.out 6; have hfz9_7 := blk_frozen BK202.out 7; have hfz9_8 := blk_frozen BK202.out 8; have hfz9_9 := blk_frozen BK202.out 9; have hfz9_10 := blk_frozen BK202.out 10; have hfz9_11 := blk_frozen BK202.out 11; have hfz9_12 := blk_frozen BK202.out 12; have hfz9_13 := blk_frozen BK202.out 13) | ((with_reducible refine gate_dst (N := 3) rfl ?_); refine box_event ?hg (N := 3) ?hd (cs := #[.int .u16 0, .bool false, .int .i64 0, .bool false, .bool false, .bool false, .bool false, .int .i64 0]) (t := 24) ?hr ?_; (case hd => rfl); (case hg => rfl); (case hr => first | (go_simp; done) | (go_simp; rfl)); intro gb204 hg w10 hbox hb; have n0_ := Aside0.mk (blk_below (g := gb202) (o := .cells #[.int .u16 a0_0, .bool a0_1, .int .i64 a0_2, .bool a0_3, .bool a0_4, .bool a0_5, .bool a0_6, .int .i64 a0_7, .slice A0_8 l0_8.length c0_8, .int .u16 a0_9, .slice A0_10 l0_10.length c0_10, .slice A0_11 l0_11.length c0_11, .slice A0_12 l0_12.length c0_12, .int .u16 a0_13] 46 (0, 0)) (by (with_reducible repeat (first | refine blk_drewN ?_ _ | refine blk_drew ?_ | refine blk_alloc ?_ _)); exact BK202.out) hb); have n1_ := Aside0.mk (blk_below (g := gb203) (o := .cells #[.int .u16 0, .bool false, .int .i64 0, .bool false, .bool false, .bool false, .bool false, .int .i64 0, .string (⟨#[]⟩ : ByteArray), .int .u16 0, .slice none 0 0, .slice none 0 0, .slice none 0 0, .int .i64 0] 31 (0, 0)) (by (with_reducible repeat (first | refine blk_drewN ?_ _ | refine blk_drew ?_ | refine blk_alloc ?_ _)); exact BK203.out) hb); have n2_ := Aside0.mk (below_step (by repeat (first | (with_reducible first | exact HB.out | apply below_alloc | apply pw_below_drewN | apply below_drew1 | refine below_set ?_ GE202.out | refine below_set ?_ GE203.out) | exact HB.out)) hb); have n3_ := Aside0.mk (hbox); have n4_ := Aside0.mk ((by rw [hg]; exact (below_size (by repeat (first | (with_reducible first | exact HB.out | apply below_alloc | apply pw_below_drewN | apply below_drew1 | refine below_set ?_ GE202.out | refine below_set ?_ GE203.out) | exact HB.out))) : w.heap.size ≤ gb204)); have n5_ := Aside0.mk ((by rw [hg]; exact (below_size (by repeat (first | (with_reducible first | exact HB.out | apply below_alloc | apply pw_below_drewN | apply below_drew1 | refine below_set ?_ GE202.out | refine below_set ?_ GE203.out) | exact HB.out))) : w.heap.size ≤ gb204)); have n6_ := Aside0.mk ((by rw [hg]; exact Nat.ne_of_lt (blk_lt (g := gb202) (o := .cells #[.int .u16 a0_0, .bool a0_1, .int .i64 a0_2, .bool a0_3, .bool a0_4, .bool a0_5, .bool a0_6, .int .i64 a0_7, .slice A0_8 l0_8.length c0_8, .int .u16 a0_9, .slice A0_10 l0_10.length c0_10, .slice A0_11 l0_11.length c0_11, .slice A0_12 l0_12.length c0_12, .int .u16 a0_13] 46 (0, 0)) (by (with_reducible repeat (first | refine blk_drewN ?_ _ | refine blk_drew ?_ | refine blk_alloc ?_ _)); exact BK202.out)) : gb202 ≠ gb204)); have n7_ := Aside0.mk ((by rw [hg]; exact Nat.ne_of_gt (blk_lt (g := gb202) (o := .cells #[.int .u16 a0_0, .bool a0_1, .int .i64 a0_2, .bool a0_3, .bool a0_4, .bool a0_5, .bool a0_6, .int .i64 a0_7, .slice A0_8 l0_8.length c0_8, .int .u16 a0_9, .slice A0_10 l0_10.length c0_10, .slice A0_11 l0_11.length c0_11, .slice A0_12 l0_12.length c0_12, .int .u16 a0_13] 46 (0, 0)) (by (with_reducible repeat (first | refine blk_drewN ?_ _ | refine blk_drew ?_ | refine blk_alloc ?_ _)); exact BK202.out)) : gb204 ≠ gb202)); have n8_ := Aside0.mk ((by rw [hg]; exact Nat.ne_of_lt (blk_lt (g := gb203) (o := .cells #[.int .u16 0, .bool false, .int .i64 0, .bool false, .bool false, .bool false, .bool false, .int .i64 0, .string (⟨#[]⟩ : ByteArray), .int .u16 0, .slice none 0 0, .slice none 0 0, .slice none 0 0, .int .i64 0] 31 (0, 0)) (by (with_reducible repeat (first | refine blk_drewN ?_ _ | refine blk_drew ?_ | refine blk_alloc ?_ _)); exact BK203.out)) : gb203 ≠ gb204)); have n9_ := Aside0.mk ((by rw [hg]; exact Nat.ne_of_gt (blk_lt (g := gb203) (o := .cells #[.int .u16 0, .bool false, .int .i64 0, .bool false, .bool false, .bool false, .bool false, .int .i64 0, .string (⟨#[]⟩ : ByteArray), .int .u16 0, .slice none 0 0, .slice none 0 0, .slice none 0 0, .int .i64 0] 31 (0, 0)) (by (with_reducible repeat (first | refine blk_drewN ?_ _ | refine blk_drew ?_ | refine blk_alloc ?_ _)); exact BK203.out)) : gb204 ≠ gb203)); clear BK202; clear BK203; clear HB; have BK202 := n0_; have BK203 := n1_; have HB := n2_; have BK204 := n3_; have GW204 := n4_; have GE204 := n5_; have NB202_204 := n6_; have NB204_202 := n7_; have NB203_204 := n8_; have NB204_203 := n9_; clear n0_ n1_ n2_ n3_ n4_ n5_ n6_ n7_ n8_ n9_; clear hb hbox hg; have hnb11 := NB204_202.out; have hnc11 := NB202_204.out; have hnb12 := NB204_203.out; have hnc12 := NB203_204.out; have hcz13_0 : w10.cell? ⟨gb204, 0, none⟩ = some (.int .u16 0) := (blk_cell BK204.out 0).trans rfl; have hcz13_1 : w10.cell? ⟨gb204, 1, none⟩ = some (.bool false) := (blk_cell BK204.out 1).trans rfl; have hcz13_2 : w10.cell? ⟨gb204, 2, none⟩ = some (.int .i64 0) := (blk_cell BK204.out 2).trans rfl; have hcz13_3 : w10.cell? ⟨gb204, 3, none⟩ = some (.bool false) := (blk_cell BK204.out 3).trans rfl; have hcz13_4 : w10.cell? ⟨gb204, 4, none⟩ = some (.bool false) := (blk_cell BK204.out 4).trans rfl; have hcz13_5 : w10.cell? ⟨gb204, 5, none⟩ = some (.bool false) := (blk_cell BK204.out 5).trans rfl; have hcz13_6 : w10.cell? ⟨gb204, 6, none⟩ = some (.bool false) := (blk_cell BK204.out 6).trans rfl; have hcz13_7 : w10.cell? ⟨gb204, 7, none⟩ = some (.int .i64 0) := (blk_cell BK204.out 7).trans rfl; have hfz13_0 := blk_frozen BK204.out 0; have hfz13_1 := blk_frozen BK204.out 1; have hfz13_2 := blk_frozen BK204.out 2; have hfz13_3 := blk_frozen BK204.out 3; have hfz13_4 := blk_frozen BK204.out 4; have hfz13_5 := blk_frozen BK204.out 5; have hfz13_6 := blk_frozen BK204.out 6; have hfz13_7 := blk_frozen BK204.out 7))
  have n0_ : Aside0 (((((((((((w10.setCell ⟨gb204, 0, none⟩ (.int .u16 a0_0)).setCell ⟨gb204, 1, none⟩ (.bool a0_1)).setCell ⟨gb204, 2, none⟩ (.int .i64 a0_2)).setCell ⟨gb204, 3, none⟩ (.bool a0_3)).setCell ⟨gb204, 4, none⟩ (.bool a0_4)).setCell ⟨gb204, 5, none⟩ (.bool a0_5)).setCell ⟨gb204, 6, none⟩ (.bool a0_6)).setCell ⟨gb204, 7, none⟩ (.int .i64 a0_7)).setCell ⟨gb204, 2, none⟩ (.int .i64 (Int.tmod (wrap64 ((Int.tmod a0_2 16) + 16)) 16))).setCell ⟨gb204, 7, none⟩ (.int .i64 (Int.tmod (wrap64 ((Int.tmod a0_7 16) + 16)) 16))).heap[gb202]? = some (.cells #[.int .u16 a0_0, .bool a0_1, .int .i64 a0_2, .bool a0_3, .bool a0_4, .bool a0_5, .bool a0_6, .int .i64 a0_7, .slice A0_8 l0_8.length c0_8, .int .u16 a0_9, .slice A0_10 l0_10.length c0_10, .slice A0_11 l0_11.length c0_11, .slice A0_12 l0_12.length c0_12, .int .u16 a0_13] 46 (0, 0))) := ⟨by (with_reducible repeat (first | refine blk_drewN ?_ _ | refine blk_drew ?_ | refine blk_alloc ?_ _)); refine blk_far ?_ NB202_204.out _; (with_reducible repeat (first | refine blk_drewN ?_ _ | refine blk_drew ?_ | refine blk_alloc ?_ _)); refine blk_far ?_ NB202_204.out _; (with_reducible repeat (first | refine blk_drewN ?_ _ | refine blk_drew ?_ | refine blk_alloc ?_ _)); refine blk_far ?_ NB202_204.out _; (with_reducible repeat (first | refine blk_drewN ?_ _ | refine blk_drew ?_ | refine blk_alloc ?_ _)); refine blk_far ?_ NB202_204.out _; (with_reducible repeat (first | refine blk_drewN ?_ _ | refine blk_drew ?_ | refine blk_alloc ?_ _)); refine blk_far ?_ NB202_204.out _; (with_reducible repeat (first | refine blk_drewN ?_ _ | refine blk_drew ?_ | refine blk_alloc ?_ _)); refine blk_far ?_ NB202_204.out _; (with_reducible repeat (first | refine blk_drewN ?_ _ | refine blk_drew ?_ | refine blk_alloc ?_ _)); refine blk_far ?_ NB202_204.out _; (with_reducible repeat (first | refine blk_drewN ?_ _ | refine blk_drew ?_ | refine blk_alloc ?_ _)); refine blk_far ?_ NB202_204.out _; (with_reducible repeat (first | refine blk_drewN ?_ _ | refine blk_drew ?_ | refine blk_alloc ?_ _)); refine blk_far ?_ NB202_204.out _; (with_reducible repeat (first | refine blk_drewN ?_ _ | refine blk_drew ?_ | refine blk_alloc ?_ _)); refine blk_far ?_ NB202_204.out _; (with_reducible repeat (first | refine blk_drewN ?_ _ | refine blk_drew ?_ | refine blk_alloc ?_ _)); exact BK202.out⟩
  have n1_ : Aside0 (((((((((((w10.setCell ⟨gb204, 0, none⟩ (.int .u16 a0_0)).setCell ⟨gb204, 1, none⟩ (.bool a0_1)).setCell ⟨gb204, 2, none⟩ (.int .i64 a0_2)).setCell ⟨gb204, 3, none⟩ (.bool a0_3)).setCell ⟨gb204, 4, none⟩ (.bool a0_4)).setCell ⟨gb204, 5, none⟩ (.bool a0_5)).setCell ⟨gb204, 6, none⟩ (.bool a0_6)).setCell ⟨gb204, 7, none⟩ (.int .i64 a0_7)).setCell ⟨gb204, 2, none⟩ (.int .i64 (Int.tmod (wrap64 ((Int.tmod a0_2 16) + 16)) 16))).setCell ⟨gb204, 7, none⟩ (.int .i64 (Int.tmod (wrap64 ((Int.tmod a0_7 16) + 16)) 16))).heap[gb203]? = some (.cells #[.int .u16 0, .bool false, .int .i64 0, .bool false, .bool false, .bool false, .bool false, .int .i64 0, .string (⟨#[]⟩ : ByteArray), .int .u16 0, .slice none 0 0, .slice none 0 0, .slice none 0 0, .int .i64 0] 31 (0, 0))) := ⟨by (with_reducible repeat (first | refine blk_drewN ?_ _ | refine blk_drew ?_ | refine blk_alloc ?_ _)); refine blk_far ?_ NB203_204.out _; (with_reducible repeat (first | refine blk_drewN ?_ _ | refine blk_drew ?_ | refine blk_alloc ?_ _)); refine blk_far ?_ NB203_204.out _; (with_reducible repeat (first | refine blk_drewN ?_ _ | refine blk_drew ?_ | refine blk_alloc ?_ _)); refine blk_far ?_ NB203_204.out _; (with_reducible repeat (first | refine blk_drewN ?_ _ | refine blk_drew ?_ | refine blk_alloc ?_ _)); refine blk_far ?_ NB203_204.out _; (with_reducible repeat (first | refine blk_drewN ?_ _ | refine blk_drew ?_ | refine blk_alloc ?_ _)); refine blk_far ?_ NB203_204.out _; (with_reducible repeat (first | refine blk_drewN ?_ _ | refine blk_drew ?_ | refine blk_alloc ?_ _)); refine blk_far ?_ NB203_204.out _; (with_reducible repeat (first | refine blk_drewN ?_ _ | refine blk_drew ?_ | refine blk_alloc ?_ _)); refine blk_far ?_ NB203_204.out _; (with_reducible repeat (first | refine blk_drewN ?_ _ | refine blk_drew ?_ | refine blk_alloc ?_ _)); refine blk_far ?_ NB203_204.out _; (with_reducible repeat (first | refine blk_drewN ?_ _ | refine blk_drew ?_ | refine blk_alloc ?_ _)); refine blk_far ?_ NB203_204.out _; (with_reducible repeat (first | refine blk_drewN ?_ _ | refine blk_drew ?_ | refine blk_alloc ?_ _)); refine blk_far ?_ NB203_204.out _; (with_reducible repeat (first | refine blk_drewN ?_ _ | refine blk_drew ?_ | refine blk_alloc ?_ _)); exact BK203.out⟩
  have n2_ : Aside0 (((((((((((w10.setCell ⟨gb204, 0, none⟩ (.int .u16 a0_0)).setCell ⟨gb204, 1, none⟩ (.bool a0_1)).setCell ⟨gb204, 2, none⟩ (.int .i64 a0_2)).setCell ⟨gb204, 3, none⟩ (.bool a0_3)).setCell ⟨gb204, 4, none⟩ (.bool a0_4)).setCell ⟨gb204, 5, none⟩ (.bool a0_5)).setCell ⟨gb204, 6, none⟩ (.bool a0_6)).setCell ⟨gb204, 7, none⟩ (.int .i64 a0_7)).setCell ⟨gb204, 2, none⟩ (.int .i64 (Int.tmod (wrap64 ((Int.tmod a0_2 16) + 16)) 16))).setCell ⟨gb204, 7, none⟩ (.int .i64 (Int.tmod (wrap64 ((Int.tmod a0_7 16) + 16)) 16))).heap[gb204]? = some (.cells #[.int .u16 a0_0, .bool a0_1, .int .i64 (Int.tmod (wrap64 ((Int.tmod a0_2 16) + 16)) 16), .bool a0_3, .bool a0_4, .bool a0_5, .bool a0_6, .int .i64 (Int.tmod (wrap64 ((Int.tmod a0_7 16) + 16)) 16)] 24 (0, 0))) := ⟨by (with_reducible repeat (first | refine blk_drewN ?_ _ | refine blk_drew ?_ | refine blk_alloc ?_ _)); refine blk_put (cs := #[.int .u16 a0_0, .bool a0_1, .int .i64 (Int.tmod (wrap64 ((Int.tmod a0_2 16) + 16)) 16), .bool a0_3, .bool a0_4, .bool a0_5, .bool a0_6, .int .i64 a0_7]) ?_ 7 _ rfl; (with_reducible repeat (first | refine blk_drewN ?_ _ | refine blk_drew ?_ | refine blk_alloc ?_ _)); refine blk_put (cs := #[.int .u16 a0_0, .bool a0_1, .int .i64 a0_2, .bool a0_3, .bool a0_4, .bool a0_5, .bool a0_6, .int .i64 a0_7]) ?_ 2 _ rfl; (with_reducible repeat (first | refine blk_drewN ?_ _ | refine blk_drew ?_ | refine blk_alloc ?_ _)); refine blk_put (cs := #[.int .u16 a0_0, .bool a0_1, .int .i64 a0_2, .bool a0_3, .bool a0_4, .bool a0_5, .bool a0_6, .int .i64 0]) ?_ 7 _ rfl; (with_reducible repeat (first | refine blk_drewN ?_ _ | refine blk_drew ?_ | refine blk_alloc ?_ _)); refine blk_put (cs := #[.int .u16 a0_0, .bool a0_1, .int .i64 a0_2, .bool a0_3, .bool a0_4, .bool a0_5, .bool false, .int .i64 0]) ?_ 6 _ rfl; (with_reducible repeat (first | refine blk_drewN ?_ _ | refine blk_drew ?_ | refine blk_alloc ?_ _)); refine blk_put (cs := #[.int .u16 a0_0, .bool a0_1, .int .i64 a0_2, .bool a0_3, .bool a0_4, .bool false, .bool false, .int .i64 0]) ?_ 5 _ rfl; (with_reducible repeat (first | refine blk_drewN ?_ _ | refine blk_drew ?_ | refine blk_alloc ?_ _)); refine blk_put (cs := #[.int .u16 a0_0, .bool a0_1, .int .i64 a0_2, .bool a0_3, .bool false, .bool false, .bool false, .int .i64 0]) ?_ 4 _ rfl; (with_reducible repeat (first | refine blk_drewN ?_ _ | refine blk_drew ?_ | refine blk_alloc ?_ _)); refine blk_put (cs := #[.int .u16 a0_0, .bool a0_1, .int .i64 a0_2, .bool false, .bool false, .bool false, .bool false, .int .i64 0]) ?_ 3 _ rfl; (with_reducible repeat (first | refine blk_drewN ?_ _ | refine blk_drew ?_ | refine blk_alloc ?_ _)); refine blk_put (cs := #[.int .u16 a0_0, .bool a0_1, .int .i64 0, .bool false, .bool false, .bool false, .bool false, .int .i64 0]) ?_ 2 _ rfl; (with_reducible repeat (first | refine blk_drewN ?_ _ | refine blk_drew ?_ | refine blk_alloc ?_ _)); refine blk_put (cs := #[.int .u16 a0_0, .bool false, .int .i64 0, .bool false, .bool false, .bool false, .bool false, .int .i64 0]) ?_ 1 _ rfl; (with_reducible repeat (first | refine blk_drewN ?_ _ | refine blk_drew ?_ | refine blk_alloc ?_ _)); refine blk_put (cs := #[.int .u16 0, .bool false, .int .i64 0, .bool false, .bool false, .bool false, .bool false, .int .i64 0]) ?_ 0 _ rfl; (with_reducible repeat (first | refine blk_drewN ?_ _ | refine blk_drew ?_ | refine blk_alloc ?_ _)); exact BK204.out⟩
  have n3_ : Aside0 (Below w.heap.size w ((((((((((w10.setCell ⟨gb204, 0, none⟩ (.int .u16 a0_0)).setCell ⟨gb204, 1, none⟩ (.bool a0_1)).setCell ⟨gb204, 2, none⟩ (.int .i64 a0_2)).setCell ⟨gb204, 3, none⟩ (.bool a0_3)).setCell ⟨gb204, 4, none⟩ (.bool a0_4)).setCell ⟨gb204, 5, none⟩ (.bool a0_5)).setCell ⟨gb204, 6, none⟩ (.bool a0_6)).setCell ⟨gb204, 7, none⟩ (.int .i64 a0_7)).setCell ⟨gb204, 2, none⟩ (.int .i64 (Int.tmod (wrap64 ((Int.tmod a0_2 16) + 16)) 16))).setCell ⟨gb204, 7, none⟩ (.int .i64 (Int.tmod (wrap64 ((Int.tmod a0_7 16) + 16)) 16)))) := ⟨by repeat (first | (with_reducible first | exact HB.out | apply below_alloc | apply pw_below_drewN | apply below_drew1 | refine below_set ?_ GE202.out | refine below_set ?_ GE203.out | refine below_set ?_ GE204.out) | exact HB.out)⟩
  (try clear BK202)
  (try clear BK203)
  (try clear BK204)
  (try clear HB)
  generalize ((((((((((w10.setCell ⟨gb204, 0, none⟩ (.int .u16 a0_0)).setCell ⟨gb204, 1, none⟩ (.bool a0_1)).setCell ⟨gb204, 2, none⟩ (.int .i64 a0_2)).setCell ⟨gb204, 3, none⟩ (.bool a0_3)).setCell ⟨gb204, 4, none⟩ (.bool a0_4)).setCell ⟨gb204, 5, none⟩ (.bool a0_5)).setCell ⟨gb204, 6, none⟩ (.bool a0_6)).setCell ⟨gb204, 7, none⟩ (.int .i64 a0_7)).setCell ⟨gb204, 2, none⟩ (.int .i64 (Int.tmod (wrap64 ((Int.tmod a0_2 16) + 16)) 16))).setCell ⟨gb204, 7, none⟩ (.int .i64 (Int.tmod (wrap64 ((Int.tmod a0_7 16) + 16)) 16))) = w14 at n0_ n1_ n2_ n3_ ⊢
  have BK202 := n0_
  have BK203 := n1_
  have BK204 := n2_
  have HB := n3_
  clear n0_ n1_ n2_ n3_
  have n0_ := Aside0.mk (blk_drew BK202.out)
  have n1_ := Aside0.mk (blk_drew BK203.out)
  have n2_ := Aside0.mk (blk_drew BK204.out)
  have n3_ := Aside0.mk (below_drew1 HB.out)
  clear BK202
  clear BK203
  clear BK204
  clear HB
  have BK202 := n0_
  have BK203 := n1_
  have BK204 := n2_
  have HB := n3_
  clear n0_ n1_ n2_ n3_
  refine start_ (n := 21) (S := fun w' => w'.cell? ⟨gb204, 0, none⟩ = some (.int .u16 a0_0) ∧ w'.cell? ⟨gb204, 1, none⟩ = some (.bool a0_1) ∧ w'.cell? ⟨gb204, 2, none⟩ = some (.int .i64 (Int.tmod (wrap64 ((Int.tmod a0_2 16) + 16)) 16)) ∧ w'.cell? ⟨gb204, 3, none⟩ = some (.bool a0_3) ∧ w'.cell? ⟨gb204, 4, none⟩ = some (.bool a0_4) ∧ w'.cell? ⟨gb204, 5, none⟩ = some (.bool a0_5) ∧ w'.cell? ⟨gb204, 6, none⟩ = some (.bool a0_6) ∧ w'.cell? ⟨gb204, 7, none⟩ = some (.int .i64 (Int.tmod (wrap64 ((Int.tmod a0_7 16) + 16)) 16)) ∧ w'.cell? ⟨gb202, 0, none⟩ = some (.int .u16 a0_0) ∧ w'.cell? ⟨gb202, 1, none⟩ = some (.bool a0_1) ∧ w'.cell? ⟨gb202, 2, none⟩ = some (.int .i64 a0_2) ∧ w'.cell? ⟨gb202, 3, none⟩ = some (.bool a0_3) ∧ w'.cell? ⟨gb202, 4, none⟩ = some (.bool a0_4) ∧ w'.cell? ⟨gb202, 5, none⟩ = some (.bool a0_5) ∧ w'.cell? ⟨gb202, 6, none⟩ = some (.bool a0_6) ∧ w'.cell? ⟨gb202, 7, none⟩ = some (.int .i64 a0_7) ∧ w'.cell? ⟨gb202, 8, none⟩ = some (.slice A0_8 l0_8.length c0_8) ∧ w'.cell? ⟨gb202, 9, none⟩ = some (.int .u16 a0_9) ∧ w'.cell? ⟨gb202, 10, none⟩ = some (.slice A0_10 l0_10.length c0_10) ∧ w'.cell? ⟨gb202, 11, none⟩ = some (.slice A0_11 l0_11.length c0_11) ∧ w'.cell? ⟨gb202, 12, none⟩ = some (.slice A0_12 l0_12.length c0_12) ∧ w'.cell? ⟨gb202, 13, none⟩ = some (.int .u16 a0_13)) (ds := []) #[false, false, false, false, false, false, false, false, false, false, false, false, false, false, false, false, false, false, false, false, false] (by kernel_rfl) rfl rfl ⟨(blk_cell BK204.out 0).trans rfl, (blk_cell BK204.out 1).trans rfl, (blk_cell BK204.out 2).trans rfl, (blk_cell BK204.out 3).trans rfl, (blk_cell BK204.out 4).trans rfl, (blk_cell BK204.out 5).trans rfl, (blk_cell BK204.out 6).trans rfl, (blk_cell BK204.out 7).trans rfl, (blk_cell BK202.out 0).trans rfl, (blk_cell BK202.out 1).trans rfl, (blk_cell BK202.out 2).trans rfl, (blk_cell BK202.out 3).trans rfl, (blk_cell BK202.out 4).trans rfl, (blk_cell BK202.out 5).trans rfl, (blk_cell BK202.out 6).trans rfl, (blk_cell BK202.out 7).trans rfl, (blk_cell BK202.out 8).trans rfl, (blk_cell BK202.out 9).trans rfl, (blk_cell BK202.out 10).trans rfl, (blk_cell BK202.out 11).trans rfl, (blk_cell BK202.out 12).trans rfl, (blk_cell BK202.out 13).trans rfl⟩ (fun hHeld => ?_); refine with_tabW bolterlaw05_Make.tab3 bolterlaw05_Make.bits3 (fun HT_ HW_ => ?_)
  generalize w14.drew = w15 at BK202 BK203 BK204 HB hHeld ⊢
  refine pure_ (i := 1) (N := some 19) (v := ?_) (a' := ?_) #[false, true, false, false, false, false, false, false, false, false, false, false, false, false, false, false, false, false, false, false, false] rfl rfl (any_of HT_.out (by kernel_rfl)) (fun _ _ _ h => h) (Or.inl ⟨by rfl, ?_⟩) ?_ ?_
  rotate_left
  · intro w'
    go_simp
    with_reducible rfl
  rotate_left
  · simp only [Act.put, List.setIfInBounds_toArray, List.set_cons_zero, List.set_cons_succ, i64_w, i32_w]
    rfl
  refine pure_ (i := 4) (N := some 22) (v := ?_) (a' := ?_) #[false, true, false, false, true, false, false, false, false, false, false, false, false, false, false, false, false, false, false, false, false] rfl rfl (any_of HT_.out (by kernel_rfl)) (fun _ _ _ h => h) (Or.inl ⟨by rfl, ?_⟩) ?_ ?_
  rotate_left
  · intro w'
    go_simp
    with_reducible rfl
  rotate_left
  · simp only [Act.put, List.setIfInBounds_toArray, List.set_cons_zero, List.set_cons_succ, i64_w, i32_w]
    rfl
  refine pure_ (i := 7) (N := some 25) (v := ?_) (a' := ?_) #[false, true, false, false, true, false, false, true, false, false, false, false, false, false, false, false, false, false, false, false, false] rfl rfl (any_of HT_.out (by kernel_rfl)) (fun _ _ _ h => h) (Or.inl ⟨by rfl, ?_⟩) ?_ ?_
  rotate_left
  · intro w'
    go_simp
    with_reducible rfl
  rotate_left
  · simp only [Act.put, List.setIfInBounds_toArray, List.set_cons_zero, List.set_cons_succ, i64_w, i32_w]
    rfl
  refine pure_ (i := 10) (N := some 28) (v := ?_) (a' := ?_) #[false, true, false, false, true, false, false, true, false, false, true, false, false, false, false, false, false, false, false, false, false] rfl rfl (any_of HT_.out (by kernel_rfl)) (fun _ _ _ h => h) (Or.inl ⟨by rfl, ?_⟩) ?_ ?_
  rotate_left
  · intro w'
    go_simp
    with_reducible rfl
  rotate_left
  · simp only [Act.put, List.setIfInBounds_toArray, List.set_cons_zero, List.set_cons_succ, i64_w, i32_w]
    rfl
  refine pure_ (i := 13) (N := some 31) (v := ?_) (a' := ?_) #[false, true, false, false, true, false, false, true, false, false, true, false, false, true, false, false, false, false, false, false, false] rfl rfl (any_of HT_.out (by kernel_rfl)) (fun _ _ _ h => h) (Or.inl ⟨by rfl, ?_⟩) ?_ ?_
  rotate_left
  · intro w'
    go_simp
    with_reducible rfl
  rotate_left
  · simp only [Act.put, List.setIfInBounds_toArray, List.set_cons_zero, List.set_cons_succ, i64_w, i32_w]
    rfl
  refine pure_ (i := 16) (N := some 34) (v := ?_) (a' := ?_) #[false, true, false, false, true, false, false, true, false, false, true, false, false, true, false, false, true, false, false, false, false] rfl rfl (any_of HT_.out (by kernel_rfl)) (fun _ _ _ h => h) (Or.inl ⟨by rfl, ?_⟩) ?_ ?_
  rotate_left
  · intro w'
    go_simp
    with_reducible rfl
  rotate_left
  · simp only [Act.put, List.setIfInBounds_toArray, List.set_cons_zero, List.set_cons_succ, i64_w, i32_w]
    rfl
  refine take_ (i := 0) (N := some 18) (v := ?_) (a' := ?_) #[true, true, false, false, true, false, false, true, false, false, true, false, false, true, false, false, true, false, false, false, false] rfl rfl (take_ofW HT_.out HW_.out (by kernel_rfl)) (fun _ _ _ h => h) (Or.inl ⟨by rfl, ?_⟩) hHeld ?_ ?_
  rotate_left
  · rintro w' ⟨s0, s1, s2, s3, s4, s5, s6, s7, s8, s9, s10, s11, s12, s13, s14, s15, s16, s17, s18, s19, s20, s21⟩
    go_simp
    with_reducible rfl
  rotate_left
  · simp only [Act.put, List.setIfInBounds_toArray, List.set_cons_zero, List.set_cons_succ, i64_w, i32_w]
    rfl
  refine take_ (i := 2) (N := some 20) (v := ?_) (a' := ?_) #[true, true, true, false, true, false, false, true, false, false, true, false, false, true, false, false, true, false, false, false, false] rfl rfl (take_ofW HT_.out HW_.out (by kernel_rfl)) (fun _ _ _ h => h) (Or.inl ⟨by rfl, ?_⟩) hHeld ?_ ?_
  rotate_left
  · rintro w' ⟨s0, s1, s2, s3, s4, s5, s6, s7, s8, s9, s10, s11, s12, s13, s14, s15, s16, s17, s18, s19, s20, s21⟩
    go_simp
    with_reducible rfl
  rotate_left
  · simp only [Act.put, List.setIfInBounds_toArray, List.set_cons_zero, List.set_cons_succ, i64_w, i32_w]
    rfl
  refine take_ (i := 5) (N := some 23) (v := ?_) (a' := ?_) #[true, true, true, false, true, true, false, true, false, false, true, false, false, true, false, false, true, false, false, false, false] rfl rfl (take_ofW HT_.out HW_.out (by kernel_rfl)) (fun _ _ _ h => h) (Or.inl ⟨by rfl, ?_⟩) hHeld ?_ ?_
  rotate_left
  · rintro w' ⟨s0, s1, s2, s3, s4, s5, s6, s7, s8, s9, s10, s11, s12, s13, s14, s15, s16, s17, s18, s19, s20, s21⟩
    go_simp
    with_reducible rfl
  rotate_left
  · simp only [Act.put, List.setIfInBounds_toArray, List.set_cons_zero, List.set_cons_succ, i64_w, i32_w]
    rfl
  refine take_ (i := 8) (N := some 26) (v := ?_) (a' := ?_) #[true, true, true, false, true, true, false, true, true, false, true, false, false, true, false, false, true, false, false, false, false] rfl rfl (take_ofW HT_.out HW_.out (by kernel_rfl)) (fun _ _ _ h => h) (Or.inl ⟨by rfl, ?_⟩) hHeld ?_ ?_
  rotate_left
  · rintro w' ⟨s0, s1, s2, s3, s4, s5, s6, s7, s8, s9, s10, s11, s12, s13, s14, s15, s16, s17, s18, s19, s20, s21⟩
    go_simp
    with_reducible rfl
  rotate_left
  · simp only [Act.put, List.setIfInBounds_toArray, List.set_cons_zero, List.set_cons_succ, i64_w, i32_w]
    rfl
  refine take_ (i := 11) (N := some 29) (v := ?_) (a' := ?_) #[true, true, true, false, true, true, false, true, true, false, true, true, false, true, false, false, true, false, false, false, false] rfl rfl (take_ofW HT_.out HW_.out (by kernel_rfl)) (fun _ _ _ h => h) (Or.inl ⟨by rfl, ?_⟩) hHeld ?_ ?_
  rotate_left
  · rintro w' ⟨s0, s1, s2, s3, s4, s5, s6, s7, s8, s9, s10, s11, s12, s13, s14, s15, s16, s17, s18, s19, s20, s21⟩
    go_simp
    with_reducible rfl
  rotate_left
  · simp only [Act.put, List.setIfInBounds_toArray, List.set_cons_zero, List.set_cons_succ, i64_w, i32_w]
    rfl
  refine take_ (i := 14) (N := some 32) (v := ?_) (a' := ?_) #[true, true, true, false, true, true, false, true, true, false, true, true, false, true, true, false, true, false, false, false, false] rfl rfl (take_ofW HT_.out HW_.out (by kernel_rfl)) (fun _ _ _ h => h) (Or.inl ⟨by rfl, ?_⟩) hHeld ?_ ?_
  rotate_left
  · rintro w' ⟨s0, s1, s2, s3, s4, s5, s6, s7, s8, s9, s10, s11, s12, s13, s14, s15, s16, s17, s18, s19, s20, s21⟩
    go_simp
    with_reducible rfl
  rotate_left
  · simp only [Act.put, List.setIfInBounds_toArray, List.set_cons_zero, List.set_cons_succ, i64_w, i32_w]
    rfl
  refine take_ (i := 17) (N := some 35) (v := ?_) (a' := ?_) #[true, true, true, false, true, true, false, true, true, false, true, true, false, true, true, false, true, true, false, false, false] rfl rfl (take_ofW HT_.out HW_.out (by kernel_rfl)) (fun _ _ _ h => h) (Or.inl ⟨by rfl, ?_⟩) hHeld ?_ ?_
  rotate_left
  · rintro w' ⟨s0, s1, s2, s3, s4, s5, s6, s7, s8, s9, s10, s11, s12, s13, s14, s15, s16, s17, s18, s19, s20, s21⟩
    go_simp
    with_reducible rfl
  rotate_left
  · simp only [Act.put, List.setIfInBounds_toArray, List.set_cons_zero, List.set_cons_succ, i64_w, i32_w]
    rfl
  refine pure_ (i := 18) (N := some 36) (v := ?_) (a' := ?_) #[true, true, true, false, true, true, false, true, true, false, true, true, false, true, true, false, true, true, true, false, false] rfl rfl (any_of HT_.out (by kernel_rfl)) (fun _ _ _ h => h) (Or.inl ⟨by rfl, ?_⟩) ?_ ?_
  rotate_left
  · intro w'
    go_simp
    with_reducible rfl
  rotate_left
  · simp only [Act.put, List.setIfInBounds_toArray, List.set_cons_zero, List.set_cons_succ, i64_w, i32_w]
    rfl
  refine one_ (i := 3) (N := some 21) #[true, true, true, true, true, true, false, true, true, false, true, true, false, true, true, false, true, true, true, false, false] rfl rfl (one_of HT_.out (by kernel_rfl)) (by decide) (fun K hK => ?_)
  refine goes_ Try.func20 (by kernel_rfl) rfl #[.slice A0_8 l0_8.length c0_8] (by rfl) rfl rfl (by (try simp only [List.map_toArray, List.map_cons, List.map_nil]); first | done | rfl | (simp only [List.length_drop, List.length_take]; rfl)) ?_
  with_reducible refine (bolterlaw02_Name.calls k _ _ l0_8 t205 _ ?side1 ?side2 A2.out).mono ?_
  (case side1 => repeat (first | exact (Kd.C_below HR0_8.out HB.out) | (with_reducible refine Kd.C_alloc ?_ _) | (with_reducible refine Kd.C_drewN ?_ _) | (with_reducible refine Kd.C_drew ?_)))
  (case side2 => exact HC0_8.out)
  rintro e w16 ⟨rfl, hb⟩
  refine ⟨_, rfl, ?_⟩
  have n0_ := Aside0.mk (blk_below (g := gb202) (o := .cells #[.int .u16 a0_0, .bool a0_1, .int .i64 a0_2, .bool a0_3, .bool a0_4, .bool a0_5, .bool a0_6, .int .i64 a0_7, .slice A0_8 l0_8.length c0_8, .int .u16 a0_9, .slice A0_10 l0_10.length c0_10, .slice A0_11 l0_11.length c0_11, .slice A0_12 l0_12.length c0_12, .int .u16 a0_13] 46 (0, 0)) (by (with_reducible repeat (first | refine blk_drewN ?_ _ | refine blk_drew ?_ | refine blk_alloc ?_ _)); exact BK202.out) hb)
  have n1_ := Aside0.mk (blk_below (g := gb203) (o := .cells #[.int .u16 0, .bool false, .int .i64 0, .bool false, .bool false, .bool false, .bool false, .int .i64 0, .string (⟨#[]⟩ : ByteArray), .int .u16 0, .slice none 0 0, .slice none 0 0, .slice none 0 0, .int .i64 0] 31 (0, 0)) (by (with_reducible repeat (first | refine blk_drewN ?_ _ | refine blk_drew ?_ | refine blk_alloc ?_ _)); exact BK203.out) hb)
  have n2_ := Aside0.mk (blk_below (g := gb204) (o := .cells #[.int .u16 a0_0, .bool a0_1, .int .i64 (Int.tmod (wrap64 ((Int.tmod a0_2 16) + 16)) 16), .bool a0_3, .bool a0_4, .bool a0_5, .bool a0_6, .int .i64 (Int.tmod (wrap64 ((Int.tmod a0_7 16) + 16)) 16)] 24 (0, 0)) (by (with_reducible repeat (first | refine blk_drewN ?_ _ | refine blk_drew ?_ | refine blk_alloc ?_ _)); exact BK204.out) hb)
  have n3_ := Aside0.mk (below_step (by repeat (first | (with_reducible first | exact HB.out | apply below_alloc | apply pw_below_drewN | apply below_drew1 | refine below_set ?_ GE202.out | refine below_set ?_ GE203.out | refine below_set ?_ GE204.out) | exact HB.out)) hb)
  clear BK202
  clear BK203
  clear BK204
  clear HB
  have BK202 := n0_
  have BK203 := n1_
  have BK204 := n2_
  have HB := n3_
  clear n0_ n1_ n2_ n3_
  (try clear hb)
  (try clear hb2)
  (try clear hk)
  (try clear hi)
  refine hK.out _ _ ⟨(blk_cell BK204.out 0).trans rfl, (blk_cell BK204.out 1).trans rfl, (blk_cell BK204.out 2).trans rfl, (blk_cell BK204.out 3).trans rfl, (blk_cell BK204.out 4).trans rfl, (blk_cell BK204.out 5).trans rfl, (blk_cell BK204.out 6).trans rfl, (blk_cell BK204.out 7).trans rfl, (blk_cell BK202.out 0).trans rfl, (blk_cell BK202.out 1).trans rfl, (blk_cell BK202.out 2).trans rfl, (blk_cell BK202.out 3).trans rfl, (blk_cell BK202.out 4).trans rfl, (blk_cell BK202.out 5).trans rfl, (blk_cell BK202.out 6).trans rfl, (blk_cell BK202.out 7).trans rfl, (blk_cell BK202.out 8).trans rfl, (blk_cell BK202.out 9).trans rfl, (blk_cell BK202.out 10).trans rfl, (blk_cell BK202.out 11).trans rfl, (blk_cell BK202.out 12).trans rfl, (blk_cell BK202.out 13).trans rfl⟩ (fun hHeld => ?_)
  clear hK K
  refine norm_ (a' := ?_) ?_ ?_
  rotate_left
  · show Act.put _ (some 21) _ = _
    simp only [Act.put, List.setIfInBounds_toArray, List.set_cons_zero, List.set_cons_succ, i64_w, i32_w]
    rfl
  refine pure_ (i := 6) (N := some 24) (v := ?_) (a' := ?_) #[true, true, true, true, true, true, true, true, true, false, true, true, false, true, true, false, true, true, true, false, false] rfl rfl (any_of HT_.out (by kernel_rfl)) (fun _ _ _ h => h) (Or.inl ⟨by rfl, ?_⟩) ?_ ?_
  rotate_left
  · intro w'
    go_simp
    with_reducible rfl
  rotate_left
  · simp only [Act.put, List.setIfInBounds_toArray, List.set_cons_zero, List.set_cons_succ, i64_w, i32_w]
    rfl
  refine one_ (i := 9) (N := some 27) #[true, true, true, true, true, true, true, true, true, true, true, true, false, true, true, false, true, true, true, false, false] rfl rfl (one_of HT_.out (by kernel_rfl)) (by decide) (fun K hK => ?_)
  refine goes_ Try.func21 (by kernel_rfl) rfl #[.slice A0_10 l0_10.length c0_10, .int .i64 12] (by rfl) rfl rfl (by (try simp only [List.map_toArray, List.map_cons, List.map_nil]); first | done | rfl | (simp only [List.length_drop, List.length_take]; rfl)) ?_
  with_reducible refine (bolterlaw05_Records.calls k _ _ l0_10 12 t206 _ ?side1 ?side2 A3.out).mono ?_
  (case side1 => repeat (first | exact (Kd.C_below HR0_10.out HB.out) | (with_reducible refine Kd.C_alloc ?_ _) | (with_reducible refine Kd.C_drewN ?_ _) | (with_reducible refine Kd.C_drew ?_)))
  (case side2 => exact HC0_10.out)
  rintro e w17 ⟨v207, rfl, ho0, hb⟩
  refine ⟨_, rfl, ?_⟩
  have n0_ := Aside0.mk (Kd.R_lower ho0 (below_size (by repeat (first | (with_reducible first | exact HB.out | apply below_alloc | apply pw_below_drewN | apply below_drew1 | refine below_set ?_ GE202.out | refine below_set ?_ GE203.out | refine below_set ?_ GE204.out) | exact HB.out))))
  have n1_ := Aside0.mk (blk_below (g := gb202) (o := .cells #[.int .u16 a0_0, .bool a0_1, .int .i64 a0_2, .bool a0_3, .bool a0_4, .bool a0_5, .bool a0_6, .int .i64 a0_7, .slice A0_8 l0_8.length c0_8, .int .u16 a0_9, .slice A0_10 l0_10.length c0_10, .slice A0_11 l0_11.length c0_11, .slice A0_12 l0_12.length c0_12, .int .u16 a0_13] 46 (0, 0)) (by (with_reducible repeat (first | refine blk_drewN ?_ _ | refine blk_drew ?_ | refine blk_alloc ?_ _)); exact BK202.out) hb)
  have n2_ := Aside0.mk (blk_below (g := gb203) (o := .cells #[.int .u16 0, .bool false, .int .i64 0, .bool false, .bool false, .bool false, .bool false, .int .i64 0, .string (⟨#[]⟩ : ByteArray), .int .u16 0, .slice none 0 0, .slice none 0 0, .slice none 0 0, .int .i64 0] 31 (0, 0)) (by (with_reducible repeat (first | refine blk_drewN ?_ _ | refine blk_drew ?_ | refine blk_alloc ?_ _)); exact BK203.out) hb)
  have n3_ := Aside0.mk (blk_below (g := gb204) (o := .cells #[.int .u16 a0_0, .bool a0_1, .int .i64 (Int.tmod (wrap64 ((Int.tmod a0_2 16) + 16)) 16), .bool a0_3, .bool a0_4, .bool a0_5, .bool a0_6, .int .i64 (Int.tmod (wrap64 ((Int.tmod a0_7 16) + 16)) 16)] 24 (0, 0)) (by (with_reducible repeat (first | refine blk_drewN ?_ _ | refine blk_drew ?_ | refine blk_alloc ?_ _)); exact BK204.out) hb)
  have n4_ := Aside0.mk (below_step (by repeat (first | (with_reducible first | exact HB.out | apply below_alloc | apply pw_below_drewN | apply below_drew1 | refine below_set ?_ GE202.out | refine below_set ?_ GE203.out | refine below_set ?_ GE204.out) | exact HB.out)) hb)
  clear BK202
  clear BK203
  clear BK204
  clear HB
  have HO208 := n0_
  have BK202 := n1_
  have BK203 := n2_
  have BK204 := n3_
  have HB := n4_
  clear n0_ n1_ n2_ n3_ n4_
  (try clear hb)
  (try clear hb2)
  (try clear hk)
  (try clear hi)
  (try clear ho0)
  refine hK.out _ _ ⟨(blk_cell BK204.out 0).trans rfl, (blk_cell BK204.out 1).trans rfl, (blk_cell BK204.out 2).trans rfl, (blk_cell BK204.out 3).trans rfl, (blk_cell BK204.out 4).trans rfl, (blk_cell BK204.out 5).trans rfl, (blk_cell BK204.out 6).trans rfl, (blk_cell BK204.out 7).trans rfl, (blk_cell BK202.out 0).trans rfl, (blk_cell BK202.out 1).trans rfl, (blk_cell BK202.out 2).trans rfl, (blk_cell BK202.out 3).trans rfl, (blk_cell BK202.out 4).trans rfl, (blk_cell BK202.out 5).trans rfl, (blk_cell BK202.out 6).trans rfl, (blk_cell BK202.out 7).trans rfl, (blk_cell BK202.out 8).trans rfl, (blk_cell BK202.out 9).trans rfl, (blk_cell BK202.out 10).trans rfl, (blk_cell BK202.out 11).trans rfl, (blk_cell BK202.out 12).trans rfl, (blk_cell BK202.out 13).trans rfl⟩ (fun hHeld => ?_)
  clear hK K
  refine norm_ (a' := ?_) ?_ ?_
  rotate_left
  · show Act.put _ (some 27) _ = _
    simp only [Act.put, List.setIfInBounds_toArray, List.set_cons_zero, List.set_cons_succ, i64_w, i32_w]
    rfl
  refine one_ (i := 12) (N := some 30) #[true, true, true, true, true, true, true, true, true, true, true, true, true, true, true, false, true, true, true, false, false] rfl rfl (one_of HT_.out (by kernel_rfl)) (by decide) (fun K hK => ?_)
  refine goes_ Try.func21 (by kernel_rfl) rfl #[.slice A0_11 l0_11.length c0_11, .int .i64 12] (by rfl) rfl rfl (by (try simp only [List.map_toArray, List.map_cons, List.map_nil]); first | done | rfl | (simp only [List.length_drop, List.length_take]; rfl)) ?_
  with_reducible refine (bolterlaw05_Records.calls k _ _ l0_11 12 t209 _ ?side1 ?side2 A4.out).mono ?_
  (case side1 => repeat (first | exact (Kd.C_below HR0_11.out HB.out) | (with_reducible refine Kd.C_alloc ?_ _) | (with_reducible refine Kd.C_drewN ?_ _) | (with_reducible refine Kd.C_drew ?_)))
  (case side2 => exact HC0_11.out)
  rintro e w18 ⟨v210, rfl, ho0, hb⟩
  refine ⟨_, rfl, ?_⟩
  have n0_ := Aside0.mk (Kd.R_elder' (by (with_reducible repeat (first | apply Kd.R_alloc | apply Kd.R_drewN | apply Kd.R_drew)); exact HO208.out) (Kd.R_base ho0) hb)
  have n1_ := Aside0.mk (Kd.R_lower (Kd.R_new' ho0 (Kd.R_lt (by (with_reducible repeat (first | apply Kd.R_alloc | apply Kd.R_drewN | apply Kd.R_drew)); exact HO208.out))) (below_size (by repeat (first | (with_reducible first | exact HB.out | apply below_alloc | apply pw_below_drewN | apply below_drew1 | refine below_set ?_ GE202.out | refine below_set ?_ GE203.out | refine below_set ?_ GE204.out) | exact HB.out))))
  have n2_ := Aside0.mk (blk_below (g := gb202) (o := .cells #[.int .u16 a0_0, .bool a0_1, .int .i64 a0_2, .bool a0_3, .bool a0_4, .bool a0_5, .bool a0_6, .int .i64 a0_7, .slice A0_8 l0_8.length c0_8, .int .u16 a0_9, .slice A0_10 l0_10.length c0_10, .slice A0_11 l0_11.length c0_11, .slice A0_12 l0_12.length c0_12, .int .u16 a0_13] 46 (0, 0)) (by (with_reducible repeat (first | refine blk_drewN ?_ _ | refine blk_drew ?_ | refine blk_alloc ?_ _)); exact BK202.out) hb)
  have n3_ := Aside0.mk (blk_below (g := gb203) (o := .cells #[.int .u16 0, .bool false, .int .i64 0, .bool false, .bool false, .bool false, .bool false, .int .i64 0, .string (⟨#[]⟩ : ByteArray), .int .u16 0, .slice none 0 0, .slice none 0 0, .slice none 0 0, .int .i64 0] 31 (0, 0)) (by (with_reducible repeat (first | refine blk_drewN ?_ _ | refine blk_drew ?_ | refine blk_alloc ?_ _)); exact BK203.out) hb)
  have n4_ := Aside0.mk (blk_below (g := gb204) (o := .cells #[.int .u16 a0_0, .bool a0_1, .int .i64 (Int.tmod (wrap64 ((Int.tmod a0_2 16) + 16)) 16), .bool a0_3, .bool a0_4, .bool a0_5, .bool a0_6, .int .i64 (Int.tmod (wrap64 ((Int.tmod a0_7 16) + 16)) 16)] 24 (0, 0)) (by (with_reducible repeat (first | refine blk_drewN ?_ _ | refine blk_drew ?_ | refine blk_alloc ?_ _)); exact BK204.out) hb)
  have n5_ := Aside0.mk (below_step (by repeat (first | (with_reducible first | exact HB.out | apply below_alloc | apply pw_below_drewN | apply below_drew1 | refine below_set ?_ GE202.out | refine below_set ?_ GE203.out | refine below_set ?_ GE204.out) | exact HB.out)) hb)
  clear HO208
  clear BK202
  clear BK203
  clear BK204
  clear HB
  have HO208 := n0_
  have HO211 := n1_
  have BK202 := n2_
  have BK203 := n3_
  have BK204 := n4_
  have HB := n5_
  clear n0_ n1_ n2_ n3_ n4_ n5_
  (try clear hb)
  (try clear hb2)
  (try clear hk)
  (try clear hi)
  (try clear ho0)
  refine hK.out _ _ ⟨(blk_cell BK204.out 0).trans rfl, (blk_cell BK204.out 1).trans rfl, (blk_cell BK204.out 2).trans rfl, (blk_cell BK204.out 3).trans rfl, (blk_cell BK204.out 4).trans rfl, (blk_cell BK204.out 5).trans rfl, (blk_cell BK204.out 6).trans rfl, (blk_cell BK204.out 7).trans rfl, (blk_cell BK202.out 0).trans rfl, (blk_cell BK202.out 1).trans rfl, (blk_cell BK202.out 2).trans rfl, (blk_cell BK202.out 3).trans rfl, (blk_cell BK202.out 4).trans rfl, (blk_cell BK202.out 5).trans rfl, (blk_cell BK202.out 6).trans rfl, (blk_cell BK202.out 7).trans rfl, (blk_cell BK202.out 8).trans rfl, (blk_cell BK202.out 9).trans rfl, (blk_cell BK202.out 10).trans rfl, (blk_cell BK202.out 11).trans rfl, (blk_cell BK202.out 12).trans rfl, (blk_cell BK202.out 13).trans rfl⟩ (fun hHeld => ?_)
  clear hK K
  refine norm_ (a' := ?_) ?_ ?_
  rotate_left
  · show Act.put _ (some 30) _ = _
    simp only [Act.put, List.setIfInBounds_toArray, List.set_cons_zero, List.set_cons_succ, i64_w, i32_w]
    rfl
  refine one_ (i := 15) (N := some 33) #[true, true, true, true, true, true, true, true, true, true, true, true, true, true, true, true, true, true, true, false, false] rfl rfl (one_of HT_.out (by kernel_rfl)) (by decide) (fun K hK => ?_)
  refine goes_ Try.func21 (by kernel_rfl) rfl #[.slice A0_12 l0_12.length c0_12, .int .i64 12] (by rfl) rfl rfl (by (try simp only [List.map_toArray, List.map_cons, List.map_nil]); first | done | rfl | (simp only [List.length_drop, List.length_take]; rfl)) ?_
  with_reducible refine (bolterlaw05_Records.calls k _ _ l0_12 12 t212 _ ?side1 ?side2 A5.out).mono ?_
  (case side1 => repeat (first | exact (Kd.C_below HR0_12.out HB.out) | (with_reducible refine Kd.C_alloc ?_ _) | (with_reducible refine Kd.C_drewN ?_ _) | (with_reducible refine Kd.C_drew ?_)))
  (case side2 => exact HC0_12.out)
  rintro e w19 ⟨v213, rfl, ho0, hb⟩
  refine ⟨_, rfl, ?_⟩
  have n0_ := Aside0.mk (Kd.R_elder' (by (with_reducible repeat (first | apply Kd.R_alloc | apply Kd.R_drewN | apply Kd.R_drew)); exact HO208.out) (Kd.R_base ho0) hb)
  have n1_ := Aside0.mk (Kd.R_elder' (by (with_reducible repeat (first | apply Kd.R_alloc | apply Kd.R_drewN | apply Kd.R_drew)); exact HO211.out) (Kd.R_base ho0) hb)
  have n2_ := Aside0.mk (Kd.R_lower (Kd.R_new' (Kd.R_new' ho0 (Kd.R_lt (by (with_reducible repeat (first | apply Kd.R_alloc | apply Kd.R_drewN | apply Kd.R_drew)); exact HO208.out))) (Kd.R_lt (by (with_reducible repeat (first | apply Kd.R_alloc | apply Kd.R_drewN | apply Kd.R_drew)); exact HO211.out))) (below_size (by repeat (first | (with_reducible first | exact HB.out | apply below_alloc | apply pw_below_drewN | apply below_drew1 | refine below_set ?_ GE202.out | refine below_set ?_ GE203.out | refine below_set ?_ GE204.out) | exact HB.out))))
  have n3_ := Aside0.mk (blk_below (g := gb202) (o := .cells #[.int .u16 a0_0, .bool a0_1, .int .i64 a0_2, .bool a0_3, .bool a0_4, .bool a0_5, .bool a0_6, .int .i64 a0_7, .slice A0_8 l0_8.length c0_8, .int .u16 a0_9, .slice A0_10 l0_10.length c0_10, .slice A0_11 l0_11.length c0_11, .slice A0_12 l0_12.length c0_12, .int .u16 a0_13] 46 (0, 0)) (by (with_reducible repeat (first | refine blk_drewN ?_ _ | refine blk_drew ?_ | refine blk_alloc ?_ _)); exact BK202.out) hb)
  have n4_ := Aside0.mk (blk_below (g := gb203) (o := .cells #[.int .u16 0, .bool false, .int .i64 0, .bool false, .bool false, .bool false, .bool false, .int .i64 0, .string (⟨#[]⟩ : ByteArray), .int .u16 0, .slice none 0 0, .slice none 0 0, .slice none 0 0, .int .i64 0] 31 (0, 0)) (by (with_reducible repeat (first | refine blk_drewN ?_ _ | refine blk_drew ?_ | refine blk_alloc ?_ _)); exact BK203.out) hb)
  have n5_ := Aside0.mk (blk_below (g := gb204) (o := .cells #[.int .u16 a0_0, .bool a0_1, .int .i64 (Int.tmod (wrap64 ((Int.tmod a0_2 16) + 16)) 16), .bool a0_3, .bool a0_4, .bool a0_5, .bool a0_6, .int .i64 (Int.tmod (wrap64 ((Int.tmod a0_7 16) + 16)) 16)] 24 (0, 0)) (by (with_reducible repeat (first | refine blk_drewN ?_ _ | refine blk_drew ?_ | refine blk_alloc ?_ _)); exact BK204.out) hb)
  have n6_ := Aside0.mk (below_step (by repeat (first | (with_reducible first | exact HB.out | apply below_alloc | apply pw_below_drewN | apply below_drew1 | refine below_set ?_ GE202.out | refine below_set ?_ GE203.out | refine below_set ?_ GE204.out) | exact HB.out)) hb)
  clear HO208
  clear HO211
  clear BK202
  clear BK203
  clear BK204
  clear HB
  have HO208 := n0_
  have HO211 := n1_
  have HO214 := n2_
  have BK202 := n3_
  have BK203 := n4_
  have BK204 := n5_
  have HB := n6_
  clear n0_ n1_ n2_ n3_ n4_ n5_ n6_
  (try clear hb)
  (try clear hb2)
  (try clear hk)
  (try clear hi)
  (try clear ho0)
  obtain ⟨Ao20, co20, eo20⟩ := Kd.R_slice HO214.out
  (first | subst eo20 | (injection eo20 with f1_ f2_ f3_; have f4_ := f1_.symm; have f5_ := f3_.symm; clear f1_ f2_ f3_; subst f4_; subst f5_))
  obtain ⟨Ao21, co21, eo21⟩ := Kd.R_slice HO211.out
  (first | subst eo21 | (injection eo21 with f1_ f2_ f3_; have f4_ := f1_.symm; have f5_ := f3_.symm; clear f1_ f2_ f3_; subst f4_; subst f5_))
  obtain ⟨Ao22, co22, eo22⟩ := Kd.R_slice HO208.out
  (first | subst eo22 | (injection eo22 with f1_ f2_ f3_; have f4_ := f1_.symm; have f5_ := f3_.symm; clear f1_ f2_ f3_; subst f4_; subst f5_))
  refine hK.out _ _ ⟨(blk_cell BK204.out 0).trans rfl, (blk_cell BK204.out 1).trans rfl, (blk_cell BK204.out 2).trans rfl, (blk_cell BK204.out 3).trans rfl, (blk_cell BK204.out 4).trans rfl, (blk_cell BK204.out 5).trans rfl, (blk_cell BK204.out 6).trans rfl, (blk_cell BK204.out 7).trans rfl, (blk_cell BK202.out 0).trans rfl, (blk_cell BK202.out 1).trans rfl, (blk_cell BK202.out 2).trans rfl, (blk_cell BK202.out 3).trans rfl, (blk_cell BK202.out 4).trans rfl, (blk_cell BK202.out 5).trans rfl, (blk_cell BK202.out 6).trans rfl, (blk_cell BK202.out 7).trans rfl, (blk_cell BK202.out 8).trans rfl, (blk_cell BK202.out 9).trans rfl, (blk_cell BK202.out 10).trans rfl, (blk_cell BK202.out 11).trans rfl, (blk_cell BK202.out 12).trans rfl, (blk_cell BK202.out 13).trans rfl⟩ (fun hHeld => ?_)
  clear hK K
  refine norm_ (a' := ?_) ?_ ?_
  rotate_left
  · show Act.put _ (some 33) _ = _
    simp only [Act.put, List.setIfInBounds_toArray, List.set_cons_zero, List.set_cons_succ, i64_w, i32_w]
    rfl
  refine pure_ (i := 19) (N := some 37) (v := ?_) (a' := ?_) #[true, true, true, true, true, true, true, true, true, true, true, true, true, true, true, true, true, true, true, true, false] rfl rfl (any_of HT_.out (by kernel_rfl)) (fun _ _ _ h => h) (Or.inl ⟨by rfl, ?_⟩) ?_ ?_
  rotate_left
  · intro w'
    go_simp
    with_reducible rfl
  rotate_left
  · simp only [Act.put, List.setIfInBounds_toArray, List.set_cons_zero, List.set_cons_succ, i64_w, i32_w]
    rfl
  refine one_ (i := 20) (N := none) #[true, true, true, true, true, true, true, true, true, true, true, true, true, true, true, true, true, true, true, true, true] rfl rfl (one_of HT_.out (by kernel_rfl)) (by decide) (fun K hK => ?_)
  have hs23 : w19.cell? ⟨gb203, 0, none⟩ = some (.int .u16 0) := (blk_cell BK203.out 0).trans rfl
  have hfs23 := blk_frozen BK203.out 0
  have hns23_0 := NB202_203.out
  have hns23_2 := NB204_203.out
  have hms23_0 := NB203_202.out
  have hms23_2 := NB203_204.out
  have hs24 : w19.cell? ⟨gb203, 1, none⟩ = some (.bool false) := (blk_cell BK203.out 1).trans rfl
  have hfs24 := blk_frozen BK203.out 1
  have hns24_0 := NB202_203.out
  have hns24_2 := NB204_203.out
  have hms24_0 := NB203_202.out
  have hms24_2 := NB203_204.out
  have hs25 : w19.cell? ⟨gb203, 2, none⟩ = some (.int .i64 0) := (blk_cell BK203.out 2).trans rfl
  have hfs25 := blk_frozen BK203.out 2
  have hns25_0 := NB202_203.out
  have hns25_2 := NB204_203.out
  have hms25_0 := NB203_202.out
  have hms25_2 := NB203_204.out
  have hs26 : w19.cell? ⟨gb203, 3, none⟩ = some (.bool false) := (blk_cell BK203.out 3).trans rfl
  have hfs26 := blk_frozen BK203.out 3
  have hns26_0 := NB202_203.out
  have hns26_2 := NB204_203.out
  have hms26_0 := NB203_202.out
  have hms26_2 := NB203_204.out
  have hs27 : w19.cell? ⟨gb203, 4, none⟩ = some (.bool false) := (blk_cell BK203.out 4).trans rfl
  have hfs27 := blk_frozen BK203.out 4
  have hns27_0 := NB202_203.out
  have hns27_2 := NB204_203.out
  have hms27_0 := NB203_202.out
  have hms27_2 := NB203_204.out
  have hs28 : w19.cell? ⟨gb203, 5, none⟩ = some (.bool false) := (blk_cell BK203.out 5).trans rfl
  have hfs28 := blk_frozen BK203.out 5
  have hns28_0 := NB202_203.out
  have hns28_2 := NB204_203.out
  have hms28_0 := NB203_202.out
  have hms28_2 := NB203_204.out
  have hs29 : w19.cell? ⟨gb203, 6, none⟩ = some (.bool false) := (blk_cell BK203.out 6).trans rfl
  have hfs29 := blk_frozen BK203.out 6
  have hns29_0 := NB202_203.out
  have hns29_2 := NB204_203.out
  have hms29_0 := NB203_202.out
  have hms29_2 := NB203_204.out
  have hs30 : w19.cell? ⟨gb203, 7, none⟩ = some (.int .i64 0) := (blk_cell BK203.out 7).trans rfl
  have hfs30 := blk_frozen BK203.out 7
  have hns30_0 := NB202_203.out
  have hns30_2 := NB204_203.out
  have hms30_0 := NB203_202.out
  have hms30_2 := NB203_204.out
  have hs31 : w19.cell? ⟨gb203, 8, none⟩ = some (.string (⟨#[]⟩ : ByteArray)) := (blk_cell BK203.out 8).trans rfl
  have hfs31 := blk_frozen BK203.out 8
  have hns31_0 := NB202_203.out
  have hns31_2 := NB204_203.out
  have hms31_0 := NB203_202.out
  have hms31_2 := NB203_204.out
  have hs32 : w19.cell? ⟨gb203, 9, none⟩ = some (.int .u16 0) := (blk_cell BK203.out 9).trans rfl
  have hfs32 := blk_frozen BK203.out 9
  have hns32_0 := NB202_203.out
  have hns32_2 := NB204_203.out
  have hms32_0 := NB203_202.out
  have hms32_2 := NB203_204.out
  have hs33 : w19.cell? ⟨gb203, 10, none⟩ = some (.slice none 0 0) := (blk_cell BK203.out 10).trans rfl
  have hfs33 := blk_frozen BK203.out 10
  have hns33_0 := NB202_203.out
  have hns33_2 := NB204_203.out
  have hms33_0 := NB203_202.out
  have hms33_2 := NB203_204.out
  have hs34 : w19.cell? ⟨gb203, 11, none⟩ = some (.slice none 0 0) := (blk_cell BK203.out 11).trans rfl
  have hfs34 := blk_frozen BK203.out 11
  have hns34_0 := NB202_203.out
  have hns34_2 := NB204_203.out
  have hms34_0 := NB203_202.out
  have hms34_2 := NB203_204.out
  have hs35 : w19.cell? ⟨gb203, 12, none⟩ = some (.slice none 0 0) := (blk_cell BK203.out 12).trans rfl
  have hfs35 := blk_frozen BK203.out 12
  have hns35_0 := NB202_203.out
  have hns35_2 := NB204_203.out
  have hms35_0 := NB203_202.out
  have hms35_2 := NB203_204.out
  have hs36 : w19.cell? ⟨gb203, 13, none⟩ = some (.int .i64 0) := (blk_cell BK203.out 13).trans rfl
  have hfs36 := blk_frozen BK203.out 13
  have hns36_0 := NB202_203.out
  have hns36_2 := NB204_203.out
  have hms36_0 := NB203_202.out
  have hms36_2 := NB203_204.out
  refine skip_ (w1 := ?_) (by rfl) rfl ?_ ?_
  rotate_left
  · go_simp
    rfl
  refine hK.out _ _ ⟨((cell_far (p := ⟨gb203, _, none⟩) NB204_203.out _).trans (((cell_far (p := ⟨gb203, _, none⟩) NB204_203.out _).trans (((cell_far (p := ⟨gb203, _, none⟩) NB204_203.out _).trans (((cell_far (p := ⟨gb203, _, none⟩) NB204_203.out _).trans (((cell_far (p := ⟨gb203, _, none⟩) NB204_203.out _).trans (((cell_far (p := ⟨gb203, _, none⟩) NB204_203.out _).trans (((cell_far (p := ⟨gb203, _, none⟩) NB204_203.out _).trans (((cell_far (p := ⟨gb203, _, none⟩) NB204_203.out _).trans (((cell_far (p := ⟨gb203, _, none⟩) NB204_203.out _).trans (((cell_far (p := ⟨gb203, _, none⟩) NB204_203.out _).trans (((cell_far (p := ⟨gb203, _, none⟩) NB204_203.out _).trans (((cell_far (p := ⟨gb203, _, none⟩) NB204_203.out _).trans (((cell_far (p := ⟨gb203, _, none⟩) NB204_203.out _).trans (((cell_far (p := ⟨gb203, _, none⟩) NB204_203.out _).trans (hHeld.1)))))))))))))))))))))))))))), ((cell_far (p := ⟨gb203, _, none⟩) NB204_203.out _).trans (((cell_far (p := ⟨gb203, _, none⟩) NB204_203.out _).trans (((cell_far (p := ⟨gb203, _, none⟩) NB204_203.out _).trans (((cell_far (p := ⟨gb203, _, none⟩) NB204_203.out _).trans (((cell_far (p := ⟨gb203, _, none⟩) NB204_203.out _).trans (((cell_far (p := ⟨gb203, _, none⟩) NB204_203.out _).trans (((cell_far (p := ⟨gb203, _, none⟩) NB204_203.out _).trans (((cell_far (p := ⟨gb203, _, none⟩) NB204_203.out _).trans (((cell_far (p := ⟨gb203, _, none⟩) NB204_203.out _).trans (((cell_far (p := ⟨gb203, _, none⟩) NB204_203.out _).trans (((cell_far (p := ⟨gb203, _, none⟩) NB204_203.out _).trans (((cell_far (p := ⟨gb203, _, none⟩) NB204_203.out _).trans (((cell_far (p := ⟨gb203, _, none⟩) NB204_203.out _).trans (((cell_far (p := ⟨gb203, _, none⟩) NB204_203.out _).trans (hHeld.2.1)))))))))))))))))))))))))))), ((cell_far (p := ⟨gb203, _, none⟩) NB204_203.out _).trans (((cell_far (p := ⟨gb203, _, none⟩) NB204_203.out _).trans (((cell_far (p := ⟨gb203, _, none⟩) NB204_203.out _).trans (((cell_far (p := ⟨gb203, _, none⟩) NB204_203.out _).trans (((cell_far (p := ⟨gb203, _, none⟩) NB204_203.out _).trans (((cell_far (p := ⟨gb203, _, none⟩) NB204_203.out _).trans (((cell_far (p := ⟨gb203, _, none⟩) NB204_203.out _).trans (((cell_far (p := ⟨gb203, _, none⟩) NB204_203.out _).trans (((cell_far (p := ⟨gb203, _, none⟩) NB204_203.out _).trans (((cell_far (p := ⟨gb203, _, none⟩) NB204_203.out _).trans (((cell_far (p := ⟨gb203, _, none⟩) NB204_203.out _).trans (((cell_far (p := ⟨gb203, _, none⟩) NB204_203.out _).trans (((cell_far (p := ⟨gb203, _, none⟩) NB204_203.out _).trans (((cell_far (p := ⟨gb203, _, none⟩) NB204_203.out _).trans (hHeld.2.2.1)))))))))))))))))))))))))))), ((cell_far (p := ⟨gb203, _, none⟩) NB204_203.out _).trans (((cell_far (p := ⟨gb203, _, none⟩) NB204_203.out _).trans (((cell_far (p := ⟨gb203, _, none⟩) NB204_203.out _).trans (((cell_far (p := ⟨gb203, _, none⟩) NB204_203.out _).trans (((cell_far (p := ⟨gb203, _, none⟩) NB204_203.out _).trans (((cell_far (p := ⟨gb203, _, none⟩) NB204_203.out _).trans (((cell_far (p := ⟨gb203, _, none⟩) NB204_203.out _).trans (((cell_far (p := ⟨gb203, _, none⟩) NB204_203.out _).trans (((cell_far (p := ⟨gb203, _, none⟩) NB204_203.out _).trans (((cell_far (p := ⟨gb203, _, none⟩) NB204_203.out _).trans (((cell_far (p := ⟨gb203, _, none⟩) NB204_203.out _).trans (((cell_far (p := ⟨gb203, _, none⟩) NB204_203.out _).trans (((cell_far (p := ⟨gb203, _, none⟩) NB204_203.out _).trans (((cell_far (p := ⟨gb203, _, none⟩) NB204_203.out _).trans (hHeld.2.2.2.1)))))))))))))))))))))))))))), ((cell_far (p := ⟨gb203, _, none⟩) NB204_203.out _).trans (((cell_far (p := ⟨gb203, _, none⟩) NB204_203.out _).trans (((cell_far (p := ⟨gb203, _, none⟩) NB204_203.out _).trans (((cell_far (p := ⟨gb203, _, none⟩) NB204_203.out _).trans (((cell_far (p := ⟨gb203, _, none⟩) NB204_203.out _).trans (((cell_far (p := ⟨gb203, _, none⟩) NB204_203.out _).trans (((cell_far (p := ⟨gb203, _, none⟩) NB204_203.out _).trans (((cell_far (p := ⟨gb203, _, none⟩) NB204_203.out _).trans (((cell_far (p := ⟨gb203, _, none⟩) NB204_203.out _).trans (((cell_far (p := ⟨gb203, _, none⟩) NB204_203.out _).trans (((cell_far (p := ⟨gb203, _, none⟩) NB204_203.out _).trans (((cell_far (p := ⟨gb203, _, none⟩) NB204_203.out _).trans (((cell_far (p := ⟨gb203, _, none⟩) NB204_203.out _).trans (((cell_far (p := ⟨gb203, _, none⟩) NB204_203.out _).trans (hHeld.2.2.2.2.1)))))))))))))))))))))))))))), ((cell_far (p := ⟨gb203, _, none⟩) NB204_203.out _).trans (((cell_far (p := ⟨gb203, _, none⟩) NB204_203.out _).trans (((cell_far (p := ⟨gb203, _, none⟩) NB204_203.out _).trans (((cell_far (p := ⟨gb203, _, none⟩) NB204_203.out _).trans (((cell_far (p := ⟨gb203, _, none⟩) NB204_203.out _).trans (((cell_far (p := ⟨gb203, _, none⟩) NB204_203.out _).trans (((cell_far (p := ⟨gb203, _, none⟩) NB204_203.out _).trans (((cell_far (p := ⟨gb203, _, none⟩) NB204_203.out _).trans (((cell_far (p := ⟨gb203, _, none⟩) NB204_203.out _).trans (((cell_far (p := ⟨gb203, _, none⟩) NB204_203.out _).trans (((cell_far (p := ⟨gb203, _, none⟩) NB204_203.out _).trans (((cell_far (p := ⟨gb203, _, none⟩) NB204_203.out _).trans (((cell_far (p := ⟨gb203, _, none⟩) NB204_203.out _).trans (((cell_far (p := ⟨gb203, _, none⟩) NB204_203.out _).trans (hHeld.2.2.2.2.2.1)))))))))))))))))))))))))))), ((cell_far (p := ⟨gb203, _, none⟩) NB204_203.out _).trans (((cell_far (p := ⟨gb203, _, none⟩) NB204_203.out _).trans (((cell_far (p := ⟨gb203, _, none⟩) NB204_203.out _).trans (((cell_far (p := ⟨gb203, _, none⟩) NB204_203.out _).trans (((cell_far (p := ⟨gb203, _, none⟩) NB204_203.out _).trans (((cell_far (p := ⟨gb203, _, none⟩) NB204_203.out _).trans (((cell_far (p := ⟨gb203, _, none⟩) NB204_203.out _).trans (((cell_far (p := ⟨gb203, _, none⟩) NB204_203.out _).trans (((cell_far (p := ⟨gb203, _, none⟩) NB204_203.out _).trans (((cell_far (p := ⟨gb203, _, none⟩) NB204_203.out _).trans (((cell_far (p := ⟨gb203, _, none⟩) NB204_203.out _).trans (((cell_far (p := ⟨gb203, _, none⟩) NB204_203.out _).trans (((cell_far (p := ⟨gb203, _, none⟩) NB204_203.out _).trans (((cell_far (p := ⟨gb203, _, none⟩) NB204_203.out _).trans (hHeld.2.2.2.2.2.2.1)))))))))))))))))))))))))))), ((cell_far (p := ⟨gb203, _, none⟩) NB204_203.out _).trans (((cell_far (p := ⟨gb203, _, none⟩) NB204_203.out _).trans (((cell_far (p := ⟨gb203, _, none⟩) NB204_203.out _).trans (((cell_far (p := ⟨gb203, _, none⟩) NB204_203.out _).trans (((cell_far (p := ⟨gb203, _, none⟩) NB204_203.out _).trans (((cell_far (p := ⟨gb203, _, none⟩) NB204_203.out _).trans (((cell_far (p := ⟨gb203, _, none⟩) NB204_203.out _).trans (((cell_far (p := ⟨gb203, _, none⟩) NB204_203.out _).trans (((cell_far (p := ⟨gb203, _, none⟩) NB204_203.out _).trans (((cell_far (p := ⟨gb203, _, none⟩) NB204_203.out _).trans (((cell_far (p := ⟨gb203, _, none⟩) NB204_203.out _).trans (((cell_far (p := ⟨gb203, _, none⟩) NB204_203.out _).trans (((cell_far (p := ⟨gb203, _, none⟩) NB204_203.out _).trans (((cell_far (p := ⟨gb203, _, none⟩) NB204_203.out _).trans (hHeld.2.2.2.2.2.2.2.1)))))))))))))))))))))))))))), ((cell_far (p := ⟨gb203, _, none⟩) NB202_203.out _).trans (((cell_far (p := ⟨gb203, _, none⟩) NB202_203.out _).trans (((cell_far (p := ⟨gb203, _, none⟩) NB202_203.out _).trans (((cell_far (p := ⟨gb203, _, none⟩) NB202_203.out _).trans (((cell_far (p := ⟨gb203, _, none⟩) NB202_203.out _).trans (((cell_far (p := ⟨gb203, _, none⟩) NB202_203.out _).trans (((cell_far (p := ⟨gb203, _, none⟩) NB202_203.out _).trans (((cell_far (p := ⟨gb203, _, none⟩) NB202_203.out _).trans (((cell_far (p := ⟨gb203, _, none⟩) NB202_203.out _).trans (((cell_far (p := ⟨gb203, _, none⟩) NB202_203.out _).trans (((cell_far (p := ⟨gb203, _, none⟩) NB202_203.out _).trans (((cell_far (p := ⟨gb203, _, none⟩) NB202_203.out _).trans (((cell_far (p := ⟨gb203, _, none⟩) NB202_203.out _).trans (((cell_far (p := ⟨gb203, _, none⟩) NB202_203.out _).trans (hHeld.2.2.2.2.2.2.2.2.1)))))))))))))))))))))))))))), ((cell_far (p := ⟨gb203, _, none⟩) NB202_203.out _).trans (((cell_far (p := ⟨gb203, _, none⟩) NB202_203.out _).trans (((cell_far (p := ⟨gb203, _, none⟩) NB202_203.out _).trans (((cell_far (p := ⟨gb203, _, none⟩) NB202_203.out _).trans (((cell_far (p := ⟨gb203, _, none⟩) NB202_203.out _).trans (((cell_far (p := ⟨gb203, _, none⟩) NB202_203.out _).trans (((cell_far (p := ⟨gb203, _, none⟩) NB202_203.out _).trans (((cell_far (p := ⟨gb203, _, none⟩) NB202_203.out _).trans (((cell_far (p := ⟨gb203, _, none⟩) NB202_203.out _).trans (((cell_far (p := ⟨gb203, _, none⟩) NB202_203.out _).trans (((cell_far (p := ⟨gb203, _, none⟩) NB202_203.out _).trans (((cell_far (p := ⟨gb203, _, none⟩) NB202_203.out _).trans (((cell_far (p := ⟨gb203, _, none⟩) NB202_203.out _).trans (((cell_far (p := ⟨gb203, _, none⟩) NB202_203.out _).trans (hHeld.2.2.2.2.2.2.2.2.2.1)))))))))))))))))))))))))))), ((cell_far (p := ⟨gb203, _, none⟩) NB202_203.out _).trans (((cell_far (p := ⟨gb203, _, none⟩) NB202_203.out _).trans (((cell_far (p := ⟨gb203, _, none⟩) NB202_203.out _).trans (((cell_far (p := ⟨gb203, _, none⟩) NB202_203.out _).trans (((cell_far (p := ⟨gb203, _, none⟩) NB202_203.out _).trans (((cell_far (p := ⟨gb203, _, none⟩) NB202_203.out _).trans (((cell_far (p := ⟨gb203, _, none⟩) NB202_203.out _).trans (((cell_far (p := ⟨gb203, _, none⟩) NB202_203.out _).trans (((cell_far (p := ⟨gb203, _, none⟩) NB202_203.out _).trans (((cell_far (p := ⟨gb203, _, none⟩) NB202_203.out _).trans (((cell_far (p := ⟨gb203, _, none⟩) NB202_203.out _).trans (((cell_far (p := ⟨gb203, _, none⟩) NB202_203.out _).trans (((cell_far (p := ⟨gb203, _, none⟩) NB202_203.out _).trans (((cell_far (p := ⟨gb203, _, none⟩) NB202_203.out _).trans (hHeld.2.2.2.2.2.2.2.2.2.2.1)))))))))))))))))))))))))))), ((cell_far (p := ⟨gb203, _, none⟩) NB202_203.out _).trans (((cell_far (p := ⟨gb203, _, none⟩) NB202_203.out _).trans (((cell_far (p := ⟨gb203, _, none⟩) NB202_203.out _).trans (((cell_far (p := ⟨gb203, _, none⟩) NB202_203.out _).trans (((cell_far (p := ⟨gb203, _, none⟩) NB202_203.out _).trans (((cell_far (p := ⟨gb203, _, none⟩) NB202_203.out _).trans (((cell_far (p := ⟨gb203, _, none⟩) NB202_203.out _).trans (((cell_far (p := ⟨gb203, _, none⟩) NB202_203.out _).trans (((cell_far (p := ⟨gb203, _, none⟩) NB202_203.out _).trans (((cell_far (p := ⟨gb203, _, none⟩) NB202_203.out _).trans (((cell_far (p := ⟨gb203, _, none⟩) NB202_203.out _).trans (((cell_far (p := ⟨gb203, _, none⟩) NB202_203.out _).trans (((cell_far (p := ⟨gb203, _, none⟩) NB202_203.out _).trans (((cell_far (p := ⟨gb203, _, none⟩) NB202_203.out _).trans (hHeld.2.2.2.2.2.2.2.2.2.2.2.1)))))))))))))))))))))))))))), ((cell_far (p := ⟨gb203, _, none⟩) NB202_203.out _).trans (((cell_far (p := ⟨gb203, _, none⟩) NB202_203.out _).trans (((cell_far (p := ⟨gb203, _, none⟩) NB202_203.out _).trans (((cell_far (p := ⟨gb203, _, none⟩) NB202_203.out _).trans (((cell_far (p := ⟨gb203, _, none⟩) NB202_203.out _).trans (((cell_far (p := ⟨gb203, _, none⟩) NB202_203.out _).trans (((cell_far (p := ⟨gb203, _, none⟩) NB202_203.out _).trans (((cell_far (p := ⟨gb203, _, none⟩) NB202_203.out _).trans (((cell_far (p := ⟨gb203, _, none⟩) NB202_203.out _).trans (((cell_far (p := ⟨gb203, _, none⟩) NB202_203.out _).trans (((cell_far (p := ⟨gb203, _, none⟩) NB202_203.out _).trans (((cell_far (p := ⟨gb203, _, none⟩) NB202_203.out _).trans (((cell_far (p := ⟨gb203, _, none⟩) NB202_203.out _).trans (((cell_far (p := ⟨gb203, _, none⟩) NB202_203.out _).trans (hHeld.2.2.2.2.2.2.2.2.2.2.2.2.1)))))))))))))))))))))))))))), ((cell_far (p := ⟨gb203, _, none⟩) NB202_203.out _).trans (((cell_far (p := ⟨gb203, _, none⟩) NB202_203.out _).trans (((cell_far (p := ⟨gb203, _, none⟩) NB202_203.out _).trans (((cell_far (p := ⟨gb203, _, none⟩) NB202_203.out _).trans (((cell_far (p := ⟨gb203, _, none⟩) NB202_203.out _).trans (((cell_far (p := ⟨gb203, _, none⟩) NB202_203.out _).trans (((cell_far (p := ⟨gb203, _, none⟩) NB202_203.out _).trans (((cell_far (p := ⟨gb203, _, none⟩) NB202_203.out _).trans (((cell_far (p := ⟨gb203, _, none⟩) NB202_203.out _).trans (((cell_far (p := ⟨gb203, _, none⟩) NB202_203.out _).trans (((cell_far (p := ⟨gb203, _, none⟩) NB202_203.out _).trans (((cell_far (p := ⟨gb203, _, none⟩) NB202_203.out _).trans (((cell_far (p := ⟨gb203, _, none⟩) NB202_203.out _).trans (((cell_far (p := ⟨gb203, _, none⟩) NB202_203.out _).trans (hHeld.2.2.2.2.2.2.2.2.2.2.2.2.2.1)))))))))))))))))))))))))))), ((cell_far (p := ⟨gb203, _, none⟩) NB202_203.out _).trans (((cell_far (p := ⟨gb203, _, none⟩) NB202_203.out _).trans (((cell_far (p := ⟨gb203, _, none⟩) NB202_203.out _).trans (((cell_far (p := ⟨gb203, _, none⟩) NB202_203.out _).trans (((cell_far (p := ⟨gb203, _, none⟩) NB202_203.out _).trans (((cell_far (p := ⟨gb203, _, none⟩) NB202_203.out _).trans (((cell_far (p := ⟨gb203, _, none⟩) NB202_203.out _).trans (((cell_far (p := ⟨gb203, _, none⟩) NB202_203.out _).trans (((cell_far (p := ⟨gb203, _, none⟩) NB202_203.out _).trans (((cell_far (p := ⟨gb203, _, none⟩) NB202_203.out _).trans (((cell_far (p := ⟨gb203, _, none⟩) NB202_203.out _).trans (((cell_far (p := ⟨gb203, _, none⟩) NB202_203.out _).trans (((cell_far (p := ⟨gb203, _, none⟩) NB202_203.out _).trans (((cell_far (p := ⟨gb203, _, none⟩) NB202_203.out _).trans (hHeld.2.2.2.2.2.2.2.2.2.2.2.2.2.2.1)))))))))))))))))))))))))))), ((cell_far (p := ⟨gb203, _, none⟩) NB202_203.out _).trans (((cell_far (p := ⟨gb203, _, none⟩) NB202_203.out _).trans (((cell_far (p := ⟨gb203, _, none⟩) NB202_203.out _).trans (((cell_far (p := ⟨gb203, _, none⟩) NB202_203.out _).trans (((cell_far (p := ⟨gb203, _, none⟩) NB202_203.out _).trans (((cell_far (p := ⟨gb203, _, none⟩) NB202_203.out _).trans (((cell_far (p := ⟨gb203, _, none⟩) NB202_203.out _).trans (((cell_far (p := ⟨gb203, _, none⟩) NB202_203.out _).trans (((cell_far (p := ⟨gb203, _, none⟩) NB202_203.out _).trans (((cell_far (p := ⟨gb203, _, none⟩) NB202_203.out _).trans (((cell_far (p := ⟨gb203, _, none⟩) NB202_203.out _).trans (((cell_far (p := ⟨gb203, _, none⟩) NB202_203.out _).trans (((cell_far (p := ⟨gb203, _, none⟩) NB202_203.out _).trans (((cell_far (p := ⟨gb203, _, none⟩) NB202_203.out _).trans (hHeld.2.2.2.2.2.2.2.2.2.2.2.2.2.2.2.1)))))))))))))))))))))))))))), ((cell_far (p := ⟨gb203, _, none⟩) NB202_203.out _).trans (((cell_far (p := ⟨gb203, _, none⟩) NB202_203.out _).trans (((cell_far (p := ⟨gb203, _, none⟩) NB202_203.out _).trans (((cell_far (p := ⟨gb203, _, none⟩) NB202_203.out _).trans (((cell_far (p := ⟨gb203, _, none⟩) NB202_203.out _).trans (((cell_far (p := ⟨gb203, _, none⟩) NB202_203.out _).trans (((cell_far (p := ⟨gb203, _, none⟩) NB202_203.out _).trans (((cell_far (p := ⟨gb203, _, none⟩) NB202_203.out _).trans (((cell_far (p := ⟨gb203, _, none⟩) NB202_203.out _).trans (((cell_far (p := ⟨gb203, _, none⟩) NB202_203.out _).trans (((cell_far (p := ⟨gb203, _, none⟩) NB202_203.out _).trans (((cell_far (p := ⟨gb203, _, none⟩) NB202_203.out _).trans (((cell_far (p := ⟨gb203, _, none⟩) NB202_203.out _).trans (((cell_far (p := ⟨gb203, _, none⟩) NB202_203.out _).trans (hHeld.2.2.2.2.2.2.2.2.2.2.2.2.2.2.2.2.1)))))))))))))))))))))))))))), ((cell_far (p := ⟨gb203, _, none⟩) NB202_203.out _).trans (((cell_far (p := ⟨gb203, _, none⟩) NB202_203.out _).trans (((cell_far (p := ⟨gb203, _, none⟩) NB202_203.out _).trans (((cell_far (p := ⟨gb203, _, none⟩) NB202_203.out _).trans (((cell_far (p := ⟨gb203, _, none⟩) NB202_203.out _).trans (((cell_far (p := ⟨gb203, _, none⟩) NB202_203.out _).trans (((cell_far (p := ⟨gb203, _, none⟩) NB202_203.out _).trans (((cell_far (p := ⟨gb203, _, none⟩) NB202_203.out _).trans (((cell_far (p := ⟨gb203, _, none⟩) NB202_203.out _).trans (((cell_far (p := ⟨gb203, _, none⟩) NB202_203.out _).trans (((cell_far (p := ⟨gb203, _, none⟩) NB202_203.out _).trans (((cell_far (p := ⟨gb203, _, none⟩) NB202_203.out _).trans (((cell_far (p := ⟨gb203, _, none⟩) NB202_203.out _).trans (((cell_far (p := ⟨gb203, _, none⟩) NB202_203.out _).trans (hHeld.2.2.2.2.2.2.2.2.2.2.2.2.2.2.2.2.2.1)))))))))))))))))))))))))))), ((cell_far (p := ⟨gb203, _, none⟩) NB202_203.out _).trans (((cell_far (p := ⟨gb203, _, none⟩) NB202_203.out _).trans (((cell_far (p := ⟨gb203, _, none⟩) NB202_203.out _).trans (((cell_far (p := ⟨gb203, _, none⟩) NB202_203.out _).trans (((cell_far (p := ⟨gb203, _, none⟩) NB202_203.out _).trans (((cell_far (p := ⟨gb203, _, none⟩) NB202_203.out _).trans (((cell_far (p := ⟨gb203, _, none⟩) NB202_203.out _).trans (((cell_far (p := ⟨gb203, _, none⟩) NB202_203.out _).trans (((cell_far (p := ⟨gb203, _, none⟩) NB202_203.out _).trans (((cell_far (p := ⟨gb203, _, none⟩) NB202_203.out _).trans (((cell_far (p := ⟨gb203, _, none⟩) NB202_203.out _).trans (((cell_far (p := ⟨gb203, _, none⟩) NB202_203.out _).trans (((cell_far (p := ⟨gb203, _, none⟩) NB202_203.out _).trans (((cell_far (p := ⟨gb203, _, none⟩) NB202_203.out _).trans (hHeld.2.2.2.2.2.2.2.2.2.2.2.2.2.2.2.2.2.2.1)))))))))))))))))))))))))))), ((cell_far (p := ⟨gb203, _, none⟩) NB202_203.out _).trans (((cell_far (p := ⟨gb203, _, none⟩) NB202_203.out _).trans (((cell_far (p := ⟨gb203, _, none⟩) NB202_203.out _).trans (((cell_far (p := ⟨gb203, _, none⟩) NB202_203.out _).trans (((cell_far (p := ⟨gb203, _, none⟩) NB202_203.out _).trans (((cell_far (p := ⟨gb203, _, none⟩) NB202_203.out _).trans (((cell_far (p := ⟨gb203, _, none⟩) NB202_203.out _).trans (((cell_far (p := ⟨gb203, _, none⟩) NB202_203.out _).trans (((cell_far (p := ⟨gb203, _, none⟩) NB202_203.out _).trans (((cell_far (p := ⟨gb203, _, none⟩) NB202_203.out _).trans (((cell_far (p := ⟨gb203, _, none⟩) NB202_203.out _).trans (((cell_far (p := ⟨gb203, _, none⟩) NB202_203.out _).trans (((cell_far (p := ⟨gb203, _, none⟩) NB202_203.out _).trans (((cell_far (p := ⟨gb203, _, none⟩) NB202_203.out _).trans (hHeld.2.2.2.2.2.2.2.2.2.2.2.2.2.2.2.2.2.2.2.1)))))))))))))))))))))))))))), ((cell_far (p := ⟨gb203, _, none⟩) NB202_203.out _).trans (((cell_far (p := ⟨gb203, _, none⟩) NB202_203.out _).trans (((cell_far (p := ⟨gb203, _, none⟩) NB202_203.out _).trans (((cell_far (p := ⟨gb203, _, none⟩) NB202_203.out _).trans (((cell_far (p := ⟨gb203, _, none⟩) NB202_203.out _).trans (((cell_far (p := ⟨gb203, _, none⟩) NB202_203.out _).trans (((cell_far (p := ⟨gb203, _, none⟩) NB202_203.out _).trans (((cell_far (p := ⟨gb203, _, none⟩) NB202_203.out _).trans (((cell_far (p := ⟨gb203, _, none⟩) NB202_203.out _).trans (((cell_far (p := ⟨gb203, _, none⟩) NB202_203.out _).trans (((cell_far (p := ⟨gb203, _, none⟩) NB202_203.out _).trans (((cell_far (p := ⟨gb203, _, none⟩) NB202_203.out _).trans (((cell_far (p := ⟨gb203, _, none⟩) NB202_203.out _).trans (((cell_far (p := ⟨gb203, _, none⟩) NB202_203.out _).trans (hHeld.2.2.2.2.2.2.2.2.2.2.2.2.2.2.2.2.2.2.2.2.1)))))))))))))))))))))))))))), ((cell_far (p := ⟨gb203, _, none⟩) NB202_203.out _).trans (((cell_far (p := ⟨gb203, _, none⟩) NB202_203.out _).trans (((cell_far (p := ⟨gb203, _, none⟩) NB202_203.out _).trans (((cell_far (p := ⟨gb203, _, none⟩) NB202_203.out _).trans (((cell_far (p := ⟨gb203, _, none⟩) NB202_203.out _).trans (((cell_far (p := ⟨gb203, _, none⟩) NB202_203.out _).trans (((cell_far (p := ⟨gb203, _, none⟩) NB202_203.out _).trans (((cell_far (p := ⟨gb203, _, none⟩) NB202_203.out _).trans (((cell_far (p := ⟨gb203, _, none⟩) NB202_203.out _).trans (((cell_far (p := ⟨gb203, _, none⟩) NB202_203.out _).trans (((cell_far (p := ⟨gb203, _, none⟩) NB202_203.out _).trans (((cell_far (p := ⟨gb203, _, none⟩) NB202_203.out _).trans (((cell_far (p := ⟨gb203, _, none⟩) NB202_203.out _).trans (((cell_far (p := ⟨gb203, _, none⟩) NB202_203.out _).trans (hHeld.2.2.2.2.2.2.2.2.2.2.2.2.2.2.2.2.2.2.2.2.2))))))))))))))))))))))))))))⟩ (fun hHeld => ?_)
  clear hK K
  refine done_ (done_of HT_.out (by kernel_rfl)) ?_
  try go_wp2
  refine bodyPost_ret (results_cell_row rfl _ _ gb203 31 #[.int .u16 a0_0, .bool a0_1, .int .i64 (Int.tmod (wrap64 ((Int.tmod a0_2 16) + 16)) 16), .bool a0_3, .bool a0_4, .bool a0_5, .bool a0_6, .int .i64 (Int.tmod (wrap64 ((Int.tmod a0_7 16) + 16)) 16), .string t205, .int .u16 a0_9, .slice Ao22 t206.length co22, .slice Ao21 t209.length co21, .slice Ao20 t212.length co20, .int .i64 (wrap64 (a0_13))] (0, 0) _ rfl (by (with_reducible repeat (first | refine blk_drewN ?_ _ | refine blk_drew ?_ | refine blk_alloc ?_ _)); refine blk_put (cs := #[.int .u16 a0_0, .bool a0_1, .int .i64 (Int.tmod (wrap64 ((Int.tmod a0_2 16) + 16)) 16), .bool a0_3, .bool a0_4, .bool a0_5, .bool a0_6, .int .i64 (Int.tmod (wrap64 ((Int.tmod a0_7 16) + 16)) 16), .string t205, .int .u16 a0_9, .slice Ao22 t206.length co22, .slice Ao21 t209.length co21, .slice Ao20 t212.length co20, .int .i64 0]) ?_ 13 _ rfl; (with_reducible repeat (first | refine blk_drewN ?_ _ | refine blk_drew ?_ | refine blk_alloc ?_ _)); refine blk_put (cs := #[.int .u16 a0_0, .bool a0_1, .int .i64 (Int.tmod (wrap64 ((Int.tmod a0_2 16) + 16)) 16), .bool a0_3, .bool a0_4, .bool a0_5, .bool a0_6, .int .i64 (Int.tmod (wrap64 ((Int.tmod a0_7 16) + 16)) 16), .string t205, .int .u16 a0_9, .slice Ao22 t206.length co22, .slice Ao21 t209.length co21, .slice none 0 0, .int .i64 0]) ?_ 12 _ rfl; (with_reducible repeat (first | refine blk_drewN ?_ _ | refine blk_drew ?_ | refine blk_alloc ?_ _)); refine blk_put (cs := #[.int .u16 a0_0, .bool a0_1, .int .i64 (Int.tmod (wrap64 ((Int.tmod a0_2 16) + 16)) 16), .bool a0_3, .bool a0_4, .bool a0_5, .bool a0_6, .int .i64 (Int.tmod (wrap64 ((Int.tmod a0_7 16) + 16)) 16), .string t205, .int .u16 a0_9, .slice Ao22 t206.length co22, .slice none 0 0, .slice none 0 0, .int .i64 0]) ?_ 11 _ rfl; (with_reducible repeat (first | refine blk_drewN ?_ _ | refine blk_drew ?_ | refine blk_alloc ?_ _)); refine blk_put (cs := #[.int .u16 a0_0, .bool a0_1, .int .i64 (Int.tmod (wrap64 ((Int.tmod a0_2 16) + 16)) 16), .bool a0_3, .bool a0_4, .bool a0_5, .bool a0_6, .int .i64 (Int.tmod (wrap64 ((Int.tmod a0_7 16) + 16)) 16), .string t205, .int .u16 a0_9, .slice none 0 0, .slice none 0 0, .slice none 0 0, .int .i64 0]) ?_ 10 _ rfl; (with_reducible repeat (first | refine blk_drewN ?_ _ | refine blk_drew ?_ | refine blk_alloc ?_ _)); refine blk_put (cs := #[.int .u16 a0_0, .bool a0_1, .int .i64 (Int.tmod (wrap64 ((Int.tmod a0_2 16) + 16)) 16), .bool a0_3, .bool a0_4, .bool a0_5, .bool a0_6, .int .i64 (Int.tmod (wrap64 ((Int.tmod a0_7 16) + 16)) 16), .string t205, .int .u16 0, .slice none 0 0, .slice none 0 0, .slice none 0 0, .int .i64 0]) ?_ 9 _ rfl; (with_reducible repeat (first | refine blk_drewN ?_ _ | refine blk_drew ?_ | refine blk_alloc ?_ _)); refine blk_put (cs := #[.int .u16 a0_0, .bool a0_1, .int .i64 (Int.tmod (wrap64 ((Int.tmod a0_2 16) + 16)) 16), .bool a0_3, .bool a0_4, .bool a0_5, .bool a0_6, .int .i64 (Int.tmod (wrap64 ((Int.tmod a0_7 16) + 16)) 16), .string (⟨#[]⟩ : ByteArray), .int .u16 0, .slice none 0 0, .slice none 0 0, .slice none 0 0, .int .i64 0]) ?_ 8 _ rfl; (with_reducible repeat (first | refine blk_drewN ?_ _ | refine blk_drew ?_ | refine blk_alloc ?_ _)); refine blk_put (cs := #[.int .u16 a0_0, .bool a0_1, .int .i64 (Int.tmod (wrap64 ((Int.tmod a0_2 16) + 16)) 16), .bool a0_3, .bool a0_4, .bool a0_5, .bool a0_6, .int .i64 0, .string (⟨#[]⟩ : ByteArray), .int .u16 0, .slice none 0 0, .slice none 0 0, .slice none 0 0, .int .i64 0]) ?_ 7 _ rfl; (with_reducible repeat (first | refine blk_drewN ?_ _ | refine blk_drew ?_ | refine blk_alloc ?_ _)); refine blk_put (cs := #[.int .u16 a0_0, .bool a0_1, .int .i64 (Int.tmod (wrap64 ((Int.tmod a0_2 16) + 16)) 16), .bool a0_3, .bool a0_4, .bool a0_5, .bool false, .int .i64 0, .string (⟨#[]⟩ : ByteArray), .int .u16 0, .slice none 0 0, .slice none 0 0, .slice none 0 0, .int .i64 0]) ?_ 6 _ rfl; (with_reducible repeat (first | refine blk_drewN ?_ _ | refine blk_drew ?_ | refine blk_alloc ?_ _)); refine blk_put (cs := #[.int .u16 a0_0, .bool a0_1, .int .i64 (Int.tmod (wrap64 ((Int.tmod a0_2 16) + 16)) 16), .bool a0_3, .bool a0_4, .bool false, .bool false, .int .i64 0, .string (⟨#[]⟩ : ByteArray), .int .u16 0, .slice none 0 0, .slice none 0 0, .slice none 0 0, .int .i64 0]) ?_ 5 _ rfl; (with_reducible repeat (first | refine blk_drewN ?_ _ | refine blk_drew ?_ | refine blk_alloc ?_ _)); refine blk_put (cs := #[.int .u16 a0_0, .bool a0_1, .int .i64 (Int.tmod (wrap64 ((Int.tmod a0_2 16) + 16)) 16), .bool a0_3, .bool false, .bool false, .bool false, .int .i64 0, .string (⟨#[]⟩ : ByteArray), .int .u16 0, .slice none 0 0, .slice none 0 0, .slice none 0 0, .int .i64 0]) ?_ 4 _ rfl; (with_reducible repeat (first | refine blk_drewN ?_ _ | refine blk_drew ?_ | refine blk_alloc ?_ _)); refine blk_put (cs := #[.int .u16 a0_0, .bool a0_1, .int .i64 (Int.tmod (wrap64 ((Int.tmod a0_2 16) + 16)) 16), .bool false, .bool false, .bool false, .bool false, .int .i64 0, .string (⟨#[]⟩ : ByteArray), .int .u16 0, .slice none 0 0, .slice none 0 0, .slice none 0 0, .int .i64 0]) ?_ 3 _ rfl; (with_reducible repeat (first | refine blk_drewN ?_ _ | refine blk_drew ?_ | refine blk_alloc ?_ _)); refine blk_put (cs := #[.int .u16 a0_0, .bool a0_1, .int .i64 0, .bool false, .bool false, .bool false, .bool false, .int .i64 0, .string (⟨#[]⟩ : ByteArray), .int .u16 0, .slice none 0 0, .slice none 0 0, .slice none 0 0, .int .i64 0]) ?_ 2 _ rfl; (with_reducible repeat (first | refine blk_drewN ?_ _ | refine blk_drew ?_ | refine blk_alloc ?_ _)); refine blk_put (cs := #[.int .u16 a0_0, .bool false, .int .i64 0, .bool false, .bool false, .bool false, .bool false, .int .i64 0, .string (⟨#[]⟩ : ByteArray), .int .u16 0, .slice none 0 0, .slice none 0 0, .slice none 0 0, .int .i64 0]) ?_ 1 _ rfl; (with_reducible repeat (first | refine blk_drewN ?_ _ | refine blk_drew ?_ | refine blk_alloc ?_ _)); refine blk_put (cs := #[.int .u16 0, .bool false, .int .i64 0, .bool false, .bool false, .bool false, .bool false, .int .i64 0, .string (⟨#[]⟩ : ByteArray), .int .u16 0, .slice none 0 0, .slice none 0 0, .slice none 0 0, .int .i64 0]) ?_ 0 _ rfl; (with_reducible repeat (first | refine blk_drewN ?_ _ | refine blk_drew ?_ | refine blk_alloc ?_ _)); exact BK203.out) Try.underlying31 rfl (by kernel_rfl)) rfl ?_
  exact ⟨_, _, _, by first | rfl | (simp [errW_none, errW_some] <;> rfl) | (simp [*, errW_none, errW_some] <;> rfl), by (with_reducible repeat (first | apply Kd.R_alloc | apply Kd.R_drewN | apply Kd.R_drew)); exact Kd.R_mono (Kd.R_far (p := ⟨gb203, 13, none⟩) (Kd.R_far (p := ⟨gb203, 12, none⟩) (Kd.R_far (p := ⟨gb203, 11, none⟩) (Kd.R_far (p := ⟨gb203, 10, none⟩) (Kd.R_far (p := ⟨gb203, 9, none⟩) (Kd.R_far (p := ⟨gb203, 8, none⟩) (Kd.R_far (p := ⟨gb203, 7, none⟩) (Kd.R_far (p := ⟨gb203, 6, none⟩) (Kd.R_far (p := ⟨gb203, 5, none⟩) (Kd.R_far (p := ⟨gb203, 4, none⟩) (Kd.R_far (p := ⟨gb203, 3, none⟩) (Kd.R_far (p := ⟨gb203, 2, none⟩) (Kd.R_far (p := ⟨gb203, 1, none⟩) (Kd.R_far (p := ⟨gb203, 0, none⟩) (Kd.R_types HO208.out BK203.out (by decide)) (fun _ hk => hk.2) (.int .u16 a0_0)) (fun _ hk => hk.2) (.bool a0_1)) (fun _ hk => hk.2) (.int .i64 (Int.tmod (wrap64 ((Int.tmod a0_2 16) + 16)) 16))) (fun _ hk => hk.2) (.bool a0_3)) (fun _ hk => hk.2) (.bool a0_4)) (fun _ hk => hk.2) (.bool a0_5)) (fun _ hk => hk.2) (.bool a0_6)) (fun _ hk => hk.2) (.int .i64 (Int.tmod (wrap64 ((Int.tmod a0_7 16) + 16)) 16))) (fun _ hk => hk.2) (.string t205)) (fun _ hk => hk.2) (.int .u16 a0_9)) (fun _ hk => hk.2) (.slice Ao22 t206.length co22)) (fun _ hk => hk.2) (.slice Ao21 t209.length co21)) (fun _ hk => hk.2) (.slice Ao20 t212.length co20)) (fun _ hk => hk.2) (.int .i64 (wrap64 (a0_13)))) (fun _ hk => ⟨hk.1.1.2, hk.1.2⟩), by (with_reducible repeat (first | apply Kd.R_alloc | apply Kd.R_drewN | apply Kd.R_drew)); exact Kd.R_mono (Kd.R_far (p := ⟨gb203, 13, none⟩) (Kd.R_far (p := ⟨gb203, 12, none⟩) (Kd.R_far (p := ⟨gb203, 11, none⟩) (Kd.R_far (p := ⟨gb203, 10, none⟩) (Kd.R_far (p := ⟨gb203, 9, none⟩) (Kd.R_far (p := ⟨gb203, 8, none⟩) (Kd.R_far (p := ⟨gb203, 7, none⟩) (Kd.R_far (p := ⟨gb203, 6, none⟩) (Kd.R_far (p := ⟨gb203, 5, none⟩) (Kd.R_far (p := ⟨gb203, 4, none⟩) (Kd.R_far (p := ⟨gb203, 3, none⟩) (Kd.R_far (p := ⟨gb203, 2, none⟩) (Kd.R_far (p := ⟨gb203, 1, none⟩) (Kd.R_far (p := ⟨gb203, 0, none⟩) (Kd.R_types HO211.out BK203.out (by decide)) (fun _ hk => hk.2) (.int .u16 a0_0)) (fun _ hk => hk.2) (.bool a0_1)) (fun _ hk => hk.2) (.int .i64 (Int.tmod (wrap64 ((Int.tmod a0_2 16) + 16)) 16))) (fun _ hk => hk.2) (.bool a0_3)) (fun _ hk => hk.2) (.bool a0_4)) (fun _ hk => hk.2) (.bool a0_5)) (fun _ hk => hk.2) (.bool a0_6)) (fun _ hk => hk.2) (.int .i64 (Int.tmod (wrap64 ((Int.tmod a0_7 16) + 16)) 16))) (fun _ hk => hk.2) (.string t205)) (fun _ hk => hk.2) (.int .u16 a0_9)) (fun _ hk => hk.2) (.slice Ao22 t206.length co22)) (fun _ hk => hk.2) (.slice Ao21 t209.length co21)) (fun _ hk => hk.2) (.slice Ao20 t212.length co20)) (fun _ hk => hk.2) (.int .i64 (wrap64 (a0_13)))) (fun _ hk => ⟨hk.1.1.2, hk.1.2⟩), by (with_reducible repeat (first | apply Kd.R_alloc | apply Kd.R_drewN | apply Kd.R_drew)); exact Kd.R_mono (Kd.R_far (p := ⟨gb203, 13, none⟩) (Kd.R_far (p := ⟨gb203, 12, none⟩) (Kd.R_far (p := ⟨gb203, 11, none⟩) (Kd.R_far (p := ⟨gb203, 10, none⟩) (Kd.R_far (p := ⟨gb203, 9, none⟩) (Kd.R_far (p := ⟨gb203, 8, none⟩) (Kd.R_far (p := ⟨gb203, 7, none⟩) (Kd.R_far (p := ⟨gb203, 6, none⟩) (Kd.R_far (p := ⟨gb203, 5, none⟩) (Kd.R_far (p := ⟨gb203, 4, none⟩) (Kd.R_far (p := ⟨gb203, 3, none⟩) (Kd.R_far (p := ⟨gb203, 2, none⟩) (Kd.R_far (p := ⟨gb203, 1, none⟩) (Kd.R_far (p := ⟨gb203, 0, none⟩) (Kd.R_types HO214.out BK203.out (by decide)) (fun _ hk => hk.2) (.int .u16 a0_0)) (fun _ hk => hk.2) (.bool a0_1)) (fun _ hk => hk.2) (.int .i64 (Int.tmod (wrap64 ((Int.tmod a0_2 16) + 16)) 16))) (fun _ hk => hk.2) (.bool a0_3)) (fun _ hk => hk.2) (.bool a0_4)) (fun _ hk => hk.2) (.bool a0_5)) (fun _ hk => hk.2) (.bool a0_6)) (fun _ hk => hk.2) (.int .i64 (Int.tmod (wrap64 ((Int.tmod a0_7 16) + 16)) 16))) (fun _ hk => hk.2) (.string t205)) (fun _ hk => hk.2) (.int .u16 a0_9)) (fun _ hk => hk.2) (.slice Ao22 t206.length co22)) (fun _ hk => hk.2) (.slice Ao21 t209.length co21)) (fun _ hk => hk.2) (.slice Ao20 t212.length co20)) (fun _ hk => hk.2) (.int .i64 (wrap64 (a0_13)))) (fun _ hk => ⟨hk.1.1.2, hk.1.2⟩), by repeat (first | (with_reducible first | exact HB.out | apply below_alloc | apply pw_below_drewN | apply below_drew1 | refine below_set ?_ GE202.out | refine below_set ?_ GE203.out | refine below_set ?_ GE204.out) | exact HB.out)⟩
def num_Get16.f (a0 : ByteArray) (a1 : Int) : Option (Int × Bool) := if a1 < 0 then (some (0, false)) else (if a1 > (wrap64 ((a0.size : Int) - 2)) then (some (0, false)) else (if 0 ≤ a1 then (if a1 < (a0.size : Int) then (if 0 ≤ (wrap64 (a1 + 1)) then (if (wrap64 (a1 + 1)) < (a0.size : Int) then (some (Go.bits .or .u16 (IntKind.u16.wrap ((IntKind.u16.wrap (bt a0 a1)) * 256)) (IntKind.u16.wrap (bt a0 (wrap64 (a1 + 1)))), true)) else (none)) else (none)) else (none)) else (none)))
set_option maxHeartbeats 8000000 in
set_option maxRecDepth 100000 in
theorem num_Get16.calls (a0 : ByteArray) (a1 : Int) (r1 : Int) (r2 : Bool) (w : World) (h : num_Get16.f a0 a1 = some (r1, r2)) :
    Calls Try.prog 39 #[.string a0, .int .i64 a1] w fun e w' => e = .returned (.tuple #[.int .u16 r1, .bool r2]) ∧ Drawn0 w w' := by
  have H : (if a1 < 0 then (some (0, false)) else (if a1 > (wrap64 ((a0.size : Int) - 2)) then (some (0, false)) else (if 0 ≤ a1 then (if a1 < (a0.size : Int) then (if 0 ≤ (wrap64 (a1 + 1)) then (if (wrap64 (a1 + 1)) < (a0.size : Int) then (some (Go.bits .or .u16 (IntKind.u16.wrap ((IntKind.u16.wrap (bt a0 a1)) * 256)) (IntKind.u16.wrap (bt a0 (wrap64 (a1 + 1)))), true)) else (none)) else (none)) else (none)) else (none)))) = some (r1, r2) := h
  clear h
  by_cases c3 : a1 < 0
  · rw [if_pos c3] at H
    have c3b0 : decide (a1 < 0) = true := decide_eq_true c3
    clear c3
    simp only [Option.some.injEq, Prod.mk.injEq] at H
    obtain ⟨rfl, rfl⟩ := H
    go_enter Try.func39, Try.ntmps39
    go_wp2
    repeat (go_quiet (fail); try go_wp2)
    go_ret2
    exact ⟨by first | rfl | (simp; done) | (simp [*]; done), by repeat (first | exact Drawn0.refl _ | apply Drawn0.step)⟩
  · rw [if_neg c3] at H
    have c3b0 : decide (a1 < 0) = false := decide_eq_false c3
    clear c3
    by_cases c4 : a1 > (wrap64 ((a0.size : Int) - 2))
    · rw [if_pos c4] at H
      have c4b0 : decide ((wrap64 ((a0.size : Int) - 2)) < a1) = true := decide_eq_true c4
      (try (have c4b1 : decide ((IntKind.i64.wrap ((a0.size : Int) - 2)) < a1) = true := by simp only [i64_w]; exact (decide_eq_true c4)))
      clear c4
      simp only [Option.some.injEq, Prod.mk.injEq] at H
      obtain ⟨rfl, rfl⟩ := H
      go_enter Try.func39, Try.ntmps39
      go_wp2
      repeat (go_quiet (fail); try go_wp2)
      go_ret2
      exact ⟨by first | rfl | (simp; done) | (simp [*]; done), by repeat (first | exact Drawn0.refl _ | apply Drawn0.step)⟩
    · rw [if_neg c4] at H
      have c4b0 : decide ((wrap64 ((a0.size : Int) - 2)) < a1) = false := decide_eq_false c4
      (try (have c4b1 : decide ((IntKind.i64.wrap ((a0.size : Int) - 2)) < a1) = false := by simp only [i64_w]; exact (decide_eq_false c4)))
      clear c4
      by_cases c5 : 0 ≤ a1
      · rw [if_pos c5] at H
        have c5b0 : decide (0 ≤ a1) = true := decide_eq_true c5
        clear c5
        by_cases c6 : a1 < (a0.size : Int)
        · rw [if_pos c6] at H
          have c6b0 : decide (a1 < (a0.size : Int)) = true := decide_eq_true c6
          clear c6
          obtain ⟨ji8, hji8⟩ : ∃ j_ : Int, (wrap64 (a1 + 1)) = j_ := ⟨_, rfl⟩
          replace H : (if 0 ≤ (ji8) then (if (ji8) < (a0.size : Int) then (some (Go.bits .or .u16 (IntKind.u16.wrap ((IntKind.u16.wrap (bt a0 a1)) * 256)) (IntKind.u16.wrap (bt a0 (ji8))), true)) else (none)) else (none)) = some (r1, r2) := by first | (rw [hji8] at H; exact H) | (simp only [hji8] at H ⊢; exact H)
          have hji8w : (IntKind.i64.wrap (a1 + 1)) = ji8 := (i64_w _).trans hji8
          by_cases c9 : 0 ≤ (ji8)
          · rw [if_pos c9] at H
            have c9b0 : decide (0 ≤ (ji8)) = true := decide_eq_true c9
            clear c9
            by_cases c10 : (ji8) < (a0.size : Int)
            · rw [if_pos c10] at H
              have c10b0 : decide ((ji8) < (a0.size : Int)) = true := decide_eq_true c10
              clear c10
              simp only [Option.some.injEq, Prod.mk.injEq] at H
              obtain ⟨rfl, rfl⟩ := H
              have p7 : 0 ≤ (a1 : Int) := of_decide_eq_true (by first | (with_reducible assumption) | assumption)
              have q7 : a1 < (a0.size : Int) := of_decide_eq_true (by first | (with_reducible assumption) | assumption)
              have hx7 := bt_at a0 a1
              replace p7 := eq_true p7
              replace q7 := eq_true q7
              have p11 : 0 ≤ ((ji8) : Int) := of_decide_eq_true (by first | (with_reducible assumption) | assumption)
              have q11 : (ji8) < (a0.size : Int) := of_decide_eq_true (by first | (with_reducible assumption) | assumption)
              have hx11 := bt_at a0 (ji8)
              replace p11 := eq_true p11
              replace q11 := eq_true q11
              go_enter Try.func39, Try.ntmps39
              go_wp2
              repeat (go_quiet (fail); try go_wp2)
              go_ret2
              exact ⟨by first | rfl | (simp; done) | (simp only [← hji8] <;> (first | rfl | simp)) | (simp [*]; done), by repeat (first | exact Drawn0.refl _ | apply Drawn0.step)⟩
            · rw [if_neg c10] at H
              exact absurd H (by simp)
          · rw [if_neg c9] at H
            exact absurd H (by simp)
        · rw [if_neg c6] at H
          exact absurd H (by simp)
      · rw [if_neg c5] at H
        exact absurd H (by simp)
def num_Flags.l0 : Nat → Int → List Bool → Int → Option (List Bool)
  | 0, _, _, _ => none
  | k + 1, x0, x5, x6 => if x6 ≥ 0 then (if 0 ≤ x6 then (if x6 < (x5.length : Int) then (num_Flags.l0 k (x0 / 2) (x5.set (x6 : Int).toNat ((Go.bits .and .u16 x0 1) == 1)) (wrap64 (x6 - 1))) else (none)) else (none)) else (some x5)
def num_Flags.f (k : Nat) (a0 : Int) (a1 : Int) : Option (List Bool) := if 0 ≤ (mx 0 (mn a1 16)) then (if (mx 0 (mn a1 16) : Int).toNat ≤ 281474976710656 then ((some (List.replicate (mx 0 (mn a1 16) : Int).toNat false : List Bool)).bind fun y217 => (num_Flags.l0 k a0 y217 (wrap64 ((y217.length : Int) - 1)))) else (none)) else (none)
theorem num_Flags.mono_l : ∀ k, (∀ y0 y1 y2, LeO (num_Flags.l0 k y0 y1 y2) (num_Flags.l0 (k + 1) y0 y1 y2))
  | 0 => fun _ _ _ r h => by simp [num_Flags.l0] at h
  | k + 1 => by
    have ih0 := num_Flags.mono_l k
    · intro y0 y1 y2
      unfold num_Flags.l0
      repeat' first
      | (with_reducible exact ih0 _ _ _)
      | (with_reducible exact LeO.refl _)
      | (with_reducible exact LeO.none _)
      | (with_reducible refine LeO.ite ?_ ?_)
      | (with_reducible refine LeO.bind ?_ (fun _ => ?_))
      | exact ih0 _ _ _
      | exact LeO.none _
      | refine LeO.ite ?_ ?_
      | refine LeO.bind ?_ (fun _ => ?_)
theorem num_Flags.mono : ∀ a0 a1 k, LeO (num_Flags.f k a0 a1) (num_Flags.f (k + 1) a0 a1) := by
  intro a0 a1 k
  have ih0 := num_Flags.mono_l k
  unfold num_Flags.f
  repeat' first
      | (with_reducible exact ih0 _ _ _)
      | (with_reducible exact LeO.refl _)
      | (with_reducible exact LeO.none _)
      | (with_reducible refine LeO.ite ?_ ?_)
      | (with_reducible refine LeO.bind ?_ (fun _ => ?_))
      | exact ih0 _ _ _
      | exact LeO.none _
      | refine LeO.ite ?_ ?_
      | refine LeO.bind ?_ (fun _ => ?_)
set_option maxHeartbeats 8000000 in
set_option maxRecDepth 100000 in
theorem num_Flags.calls (k : Nat) (a0 : Int) (a1 : Int) (r : List Bool) (w : World) (h : num_Flags.f k a0 a1 = some r) :
    Calls Try.prog 40 #[.int .u16 a0, .int .i64 a1] w fun e w' => ∃ v0_ : Value, e = .returned (v0_) ∧ Kd.R Kd.bool 4 w' w.heap.size (fun _ => True) v0_ r ∧ Below w.heap.size w w' := by
  have HB := Aside0.mk (Below.refl w.heap.size w)
  have H : (if 0 ≤ (mx 0 (mn a1 16)) then (if (mx 0 (mn a1 16) : Int).toNat ≤ 281474976710656 then ((some (List.replicate (mx 0 (mn a1 16) : Int).toNat false : List Bool)).bind fun y217 => (num_Flags.l0 k a0 y217 (wrap64 ((y217.length : Int) - 1)))) else (none)) else (none)) = some r := h
  clear h
  obtain ⟨ji3, hji3⟩ : ∃ j_ : Int, (mn a1 16) = j_ := ⟨_, rfl⟩
  replace H : (if 0 ≤ (mx 0 (ji3)) then (if (mx 0 (ji3) : Int).toNat ≤ 281474976710656 then ((some (List.replicate (mx 0 (ji3) : Int).toNat false : List Bool)).bind fun y217 => (num_Flags.l0 k a0 y217 (wrap64 ((y217.length : Int) - 1)))) else (none)) else (none)) = some r := by first | (rw [hji3] at H; exact H) | (simp only [hji3] at H ⊢; exact H)
  (try (have hji3h : ji3 ≤ 16 := by (rw [← hji3]; unfold mn; (repeat' split) <;> omega)))
  (try (have hji3g : ji3 ≤ 64 := by omega))
  have hji3_ : (if 16 < a1 then 16 else a1) = ji3 := hji3
  obtain ⟨ji4, hji4⟩ : ∃ j_ : Int, (mx 0 (ji3)) = j_ := ⟨_, rfl⟩
  replace H : (if 0 ≤ (ji4) then (if (ji4 : Int).toNat ≤ 281474976710656 then ((some (List.replicate (ji4 : Int).toNat false : List Bool)).bind fun y217 => (num_Flags.l0 k a0 y217 (wrap64 ((y217.length : Int) - 1)))) else (none)) else (none)) = some r := by first | (rw [hji4] at H; exact H) | (simp only [hji4] at H ⊢; exact H)
  (try (have hji4h : ji4 ≤ 16 := by (rw [← hji4]; unfold mx; (repeat' split) <;> omega)))
  (try (have hji4g : ji4 ≤ 64 := by omega))
  (try (have hji4l : 0 ≤ ji4 := by (rw [← hji4]; unfold mx; (repeat' split) <;> omega)))
  (try (have hji4m : 0 ≤ ji4 := by omega))
  have hji4_ : (if 0 < (ji3) then (ji3) else 0) = ji4 := hji4
  by_cases c5 : 0 ≤ (ji4)
  · rw [if_pos c5] at H
    have c5b0 := eq_true c5
    have c5b1 : decide (0 ≤ (ji4)) = true := decide_eq_true c5
    clear c5
    by_cases c6 : (ji4 : Int).toNat ≤ 281474976710656
    · rw [if_pos c6] at H
      have c6b0 := eq_true c6
      have c6b1 : decide ((ji4 : Int).toNat ≤ 281474976710656) = true := decide_eq_true c6
      clear c6
      obtain ⟨y217, hy217⟩ : ∃ y_ : List Bool, y_ = (List.replicate (ji4 : Int).toNat false) := ⟨_, rfl⟩
      replace H : (num_Flags.l0 k a0 y217 (wrap64 ((y217.length : Int) - 1))) = some r := by first | (rw [hy217]; with_reducible exact H) | (have H2_ := (Option.bind_some _ _).symm.trans H; rw [hy217]; with_reducible exact H2_) | (have H2_ := (Option.bind_some _ _).symm.trans H; with_reducible exact H2_) | with_reducible exact H | (rw [hy217]; exact H) | exact H
      have Ny217 := Aside0.mk hy217
      clear hy217
      have H' := Aside0.mk H
      clear H
      go_enter Try.func40, Try.ntmps40
      go_wp2_with (first | ((with_reducible refine gate_dst (N := 10) rfl ?_); refine Kd.R_make Kd.bool _ 4 rfl (N := 10) rfl 101 _ _ rfl ji4 rfl rfl Try.underlying101 (.bool false) 1 info4 rfl (by decide) (by omega) false (ok := fun _ => True) (okp := fun _ => True) rfl (fun _ hk => hk) trivial (of_decide_eq_true (by first | (with_reducible assumption) | assumption)) (Nat.le_trans (Nat.mul_le_mul_right _ (of_decide_eq_true (by first | (with_reducible assumption) | assumption) : ji4.toNat ≤ 281474976710656)) (by omega)) (Below.refl _ _) (Nat.le_refl _) ?_; intro v218 w7 ho8 hb hg_ hnew_; clear hg_ hnew_; (first | rw [← Ny217.out] at ho8 | (simp only [Int.reduceToNat] at ho8; rw [← Ny217.out] at ho8)); have n0_ := Aside0.mk (Kd.R_lower ho8 (below_size (by repeat (first | (with_reducible first | exact HB.out | apply below_alloc | apply pw_below_drewN | apply below_drew1) | exact HB.out)))); have n1_ := Aside0.mk (below_step (by repeat (first | (with_reducible first | exact HB.out | apply below_alloc | apply pw_below_drewN | apply below_drew1) | exact HB.out)) hb); clear HB; have HO219 := n0_; have HB := n1_; clear n0_ n1_; clear hb ho8; obtain ⟨Ao9, co9, eo9⟩ := Kd.R_slice HO219.out; subst eo9))
      go_loopg [0, 6] k (fun kq v0 v6 w' => ∃ (x0_1 : Int) (x5_1 : List Bool) (x6_1 : Int), v0 = .int .u16 x0_1 ∧ v6 = .int .i64 x6_1 ∧ Aside0 (num_Flags.l0 kq x0_1 x5_1 x6_1 = some r) ∧ Aside0 (kq ≤ k) ∧ Aside0 (Kd.R Kd.bool 4 w' w.heap.size (fun _ => True) (.slice Ao9 y217.length co9) x5_1) ∧ Aside0 (Below w.heap.size w w'))
      case atStart => exact ⟨(a0), (y217), (wrap64 ((y217.length : Int) - 1)), (by first | rfl | (simp; done) | (simp [*]; done)), (by first | rfl | (simp; done) | (simp [*]; done)), H', ⟨Nat.le_refl _⟩, ⟨by (with_reducible repeat (first | apply Kd.R_alloc | apply Kd.R_drewN | apply Kd.R_drew)); exact HO219.out⟩, ⟨by repeat (first | (with_reducible first | exact HB.out | apply below_alloc | apply pw_below_drewN | apply below_drew1) | exact HB.out)⟩⟩
      case round =>
        clear H'
        try clear p2
        try clear c4
        try clear c5
        try clear c5b0
        try clear c5b1
        try clear c6
        try clear c6b0
        try clear c6b1
        try clear p6
        obtain ⟨x0_1, x5_1, x6_1, rfl, rfl, HA, HK1, HO_5, HB⟩ := hrel
        have hl5_1 := (Kd.R_reads' HO_5.out).1
        rw [hl5_1] at HO_5
        (try simp only [hl5_1])
        cases gk with
        | zero => exact absurd HA.out (by simp [num_Flags.l0])
        | succ k1 =>
          have H := HA.out
          clear HA
          simp only [num_Flags.l0] at H
          by_cases c10 : x6_1 ≥ 0
          · rw [if_pos c10] at H
            have c10b0 : decide (0 ≤ x6_1) = true := decide_eq_true c10
            clear c10
            by_cases c11 : 0 ≤ x6_1
            · rw [if_pos c11] at H
              have c11b0 : decide (0 ≤ x6_1) = true := decide_eq_true c11
              clear c11
              by_cases c12 : x6_1 < (x5_1.length : Int)
              · rw [if_pos c12] at H
                have c12b0 : decide (x6_1 < (x5_1.length : Int)) = true := decide_eq_true c12
                clear c12
                obtain ⟨y220, hy220⟩ : ∃ y_ : List Bool, y_ = (x5_1.set (x6_1 : Int).toNat ((Go.bits .and .u16 x0_1 1) == 1)) := ⟨_, rfl⟩
                replace H : (num_Flags.l0 k1 (x0_1 / 2) y220 (wrap64 (x6_1 - 1))) = some r := by first | (rw [hy220]; with_reducible exact H) | (have H2_ := (Option.bind_some _ _).symm.trans H; rw [hy220]; with_reducible exact H2_) | (have H2_ := (Option.bind_some _ _).symm.trans H; with_reducible exact H2_) | with_reducible exact H | (rw [hy220]; exact H) | exact H
                have Ny220 := Aside0.mk hy220
                clear hy220
                have H' := Aside0.mk H
                clear H
                have p13 : 0 ≤ (x6_1 : Int) := of_decide_eq_true (by first | (with_reducible assumption) | assumption)
                have q13 : (x6_1 : Int) < ((x5_1.length : Int) : Int) := of_decide_eq_true (by first | (with_reducible assumption) | assumption)
                obtain ⟨go13, co13, eo13, gb13, gl13, cl13, HG13⟩ := Kd.R_form HO_5.out (by omega)
                (first | cases eo13 | (injection eo13 with ea_ en_ ec_; (first | subst ea_ | (injection ea_ with ea_; subst ea_)); subst ec_; clear en_))
                have GB13 := Aside0.mk gb13
                have GG13 := Aside0.mk HG13
                clear gb13 gl13 HG13
                obtain ⟨hx13_0, hf13_0⟩ := Kd.R_celln false HO_5.out (x6_1 : Int) p13 q13
                replace p13 := eq_true p13
                replace q13 := eq_true q13
                have HP14 := Kd.R_putg HO_5.out (x6_1 : Int) ((Go.bits .and .u16 x0_1 1) == 1)
                go_wp2_with (first | ((with_reducible refine gate_store (t := 4) (p := 23) rfl ?_); refine store_event (t := 4) (p := 23) (v := ?vo_w15) (w1 := (wr.setCell ⟨go13, (x6_1 : Int).toNat, none⟩ (.bool ((Go.bits .and .u16 x0_1 1) == 1)))) ?hg ?ho ?hn ?hr ?_; (case ho => rfl); (case hg => rfl); (case hn => rfl); (case hr => first | (go_simp; done) | (go_simp; rfl)); intro w15 hw; have hg : wr.grownBy w15 (some go13) := (by rw [hw]; exact HP14.2); have hp_ : Kd.R Kd.bool 4 w15 w.heap.size (fun _ => True) (.slice (some ⟨go13, 0, none⟩) x5_1.length co9) y220 := (by rw [hw, Ny220.out]; exact HP14.1); clear HP14; have n0_ := Aside0.mk (hp_); have n1_ := Aside0.mk ((by rw [hw]; exact below_set (HB.out) GB13.out : Below w.heap.size w w15)); clear HO_5; clear HB; have HO_5 := n0_; have HB := n1_; clear n0_ n1_; clear hg hw hp_))
                (try simp only [← hl5_1])
                go_roundg k1
                case measure => have := HK1.out; omega
                case rel => exact ⟨(x0_1 / 2), (y220), (wrap64 (x6_1 - 1)), (by first | rfl | (simp; done) | (simp [*]; done)), (by first | rfl | (simp; done) | (simp [*]; done)), H', ⟨by have := HK1.out; omega⟩, ⟨by (try simp only [hl5_1]); (with_reducible repeat (first | apply Kd.R_alloc | apply Kd.R_drewN | apply Kd.R_drew)); exact HO_5.out⟩, ⟨by repeat (first | (with_reducible first | exact HB.out | apply below_alloc | apply pw_below_drewN | apply below_drew1) | exact HB.out)⟩⟩
              · rw [if_neg c12] at H
                exact absurd H (by simp)
            · rw [if_neg c11] at H
              exact absurd H (by simp)
          · rw [if_neg c10] at H
            have c10b0 : decide (0 ≤ x6_1) = false := decide_eq_false c10
            clear c10
            obtain rfl := Option.some.inj H
            go_wp2
            go_ret
            exact ⟨_, by first | rfl | (simp [errW_none, errW_some] <;> rfl) | (simp only [← hji3, ← hji4]; first | rfl | (simp [errW_none, errW_some] <;> rfl)) | (simp [*, errW_none, errW_some] <;> rfl), by (with_reducible repeat (first | apply Kd.R_alloc | apply Kd.R_drewN | apply Kd.R_drew)); exact HO_5.out, by repeat (first | (with_reducible first | exact HB.out | apply below_alloc | apply pw_below_drewN | apply below_drew1) | exact HB.out)⟩
    · rw [if_neg c6] at H
      exact absurd H (by simp)
  · rw [if_neg c5] at H
    exact absurd H (by simp)
end Go.Proofs.Ytnikfeaggppmpaa.PM
