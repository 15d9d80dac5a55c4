import Derived.Test.YtlobjcokopfbkaaDoorPYx0
import Derived.Test.YtlobjcokopfbkaaDoorPYx1
import Derived.Test.YtlobjcokopfbkaaDoorPYx6
namespace Go.Proofs.YtlobjcokopfbkaaDoor.PY
open Go.RowKit Go.Proofs.YtlobjcokopfbkaaDoorW.PrintWords Go.Proofs.YtlobjcokopfbkaaDoorW.PrintLast Go.Proofs.YtlobjcokopfbkaaDoorW.PrintMore
attribute [local go_sem] max2_int min2_int max_two min_two max_three min_three max_four min_four   -- for this text's walks alone
set_option linter.unusedVariables false
set_option linter.unusedSimpArgs false
attribute [local go_sem high] eqA32
def bolterlaw05_SameRecords.l0:Nat→List (S32)→List (S32)→Int→Int→Option (Bool)
 | 0,_,_,_,_=>none
 | k + 1,x0,x1,x12,x13=>if x13 < x12 then (if 0≤x13 then (if x13 < (x0.length:Int) then (if x13 < (x1.length:Int) then (if (!((((rd_T32 x0 x13).f0).toList) == (((rd_T32 x1 x13).f0).toList)) || (!(((rd_T32 x0 x13).f1) == ((rd_T32 x1 x13).f1)) || (!(((rd_T32 x0 x13).f2) == ((rd_T32 x1 x13).f2)) || (!((((rd_T32 x0 x13).f3).toList) == (((rd_T32 x1 x13).f3).toList)))))) = true then (some false) else (bolterlaw05_SameRecords.l0 k x0 x1 x12 (wrap64 (x13 + 1)))) else (none)) else (none)) else (none)) else (some true)
def bolterlaw05_SameRecords.f (k:Nat) (l0:List (S32)) (l1:List (S32)):Option (Bool):=if (l0.length:Int) = (l1.length:Int) then (bolterlaw05_SameRecords.l0 k l0 l1 (l0.length:Int) 0) else (some false)
theorem bolterlaw05_SameRecords.mono_l:∀ k,(∀ y0 y1 y2 y3,LeO (bolterlaw05_SameRecords.l0 k y0 y1 y2 y3) (bolterlaw05_SameRecords.l0 (k + 1) y0 y1 y2 y3))
 | 0=>fun _ _ _ _ r h=>by simp [bolterlaw05_SameRecords.l0] at h
 | k + 1=>by
  have ih0:=bolterlaw05_SameRecords.mono_l k
  ·intro y0 y1 y2 y3
   unfold bolterlaw05_SameRecords.l0
   repeat' first
   | (with_reducible exact ih0 _ _ _ _)
   | (with_reducible exact LeO.refl _)
   | (with_reducible exact LeO.none _)
   | (with_reducible refine LeO.ite ?_ ?_)
   | (with_reducible refine LeO.bind ?_ (fun _=>?_))
   | exact ih0 _ _ _ _
   | exact LeO.none _
   | refine LeO.ite ?_ ?_
   | refine LeO.bind ?_ (fun _=>?_)
theorem bolterlaw05_SameRecords.mono:∀ a0 a1 k,LeO (bolterlaw05_SameRecords.f k a0 a1) (bolterlaw05_SameRecords.f (k + 1) a0 a1):=by
 intro a0 a1 k
 have ih0:=bolterlaw05_SameRecords.mono_l k
 unfold bolterlaw05_SameRecords.f
 repeat' first
   | (with_reducible exact ih0 _ _ _ _)
   | (with_reducible exact LeO.refl _)
   | (with_reducible exact LeO.none _)
   | (with_reducible refine LeO.ite ?_ ?_)
   | (with_reducible refine LeO.bind ?_ (fun _=>?_))
   | exact ih0 _ _ _ _
   | exact LeO.none _
   | refine LeO.ite ?_ ?_
   | refine LeO.bind ?_ (fun _=>?_)
def bolterlaw09_serial.f (k:Nat) (a0_0:ByteArray) (a0_1:Int) (a0_2:Int) (a0_3:ByteArray):Option (Int):=(soa_Of.f k a0_0 a0_1 a0_2 a0_3).bind fun bt434=>(some bt434.2.2.1)
theorem bolterlaw09_serial.mono:∀ a0 a1 a2 a3 k,LeO (bolterlaw09_serial.f k a0 a1 a2 a3) (bolterlaw09_serial.f (k + 1) a0 a1 a2 a3):=by
 intro a0 a1 a2 a3 k
 unfold bolterlaw09_serial.f
 repeat' first
   | (with_reducible exact soa_Of.mono _ _ _ _ _)
   | (with_reducible exact LeO.refl _)
   | (with_reducible exact LeO.none _)
   | (with_reducible refine LeO.ite ?_ ?_)
   | (with_reducible refine LeO.bind ?_ (fun _=>?_))
   | exact soa_Of.mono _ _ _ _ _
   | exact LeO.none _
   | refine LeO.ite ?_ ?_
   | refine LeO.bind ?_ (fun _=>?_)
set_option maxHeartbeats 8000000 in
set_option maxRecDepth 100000 in
theorem bolterlaw09_serial.calls (k:Nat) (a0_0:ByteArray) (a0_1:Int) (a0_2:Int) (a0_3:ByteArray) (r:Int) (w:World) (h:bolterlaw09_serial.f k a0_0 a0_1 a0_2 a0_3 = some r) :
  Calls Tryd.prog 30 #[.agg #[.string a0_0,.int .u16 a0_1,.int .u32 a0_2,.string a0_3]] w fun e w'=>e = .returned (.int .u32 r)∧Below w.heap.size w w':=by
 have hu32:=Tryd.underlying32
 have hu63:=Tryd.underlying63
 have HB:=Aside0.mk (Below.refl w.heap.size w)
 have H:((soa_Of.f k a0_0 a0_1 a0_2 a0_3).bind fun bt434=>(some bt434.2.2.1)) = some r:=h
 clear h
 replace H:=Option.bind_eq_some_iff.mp H
 obtain ⟨⟨t434,t435,t436,t437,t438,t439,t440,t441⟩,A20,H⟩:=H
 replace H:(some t436) = some r:=H
 have A2:=Aside0.mk A20
 clear A20
 obtain rfl:=Option.some.inj H
 go_enter Tryd.func30,Tryd.ntmps30
 go_wp2_with (first|((with_reducible refine gate_dst (N:=1) rfl ?_);refine box_event ?hg (N:=1) ?hd (cs:=#[.string a0_0,.int .u16 a0_1,.int .u32 a0_2,.string a0_3]) (t:=32) ?hr ?_;(case hd=>rfl);(case hg=>rfl);(case hr=>first|(go_simp;done)|(go_simp;rfl));intro gb433 hg w3 hbox hb;have n0_:=Aside0.mk (below_step (by repeat (first|(with_reducible first|exact HB.out|apply below_alloc|apply pw_below_drewN|apply below_drew1)|exact HB.out)) hb);have n1_:=Aside0.mk (hbox);have n2_:=Aside0.mk ((by rw [hg];exact (below_size (by repeat (first|(with_reducible first|exact HB.out|apply below_alloc|apply pw_below_drewN|apply below_drew1)|exact HB.out))):w.heap.size≤gb433));have n3_:=Aside0.mk ((by rw [hg];exact (below_size (by repeat (first|(with_reducible first|exact HB.out|apply below_alloc|apply pw_below_drewN|apply below_drew1)|exact HB.out))):w.heap.size≤gb433));clear HB;have HB:=n0_;have BK433:=n1_;have GW433:=n2_;have GE433:=n3_;clear n0_ n1_ n2_ n3_;clear hb hbox hg;have hcz4_0:w3.cell? ⟨gb433,0,none⟩ = some (.string a0_0):=(blk_cell BK433.out 0).trans rfl;have hcz4_1:w3.cell? ⟨gb433,1,none⟩ = some (.int .u16 a0_1):=(blk_cell BK433.out 1).trans rfl;have hcz4_2:w3.cell? ⟨gb433,2,none⟩ = some (.int .u32 a0_2):=(blk_cell BK433.out 2).trans rfl;have hcz4_3:w3.cell? ⟨gb433,3,none⟩ = some (.string a0_3):=(blk_cell BK433.out 3).trans rfl;have hfz4_0:=blk_frozen BK433.out 0;have hfz4_1:=blk_frozen BK433.out 1;have hfz4_2:=blk_frozen BK433.out 2;have hfz4_3:=blk_frozen BK433.out 3)|((with_reducible refine gate_callee (f:=43) rfl ?_);refine goesL_ (some 7) rfl rfl Tryd.func43 (by kernel_rfl) rfl #[.agg #[.string a0_0,.int .u16 a0_1,.int .u32 a0_2,.string a0_3]] rfl (by (try simp only [List.map_toArray,List.map_cons,List.map_nil]) <;> first|rfl|(simp only [List.length_drop,List.length_take];rfl)) ?_;(with_reducible refine (soa_Of.calls k a0_0 a0_1 a0_2 a0_3 t434 t435 t436 t437 t438 t439 t440 t441 _ A2.out).mono ?_);rintro e w5 ⟨rfl,hb⟩;refine ⟨_,rfl,?_⟩;have n0_:=Aside0.mk (blk_below (g:=gb433) (o:=.cells #[.string a0_0,.int .u16 a0_1,.int .u32 a0_2,.string a0_3] 32 (0,0)) (by (with_reducible repeat (first|apply blk_drewN|apply blk_drew|apply blk_alloc));exact BK433.out) hb);have n1_:=Aside0.mk (below_step (by repeat (first|(with_reducible first|exact HB.out|apply below_alloc|apply pw_below_drewN|apply below_drew1|refine below_set ?_ GE433.out)|exact HB.out)) hb);clear BK433;clear HB;have BK433:=n0_;have HB:=n1_;clear n0_ n1_;(try clear hb);(try clear hb2);(try clear hk);(try clear hi))|((with_reducible refine gate_dst (N:=3) rfl ?_);refine box_event ?hg (N:=3) ?hd (cs:=#[.string (⟨#[]⟩:ByteArray),.string (⟨#[]⟩:ByteArray),.int .u32 0,.int .u32 0,.int .u32 0,.int .u32 0,.int .u32 0]) (t:=63) ?hr ?_;(case hd=>rfl);(case hg=>rfl);(case hr=>first|(go_simp;done)|(go_simp;rfl));intro gb442 hg w6 hbox hb;have n0_:=Aside0.mk (blk_below (g:=gb433) (o:=.cells #[.string a0_0,.int .u16 a0_1,.int .u32 a0_2,.string a0_3] 32 (0,0)) (by (with_reducible repeat (first|apply blk_drewN|apply blk_drew|apply blk_alloc));exact BK433.out) hb);have n1_:=Aside0.mk (below_step (by repeat (first|(with_reducible first|exact HB.out|apply below_alloc|apply pw_below_drewN|apply below_drew1|refine below_set ?_ GE433.out)|exact HB.out)) hb);have n2_:=Aside0.mk (hbox);have n3_:=Aside0.mk ((by rw [hg];exact (below_size (by repeat (first|(with_reducible first|exact HB.out|apply below_alloc|apply pw_below_drewN|apply below_drew1|refine below_set ?_ GE433.out)|exact HB.out))):w.heap.size≤gb442));have n4_:=Aside0.mk ((by rw [hg];exact (below_size (by repeat (first|(with_reducible first|exact HB.out|apply below_alloc|apply pw_below_drewN|apply below_drew1|refine below_set ?_ GE433.out)|exact HB.out))):w.heap.size≤gb442));have n5_:=Aside0.mk ((by rw [hg];exact Nat.ne_of_lt (blk_lt (g:=gb433) (o:=.cells #[.string a0_0,.int .u16 a0_1,.int .u32 a0_2,.string a0_3] 32 (0,0)) (by (with_reducible repeat (first|apply blk_drewN|apply blk_drew|apply blk_alloc));exact BK433.out)):gb433≠gb442));have n6_:=Aside0.mk ((by rw [hg];exact Nat.ne_of_gt (blk_lt (g:=gb433) (o:=.cells #[.string a0_0,.int .u16 a0_1,.int .u32 a0_2,.string a0_3] 32 (0,0)) (by (with_reducible repeat (first|apply blk_drewN|apply blk_drew|apply blk_alloc));exact BK433.out)):gb442≠gb433));clear BK433;clear HB;have BK433:=n0_;have HB:=n1_;have BK442:=n2_;have GW442:=n3_;have GE442:=n4_;have NB433_442:=n5_;have NB442_433:=n6_;clear n0_ n1_ n2_ n3_ n4_ n5_ n6_;clear hb hbox hg;have hnb7:=NB442_433.out;have hnc7:=NB433_442.out;have hcz8_0:w6.cell? ⟨gb442,0,none⟩ = some (.string (⟨#[]⟩:ByteArray)):=(blk_cell BK442.out 0).trans rfl;have hcz8_1:w6.cell? ⟨gb442,1,none⟩ = some (.string (⟨#[]⟩:ByteArray)):=(blk_cell BK442.out 1).trans rfl;have hcz8_2:w6.cell? ⟨gb442,2,none⟩ = some (.int .u32 0):=(blk_cell BK442.out 2).trans rfl;have hcz8_3:w6.cell? ⟨gb442,3,none⟩ = some (.int .u32 0):=(blk_cell BK442.out 3).trans rfl;have hcz8_4:w6.cell? ⟨gb442,4,none⟩ = some (.int .u32 0):=(blk_cell BK442.out 4).trans rfl;have hcz8_5:w6.cell? ⟨gb442,5,none⟩ = some (.int .u32 0):=(blk_cell BK442.out 5).trans rfl;have hcz8_6:w6.cell? ⟨gb442,6,none⟩ = some (.int .u32 0):=(blk_cell BK442.out 6).trans rfl;have hfz8_0:=blk_frozen BK442.out 0;have hfz8_1:=blk_frozen BK442.out 1;have hfz8_2:=blk_frozen BK442.out 2;have hfz8_3:=blk_frozen BK442.out 3;have hfz8_4:=blk_frozen BK442.out 4;have hfz8_5:=blk_frozen BK442.out 5;have hfz8_6:=blk_frozen BK442.out 6))
 go_ret
 exact ⟨by first|rfl|(simp [errW_none,errW_some] <;> rfl)|(simp [*,errW_none,errW_some] <;> rfl),by repeat (first|(with_reducible first|exact HB.out|apply below_alloc|apply pw_below_drewN|apply below_drew1|refine below_set ?_ GE433.out|refine below_set ?_ GE442.out)|exact HB.out)⟩
end Go.Proofs.YtlobjcokopfbkaaDoor.PY
