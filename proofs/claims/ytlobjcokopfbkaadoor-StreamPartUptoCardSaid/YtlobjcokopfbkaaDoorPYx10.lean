import Derived.Test.YtlobjcokopfbkaaDoorPYx0
import Derived.Test.YtlobjcokopfbkaaDoorPYx1
import Derived.Test.YtlobjcokopfbkaaDoorPYx2
import Derived.Test.YtlobjcokopfbkaaDoorPYx8
import Derived.Test.YtlobjcokopfbkaaDoorPYx9
namespace Go.Proofs.YtlobjcokopfbkaaDoor.PY
open Go.RowKit Go.Proofs.YtlobjcokopfbkaaDoorW.PrintWords Go.Proofs.YtlobjcokopfbkaaDoorW.PrintLast Go.Proofs.YtlobjcokopfbkaaDoorW.PrintMore
attribute [local go_sem] max2_int min2_int max_two min_two max_three min_three max_four min_four   -- for this text's walks alone
open List (setIfInBounds_toArray set_cons_zero set_cons_succ)
set_option linter.unusedVariables false
set_option linter.unusedSimpArgs false
attribute [local go_sem high] eqA32
attribute [local go_sem] errW_none errW_some
section
variable {P:Program} {ops:Array Oper} {Q:Exit→Act→World→Prop}
theorem goesT_ {oi:Oper} {N:Option Tmp} {a:Act} {w:World} {K:Act→World→Prop} {f:FuncId} {fn:Func} {ps:Array Operand} {ts:Array TypeId} (hf:P.funcs[f]? = some fn) (hname:(fn.name == "runtime.NumGoroutine") = false) (hb:fn.body.isSome = true) (args:Array Value) {t:Tmp}
  (hw:Region.wanted oi (yielded ops a.tmps) = true) (hN:oi.dst = N) (hop:oi.op = .call { callee:=.value (.tmp t),args:=ps,argTypes:=ts }) (hx:a.eval (.tmp t) = a.eval (.func f)) (hargs:ps.map a.eval = args)
  (h:Calls P f args w fun e w'=>∃ v,e = .returned v∧K (a.put N v) w'):if Region.wanted oi (yielded ops a.tmps) = true then Oper.wp P oi a w K Q else K (a.put N undef) w:=by
 refine call_ f args hw hN ?_ h
 have he:=enters_ hf hname hb args w
 unfold execOp
 simp only [Act.eval] at hx hargs
 simp [hop,resolve,Deferred.ofValue,invoke,hx,Act.eval,hargs,he]
end
def bolterlaw09_awake.T3:Bool × List (List Nat × List Nat):=(true,[([],[]),([0],[0]),([],[]),([2,1],[2]),([],[]),([],[]),([5,3],[5]),([],[]),([],[]),([8,6],[8]),([1,3,4,6,7,9],[1,3,4,6,7,9]),([10,9],[10]),([11],[11]),([12],[12]),([12],[12]),([],[]),([15,13,11,0,1,2,3,4,5,6,7,8,9,10,11,12,13,15],[13,15]),([14,16,0,1,2,3,4,5,6,7,8,9,10,11,12,13,14,15,16],[14])])
def bolterlaw09_awake.B3:List Nat:=[0,1,0,7,0,0,47,0,0,367,1023,2047,4095,8191,8191,0,49151,131071]
theorem bolterlaw09_awake.tab3:rtab .any (opsOf Tryd.f7 3) = bolterlaw09_awake.T3:=by kernel_rfl
theorem bolterlaw09_awake.bits3:waitsOk bolterlaw09_awake.T3.2 bolterlaw09_awake.B3 = true:=by kernel_rfl
def bolterlaw09_awake.T4:Bool × List (List Nat × List Nat):=(true,[([],[]),([0],[0]),([1],[1]),([2],[2]),([3,2],[2,3]),([4,2],[2,4]),([5,2],[2,5]),([2,6],[2,6]),([7,2],[7]),([8],[8]),([9,8],[8,9]),([10,8],[8,10]),([11,8],[8,11]),([12,8],[8,12]),([13,8],[8,13]),([14,8],[8,14]),([8,15],[8,15]),([16,8],[16]),([17],[17]),([18,17],[17,18]),([19,17],[17,19]),([20,17],[17,20]),([21,17],[17,21]),([22,17],[17,22]),([23,17],[17,23]),([17,24],[17,24]),([25,17],[25]),([26],[26]),([27,26],[26,27]),([28,26],[26,28]),([29,26],[26,29]),([30,26],[26,30]),([31,26],[26,31]),([32,26],[26,32]),([26],[26]),([33,34,26],[26,33,34]),([26,35],[26,35]),([36,26],[36]),([37],[37]),([38,37],[37,38]),([39,37],[37,39]),([40,37],[37,40]),([41,37],[37,41]),([42,37],[37,42]),([43,37],[37,43]),([37],[37]),([44,45,37],[37,44,45]),([37,46],[37,46]),([47,37],[47]),([48],[48]),([49,48,48],[48,49]),([50,48],[48,50]),([51,50,48],[48,51]),([48,52],[48,52]),([53,52,0,1,2,3,4,5,6,7,8,9,10,11,12,13,14,15,16,17,18,19,20,21,22,23,24,25,26,27,28,29,30,31,32,33,34,35,36,37,38,39,40,41,42,43,44,45,46,47,48,49,50,51,52,53],[53])])
def bolterlaw09_awake.B4:List Nat:=[0,1,3,7,15,31,63,127,255,511,1023,2047,4095,8191,16383,32767,65535,131071,262143,524287,1048575,2097151,4194303,8388607,16777215,33554431,67108863,134217727,268435455,536870911,1073741823,2147483647,4294967295,8589934591,134217727,34359738367,68719476735,137438953471,274877906943,549755813887,1099511627775,2199023255551,4398046511103,8796093022207,17592186044415,274877906943,70368744177663,140737488355327,281474976710655,562949953421311,1125899906842623,2251799813685247,4503599627370495,9007199254740991,18014398509481983]
theorem bolterlaw09_awake.tab4:rtab .any (opsOf Tryd.f7 4) = bolterlaw09_awake.T4:=by kernel_rfl
theorem bolterlaw09_awake.bits4:waitsOk bolterlaw09_awake.T4.2 bolterlaw09_awake.B4 = true:=by kernel_rfl
set_option maxHeartbeats 8000000 in
set_option maxRecDepth 100000 in
theorem bolterlaw09_awake.walk (k:Nat) (w:World) (t283 t286 t287 t290 t291 t294 t295 t298 t318 t321:ByteArray) (t284 t285 t288 t289 t292 t293 t296 t297 t319 t320:Int) (y299 y322:List S32) (t302:Bool) (t303:List S32) (t306:List S57)
  (A1:Aside0 (bolterlaw09_awake_1.f k 3 = some (t283,t284,t285,t286))) (A2:Aside0 (bolterlaw09_awake_1.f k 2 = some (t287,t288,t289,t290))) (A3:Aside0 (bolterlaw09_awake_1.f k 3 = some (t291,t292,t293,t294))) (A4:Aside0 (bolterlaw09_awake_1.f k 3 = some (t295,t296,t297,t298)))
  (Ny299:Aside0 (y299 = (([(⟨t283,t284,t285,t286⟩:S32),(⟨t287,t288,t289,t290⟩:S32),(⟨(⟨#[1,120]⟩:ByteArray),99,0,(⟨#[]⟩:ByteArray)⟩:S32),(⟨t291,t292,t293,t294⟩:S32),(⟨(⟨#[1,121]⟩:ByteArray),99,0,(⟨#[]⟩:ByteArray)⟩:S32),(⟨t295,t296,t297,t298⟩:S32)]:List (S32))))) (A5:Aside0 (stream_Part.f k (⟨#[]⟩:ByteArray) 2 y299 = some (t302,t303,t306,none)))
  (c6b0:((t306.length:Int) == 1) = true)
  (c6b1:((t306.length:Int) != 1) = false)
  (c7b0:decide (0 < (t306.length:Int)) = true)
  (c7b1:decide (0 < t306.length) = true)
  (c8b0:((((rd_T57 t306 0).f2).length:Int) == 1) = true)
  (c8b1:((((rd_T57 t306 0).f2).length:Int) != 1) = false)
  (c9b0:((((rd_T57 t306 0).f3).length:Int) == 1) = true)
  (c9b1:((((rd_T57 t306 0).f3).length:Int) != 1) = false)
  (c10b0:decide (0 < (((rd_T57 t306 0).f2).length:Int)) = true)
  (c10b1:decide (0 < ((rd_T57 t306 0).f2).length) = true)
  (c11b0:((((rd_T32 ((rd_T57 t306 0).f2) 0).f0).toList) == ([1,120]:List UInt8) && (((rd_T32 ((rd_T57 t306 0).f2) 0).f1) == 99 && (((rd_T32 ((rd_T57 t306 0).f2) 0).f2) == 0 && ((((rd_T32 ((rd_T57 t306 0).f2) 0).f3).toList) == ([]:List UInt8))))) = true)
  (c11b2:((((rd_T32 ((rd_T57 t306 0).f2) 0).f0).toList) == ([1,120]:List UInt8) && (((rd_T32 ((rd_T57 t306 0).f2) 0).f1) == 99 && (((rd_T32 ((rd_T57 t306 0).f2) 0).f2) == 0 && (((rd_T32 ((rd_T57 t306 0).f2) 0).f3).toList.isEmpty)))) = true)
  (c12b0:decide (0 < (((rd_T57 t306 0).f3).length:Int)) = true)
  (c12b1:decide (0 < ((rd_T57 t306 0).f3).length) = true)
  (c13b0:((((rd_T32 ((rd_T57 t306 0).f3) 0).f0).toList) == ([1,121]:List UInt8) && (((rd_T32 ((rd_T57 t306 0).f3) 0).f1) == 99 && (((rd_T32 ((rd_T57 t306 0).f3) 0).f2) == 0 && ((((rd_T32 ((rd_T57 t306 0).f3) 0).f3).toList) == ([]:List UInt8))))) = true)
  (c13b2:((((rd_T32 ((rd_T57 t306 0).f3) 0).f0).toList) == ([1,121]:List UInt8) && (((rd_T32 ((rd_T57 t306 0).f3) 0).f1) == 99 && (((rd_T32 ((rd_T57 t306 0).f3) 0).f2) == 0 && (((rd_T32 ((rd_T57 t306 0).f3) 0).f3).toList.isEmpty)))) = true)
  (A14:Aside0 (bolterlaw09_awake_1.f k 3 = some (t318,t319,t320,t321))) (Ny322:Aside0 (y322 = (([(⟨t318,t319,t320,t321⟩:S32)]:List (S32))))) (A15:Aside0 (stream_Done.f k y322 = some true)) :
  Calls Tryd.prog 7 #[] w fun e w'=>e = .returned (.bool true)∧Below w.heap.size w w':=by
 have hu32:=Tryd.underlying32
 have hu48:=Tryd.underlying48
 have hu35:=Tryd.underlying35
 have hu39:=Tryd.underlying39
 have HB:=Aside0.mk (Below.refl w.heap.size w)
 go_enter Tryd.func7,Tryd.ntmps7
 try go_wp2_with (first|((with_reducible refine gate_dst (N:=2) rfl ?_);(try (refine gate_guard (by rfl) ?_;dsimp only));refine box_event ?hg (N:=2) ?hd (cs:=#[.string (⟨#[]⟩:ByteArray),.int .u16 0,.int .u32 0,.string (⟨#[]⟩:ByteArray)]) (t:=32) ?hr ?_;(case hd=>rfl);(case hg=>rfl);(case hr=>first|(go_simp;done)|(go_simp;rfl));intro gb281 hg w16 hbox hb;have n0_:=Aside0.mk (below_step (by repeat (first|(with_reducible first|exact HB.out|apply below_alloc|apply pw_below_drewN|apply below_drew1)|exact HB.out)) hb);have n1_:=Aside0.mk (hbox);have n2_:=Aside0.mk ((by rw [hg];exact (below_size (by repeat (first|(with_reducible first|exact HB.out|apply below_alloc|apply pw_below_drewN|apply below_drew1)|exact HB.out))):w.heap.size≤gb281));have n3_:=Aside0.mk ((by rw [hg];exact (below_size (by repeat (first|(with_reducible first|exact HB.out|apply below_alloc|apply pw_below_drewN|apply below_drew1)|exact HB.out))):w.heap.size≤gb281));clear HB;have HB:=n0_;have BK281:=n1_;have GW281:=n2_;have GE281:=n3_;clear n0_ n1_ n2_ n3_;clear hb hbox hg)|((with_reducible refine gate_dst (N:=3) rfl ?_);(try (refine gate_guard (by rfl) ?_;dsimp only));refine box_event ?hg (N:=3) ?hd (cs:=#[.string (⟨#[]⟩:ByteArray),.int .u16 0,.int .u32 0,.string (⟨#[]⟩:ByteArray)]) (t:=32) ?hr ?_;(case hd=>rfl);(case hg=>rfl);(case hr=>first|(go_simp;done)|(go_simp;rfl));intro gb282 hg w17 hbox hb;have n0_:=Aside0.mk (blk_below (g:=gb281) (o:=.cells #[.string (⟨#[]⟩:ByteArray),.int .u16 0,.int .u32 0,.string (⟨#[]⟩:ByteArray)] 32 (0,0)) (by (with_reducible repeat (first|apply blk_drewN|apply blk_drew|apply blk_alloc));exact BK281.out) hb);have n1_:=Aside0.mk (below_step (by repeat (first|(with_reducible first|exact HB.out|apply below_alloc|apply pw_below_drewN|apply below_drew1|refine below_set ?_ GE281.out)|exact HB.out)) hb);have n2_:=Aside0.mk (hbox);have n3_:=Aside0.mk ((by rw [hg];exact (below_size (by repeat (first|(with_reducible first|exact HB.out|apply below_alloc|apply pw_below_drewN|apply below_drew1|refine below_set ?_ GE281.out)|exact HB.out))):w.heap.size≤gb282));have n4_:=Aside0.mk ((by rw [hg];exact (below_size (by repeat (first|(with_reducible first|exact HB.out|apply below_alloc|apply pw_below_drewN|apply below_drew1|refine below_set ?_ GE281.out)|exact HB.out))):w.heap.size≤gb282));have n5_:=Aside0.mk ((by rw [hg];exact Nat.ne_of_lt (blk_lt (g:=gb281) (o:=.cells #[.string (⟨#[]⟩:ByteArray),.int .u16 0,.int .u32 0,.string (⟨#[]⟩:ByteArray)] 32 (0,0)) (by (with_reducible repeat (first|apply blk_drewN|apply blk_drew|apply blk_alloc));exact BK281.out)):gb281≠gb282));have n6_:=Aside0.mk ((by rw [hg];exact Nat.ne_of_gt (blk_lt (g:=gb281) (o:=.cells #[.string (⟨#[]⟩:ByteArray),.int .u16 0,.int .u32 0,.string (⟨#[]⟩:ByteArray)] 32 (0,0)) (by (with_reducible repeat (first|apply blk_drewN|apply blk_drew|apply blk_alloc));exact BK281.out)):gb282≠gb281));clear BK281;clear HB;have BK281:=n0_;have HB:=n1_;have BK282:=n2_;have GW282:=n3_;have GE282:=n4_;have NB281_282:=n5_;have NB282_281:=n6_;clear n0_ n1_ n2_ n3_ n4_ n5_ n6_;clear hb hbox hg;have hnb18:=NB281_282.out;have hnc18:=NB282_281.out;have hcz19_0:w17.cell? ⟨gb281,0,none⟩ = some (.string (⟨#[]⟩:ByteArray)):=(blk_cell BK281.out 0).trans rfl;have hcz19_1:w17.cell? ⟨gb281,1,none⟩ = some (.int .u16 0):=(blk_cell BK281.out 1).trans rfl;have hcz19_2:w17.cell? ⟨gb281,2,none⟩ = some (.int .u32 0):=(blk_cell BK281.out 2).trans rfl;have hcz19_3:w17.cell? ⟨gb281,3,none⟩ = some (.string (⟨#[]⟩:ByteArray)):=(blk_cell BK281.out 3).trans rfl;have hfz19_0:=blk_frozen BK281.out 0;have hfz19_1:=blk_frozen BK281.out 1;have hfz19_2:=blk_frozen BK281.out 2;have hfz19_3:=blk_frozen BK281.out 3;have hcz20_0:w17.cell? ⟨gb282,0,none⟩ = some (.string (⟨#[]⟩:ByteArray)):=(blk_cell BK282.out 0).trans rfl;have hcz20_1:w17.cell? ⟨gb282,1,none⟩ = some (.int .u16 0):=(blk_cell BK282.out 1).trans rfl;have hcz20_2:w17.cell? ⟨gb282,2,none⟩ = some (.int .u32 0):=(blk_cell BK282.out 2).trans rfl;have hcz20_3:w17.cell? ⟨gb282,3,none⟩ = some (.string (⟨#[]⟩:ByteArray)):=(blk_cell BK282.out 3).trans rfl;have hfz20_0:=blk_frozen BK282.out 0;have hfz20_1:=blk_frozen BK282.out 1;have hfz20_2:=blk_frozen BK282.out 2;have hfz20_3:=blk_frozen BK282.out 3))
 have n0_:Aside0 (((((((((w17.setCell ⟨gb281,0,none⟩ (.string (⟨#[1,120]⟩:ByteArray))).setCell ⟨gb281,1,none⟩ (.int .u16 99)).setCell ⟨gb281,2,none⟩ (.int .u32 0)).setCell ⟨gb281,3,none⟩ (.string (⟨#[]⟩:ByteArray))).setCell ⟨gb282,0,none⟩ (.string (⟨#[1,121]⟩:ByteArray))).setCell ⟨gb282,1,none⟩ (.int .u16 99)).setCell ⟨gb282,2,none⟩ (.int .u32 0)).setCell ⟨gb282,3,none⟩ (.string (⟨#[]⟩:ByteArray))).heap[gb281]? = some (.cells #[.string (⟨#[1,120]⟩:ByteArray),.int .u16 99,.int .u32 0,.string (⟨#[]⟩:ByteArray)] 32 (0,0))):=⟨by (with_reducible repeat (first|apply blk_drewN|apply blk_drew|apply blk_alloc));refine blk_far ?_ NB281_282.out _;(with_reducible repeat (first|apply blk_drewN|apply blk_drew|apply blk_alloc));refine blk_far ?_ NB281_282.out _;(with_reducible repeat (first|apply blk_drewN|apply blk_drew|apply blk_alloc));refine blk_far ?_ NB281_282.out _;(with_reducible repeat (first|apply blk_drewN|apply blk_drew|apply blk_alloc));refine blk_far ?_ NB281_282.out _;(with_reducible repeat (first|apply blk_drewN|apply blk_drew|apply blk_alloc));refine blk_put (cs:=#[.string (⟨#[1,120]⟩:ByteArray),.int .u16 99,.int .u32 0,.string (⟨#[]⟩:ByteArray)]) ?_ 3 _ rfl;(with_reducible repeat (first|apply blk_drewN|apply blk_drew|apply blk_alloc));refine blk_put (cs:=#[.string (⟨#[1,120]⟩:ByteArray),.int .u16 99,.int .u32 0,.string (⟨#[]⟩:ByteArray)]) ?_ 2 _ rfl;(with_reducible repeat (first|apply blk_drewN|apply blk_drew|apply blk_alloc));refine blk_put (cs:=#[.string (⟨#[1,120]⟩:ByteArray),.int .u16 0,.int .u32 0,.string (⟨#[]⟩:ByteArray)]) ?_ 1 _ rfl;(with_reducible repeat (first|apply blk_drewN|apply blk_drew|apply blk_alloc));refine blk_put (cs:=#[.string (⟨#[]⟩:ByteArray),.int .u16 0,.int .u32 0,.string (⟨#[]⟩:ByteArray)]) ?_ 0 _ rfl;(with_reducible repeat (first|apply blk_drewN|apply blk_drew|apply blk_alloc));exact BK281.out⟩
 have n1_:Aside0 (((((((((w17.setCell ⟨gb281,0,none⟩ (.string (⟨#[1,120]⟩:ByteArray))).setCell ⟨gb281,1,none⟩ (.int .u16 99)).setCell ⟨gb281,2,none⟩ (.int .u32 0)).setCell ⟨gb281,3,none⟩ (.string (⟨#[]⟩:ByteArray))).setCell ⟨gb282,0,none⟩ (.string (⟨#[1,121]⟩:ByteArray))).setCell ⟨gb282,1,none⟩ (.int .u16 99)).setCell ⟨gb282,2,none⟩ (.int .u32 0)).setCell ⟨gb282,3,none⟩ (.string (⟨#[]⟩:ByteArray))).heap[gb282]? = some (.cells #[.string (⟨#[1,121]⟩:ByteArray),.int .u16 99,.int .u32 0,.string (⟨#[]⟩:ByteArray)] 32 (0,0))):=⟨by (with_reducible repeat (first|apply blk_drewN|apply blk_drew|apply blk_alloc));refine blk_put (cs:=#[.string (⟨#[1,121]⟩:ByteArray),.int .u16 99,.int .u32 0,.string (⟨#[]⟩:ByteArray)]) ?_ 3 _ rfl;(with_reducible repeat (first|apply blk_drewN|apply blk_drew|apply blk_alloc));refine blk_put (cs:=#[.string (⟨#[1,121]⟩:ByteArray),.int .u16 99,.int .u32 0,.string (⟨#[]⟩:ByteArray)]) ?_ 2 _ rfl;(with_reducible repeat (first|apply blk_drewN|apply blk_drew|apply blk_alloc));refine blk_put (cs:=#[.string (⟨#[1,121]⟩:ByteArray),.int .u16 0,.int .u32 0,.string (⟨#[]⟩:ByteArray)]) ?_ 1 _ rfl;(with_reducible repeat (first|apply blk_drewN|apply blk_drew|apply blk_alloc));refine blk_put (cs:=#[.string (⟨#[]⟩:ByteArray),.int .u16 0,.int .u32 0,.string (⟨#[]⟩:ByteArray)]) ?_ 0 _ rfl;(with_reducible repeat (first|apply blk_drewN|apply blk_drew|apply blk_alloc));refine blk_far ?_ NB282_281.out _;(with_reducible repeat (first|apply blk_drewN|apply blk_drew|apply blk_alloc));refine blk_far ?_ NB282_281.out _;(with_reducible repeat (first|apply blk_drewN|apply blk_drew|apply blk_alloc));refine blk_far ?_ NB282_281.out _;(with_reducible repeat (first|apply blk_drewN|apply blk_drew|apply blk_alloc));refine blk_far ?_ NB282_281.out _;(with_reducible repeat (first|apply blk_drewN|apply blk_drew|apply blk_alloc));exact BK282.out⟩
 have n2_:Aside0 (Below w.heap.size w ((((((((w17.setCell ⟨gb281,0,none⟩ (.string (⟨#[1,120]⟩:ByteArray))).setCell ⟨gb281,1,none⟩ (.int .u16 99)).setCell ⟨gb281,2,none⟩ (.int .u32 0)).setCell ⟨gb281,3,none⟩ (.string (⟨#[]⟩:ByteArray))).setCell ⟨gb282,0,none⟩ (.string (⟨#[1,121]⟩:ByteArray))).setCell ⟨gb282,1,none⟩ (.int .u16 99)).setCell ⟨gb282,2,none⟩ (.int .u32 0)).setCell ⟨gb282,3,none⟩ (.string (⟨#[]⟩:ByteArray)))):=⟨by repeat (first|(with_reducible first|exact HB.out|apply below_alloc|apply pw_below_drewN|apply below_drew1|refine below_set ?_ GE281.out|refine below_set ?_ GE282.out)|exact HB.out)⟩
 (try clear BK281)
 (try clear BK282)
 (try clear HB)
 generalize ((((((((w17.setCell ⟨gb281,0,none⟩ (.string (⟨#[1,120]⟩:ByteArray))).setCell ⟨gb281,1,none⟩ (.int .u16 99)).setCell ⟨gb281,2,none⟩ (.int .u32 0)).setCell ⟨gb281,3,none⟩ (.string (⟨#[]⟩:ByteArray))).setCell ⟨gb282,0,none⟩ (.string (⟨#[1,121]⟩:ByteArray))).setCell ⟨gb282,1,none⟩ (.int .u16 99)).setCell ⟨gb282,2,none⟩ (.int .u32 0)).setCell ⟨gb282,3,none⟩ (.string (⟨#[]⟩:ByteArray))) = w21 at n0_ n1_ n2_ ⊢
 have BK281:=n0_
 have BK282:=n1_
 have HB:=n2_
 clear n0_ n1_ n2_
 have n0_:=Aside0.mk (blk_drew BK281.out)
 have n1_:=Aside0.mk (blk_drew BK282.out)
 have n2_:=Aside0.mk (below_drew1 HB.out)
 clear BK281
 clear BK282
 clear HB
 have BK281:=n0_
 have BK282:=n1_
 have HB:=n2_
 clear n0_ n1_ n2_
 refine start_ (n:=18) (S:=fun w'=>w'.cell? ⟨gb281,0,none⟩ = some (.string (⟨#[1,120]⟩:ByteArray))∧w'.cell? ⟨gb281,1,none⟩ = some (.int .u16 99)∧w'.cell? ⟨gb281,2,none⟩ = some (.int .u32 0)∧w'.cell? ⟨gb281,3,none⟩ = some (.string (⟨#[]⟩:ByteArray))∧w'.cell? ⟨gb282,0,none⟩ = some (.string (⟨#[1,121]⟩:ByteArray))∧w'.cell? ⟨gb282,1,none⟩ = some (.int .u16 99)∧w'.cell? ⟨gb282,2,none⟩ = some (.int .u32 0)∧w'.cell? ⟨gb282,3,none⟩ = some (.string (⟨#[]⟩:ByteArray))) (ds:=[]) #[false,false,false,false,false,false,false,false,false,false,false,false,false,false,false,false,false,false] (by kernel_rfl) rfl rfl ⟨(blk_cell BK281.out 0).trans rfl,(blk_cell BK281.out 1).trans rfl,(blk_cell BK281.out 2).trans rfl,(blk_cell BK281.out 3).trans rfl,(blk_cell BK282.out 0).trans rfl,(blk_cell BK282.out 1).trans rfl,(blk_cell BK282.out 2).trans rfl,(blk_cell BK282.out 3).trans rfl⟩ (fun hHeld=>?_);refine with_tabW bolterlaw09_awake.tab3 bolterlaw09_awake.bits3 (fun HT_ HW_=>?_)
 generalize w21.drew = w22 at BK281 BK282 HB hHeld ⊢
 refine pure_ (i:=0) (N:=some 9) (v:=?_) (a':=?_) #[true,false,false,false,false,false,false,false,false,false,false,false,false,false,false,false,false,false] rfl rfl (any_of HT_.out (by kernel_rfl)) (fun _ _ _ h=>h) (Or.inl ⟨by rfl,?_⟩) ?_ ?_
 rotate_left
 ·intro w'
  go_simp
  with_reducible rfl
 rotate_left
 ·simp only [Act.put,setIfInBounds_toArray,set_cons_zero,set_cons_succ,i64_w,i32_w]
  rfl
 refine pure_ (i:=2) (N:=some 11) (v:=?_) (a':=?_) #[true,false,true,false,false,false,false,false,false,false,false,false,false,false,false,false,false,false] rfl rfl (any_of HT_.out (by kernel_rfl)) (fun _ _ _ h=>h) (Or.inl ⟨by rfl,?_⟩) ?_ ?_
 rotate_left
 ·intro w'
  go_simp
  with_reducible rfl
 rotate_left
 ·simp only [Act.put,setIfInBounds_toArray,set_cons_zero,set_cons_succ,i64_w,i32_w]
  rfl
 refine pure_ (i:=5) (N:=some 14) (v:=?_) (a':=?_) #[true,false,true,false,false,true,false,false,false,false,false,false,false,false,false,false,false,false] rfl rfl (any_of HT_.out (by kernel_rfl)) (fun _ _ _ h=>h) (Or.inl ⟨by rfl,?_⟩) ?_ ?_
 rotate_left
 ·intro w'
  go_simp
  with_reducible rfl
 rotate_left
 ·simp only [Act.put,setIfInBounds_toArray,set_cons_zero,set_cons_succ,i64_w,i32_w]
  rfl
 refine pure_ (i:=8) (N:=some 17) (v:=?_) (a':=?_) #[true,false,true,false,false,true,false,false,true,false,false,false,false,false,false,false,false,false] rfl rfl (any_of HT_.out (by kernel_rfl)) (fun _ _ _ h=>h) (Or.inl ⟨by rfl,?_⟩) ?_ ?_
 rotate_left
 ·intro w'
  go_simp
  with_reducible rfl
 rotate_left
 ·simp only [Act.put,setIfInBounds_toArray,set_cons_zero,set_cons_succ,i64_w,i32_w]
  rfl
 refine take_ (i:=4) (N:=some 13) (v:=?_) (a':=?_) #[true,false,true,false,true,true,false,false,true,false,false,false,false,false,false,false,false,false] rfl rfl (take_ofW HT_.out HW_.out (by kernel_rfl)) (fun _ _ _ h=>h) (Or.inl ⟨by rfl,?_⟩) hHeld ?_ ?_
 rotate_left
 ·rintro w' ⟨s0,s1,s2,s3,s4,s5,s6,s7⟩
  go_simp
  with_reducible rfl
 rotate_left
 ·simp only [Act.put,setIfInBounds_toArray,set_cons_zero,set_cons_succ,i64_w,i32_w]
  rfl
 refine take_ (i:=7) (N:=some 16) (v:=?_) (a':=?_) #[true,false,true,false,true,true,false,true,true,false,false,false,false,false,false,false,false,false] rfl rfl (take_ofW HT_.out HW_.out (by kernel_rfl)) (fun _ _ _ h=>h) (Or.inl ⟨by rfl,?_⟩) hHeld ?_ ?_
 rotate_left
 ·rintro w' ⟨s0,s1,s2,s3,s4,s5,s6,s7⟩
  go_simp
  with_reducible rfl
 rotate_left
 ·simp only [Act.put,setIfInBounds_toArray,set_cons_zero,set_cons_succ,i64_w,i32_w]
  rfl
 refine join_ (σ:=Value × Value × Value × Nat) 2 #[true,true,true,true,true,true,true,true,true,true,true,true,true,true,true,true,false,false] (fun s_=>[(10,.agg #[.string t283,.int .u16 t284,.int .u32 t285,.string t286]),(12,.agg #[.string t287,.int .u16 t288,.int .u32 t289,.string t290]),(15,.agg #[.string t291,.int .u16 t292,.int .u32 t293,.string t294]),(18,.agg #[.string t295,.int .u16 t296,.int .u32 t297,.string t298]),(19,s_.1),(20,.tuple #[.agg #[.bool t302,s_.2.1,s_.2.2.1],errW none]),(4,.pointer (some ⟨s_.2.2.2,0,none⟩)),(8,.tuple #[.agg #[.bool t302,s_.2.1,s_.2.2.1],errW none]),(21,.agg #[.bool t302,s_.2.1,s_.2.2.1]),(22,errW none)]) (fun s_ w'=>(w'.cell? ⟨gb281,0,none⟩ = some (.string (⟨#[1,120]⟩:ByteArray))∧w'.cell? ⟨gb281,1,none⟩ = some (.int .u16 99)∧w'.cell? ⟨gb281,2,none⟩ = some (.int .u32 0)∧w'.cell? ⟨gb281,3,none⟩ = some (.string (⟨#[]⟩:ByteArray))∧w'.cell? ⟨gb282,0,none⟩ = some (.string (⟨#[1,121]⟩:ByteArray))∧w'.cell? ⟨gb282,1,none⟩ = some (.int .u16 99)∧w'.cell? ⟨gb282,2,none⟩ = some (.int .u32 0)∧w'.cell? ⟨gb282,3,none⟩ = some (.string (⟨#[]⟩:ByteArray)))∧(Kd.R k32 32 w' w.heap.size (fun k_=>some k_≠(s_.2.1:Value).ownBlock∧k_≠gb281∧k_≠gb282) s_.1 y299)∧(Kd.R k32 32 w' w.heap.size (fun k_=>some k_≠(s_.1:Value).ownBlock∧k_≠gb281∧k_≠gb282) s_.2.1 t303)∧(Kd.S k57 57 w' w.heap.size (fun k_=>some k_≠(s_.1:Value).ownBlock∧some k_≠(s_.2.1:Value).ownBlock∧k_≠gb281∧k_≠gb282) s_.2.2.1 t306)∧(w'.heap[gb281]? = some (.cells #[.string (⟨#[1,120]⟩:ByteArray),.int .u16 99,.int .u32 0,.string (⟨#[]⟩:ByteArray)] 32 (0,0)))∧(w'.heap[gb282]? = some (.cells #[.string (⟨#[1,121]⟩:ByteArray),.int .u16 99,.int .u32 0,.string (⟨#[]⟩:ByteArray)] 32 (0,0)))∧(w'.heap[s_.2.2.2]? = some (.cells #[.bool false,.slice none 0 0,.slice none 0 0] 48 (0,0)))∧(w.heap.size≤s_.2.2.2)∧(w.heap.size≤s_.2.2.2)∧(gb281≠s_.2.2.2)∧(s_.2.2.2≠gb281)∧(gb282≠s_.2.2.2)∧(s_.2.2.2≠gb282)∧(Below w.heap.size w w')) ?_ ?_
 rotate_left
 ·intro hJ1_3_6_9_10_11_15
  refine join_ (σ:=Value × Value × Value) 3 #[true,true,true,true,true,true,true,true,true,true,true,true,true,true,true,false,false,false] (fun s_=>[(10,.agg #[.string t283,.int .u16 t284,.int .u32 t285,.string t286]),(12,.agg #[.string t287,.int .u16 t288,.int .u32 t289,.string t290]),(15,.agg #[.string t291,.int .u16 t292,.int .u32 t293,.string t294]),(18,.agg #[.string t295,.int .u16 t296,.int .u32 t297,.string t298]),(19,s_.1),(20,.tuple #[.agg #[.bool t302,s_.2.1,s_.2.2],errW none]),(8,.tuple #[.agg #[.bool t302,s_.2.1,s_.2.2],errW none]),(21,.agg #[.bool t302,s_.2.1,s_.2.2]),(22,errW none)]) (fun s_ w'=>(w'.cell? ⟨gb281,0,none⟩ = some (.string (⟨#[1,120]⟩:ByteArray))∧w'.cell? ⟨gb281,1,none⟩ = some (.int .u16 99)∧w'.cell? ⟨gb281,2,none⟩ = some (.int .u32 0)∧w'.cell? ⟨gb281,3,none⟩ = some (.string (⟨#[]⟩:ByteArray))∧w'.cell? ⟨gb282,0,none⟩ = some (.string (⟨#[1,121]⟩:ByteArray))∧w'.cell? ⟨gb282,1,none⟩ = some (.int .u16 99)∧w'.cell? ⟨gb282,2,none⟩ = some (.int .u32 0)∧w'.cell? ⟨gb282,3,none⟩ = some (.string (⟨#[]⟩:ByteArray)))∧(Kd.R k32 32 w' w.heap.size (fun k_=>some k_≠(s_.2.1:Value).ownBlock∧k_≠gb281∧k_≠gb282) s_.1 y299)∧(Kd.R k32 32 w' w.heap.size (fun k_=>some k_≠(s_.1:Value).ownBlock∧k_≠gb281∧k_≠gb282) s_.2.1 t303)∧(Kd.S k57 57 w' w.heap.size (fun k_=>some k_≠(s_.1:Value).ownBlock∧some k_≠(s_.2.1:Value).ownBlock∧k_≠gb281∧k_≠gb282) s_.2.2 t306)∧(w'.heap[gb281]? = some (.cells #[.string (⟨#[1,120]⟩:ByteArray),.int .u16 99,.int .u32 0,.string (⟨#[]⟩:ByteArray)] 32 (0,0)))∧(w'.heap[gb282]? = some (.cells #[.string (⟨#[1,121]⟩:ByteArray),.int .u16 99,.int .u32 0,.string (⟨#[]⟩:ByteArray)] 32 (0,0)))∧(Below w.heap.size w w')) ?_ ?_
  rotate_left
  ·intro hJ1_3_6_9_10_11
   refine join_ (σ:=Value × Nat) 6 #[true,true,true,true,true,true,true,true,true,true,true,false,false,false,false,true,false,false] (fun s_=>[(10,.agg #[.string t283,.int .u16 t284,.int .u32 t285,.string t286]),(12,.agg #[.string t287,.int .u16 t288,.int .u32 t289,.string t290]),(15,.agg #[.string t291,.int .u16 t292,.int .u32 t293,.string t294]),(18,.agg #[.string t295,.int .u16 t296,.int .u32 t297,.string t298]),(19,s_.1),(4,.pointer (some ⟨s_.2,0,none⟩))]) (fun s_ w'=>(w'.cell? ⟨gb281,0,none⟩ = some (.string (⟨#[1,120]⟩:ByteArray))∧w'.cell? ⟨gb281,1,none⟩ = some (.int .u16 99)∧w'.cell? ⟨gb281,2,none⟩ = some (.int .u32 0)∧w'.cell? ⟨gb281,3,none⟩ = some (.string (⟨#[]⟩:ByteArray))∧w'.cell? ⟨gb282,0,none⟩ = some (.string (⟨#[1,121]⟩:ByteArray))∧w'.cell? ⟨gb282,1,none⟩ = some (.int .u16 99)∧w'.cell? ⟨gb282,2,none⟩ = some (.int .u32 0)∧w'.cell? ⟨gb282,3,none⟩ = some (.string (⟨#[]⟩:ByteArray)))∧(Kd.R k32 32 w' w.heap.size (fun k_=>k_≠gb281∧k_≠gb282) s_.1 y299)∧(w'.heap[gb281]? = some (.cells #[.string (⟨#[1,120]⟩:ByteArray),.int .u16 99,.int .u32 0,.string (⟨#[]⟩:ByteArray)] 32 (0,0)))∧(w'.heap[gb282]? = some (.cells #[.string (⟨#[1,121]⟩:ByteArray),.int .u16 99,.int .u32 0,.string (⟨#[]⟩:ByteArray)] 32 (0,0)))∧(w'.heap[s_.2]? = some (.cells #[.bool false,.slice none 0 0,.slice none 0 0] 48 (0,0)))∧(w.heap.size≤s_.2)∧(w.heap.size≤s_.2)∧(gb281≠s_.2)∧(s_.2≠gb281)∧(gb282≠s_.2)∧(s_.2≠gb282)∧(Below w.heap.size w w')) ?_ ?_
   rotate_left
   ·intro hJ1_3_6_9_10_15
    refine join_ (σ:=Value) 7 #[true,true,true,true,true,true,true,true,true,true,true,false,false,false,false,false,false,false] (fun s_=>[(10,.agg #[.string t283,.int .u16 t284,.int .u32 t285,.string t286]),(12,.agg #[.string t287,.int .u16 t288,.int .u32 t289,.string t290]),(15,.agg #[.string t291,.int .u16 t292,.int .u32 t293,.string t294]),(18,.agg #[.string t295,.int .u16 t296,.int .u32 t297,.string t298]),(19,s_)]) (fun s_ w'=>(w'.cell? ⟨gb281,0,none⟩ = some (.string (⟨#[1,120]⟩:ByteArray))∧w'.cell? ⟨gb281,1,none⟩ = some (.int .u16 99)∧w'.cell? ⟨gb281,2,none⟩ = some (.int .u32 0)∧w'.cell? ⟨gb281,3,none⟩ = some (.string (⟨#[]⟩:ByteArray))∧w'.cell? ⟨gb282,0,none⟩ = some (.string (⟨#[1,121]⟩:ByteArray))∧w'.cell? ⟨gb282,1,none⟩ = some (.int .u16 99)∧w'.cell? ⟨gb282,2,none⟩ = some (.int .u32 0)∧w'.cell? ⟨gb282,3,none⟩ = some (.string (⟨#[]⟩:ByteArray)))∧(Kd.R k32 32 w' w.heap.size (fun k_=>k_≠gb281∧k_≠gb282) s_ y299)∧(w'.heap[gb281]? = some (.cells #[.string (⟨#[1,120]⟩:ByteArray),.int .u16 99,.int .u32 0,.string (⟨#[]⟩:ByteArray)] 32 (0,0)))∧(w'.heap[gb282]? = some (.cells #[.string (⟨#[1,121]⟩:ByteArray),.int .u16 99,.int .u32 0,.string (⟨#[]⟩:ByteArray)] 32 (0,0)))∧(Below w.heap.size w w')) ?_ ?_
    rotate_left
    ·intro hJ1_3_6_9_10
     refine join_ (σ:=Nat) 7 #[true,true,true,true,true,true,true,true,true,true,false,false,false,false,false,true,false,false] (fun s_=>[(10,.agg #[.string t283,.int .u16 t284,.int .u32 t285,.string t286]),(12,.agg #[.string t287,.int .u16 t288,.int .u32 t289,.string t290]),(15,.agg #[.string t291,.int .u16 t292,.int .u32 t293,.string t294]),(18,.agg #[.string t295,.int .u16 t296,.int .u32 t297,.string t298]),(4,.pointer (some ⟨s_,0,none⟩))]) (fun s_ w'=>(w'.cell? ⟨gb281,0,none⟩ = some (.string (⟨#[1,120]⟩:ByteArray))∧w'.cell? ⟨gb281,1,none⟩ = some (.int .u16 99)∧w'.cell? ⟨gb281,2,none⟩ = some (.int .u32 0)∧w'.cell? ⟨gb281,3,none⟩ = some (.string (⟨#[]⟩:ByteArray))∧w'.cell? ⟨gb282,0,none⟩ = some (.string (⟨#[1,121]⟩:ByteArray))∧w'.cell? ⟨gb282,1,none⟩ = some (.int .u16 99)∧w'.cell? ⟨gb282,2,none⟩ = some (.int .u32 0)∧w'.cell? ⟨gb282,3,none⟩ = some (.string (⟨#[]⟩:ByteArray)))∧(w'.heap[gb281]? = some (.cells #[.string (⟨#[1,120]⟩:ByteArray),.int .u16 99,.int .u32 0,.string (⟨#[]⟩:ByteArray)] 32 (0,0)))∧(w'.heap[gb282]? = some (.cells #[.string (⟨#[1,121]⟩:ByteArray),.int .u16 99,.int .u32 0,.string (⟨#[]⟩:ByteArray)] 32 (0,0)))∧(w'.heap[s_]? = some (.cells #[.bool false,.slice none 0 0,.slice none 0 0] 48 (0,0)))∧(w.heap.size≤s_)∧(w.heap.size≤s_)∧(gb281≠s_)∧(s_≠gb281)∧(gb282≠s_)∧(s_≠gb282)∧(Below w.heap.size w w')) ?_ ?_
     rotate_left
     ·intro hJ1_3_6_9_15
      refine join_ (σ:=Unit) 8 #[true,true,true,true,true,true,true,true,true,true,false,false,false,false,false,false,false,false] (fun s_=>[(10,.agg #[.string t283,.int .u16 t284,.int .u32 t285,.string t286]),(12,.agg #[.string t287,.int .u16 t288,.int .u32 t289,.string t290]),(15,.agg #[.string t291,.int .u16 t292,.int .u32 t293,.string t294]),(18,.agg #[.string t295,.int .u16 t296,.int .u32 t297,.string t298])]) (fun s_ w'=>(w'.cell? ⟨gb281,0,none⟩ = some (.string (⟨#[1,120]⟩:ByteArray))∧w'.cell? ⟨gb281,1,none⟩ = some (.int .u16 99)∧w'.cell? ⟨gb281,2,none⟩ = some (.int .u32 0)∧w'.cell? ⟨gb281,3,none⟩ = some (.string (⟨#[]⟩:ByteArray))∧w'.cell? ⟨gb282,0,none⟩ = some (.string (⟨#[1,121]⟩:ByteArray))∧w'.cell? ⟨gb282,1,none⟩ = some (.int .u16 99)∧w'.cell? ⟨gb282,2,none⟩ = some (.int .u32 0)∧w'.cell? ⟨gb282,3,none⟩ = some (.string (⟨#[]⟩:ByteArray)))∧(w'.heap[gb281]? = some (.cells #[.string (⟨#[1,120]⟩:ByteArray),.int .u16 99,.int .u32 0,.string (⟨#[]⟩:ByteArray)] 32 (0,0)))∧(w'.heap[gb282]? = some (.cells #[.string (⟨#[1,121]⟩:ByteArray),.int .u16 99,.int .u32 0,.string (⟨#[]⟩:ByteArray)] 32 (0,0)))∧(Below w.heap.size w w')) ?_ ?_
      rotate_left
      ·intro hJ1_3_6_9
       refine join_ (σ:=Nat) 8 #[true,true,true,true,true,true,true,true,true,false,false,false,false,false,false,true,false,false] (fun s_=>[(10,.agg #[.string t283,.int .u16 t284,.int .u32 t285,.string t286]),(12,.agg #[.string t287,.int .u16 t288,.int .u32 t289,.string t290]),(15,.agg #[.string t291,.int .u16 t292,.int .u32 t293,.string t294]),(4,.pointer (some ⟨s_,0,none⟩))]) (fun s_ w'=>(w'.cell? ⟨gb281,0,none⟩ = some (.string (⟨#[1,120]⟩:ByteArray))∧w'.cell? ⟨gb281,1,none⟩ = some (.int .u16 99)∧w'.cell? ⟨gb281,2,none⟩ = some (.int .u32 0)∧w'.cell? ⟨gb281,3,none⟩ = some (.string (⟨#[]⟩:ByteArray))∧w'.cell? ⟨gb282,0,none⟩ = some (.string (⟨#[1,121]⟩:ByteArray))∧w'.cell? ⟨gb282,1,none⟩ = some (.int .u16 99)∧w'.cell? ⟨gb282,2,none⟩ = some (.int .u32 0)∧w'.cell? ⟨gb282,3,none⟩ = some (.string (⟨#[]⟩:ByteArray)))∧(w'.heap[gb281]? = some (.cells #[.string (⟨#[1,120]⟩:ByteArray),.int .u16 99,.int .u32 0,.string (⟨#[]⟩:ByteArray)] 32 (0,0)))∧(w'.heap[gb282]? = some (.cells #[.string (⟨#[1,121]⟩:ByteArray),.int .u16 99,.int .u32 0,.string (⟨#[]⟩:ByteArray)] 32 (0,0)))∧(w'.heap[s_]? = some (.cells #[.bool false,.slice none 0 0,.slice none 0 0] 48 (0,0)))∧(w.heap.size≤s_)∧(w.heap.size≤s_)∧(gb281≠s_)∧(s_≠gb281)∧(gb282≠s_)∧(s_≠gb282)∧(Below w.heap.size w w')) ?_ ?_
       rotate_left
       ·intro hJ1_3_6_15
        refine join_ (σ:=Unit) 9 #[true,true,true,true,true,true,true,true,true,false,false,false,false,false,false,false,false,false] (fun s_=>[(10,.agg #[.string t283,.int .u16 t284,.int .u32 t285,.string t286]),(12,.agg #[.string t287,.int .u16 t288,.int .u32 t289,.string t290]),(15,.agg #[.string t291,.int .u16 t292,.int .u32 t293,.string t294])]) (fun s_ w'=>(w'.cell? ⟨gb281,0,none⟩ = some (.string (⟨#[1,120]⟩:ByteArray))∧w'.cell? ⟨gb281,1,none⟩ = some (.int .u16 99)∧w'.cell? ⟨gb281,2,none⟩ = some (.int .u32 0)∧w'.cell? ⟨gb281,3,none⟩ = some (.string (⟨#[]⟩:ByteArray))∧w'.cell? ⟨gb282,0,none⟩ = some (.string (⟨#[1,121]⟩:ByteArray))∧w'.cell? ⟨gb282,1,none⟩ = some (.int .u16 99)∧w'.cell? ⟨gb282,2,none⟩ = some (.int .u32 0)∧w'.cell? ⟨gb282,3,none⟩ = some (.string (⟨#[]⟩:ByteArray)))∧(w'.heap[gb281]? = some (.cells #[.string (⟨#[1,120]⟩:ByteArray),.int .u16 99,.int .u32 0,.string (⟨#[]⟩:ByteArray)] 32 (0,0)))∧(w'.heap[gb282]? = some (.cells #[.string (⟨#[1,121]⟩:ByteArray),.int .u16 99,.int .u32 0,.string (⟨#[]⟩:ByteArray)] 32 (0,0)))∧(Below w.heap.size w w')) ?_ ?_
        rotate_left
        ·intro hJ1_3_6
         refine join_ (σ:=Nat) 9 #[true,true,true,true,true,true,false,true,true,false,false,false,false,false,false,true,false,false] (fun s_=>[(10,.agg #[.string t283,.int .u16 t284,.int .u32 t285,.string t286]),(12,.agg #[.string t287,.int .u16 t288,.int .u32 t289,.string t290]),(4,.pointer (some ⟨s_,0,none⟩))]) (fun s_ w'=>(w'.cell? ⟨gb281,0,none⟩ = some (.string (⟨#[1,120]⟩:ByteArray))∧w'.cell? ⟨gb281,1,none⟩ = some (.int .u16 99)∧w'.cell? ⟨gb281,2,none⟩ = some (.int .u32 0)∧w'.cell? ⟨gb281,3,none⟩ = some (.string (⟨#[]⟩:ByteArray))∧w'.cell? ⟨gb282,0,none⟩ = some (.string (⟨#[1,121]⟩:ByteArray))∧w'.cell? ⟨gb282,1,none⟩ = some (.int .u16 99)∧w'.cell? ⟨gb282,2,none⟩ = some (.int .u32 0)∧w'.cell? ⟨gb282,3,none⟩ = some (.string (⟨#[]⟩:ByteArray)))∧(w'.heap[gb281]? = some (.cells #[.string (⟨#[1,120]⟩:ByteArray),.int .u16 99,.int .u32 0,.string (⟨#[]⟩:ByteArray)] 32 (0,0)))∧(w'.heap[gb282]? = some (.cells #[.string (⟨#[1,121]⟩:ByteArray),.int .u16 99,.int .u32 0,.string (⟨#[]⟩:ByteArray)] 32 (0,0)))∧(w'.heap[s_]? = some (.cells #[.bool false,.slice none 0 0,.slice none 0 0] 48 (0,0)))∧(w.heap.size≤s_)∧(w.heap.size≤s_)∧(gb281≠s_)∧(s_≠gb281)∧(gb282≠s_)∧(s_≠gb282)∧(Below w.heap.size w w')) ?_ ?_
         rotate_left
         ·intro hJ1_3_15
          refine join_ (σ:=Unit) 10 #[true,true,true,true,true,true,false,true,true,false,false,false,false,false,false,false,false,false] (fun s_=>[(10,.agg #[.string t283,.int .u16 t284,.int .u32 t285,.string t286]),(12,.agg #[.string t287,.int .u16 t288,.int .u32 t289,.string t290])]) (fun s_ w'=>(w'.cell? ⟨gb281,0,none⟩ = some (.string (⟨#[1,120]⟩:ByteArray))∧w'.cell? ⟨gb281,1,none⟩ = some (.int .u16 99)∧w'.cell? ⟨gb281,2,none⟩ = some (.int .u32 0)∧w'.cell? ⟨gb281,3,none⟩ = some (.string (⟨#[]⟩:ByteArray))∧w'.cell? ⟨gb282,0,none⟩ = some (.string (⟨#[1,121]⟩:ByteArray))∧w'.cell? ⟨gb282,1,none⟩ = some (.int .u16 99)∧w'.cell? ⟨gb282,2,none⟩ = some (.int .u32 0)∧w'.cell? ⟨gb282,3,none⟩ = some (.string (⟨#[]⟩:ByteArray)))∧(w'.heap[gb281]? = some (.cells #[.string (⟨#[1,120]⟩:ByteArray),.int .u16 99,.int .u32 0,.string (⟨#[]⟩:ByteArray)] 32 (0,0)))∧(w'.heap[gb282]? = some (.cells #[.string (⟨#[1,121]⟩:ByteArray),.int .u16 99,.int .u32 0,.string (⟨#[]⟩:ByteArray)] 32 (0,0)))∧(Below w.heap.size w w')) ?_ ?_
          rotate_left
          ·intro hJ1_3
           refine join_ (σ:=Nat) 10 #[true,true,true,false,true,true,false,true,true,false,false,false,false,false,false,true,false,false] (fun s_=>[(10,.agg #[.string t283,.int .u16 t284,.int .u32 t285,.string t286]),(4,.pointer (some ⟨s_,0,none⟩))]) (fun s_ w'=>(w'.cell? ⟨gb281,0,none⟩ = some (.string (⟨#[1,120]⟩:ByteArray))∧w'.cell? ⟨gb281,1,none⟩ = some (.int .u16 99)∧w'.cell? ⟨gb281,2,none⟩ = some (.int .u32 0)∧w'.cell? ⟨gb281,3,none⟩ = some (.string (⟨#[]⟩:ByteArray))∧w'.cell? ⟨gb282,0,none⟩ = some (.string (⟨#[1,121]⟩:ByteArray))∧w'.cell? ⟨gb282,1,none⟩ = some (.int .u16 99)∧w'.cell? ⟨gb282,2,none⟩ = some (.int .u32 0)∧w'.cell? ⟨gb282,3,none⟩ = some (.string (⟨#[]⟩:ByteArray)))∧(w'.heap[gb281]? = some (.cells #[.string (⟨#[1,120]⟩:ByteArray),.int .u16 99,.int .u32 0,.string (⟨#[]⟩:ByteArray)] 32 (0,0)))∧(w'.heap[gb282]? = some (.cells #[.string (⟨#[1,121]⟩:ByteArray),.int .u16 99,.int .u32 0,.string (⟨#[]⟩:ByteArray)] 32 (0,0)))∧(w'.heap[s_]? = some (.cells #[.bool false,.slice none 0 0,.slice none 0 0] 48 (0,0)))∧(w.heap.size≤s_)∧(w.heap.size≤s_)∧(gb281≠s_)∧(s_≠gb281)∧(gb282≠s_)∧(s_≠gb282)∧(Below w.heap.size w w')) ?_ ?_
           rotate_left
           ·intro hJ1_15
            refine join_ (σ:=Unit) 11 #[true,true,true,false,true,true,false,true,true,false,false,false,false,false,false,false,false,false] (fun s_=>[(10,.agg #[.string t283,.int .u16 t284,.int .u32 t285,.string t286])]) (fun s_ w'=>(w'.cell? ⟨gb281,0,none⟩ = some (.string (⟨#[1,120]⟩:ByteArray))∧w'.cell? ⟨gb281,1,none⟩ = some (.int .u16 99)∧w'.cell? ⟨gb281,2,none⟩ = some (.int .u32 0)∧w'.cell? ⟨gb281,3,none⟩ = some (.string (⟨#[]⟩:ByteArray))∧w'.cell? ⟨gb282,0,none⟩ = some (.string (⟨#[1,121]⟩:ByteArray))∧w'.cell? ⟨gb282,1,none⟩ = some (.int .u16 99)∧w'.cell? ⟨gb282,2,none⟩ = some (.int .u32 0)∧w'.cell? ⟨gb282,3,none⟩ = some (.string (⟨#[]⟩:ByteArray)))∧(w'.heap[gb281]? = some (.cells #[.string (⟨#[1,120]⟩:ByteArray),.int .u16 99,.int .u32 0,.string (⟨#[]⟩:ByteArray)] 32 (0,0)))∧(w'.heap[gb282]? = some (.cells #[.string (⟨#[1,121]⟩:ByteArray),.int .u16 99,.int .u32 0,.string (⟨#[]⟩:ByteArray)] 32 (0,0)))∧(Below w.heap.size w w')) ?_ ?_
            rotate_left
            ·intro hJ1
             refine join_ (σ:=Nat) 11 #[true,false,true,false,true,true,false,true,true,false,false,false,false,false,false,true,false,false] (fun s_=>[(4,.pointer (some ⟨s_,0,none⟩))]) (fun s_ w'=>(w'.cell? ⟨gb281,0,none⟩ = some (.string (⟨#[1,120]⟩:ByteArray))∧w'.cell? ⟨gb281,1,none⟩ = some (.int .u16 99)∧w'.cell? ⟨gb281,2,none⟩ = some (.int .u32 0)∧w'.cell? ⟨gb281,3,none⟩ = some (.string (⟨#[]⟩:ByteArray))∧w'.cell? ⟨gb282,0,none⟩ = some (.string (⟨#[1,121]⟩:ByteArray))∧w'.cell? ⟨gb282,1,none⟩ = some (.int .u16 99)∧w'.cell? ⟨gb282,2,none⟩ = some (.int .u32 0)∧w'.cell? ⟨gb282,3,none⟩ = some (.string (⟨#[]⟩:ByteArray)))∧(w'.heap[gb281]? = some (.cells #[.string (⟨#[1,120]⟩:ByteArray),.int .u16 99,.int .u32 0,.string (⟨#[]⟩:ByteArray)] 32 (0,0)))∧(w'.heap[gb282]? = some (.cells #[.string (⟨#[1,121]⟩:ByteArray),.int .u16 99,.int .u32 0,.string (⟨#[]⟩:ByteArray)] 32 (0,0)))∧(w'.heap[s_]? = some (.cells #[.bool false,.slice none 0 0,.slice none 0 0] 48 (0,0)))∧(w.heap.size≤s_)∧(w.heap.size≤s_)∧(gb281≠s_)∧(s_≠gb281)∧(gb282≠s_)∧(s_≠gb282)∧(Below w.heap.size w w')) ?_ ?_
             rotate_left
             ·intro hJ15
              refine two_ (i:=1) (j:=15) (Ni:=some 10) (Nj:=some 4) #[true,true,true,false,true,true,false,true,true,false,false,false,false,false,false,false,false,false] #[true,false,true,false,true,true,false,true,true,false,false,false,false,false,false,true,false,false] rfl rfl rfl rfl (two_of HT_.out (by kernel_rfl)) (by decide) (by decide) (fun K hK=>?_) (fun K hK=>?_)
              ·skip
               refine goesT_ Tryd.func19 (by kernel_rfl) rfl #[.int .u32 3] (by rfl) rfl rfl rfl (by (try simp only [List.map_toArray,List.map_cons,List.map_nil]);rfl) ?_
               with_reducible refine (bolterlaw09_awake_1.calls k 3 t283 t284 t285 t286 _ A1.out).mono ?_
               rintro e w23 ⟨rfl,hb⟩
               refine ⟨_,rfl,?_⟩
               have n0_:=Aside0.mk (blk_below (g:=gb281) (o:=.cells #[.string (⟨#[1,120]⟩:ByteArray),.int .u16 99,.int .u32 0,.string (⟨#[]⟩:ByteArray)] 32 (0,0)) (by (with_reducible repeat (first|apply blk_drewN|apply blk_drew|apply blk_alloc));exact BK281.out) hb)
               have n1_:=Aside0.mk (blk_below (g:=gb282) (o:=.cells #[.string (⟨#[1,121]⟩:ByteArray),.int .u16 99,.int .u32 0,.string (⟨#[]⟩:ByteArray)] 32 (0,0)) (by (with_reducible repeat (first|apply blk_drewN|apply blk_drew|apply blk_alloc));exact BK282.out) hb)
               have n2_:=Aside0.mk (below_step (by repeat (first|(with_reducible first|exact HB.out|apply below_alloc|apply pw_below_drewN|apply below_drew1|refine below_set ?_ GE281.out|refine below_set ?_ GE282.out)|exact HB.out)) hb)
               clear BK281
               clear BK282
               clear HB
               have BK281:=n0_
               have BK282:=n1_
               have HB:=n2_
               clear n0_ n1_ n2_
               (try clear hb)
               (try clear hb2)
               (try clear hk)
               (try clear hi)
               refine hK.out _ _ ⟨(blk_cell BK281.out 0).trans rfl,(blk_cell BK281.out 1).trans rfl,(blk_cell BK281.out 2).trans rfl,(blk_cell BK281.out 3).trans rfl,(blk_cell BK282.out 0).trans rfl,(blk_cell BK282.out 1).trans rfl,(blk_cell BK282.out 2).trans rfl,(blk_cell BK282.out 3).trans rfl⟩ (fun hHeld=>?_)
               clear hK K
               refine norm_ (a':=?_) ?_ ?_
               rotate_left
               ·show Act.put _ (some 10) _ = _
                simp only [Act.put,setIfInBounds_toArray,set_cons_zero,set_cons_succ,i64_w,i32_w]
                rfl
               exact norm_ (by simp only [putAll,Act.put,setIfInBounds_toArray,set_cons_zero,set_cons_succ] <;> rfl) (hJ1 () _ ⟨hHeld,(by (with_reducible repeat (first|apply blk_drewN|apply blk_drew|apply blk_alloc));exact BK281.out),(by (with_reducible repeat (first|apply blk_drewN|apply blk_drew|apply blk_alloc));exact BK282.out),(by repeat (first|(with_reducible first|exact HB.out|apply below_alloc|apply pw_below_drewN|apply below_drew1|refine below_set ?_ GE281.out|refine below_set ?_ GE282.out)|exact HB.out))⟩)
              ·skip
               refine box_step ?hg (N:=4) ?hd (cs:=#[.bool false,.slice none 0 0,.slice none 0 0]) (t:=48) ?hr ?_;(case hd=>rfl);(case hg=>rfl);(case hr=>first|(go_simp;done)|(go_simp;rfl))
               intro gb310 hg w23 hbox hb
               have n0_:=Aside0.mk (blk_below (g:=gb281) (o:=.cells #[.string (⟨#[1,120]⟩:ByteArray),.int .u16 99,.int .u32 0,.string (⟨#[]⟩:ByteArray)] 32 (0,0)) (by (with_reducible repeat (first|apply blk_drewN|apply blk_drew|apply blk_alloc));exact BK281.out) hb)
               have n1_:=Aside0.mk (blk_below (g:=gb282) (o:=.cells #[.string (⟨#[1,121]⟩:ByteArray),.int .u16 99,.int .u32 0,.string (⟨#[]⟩:ByteArray)] 32 (0,0)) (by (with_reducible repeat (first|apply blk_drewN|apply blk_drew|apply blk_alloc));exact BK282.out) hb)
               have n2_:=Aside0.mk (below_step (by repeat (first|(with_reducible first|exact HB.out|apply below_alloc|apply pw_below_drewN|apply below_drew1|refine below_set ?_ GE281.out|refine below_set ?_ GE282.out)|exact HB.out)) hb)
               have n3_:=Aside0.mk (hbox)
               have n4_:=Aside0.mk ((by rw [hg];exact (below_size (by repeat (first|(with_reducible first|exact HB.out|apply below_alloc|apply pw_below_drewN|apply below_drew1|refine below_set ?_ GE281.out|refine below_set ?_ GE282.out)|exact HB.out))):w.heap.size≤gb310))
               have n5_:=Aside0.mk ((by rw [hg];exact (below_size (by repeat (first|(with_reducible first|exact HB.out|apply below_alloc|apply pw_below_drewN|apply below_drew1|refine below_set ?_ GE281.out|refine below_set ?_ GE282.out)|exact HB.out))):w.heap.size≤gb310))
               have n6_:=Aside0.mk ((by rw [hg];exact Nat.ne_of_lt (blk_lt (g:=gb281) (o:=.cells #[.string (⟨#[1,120]⟩:ByteArray),.int .u16 99,.int .u32 0,.string (⟨#[]⟩:ByteArray)] 32 (0,0)) (by (with_reducible repeat (first|apply blk_drewN|apply blk_drew|apply blk_alloc));exact BK281.out)):gb281≠gb310))
               have n7_:=Aside0.mk ((by rw [hg];exact Nat.ne_of_gt (blk_lt (g:=gb281) (o:=.cells #[.string (⟨#[1,120]⟩:ByteArray),.int .u16 99,.int .u32 0,.string (⟨#[]⟩:ByteArray)] 32 (0,0)) (by (with_reducible repeat (first|apply blk_drewN|apply blk_drew|apply blk_alloc));exact BK281.out)):gb310≠gb281))
               have n8_:=Aside0.mk ((by rw [hg];exact Nat.ne_of_lt (blk_lt (g:=gb282) (o:=.cells #[.string (⟨#[1,121]⟩:ByteArray),.int .u16 99,.int .u32 0,.string (⟨#[]⟩:ByteArray)] 32 (0,0)) (by (with_reducible repeat (first|apply blk_drewN|apply blk_drew|apply blk_alloc));exact BK282.out)):gb282≠gb310))
               have n9_:=Aside0.mk ((by rw [hg];exact Nat.ne_of_gt (blk_lt (g:=gb282) (o:=.cells #[.string (⟨#[1,121]⟩:ByteArray),.int .u16 99,.int .u32 0,.string (⟨#[]⟩:ByteArray)] 32 (0,0)) (by (with_reducible repeat (first|apply blk_drewN|apply blk_drew|apply blk_alloc));exact BK282.out)):gb310≠gb282))
               clear BK281
               clear BK282
               clear HB
               have BK281:=n0_
               have BK282:=n1_
               have HB:=n2_
               have BK310:=n3_
               have GW310:=n4_
               have GE310:=n5_
               have NB281_310:=n6_
               have NB310_281:=n7_
               have NB282_310:=n8_
               have NB310_282:=n9_
               clear n0_ n1_ n2_ n3_ n4_ n5_ n6_ n7_ n8_ n9_
               clear hb hbox hg
               refine hK.out _ _ ⟨(blk_cell BK281.out 0).trans rfl,(blk_cell BK281.out 1).trans rfl,(blk_cell BK281.out 2).trans rfl,(blk_cell BK281.out 3).trans rfl,(blk_cell BK282.out 0).trans rfl,(blk_cell BK282.out 1).trans rfl,(blk_cell BK282.out 2).trans rfl,(blk_cell BK282.out 3).trans rfl⟩ (fun hHeld=>?_)
               clear hK K
               refine norm_ (a':=?_) ?_ ?_
               rotate_left
               ·show Act.put _ (some 4) _ = _
                simp only [Act.put,setIfInBounds_toArray,set_cons_zero,set_cons_succ,i64_w,i32_w]
                rfl
               exact norm_ (by simp only [putAll,Act.put,setIfInBounds_toArray,set_cons_zero,set_cons_succ] <;> rfl) (hJ15 (gb310) _ ⟨hHeld,(by (with_reducible repeat (first|apply blk_drewN|apply blk_drew|apply blk_alloc));exact BK281.out),(by (with_reducible repeat (first|apply blk_drewN|apply blk_drew|apply blk_alloc));exact BK282.out),(by (with_reducible repeat (first|apply blk_drewN|apply blk_drew|apply blk_alloc));exact BK310.out),GW310.out,GE310.out,NB281_310.out,NB310_281.out,NB282_310.out,NB310_282.out,(by repeat (first|(with_reducible first|exact HB.out|apply below_alloc|apply pw_below_drewN|apply below_drew1|refine below_set ?_ GE281.out|refine below_set ?_ GE282.out|refine below_set ?_ GE310.out)|exact HB.out))⟩)
             ·skip
              rintro gb310 w24 ⟨hS_,h0_,h1_,h2_,h3_,h4_,h5_,h6_,h7_,h8_,h9_⟩
              have n0_:Aside0 (w24.heap[gb281]? = some (.cells #[.string (⟨#[1,120]⟩:ByteArray),.int .u16 99,.int .u32 0,.string (⟨#[]⟩:ByteArray)] 32 (0,0))):=⟨h0_⟩
              have n1_:Aside0 (w24.heap[gb282]? = some (.cells #[.string (⟨#[1,121]⟩:ByteArray),.int .u16 99,.int .u32 0,.string (⟨#[]⟩:ByteArray)] 32 (0,0))):=⟨h1_⟩
              have n2_:Aside0 (w24.heap[gb310]? = some (.cells #[.bool false,.slice none 0 0,.slice none 0 0] 48 (0,0))):=⟨h2_⟩
              have n3_:Aside0 (w.heap.size≤gb310):=⟨h3_⟩
              have n4_:Aside0 (w.heap.size≤gb310):=⟨h4_⟩
              have n5_:Aside0 (gb281≠gb310):=⟨h5_⟩
              have n6_:Aside0 (gb310≠gb281):=⟨h6_⟩
              have n7_:Aside0 (gb282≠gb310):=⟨h7_⟩
              have n8_:Aside0 (gb310≠gb282):=⟨h8_⟩
              have n9_:Aside0 (Below w.heap.size w w24):=⟨h9_⟩
              clear BK281
              clear BK282
              clear HB
              clear h0_ h1_ h2_ h3_ h4_ h5_ h6_ h7_ h8_ h9_
              have BK281:=n0_
              have BK282:=n1_
              have BK310:=n2_
              have GW310:=n3_
              have GE310:=n4_
              have NB281_310:=n5_
              have NB310_281:=n6_
              have NB282_310:=n7_
              have NB310_282:=n8_
              have HB:=n9_
              clear n0_ n1_ n2_ n3_ n4_ n5_ n6_ n7_ n8_ n9_
              have hHeld:w24.cell? ⟨gb281,0,none⟩ = some (.string (⟨#[1,120]⟩:ByteArray))∧w24.cell? ⟨gb281,1,none⟩ = some (.int .u16 99)∧w24.cell? ⟨gb281,2,none⟩ = some (.int .u32 0)∧w24.cell? ⟨gb281,3,none⟩ = some (.string (⟨#[]⟩:ByteArray))∧w24.cell? ⟨gb282,0,none⟩ = some (.string (⟨#[1,121]⟩:ByteArray))∧w24.cell? ⟨gb282,1,none⟩ = some (.int .u16 99)∧w24.cell? ⟨gb282,2,none⟩ = some (.int .u32 0)∧w24.cell? ⟨gb282,3,none⟩ = some (.string (⟨#[]⟩:ByteArray)):=hS_
              refine norm_ (a':=?_) ?_ ?_
              rotate_left
              ·simp only [putAll,Act.put,setIfInBounds_toArray,set_cons_zero,set_cons_succ]
               rfl
              refine one_ (i:=1) (N:=some 10) #[true,true,true,false,true,true,false,true,true,false,false,false,false,false,false,true,false,false] rfl rfl (one_of HT_.out (by kernel_rfl)) (by decide) (fun K hK=>?_)
              refine goesT_ Tryd.func19 (by kernel_rfl) rfl #[.int .u32 3] (by rfl) rfl rfl rfl (by (try simp only [List.map_toArray,List.map_cons,List.map_nil]);rfl) ?_
              with_reducible refine (bolterlaw09_awake_1.calls k 3 t283 t284 t285 t286 _ A1.out).mono ?_
              rintro e w25 ⟨rfl,hb⟩
              refine ⟨_,rfl,?_⟩
              have n0_:=Aside0.mk (blk_below (g:=gb281) (o:=.cells #[.string (⟨#[1,120]⟩:ByteArray),.int .u16 99,.int .u32 0,.string (⟨#[]⟩:ByteArray)] 32 (0,0)) (by (with_reducible repeat (first|apply blk_drewN|apply blk_drew|apply blk_alloc));exact BK281.out) hb)
              have n1_:=Aside0.mk (blk_below (g:=gb282) (o:=.cells #[.string (⟨#[1,121]⟩:ByteArray),.int .u16 99,.int .u32 0,.string (⟨#[]⟩:ByteArray)] 32 (0,0)) (by (with_reducible repeat (first|apply blk_drewN|apply blk_drew|apply blk_alloc));exact BK282.out) hb)
              have n2_:=Aside0.mk (blk_below (g:=gb310) (o:=.cells #[.bool false,.slice none 0 0,.slice none 0 0] 48 (0,0)) (by (with_reducible repeat (first|apply blk_drewN|apply blk_drew|apply blk_alloc));exact BK310.out) hb)
              have n3_:=Aside0.mk (below_step (by repeat (first|(with_reducible first|exact HB.out|apply below_alloc|apply pw_below_drewN|apply below_drew1|refine below_set ?_ GE281.out|refine below_set ?_ GE282.out|refine below_set ?_ GE310.out)|exact HB.out)) hb)
              clear BK281
              clear BK282
              clear BK310
              clear HB
              have BK281:=n0_
              have BK282:=n1_
              have BK310:=n2_
              have HB:=n3_
              clear n0_ n1_ n2_ n3_
              (try clear hb)
              (try clear hb2)
              (try clear hk)
              (try clear hi)
              refine hK.out _ _ ⟨(blk_cell BK281.out 0).trans rfl,(blk_cell BK281.out 1).trans rfl,(blk_cell BK281.out 2).trans rfl,(blk_cell BK281.out 3).trans rfl,(blk_cell BK282.out 0).trans rfl,(blk_cell BK282.out 1).trans rfl,(blk_cell BK282.out 2).trans rfl,(blk_cell BK282.out 3).trans rfl⟩ (fun hHeld=>?_)
              clear hK K
              refine norm_ (a':=?_) ?_ ?_
              rotate_left
              ·show Act.put _ (some 10) _ = _
               simp only [Act.put,setIfInBounds_toArray,set_cons_zero,set_cons_succ,i64_w,i32_w]
               rfl
              exact norm_ (by simp only [putAll,Act.put,setIfInBounds_toArray,set_cons_zero,set_cons_succ] <;> rfl) (hJ1_15 (gb310) _ ⟨hHeld,(by (with_reducible repeat (first|apply blk_drewN|apply blk_drew|apply blk_alloc));exact BK281.out),(by (with_reducible repeat (first|apply blk_drewN|apply blk_drew|apply blk_alloc));exact BK282.out),(by (with_reducible repeat (first|apply blk_drewN|apply blk_drew|apply blk_alloc));exact BK310.out),GW310.out,GE310.out,NB281_310.out,NB310_281.out,NB282_310.out,NB310_282.out,(by repeat (first|(with_reducible first|exact HB.out|apply below_alloc|apply pw_below_drewN|apply below_drew1|refine below_set ?_ GE281.out|refine below_set ?_ GE282.out|refine below_set ?_ GE310.out)|exact HB.out))⟩)
            ·skip
             rintro _ w24 ⟨hS_,h0_,h1_,h2_⟩
             have n0_:Aside0 (w24.heap[gb281]? = some (.cells #[.string (⟨#[1,120]⟩:ByteArray),.int .u16 99,.int .u32 0,.string (⟨#[]⟩:ByteArray)] 32 (0,0))):=⟨h0_⟩
             have n1_:Aside0 (w24.heap[gb282]? = some (.cells #[.string (⟨#[1,121]⟩:ByteArray),.int .u16 99,.int .u32 0,.string (⟨#[]⟩:ByteArray)] 32 (0,0))):=⟨h1_⟩
             have n2_:Aside0 (Below w.heap.size w w24):=⟨h2_⟩
             clear BK281
             clear BK282
             clear HB
             clear h0_ h1_ h2_
             have BK281:=n0_
             have BK282:=n1_
             have HB:=n2_
             clear n0_ n1_ n2_
             have hHeld:w24.cell? ⟨gb281,0,none⟩ = some (.string (⟨#[1,120]⟩:ByteArray))∧w24.cell? ⟨gb281,1,none⟩ = some (.int .u16 99)∧w24.cell? ⟨gb281,2,none⟩ = some (.int .u32 0)∧w24.cell? ⟨gb281,3,none⟩ = some (.string (⟨#[]⟩:ByteArray))∧w24.cell? ⟨gb282,0,none⟩ = some (.string (⟨#[1,121]⟩:ByteArray))∧w24.cell? ⟨gb282,1,none⟩ = some (.int .u16 99)∧w24.cell? ⟨gb282,2,none⟩ = some (.int .u32 0)∧w24.cell? ⟨gb282,3,none⟩ = some (.string (⟨#[]⟩:ByteArray)):=hS_
             refine norm_ (a':=?_) ?_ ?_
             rotate_left
             ·simp only [putAll,Act.put,setIfInBounds_toArray,set_cons_zero,set_cons_succ]
              rfl
             refine two_ (i:=3) (j:=15) (Ni:=some 12) (Nj:=some 4) #[true,true,true,true,true,true,false,true,true,false,false,false,false,false,false,false,false,false] #[true,true,true,false,true,true,false,true,true,false,false,false,false,false,false,true,false,false] rfl rfl rfl rfl (two_of HT_.out (by kernel_rfl)) (by decide) (by decide) (fun K hK=>?_) (fun K hK=>?_)
             ·skip
              refine goesT_ Tryd.func19 (by kernel_rfl) rfl #[.int .u32 2] (by rfl) rfl rfl rfl (by (try simp only [List.map_toArray,List.map_cons,List.map_nil]);rfl) ?_
              with_reducible refine (bolterlaw09_awake_1.calls k 2 t287 t288 t289 t290 _ A2.out).mono ?_
              rintro e w25 ⟨rfl,hb⟩
              refine ⟨_,rfl,?_⟩
              have n0_:=Aside0.mk (blk_below (g:=gb281) (o:=.cells #[.string (⟨#[1,120]⟩:ByteArray),.int .u16 99,.int .u32 0,.string (⟨#[]⟩:ByteArray)] 32 (0,0)) (by (with_reducible repeat (first|apply blk_drewN|apply blk_drew|apply blk_alloc));exact BK281.out) hb)
              have n1_:=Aside0.mk (blk_below (g:=gb282) (o:=.cells #[.string (⟨#[1,121]⟩:ByteArray),.int .u16 99,.int .u32 0,.string (⟨#[]⟩:ByteArray)] 32 (0,0)) (by (with_reducible repeat (first|apply blk_drewN|apply blk_drew|apply blk_alloc));exact BK282.out) hb)
              have n2_:=Aside0.mk (below_step (by repeat (first|(with_reducible first|exact HB.out|apply below_alloc|apply pw_below_drewN|apply below_drew1|refine below_set ?_ GE281.out|refine below_set ?_ GE282.out)|exact HB.out)) hb)
              clear BK281
              clear BK282
              clear HB
              have BK281:=n0_
              have BK282:=n1_
              have HB:=n2_
              clear n0_ n1_ n2_
              (try clear hb)
              (try clear hb2)
              (try clear hk)
              (try clear hi)
              refine hK.out _ _ ⟨(blk_cell BK281.out 0).trans rfl,(blk_cell BK281.out 1).trans rfl,(blk_cell BK281.out 2).trans rfl,(blk_cell BK281.out 3).trans rfl,(blk_cell BK282.out 0).trans rfl,(blk_cell BK282.out 1).trans rfl,(blk_cell BK282.out 2).trans rfl,(blk_cell BK282.out 3).trans rfl⟩ (fun hHeld=>?_)
              clear hK K
              refine norm_ (a':=?_) ?_ ?_
              rotate_left
              ·show Act.put _ (some 12) _ = _
               simp only [Act.put,setIfInBounds_toArray,set_cons_zero,set_cons_succ,i64_w,i32_w]
               rfl
              exact norm_ (by simp only [putAll,Act.put,setIfInBounds_toArray,set_cons_zero,set_cons_succ] <;> rfl) (hJ1_3 () _ ⟨hHeld,(by (with_reducible repeat (first|apply blk_drewN|apply blk_drew|apply blk_alloc));exact BK281.out),(by (with_reducible repeat (first|apply blk_drewN|apply blk_drew|apply blk_alloc));exact BK282.out),(by repeat (first|(with_reducible first|exact HB.out|apply below_alloc|apply pw_below_drewN|apply below_drew1|refine below_set ?_ GE281.out|refine below_set ?_ GE282.out)|exact HB.out))⟩)
             ·skip
              refine box_step ?hg (N:=4) ?hd (cs:=#[.bool false,.slice none 0 0,.slice none 0 0]) (t:=48) ?hr ?_;(case hd=>rfl);(case hg=>rfl);(case hr=>first|(go_simp;done)|(go_simp;rfl))
              intro gb310 hg w25 hbox hb
              have n0_:=Aside0.mk (blk_below (g:=gb281) (o:=.cells #[.string (⟨#[1,120]⟩:ByteArray),.int .u16 99,.int .u32 0,.string (⟨#[]⟩:ByteArray)] 32 (0,0)) (by (with_reducible repeat (first|apply blk_drewN|apply blk_drew|apply blk_alloc));exact BK281.out) hb)
              have n1_:=Aside0.mk (blk_below (g:=gb282) (o:=.cells #[.string (⟨#[1,121]⟩:ByteArray),.int .u16 99,.int .u32 0,.string (⟨#[]⟩:ByteArray)] 32 (0,0)) (by (with_reducible repeat (first|apply blk_drewN|apply blk_drew|apply blk_alloc));exact BK282.out) hb)
              have n2_:=Aside0.mk (below_step (by repeat (first|(with_reducible first|exact HB.out|apply below_alloc|apply pw_below_drewN|apply below_drew1|refine below_set ?_ GE281.out|refine below_set ?_ GE282.out)|exact HB.out)) hb)
              have n3_:=Aside0.mk (hbox)
              have n4_:=Aside0.mk ((by rw [hg];exact (below_size (by repeat (first|(with_reducible first|exact HB.out|apply below_alloc|apply pw_below_drewN|apply below_drew1|refine below_set ?_ GE281.out|refine below_set ?_ GE282.out)|exact HB.out))):w.heap.size≤gb310))
              have n5_:=Aside0.mk ((by rw [hg];exact (below_size (by repeat (first|(with_reducible first|exact HB.out|apply below_alloc|apply pw_below_drewN|apply below_drew1|refine below_set ?_ GE281.out|refine below_set ?_ GE282.out)|exact HB.out))):w.heap.size≤gb310))
              have n6_:=Aside0.mk ((by rw [hg];exact Nat.ne_of_lt (blk_lt (g:=gb281) (o:=.cells #[.string (⟨#[1,120]⟩:ByteArray),.int .u16 99,.int .u32 0,.string (⟨#[]⟩:ByteArray)] 32 (0,0)) (by (with_reducible repeat (first|apply blk_drewN|apply blk_drew|apply blk_alloc));exact BK281.out)):gb281≠gb310))
              have n7_:=Aside0.mk ((by rw [hg];exact Nat.ne_of_gt (blk_lt (g:=gb281) (o:=.cells #[.string (⟨#[1,120]⟩:ByteArray),.int .u16 99,.int .u32 0,.string (⟨#[]⟩:ByteArray)] 32 (0,0)) (by (with_reducible repeat (first|apply blk_drewN|apply blk_drew|apply blk_alloc));exact BK281.out)):gb310≠gb281))
              have n8_:=Aside0.mk ((by rw [hg];exact Nat.ne_of_lt (blk_lt (g:=gb282) (o:=.cells #[.string (⟨#[1,121]⟩:ByteArray),.int .u16 99,.int .u32 0,.string (⟨#[]⟩:ByteArray)] 32 (0,0)) (by (with_reducible repeat (first|apply blk_drewN|apply blk_drew|apply blk_alloc));exact BK282.out)):gb282≠gb310))
              have n9_:=Aside0.mk ((by rw [hg];exact Nat.ne_of_gt (blk_lt (g:=gb282) (o:=.cells #[.string (⟨#[1,121]⟩:ByteArray),.int .u16 99,.int .u32 0,.string (⟨#[]⟩:ByteArray)] 32 (0,0)) (by (with_reducible repeat (first|apply blk_drewN|apply blk_drew|apply blk_alloc));exact BK282.out)):gb310≠gb282))
              clear BK281
              clear BK282
              clear HB
              have BK281:=n0_
              have BK282:=n1_
              have HB:=n2_
              have BK310:=n3_
              have GW310:=n4_
              have GE310:=n5_
              have NB281_310:=n6_
              have NB310_281:=n7_
              have NB282_310:=n8_
              have NB310_282:=n9_
              clear n0_ n1_ n2_ n3_ n4_ n5_ n6_ n7_ n8_ n9_
              clear hb hbox hg
              refine hK.out _ _ ⟨(blk_cell BK281.out 0).trans rfl,(blk_cell BK281.out 1).trans rfl,(blk_cell BK281.out 2).trans rfl,(blk_cell BK281.out 3).trans rfl,(blk_cell BK282.out 0).trans rfl,(blk_cell BK282.out 1).trans rfl,(blk_cell BK282.out 2).trans rfl,(blk_cell BK282.out 3).trans rfl⟩ (fun hHeld=>?_)
              clear hK K
              refine norm_ (a':=?_) ?_ ?_
              rotate_left
              ·show Act.put _ (some 4) _ = _
               simp only [Act.put,setIfInBounds_toArray,set_cons_zero,set_cons_succ,i64_w,i32_w]
               rfl
              exact norm_ (by simp only [putAll,Act.put,setIfInBounds_toArray,set_cons_zero,set_cons_succ] <;> rfl) (hJ1_15 (gb310) _ ⟨hHeld,(by (with_reducible repeat (first|apply blk_drewN|apply blk_drew|apply blk_alloc));exact BK281.out),(by (with_reducible repeat (first|apply blk_drewN|apply blk_drew|apply blk_alloc));exact BK282.out),(by (with_reducible repeat (first|apply blk_drewN|apply blk_drew|apply blk_alloc));exact BK310.out),GW310.out,GE310.out,NB281_310.out,NB310_281.out,NB282_310.out,NB310_282.out,(by repeat (first|(with_reducible first|exact HB.out|apply below_alloc|apply pw_below_drewN|apply below_drew1|refine below_set ?_ GE281.out|refine below_set ?_ GE282.out|refine below_set ?_ GE310.out)|exact HB.out))⟩)
           ·skip
            rintro gb310 w25 ⟨hS_,h0_,h1_,h2_,h3_,h4_,h5_,h6_,h7_,h8_,h9_⟩
            have n0_:Aside0 (w25.heap[gb281]? = some (.cells #[.string (⟨#[1,120]⟩:ByteArray),.int .u16 99,.int .u32 0,.string (⟨#[]⟩:ByteArray)] 32 (0,0))):=⟨h0_⟩
            have n1_:Aside0 (w25.heap[gb282]? = some (.cells #[.string (⟨#[1,121]⟩:ByteArray),.int .u16 99,.int .u32 0,.string (⟨#[]⟩:ByteArray)] 32 (0,0))):=⟨h1_⟩
            have n2_:Aside0 (w25.heap[gb310]? = some (.cells #[.bool false,.slice none 0 0,.slice none 0 0] 48 (0,0))):=⟨h2_⟩
            have n3_:Aside0 (w.heap.size≤gb310):=⟨h3_⟩
            have n4_:Aside0 (w.heap.size≤gb310):=⟨h4_⟩
            have n5_:Aside0 (gb281≠gb310):=⟨h5_⟩
            have n6_:Aside0 (gb310≠gb281):=⟨h6_⟩
            have n7_:Aside0 (gb282≠gb310):=⟨h7_⟩
            have n8_:Aside0 (gb310≠gb282):=⟨h8_⟩
            have n9_:Aside0 (Below w.heap.size w w25):=⟨h9_⟩
            clear BK281
            clear BK282
            clear HB
            clear h0_ h1_ h2_ h3_ h4_ h5_ h6_ h7_ h8_ h9_
            have BK281:=n0_
            have BK282:=n1_
            have BK310:=n2_
            have GW310:=n3_
            have GE310:=n4_
            have NB281_310:=n5_
            have NB310_281:=n6_
            have NB282_310:=n7_
            have NB310_282:=n8_
            have HB:=n9_
            clear n0_ n1_ n2_ n3_ n4_ n5_ n6_ n7_ n8_ n9_
            have hHeld:w25.cell? ⟨gb281,0,none⟩ = some (.string (⟨#[1,120]⟩:ByteArray))∧w25.cell? ⟨gb281,1,none⟩ = some (.int .u16 99)∧w25.cell? ⟨gb281,2,none⟩ = some (.int .u32 0)∧w25.cell? ⟨gb281,3,none⟩ = some (.string (⟨#[]⟩:ByteArray))∧w25.cell? ⟨gb282,0,none⟩ = some (.string (⟨#[1,121]⟩:ByteArray))∧w25.cell? ⟨gb282,1,none⟩ = some (.int .u16 99)∧w25.cell? ⟨gb282,2,none⟩ = some (.int .u32 0)∧w25.cell? ⟨gb282,3,none⟩ = some (.string (⟨#[]⟩:ByteArray)):=hS_
            refine norm_ (a':=?_) ?_ ?_
            rotate_left
            ·simp only [putAll,Act.put,setIfInBounds_toArray,set_cons_zero,set_cons_succ]
             rfl
            refine one_ (i:=3) (N:=some 12) #[true,true,true,true,true,true,false,true,true,false,false,false,false,false,false,true,false,false] rfl rfl (one_of HT_.out (by kernel_rfl)) (by decide) (fun K hK=>?_)
            refine goesT_ Tryd.func19 (by kernel_rfl) rfl #[.int .u32 2] (by rfl) rfl rfl rfl (by (try simp only [List.map_toArray,List.map_cons,List.map_nil]);rfl) ?_
            with_reducible refine (bolterlaw09_awake_1.calls k 2 t287 t288 t289 t290 _ A2.out).mono ?_
            rintro e w26 ⟨rfl,hb⟩
            refine ⟨_,rfl,?_⟩
            have n0_:=Aside0.mk (blk_below (g:=gb281) (o:=.cells #[.string (⟨#[1,120]⟩:ByteArray),.int .u16 99,.int .u32 0,.string (⟨#[]⟩:ByteArray)] 32 (0,0)) (by (with_reducible repeat (first|apply blk_drewN|apply blk_drew|apply blk_alloc));exact BK281.out) hb)
            have n1_:=Aside0.mk (blk_below (g:=gb282) (o:=.cells #[.string (⟨#[1,121]⟩:ByteArray),.int .u16 99,.int .u32 0,.string (⟨#[]⟩:ByteArray)] 32 (0,0)) (by (with_reducible repeat (first|apply blk_drewN|apply blk_drew|apply blk_alloc));exact BK282.out) hb)
            have n2_:=Aside0.mk (blk_below (g:=gb310) (o:=.cells #[.bool false,.slice none 0 0,.slice none 0 0] 48 (0,0)) (by (with_reducible repeat (first|apply blk_drewN|apply blk_drew|apply blk_alloc));exact BK310.out) hb)
            have n3_:=Aside0.mk (below_step (by repeat (first|(with_reducible first|exact HB.out|apply below_alloc|apply pw_below_drewN|apply below_drew1|refine below_set ?_ GE281.out|refine below_set ?_ GE282.out|refine below_set ?_ GE310.out)|exact HB.out)) hb)
            clear BK281
            clear BK282
            clear BK310
            clear HB
            have BK281:=n0_
            have BK282:=n1_
            have BK310:=n2_
            have HB:=n3_
            clear n0_ n1_ n2_ n3_
            (try clear hb)
            (try clear hb2)
            (try clear hk)
            (try clear hi)
            refine hK.out _ _ ⟨(blk_cell BK281.out 0).trans rfl,(blk_cell BK281.out 1).trans rfl,(blk_cell BK281.out 2).trans rfl,(blk_cell BK281.out 3).trans rfl,(blk_cell BK282.out 0).trans rfl,(blk_cell BK282.out 1).trans rfl,(blk_cell BK282.out 2).trans rfl,(blk_cell BK282.out 3).trans rfl⟩ (fun hHeld=>?_)
            clear hK K
            refine norm_ (a':=?_) ?_ ?_
            rotate_left
            ·show Act.put _ (some 12) _ = _
             simp only [Act.put,setIfInBounds_toArray,set_cons_zero,set_cons_succ,i64_w,i32_w]
             rfl
            exact norm_ (by simp only [putAll,Act.put,setIfInBounds_toArray,set_cons_zero,set_cons_succ] <;> rfl) (hJ1_3_15 (gb310) _ ⟨hHeld,(by (with_reducible repeat (first|apply blk_drewN|apply blk_drew|apply blk_alloc));exact BK281.out),(by (with_reducible repeat (first|apply blk_drewN|apply blk_drew|apply blk_alloc));exact BK282.out),(by (with_reducible repeat (first|apply blk_drewN|apply blk_drew|apply blk_alloc));exact BK310.out),GW310.out,GE310.out,NB281_310.out,NB310_281.out,NB282_310.out,NB310_282.out,(by repeat (first|(with_reducible first|exact HB.out|apply below_alloc|apply pw_below_drewN|apply below_drew1|refine below_set ?_ GE281.out|refine below_set ?_ GE282.out|refine below_set ?_ GE310.out)|exact HB.out))⟩)
          ·skip
           rintro _ w25 ⟨hS_,h0_,h1_,h2_⟩
           have n0_:Aside0 (w25.heap[gb281]? = some (.cells #[.string (⟨#[1,120]⟩:ByteArray),.int .u16 99,.int .u32 0,.string (⟨#[]⟩:ByteArray)] 32 (0,0))):=⟨h0_⟩
           have n1_:Aside0 (w25.heap[gb282]? = some (.cells #[.string (⟨#[1,121]⟩:ByteArray),.int .u16 99,.int .u32 0,.string (⟨#[]⟩:ByteArray)] 32 (0,0))):=⟨h1_⟩
           have n2_:Aside0 (Below w.heap.size w w25):=⟨h2_⟩
           clear BK281
           clear BK282
           clear HB
           clear h0_ h1_ h2_
           have BK281:=n0_
           have BK282:=n1_
           have HB:=n2_
           clear n0_ n1_ n2_
           have hHeld:w25.cell? ⟨gb281,0,none⟩ = some (.string (⟨#[1,120]⟩:ByteArray))∧w25.cell? ⟨gb281,1,none⟩ = some (.int .u16 99)∧w25.cell? ⟨gb281,2,none⟩ = some (.int .u32 0)∧w25.cell? ⟨gb281,3,none⟩ = some (.string (⟨#[]⟩:ByteArray))∧w25.cell? ⟨gb282,0,none⟩ = some (.string (⟨#[1,121]⟩:ByteArray))∧w25.cell? ⟨gb282,1,none⟩ = some (.int .u16 99)∧w25.cell? ⟨gb282,2,none⟩ = some (.int .u32 0)∧w25.cell? ⟨gb282,3,none⟩ = some (.string (⟨#[]⟩:ByteArray)):=hS_
           refine norm_ (a':=?_) ?_ ?_
           rotate_left
           ·simp only [putAll,Act.put,setIfInBounds_toArray,set_cons_zero,set_cons_succ]
            rfl
           refine two_ (i:=6) (j:=15) (Ni:=some 15) (Nj:=some 4) #[true,true,true,true,true,true,true,true,true,false,false,false,false,false,false,false,false,false] #[true,true,true,true,true,true,false,true,true,false,false,false,false,false,false,true,false,false] rfl rfl rfl rfl (two_of HT_.out (by kernel_rfl)) (by decide) (by decide) (fun K hK=>?_) (fun K hK=>?_)
           ·skip
            refine goesT_ Tryd.func19 (by kernel_rfl) rfl #[.int .u32 3] (by rfl) rfl rfl rfl (by (try simp only [List.map_toArray,List.map_cons,List.map_nil]);rfl) ?_
            with_reducible refine (bolterlaw09_awake_1.calls k 3 t291 t292 t293 t294 _ A3.out).mono ?_
            rintro e w26 ⟨rfl,hb⟩
            refine ⟨_,rfl,?_⟩
            have n0_:=Aside0.mk (blk_below (g:=gb281) (o:=.cells #[.string (⟨#[1,120]⟩:ByteArray),.int .u16 99,.int .u32 0,.string (⟨#[]⟩:ByteArray)] 32 (0,0)) (by (with_reducible repeat (first|apply blk_drewN|apply blk_drew|apply blk_alloc));exact BK281.out) hb)
            have n1_:=Aside0.mk (blk_below (g:=gb282) (o:=.cells #[.string (⟨#[1,121]⟩:ByteArray),.int .u16 99,.int .u32 0,.string (⟨#[]⟩:ByteArray)] 32 (0,0)) (by (with_reducible repeat (first|apply blk_drewN|apply blk_drew|apply blk_alloc));exact BK282.out) hb)
            have n2_:=Aside0.mk (below_step (by repeat (first|(with_reducible first|exact HB.out|apply below_alloc|apply pw_below_drewN|apply below_drew1|refine below_set ?_ GE281.out|refine below_set ?_ GE282.out)|exact HB.out)) hb)
            clear BK281
            clear BK282
            clear HB
            have BK281:=n0_
            have BK282:=n1_
            have HB:=n2_
            clear n0_ n1_ n2_
            (try clear hb)
            (try clear hb2)
            (try clear hk)
            (try clear hi)
            refine hK.out _ _ ⟨(blk_cell BK281.out 0).trans rfl,(blk_cell BK281.out 1).trans rfl,(blk_cell BK281.out 2).trans rfl,(blk_cell BK281.out 3).trans rfl,(blk_cell BK282.out 0).trans rfl,(blk_cell BK282.out 1).trans rfl,(blk_cell BK282.out 2).trans rfl,(blk_cell BK282.out 3).trans rfl⟩ (fun hHeld=>?_)
            clear hK K
            refine norm_ (a':=?_) ?_ ?_
            rotate_left
            ·show Act.put _ (some 15) _ = _
             simp only [Act.put,setIfInBounds_toArray,set_cons_zero,set_cons_succ,i64_w,i32_w]
             rfl
            exact norm_ (by simp only [putAll,Act.put,setIfInBounds_toArray,set_cons_zero,set_cons_succ] <;> rfl) (hJ1_3_6 () _ ⟨hHeld,(by (with_reducible repeat (first|apply blk_drewN|apply blk_drew|apply blk_alloc));exact BK281.out),(by (with_reducible repeat (first|apply blk_drewN|apply blk_drew|apply blk_alloc));exact BK282.out),(by repeat (first|(with_reducible first|exact HB.out|apply below_alloc|apply pw_below_drewN|apply below_drew1|refine below_set ?_ GE281.out|refine below_set ?_ GE282.out)|exact HB.out))⟩)
           ·skip
            refine box_step ?hg (N:=4) ?hd (cs:=#[.bool false,.slice none 0 0,.slice none 0 0]) (t:=48) ?hr ?_;(case hd=>rfl);(case hg=>rfl);(case hr=>first|(go_simp;done)|(go_simp;rfl))
            intro gb310 hg w26 hbox hb
            have n0_:=Aside0.mk (blk_below (g:=gb281) (o:=.cells #[.string (⟨#[1,120]⟩:ByteArray),.int .u16 99,.int .u32 0,.string (⟨#[]⟩:ByteArray)] 32 (0,0)) (by (with_reducible repeat (first|apply blk_drewN|apply blk_drew|apply blk_alloc));exact BK281.out) hb)
            have n1_:=Aside0.mk (blk_below (g:=gb282) (o:=.cells #[.string (⟨#[1,121]⟩:ByteArray),.int .u16 99,.int .u32 0,.string (⟨#[]⟩:ByteArray)] 32 (0,0)) (by (with_reducible repeat (first|apply blk_drewN|apply blk_drew|apply blk_alloc));exact BK282.out) hb)
            have n2_:=Aside0.mk (below_step (by repeat (first|(with_reducible first|exact HB.out|apply below_alloc|apply pw_below_drewN|apply below_drew1|refine below_set ?_ GE281.out|refine below_set ?_ GE282.out)|exact HB.out)) hb)
            have n3_:=Aside0.mk (hbox)
            have n4_:=Aside0.mk ((by rw [hg];exact (below_size (by repeat (first|(with_reducible first|exact HB.out|apply below_alloc|apply pw_below_drewN|apply below_drew1|refine below_set ?_ GE281.out|refine below_set ?_ GE282.out)|exact HB.out))):w.heap.size≤gb310))
            have n5_:=Aside0.mk ((by rw [hg];exact (below_size (by repeat (first|(with_reducible first|exact HB.out|apply below_alloc|apply pw_below_drewN|apply below_drew1|refine below_set ?_ GE281.out|refine below_set ?_ GE282.out)|exact HB.out))):w.heap.size≤gb310))
            have n6_:=Aside0.mk ((by rw [hg];exact Nat.ne_of_lt (blk_lt (g:=gb281) (o:=.cells #[.string (⟨#[1,120]⟩:ByteArray),.int .u16 99,.int .u32 0,.string (⟨#[]⟩:ByteArray)] 32 (0,0)) (by (with_reducible repeat (first|apply blk_drewN|apply blk_drew|apply blk_alloc));exact BK281.out)):gb281≠gb310))
            have n7_:=Aside0.mk ((by rw [hg];exact Nat.ne_of_gt (blk_lt (g:=gb281) (o:=.cells #[.string (⟨#[1,120]⟩:ByteArray),.int .u16 99,.int .u32 0,.string (⟨#[]⟩:ByteArray)] 32 (0,0)) (by (with_reducible repeat (first|apply blk_drewN|apply blk_drew|apply blk_alloc));exact BK281.out)):gb310≠gb281))
            have n8_:=Aside0.mk ((by rw [hg];exact Nat.ne_of_lt (blk_lt (g:=gb282) (o:=.cells #[.string (⟨#[1,121]⟩:ByteArray),.int .u16 99,.int .u32 0,.string (⟨#[]⟩:ByteArray)] 32 (0,0)) (by (with_reducible repeat (first|apply blk_drewN|apply blk_drew|apply blk_alloc));exact BK282.out)):gb282≠gb310))
            have n9_:=Aside0.mk ((by rw [hg];exact Nat.ne_of_gt (blk_lt (g:=gb282) (o:=.cells #[.string (⟨#[1,121]⟩:ByteArray),.int .u16 99,.int .u32 0,.string (⟨#[]⟩:ByteArray)] 32 (0,0)) (by (with_reducible repeat (first|apply blk_drewN|apply blk_drew|apply blk_alloc));exact BK282.out)):gb310≠gb282))
            clear BK281
            clear BK282
            clear HB
            have BK281:=n0_
            have BK282:=n1_
            have HB:=n2_
            have BK310:=n3_
            have GW310:=n4_
            have GE310:=n5_
            have NB281_310:=n6_
            have NB310_281:=n7_
            have NB282_310:=n8_
            have NB310_282:=n9_
            clear n0_ n1_ n2_ n3_ n4_ n5_ n6_ n7_ n8_ n9_
            clear hb hbox hg
            refine hK.out _ _ ⟨(blk_cell BK281.out 0).trans rfl,(blk_cell BK281.out 1).trans rfl,(blk_cell BK281.out 2).trans rfl,(blk_cell BK281.out 3).trans rfl,(blk_cell BK282.out 0).trans rfl,(blk_cell BK282.out 1).trans rfl,(blk_cell BK282.out 2).trans rfl,(blk_cell BK282.out 3).trans rfl⟩ (fun hHeld=>?_)
            clear hK K
            refine norm_ (a':=?_) ?_ ?_
            rotate_left
            ·show Act.put _ (some 4) _ = _
             simp only [Act.put,setIfInBounds_toArray,set_cons_zero,set_cons_succ,i64_w,i32_w]
             rfl
            exact norm_ (by simp only [putAll,Act.put,setIfInBounds_toArray,set_cons_zero,set_cons_succ] <;> rfl) (hJ1_3_15 (gb310) _ ⟨hHeld,(by (with_reducible repeat (first|apply blk_drewN|apply blk_drew|apply blk_alloc));exact BK281.out),(by (with_reducible repeat (first|apply blk_drewN|apply blk_drew|apply blk_alloc));exact BK282.out),(by (with_reducible repeat (first|apply blk_drewN|apply blk_drew|apply blk_alloc));exact BK310.out),GW310.out,GE310.out,NB281_310.out,NB310_281.out,NB282_310.out,NB310_282.out,(by repeat (first|(with_reducible first|exact HB.out|apply below_alloc|apply pw_below_drewN|apply below_drew1|refine below_set ?_ GE281.out|refine below_set ?_ GE282.out|refine below_set ?_ GE310.out)|exact HB.out))⟩)
         ·skip
          rintro gb310 w26 ⟨hS_,h0_,h1_,h2_,h3_,h4_,h5_,h6_,h7_,h8_,h9_⟩
          have n0_:Aside0 (w26.heap[gb281]? = some (.cells #[.string (⟨#[1,120]⟩:ByteArray),.int .u16 99,.int .u32 0,.string (⟨#[]⟩:ByteArray)] 32 (0,0))):=⟨h0_⟩
          have n1_:Aside0 (w26.heap[gb282]? = some (.cells #[.string (⟨#[1,121]⟩:ByteArray),.int .u16 99,.int .u32 0,.string (⟨#[]⟩:ByteArray)] 32 (0,0))):=⟨h1_⟩
          have n2_:Aside0 (w26.heap[gb310]? = some (.cells #[.bool false,.slice none 0 0,.slice none 0 0] 48 (0,0))):=⟨h2_⟩
          have n3_:Aside0 (w.heap.size≤gb310):=⟨h3_⟩
          have n4_:Aside0 (w.heap.size≤gb310):=⟨h4_⟩
          have n5_:Aside0 (gb281≠gb310):=⟨h5_⟩
          have n6_:Aside0 (gb310≠gb281):=⟨h6_⟩
          have n7_:Aside0 (gb282≠gb310):=⟨h7_⟩
          have n8_:Aside0 (gb310≠gb282):=⟨h8_⟩
          have n9_:Aside0 (Below w.heap.size w w26):=⟨h9_⟩
          clear BK281
          clear BK282
          clear HB
          clear h0_ h1_ h2_ h3_ h4_ h5_ h6_ h7_ h8_ h9_
          have BK281:=n0_
          have BK282:=n1_
          have BK310:=n2_
          have GW310:=n3_
          have GE310:=n4_
          have NB281_310:=n5_
          have NB310_281:=n6_
          have NB282_310:=n7_
          have NB310_282:=n8_
          have HB:=n9_
          clear n0_ n1_ n2_ n3_ n4_ n5_ n6_ n7_ n8_ n9_
          have hHeld:w26.cell? ⟨gb281,0,none⟩ = some (.string (⟨#[1,120]⟩:ByteArray))∧w26.cell? ⟨gb281,1,none⟩ = some (.int .u16 99)∧w26.cell? ⟨gb281,2,none⟩ = some (.int .u32 0)∧w26.cell? ⟨gb281,3,none⟩ = some (.string (⟨#[]⟩:ByteArray))∧w26.cell? ⟨gb282,0,none⟩ = some (.string (⟨#[1,121]⟩:ByteArray))∧w26.cell? ⟨gb282,1,none⟩ = some (.int .u16 99)∧w26.cell? ⟨gb282,2,none⟩ = some (.int .u32 0)∧w26.cell? ⟨gb282,3,none⟩ = some (.string (⟨#[]⟩:ByteArray)):=hS_
          refine norm_ (a':=?_) ?_ ?_
          rotate_left
          ·simp only [putAll,Act.put,setIfInBounds_toArray,set_cons_zero,set_cons_succ]
           rfl
          refine one_ (i:=6) (N:=some 15) #[true,true,true,true,true,true,true,true,true,false,false,false,false,false,false,true,false,false] rfl rfl (one_of HT_.out (by kernel_rfl)) (by decide) (fun K hK=>?_)
          refine goesT_ Tryd.func19 (by kernel_rfl) rfl #[.int .u32 3] (by rfl) rfl rfl rfl (by (try simp only [List.map_toArray,List.map_cons,List.map_nil]);rfl) ?_
          with_reducible refine (bolterlaw09_awake_1.calls k 3 t291 t292 t293 t294 _ A3.out).mono ?_
          rintro e w27 ⟨rfl,hb⟩
          refine ⟨_,rfl,?_⟩
          have n0_:=Aside0.mk (blk_below (g:=gb281) (o:=.cells #[.string (⟨#[1,120]⟩:ByteArray),.int .u16 99,.int .u32 0,.string (⟨#[]⟩:ByteArray)] 32 (0,0)) (by (with_reducible repeat (first|apply blk_drewN|apply blk_drew|apply blk_alloc));exact BK281.out) hb)
          have n1_:=Aside0.mk (blk_below (g:=gb282) (o:=.cells #[.string (⟨#[1,121]⟩:ByteArray),.int .u16 99,.int .u32 0,.string (⟨#[]⟩:ByteArray)] 32 (0,0)) (by (with_reducible repeat (first|apply blk_drewN|apply blk_drew|apply blk_alloc));exact BK282.out) hb)
          have n2_:=Aside0.mk (blk_below (g:=gb310) (o:=.cells #[.bool false,.slice none 0 0,.slice none 0 0] 48 (0,0)) (by (with_reducible repeat (first|apply blk_drewN|apply blk_drew|apply blk_alloc));exact BK310.out) hb)
          have n3_:=Aside0.mk (below_step (by repeat (first|(with_reducible first|exact HB.out|apply below_alloc|apply pw_below_drewN|apply below_drew1|refine below_set ?_ GE281.out|refine below_set ?_ GE282.out|refine below_set ?_ GE310.out)|exact HB.out)) hb)
          clear BK281
          clear BK282
          clear BK310
          clear HB
          have BK281:=n0_
          have BK282:=n1_
          have BK310:=n2_
          have HB:=n3_
          clear n0_ n1_ n2_ n3_
          (try clear hb)
          (try clear hb2)
          (try clear hk)
          (try clear hi)
          refine hK.out _ _ ⟨(blk_cell BK281.out 0).trans rfl,(blk_cell BK281.out 1).trans rfl,(blk_cell BK281.out 2).trans rfl,(blk_cell BK281.out 3).trans rfl,(blk_cell BK282.out 0).trans rfl,(blk_cell BK282.out 1).trans rfl,(blk_cell BK282.out 2).trans rfl,(blk_cell BK282.out 3).trans rfl⟩ (fun hHeld=>?_)
          clear hK K
          refine norm_ (a':=?_) ?_ ?_
          rotate_left
          ·show Act.put _ (some 15) _ = _
           simp only [Act.put,setIfInBounds_toArray,set_cons_zero,set_cons_succ,i64_w,i32_w]
           rfl
          exact norm_ (by simp only [putAll,Act.put,setIfInBounds_toArray,set_cons_zero,set_cons_succ] <;> rfl) (hJ1_3_6_15 (gb310) _ ⟨hHeld,(by (with_reducible repeat (first|apply blk_drewN|apply blk_drew|apply blk_alloc));exact BK281.out),(by (with_reducible repeat (first|apply blk_drewN|apply blk_drew|apply blk_alloc));exact BK282.out),(by (with_reducible repeat (first|apply blk_drewN|apply blk_drew|apply blk_alloc));exact BK310.out),GW310.out,GE310.out,NB281_310.out,NB310_281.out,NB282_310.out,NB310_282.out,(by repeat (first|(with_reducible first|exact HB.out|apply below_alloc|apply pw_below_drewN|apply below_drew1|refine below_set ?_ GE281.out|refine below_set ?_ GE282.out|refine below_set ?_ GE310.out)|exact HB.out))⟩)
        ·skip
         rintro _ w26 ⟨hS_,h0_,h1_,h2_⟩
         have n0_:Aside0 (w26.heap[gb281]? = some (.cells #[.string (⟨#[1,120]⟩:ByteArray),.int .u16 99,.int .u32 0,.string (⟨#[]⟩:ByteArray)] 32 (0,0))):=⟨h0_⟩
         have n1_:Aside0 (w26.heap[gb282]? = some (.cells #[.string (⟨#[1,121]⟩:ByteArray),.int .u16 99,.int .u32 0,.string (⟨#[]⟩:ByteArray)] 32 (0,0))):=⟨h1_⟩
         have n2_:Aside0 (Below w.heap.size w w26):=⟨h2_⟩
         clear BK281
         clear BK282
         clear HB
         clear h0_ h1_ h2_
         have BK281:=n0_
         have BK282:=n1_
         have HB:=n2_
         clear n0_ n1_ n2_
         have hHeld:w26.cell? ⟨gb281,0,none⟩ = some (.string (⟨#[1,120]⟩:ByteArray))∧w26.cell? ⟨gb281,1,none⟩ = some (.int .u16 99)∧w26.cell? ⟨gb281,2,none⟩ = some (.int .u32 0)∧w26.cell? ⟨gb281,3,none⟩ = some (.string (⟨#[]⟩:ByteArray))∧w26.cell? ⟨gb282,0,none⟩ = some (.string (⟨#[1,121]⟩:ByteArray))∧w26.cell? ⟨gb282,1,none⟩ = some (.int .u16 99)∧w26.cell? ⟨gb282,2,none⟩ = some (.int .u32 0)∧w26.cell? ⟨gb282,3,none⟩ = some (.string (⟨#[]⟩:ByteArray)):=hS_
         refine norm_ (a':=?_) ?_ ?_
         rotate_left
         ·simp only [putAll,Act.put,setIfInBounds_toArray,set_cons_zero,set_cons_succ]
          rfl
         refine two_ (i:=9) (j:=15) (Ni:=some 18) (Nj:=some 4) #[true,true,true,true,true,true,true,true,true,true,false,false,false,false,false,false,false,false] #[true,true,true,true,true,true,true,true,true,false,false,false,false,false,false,true,false,false] rfl rfl rfl rfl (two_of HT_.out (by kernel_rfl)) (by decide) (by decide) (fun K hK=>?_) (fun K hK=>?_)
         ·skip
          refine goesT_ Tryd.func19 (by kernel_rfl) rfl #[.int .u32 3] (by rfl) rfl rfl rfl (by (try simp only [List.map_toArray,List.map_cons,List.map_nil]);rfl) ?_
          with_reducible refine (bolterlaw09_awake_1.calls k 3 t295 t296 t297 t298 _ A4.out).mono ?_
          rintro e w27 ⟨rfl,hb⟩
          refine ⟨_,rfl,?_⟩
          have n0_:=Aside0.mk (blk_below (g:=gb281) (o:=.cells #[.string (⟨#[1,120]⟩:ByteArray),.int .u16 99,.int .u32 0,.string (⟨#[]⟩:ByteArray)] 32 (0,0)) (by (with_reducible repeat (first|apply blk_drewN|apply blk_drew|apply blk_alloc));exact BK281.out) hb)
          have n1_:=Aside0.mk (blk_below (g:=gb282) (o:=.cells #[.string (⟨#[1,121]⟩:ByteArray),.int .u16 99,.int .u32 0,.string (⟨#[]⟩:ByteArray)] 32 (0,0)) (by (with_reducible repeat (first|apply blk_drewN|apply blk_drew|apply blk_alloc));exact BK282.out) hb)
          have n2_:=Aside0.mk (below_step (by repeat (first|(with_reducible first|exact HB.out|apply below_alloc|apply pw_below_drewN|apply below_drew1|refine below_set ?_ GE281.out|refine below_set ?_ GE282.out)|exact HB.out)) hb)
          clear BK281
          clear BK282
          clear HB
          have BK281:=n0_
          have BK282:=n1_
          have HB:=n2_
          clear n0_ n1_ n2_
          (try clear hb)
          (try clear hb2)
          (try clear hk)
          (try clear hi)
          refine hK.out _ _ ⟨(blk_cell BK281.out 0).trans rfl,(blk_cell BK281.out 1).trans rfl,(blk_cell BK281.out 2).trans rfl,(blk_cell BK281.out 3).trans rfl,(blk_cell BK282.out 0).trans rfl,(blk_cell BK282.out 1).trans rfl,(blk_cell BK282.out 2).trans rfl,(blk_cell BK282.out 3).trans rfl⟩ (fun hHeld=>?_)
          clear hK K
          refine norm_ (a':=?_) ?_ ?_
          rotate_left
          ·show Act.put _ (some 18) _ = _
           simp only [Act.put,setIfInBounds_toArray,set_cons_zero,set_cons_succ,i64_w,i32_w]
           rfl
          exact norm_ (by simp only [putAll,Act.put,setIfInBounds_toArray,set_cons_zero,set_cons_succ] <;> rfl) (hJ1_3_6_9 () _ ⟨hHeld,(by (with_reducible repeat (first|apply blk_drewN|apply blk_drew|apply blk_alloc));exact BK281.out),(by (with_reducible repeat (first|apply blk_drewN|apply blk_drew|apply blk_alloc));exact BK282.out),(by repeat (first|(with_reducible first|exact HB.out|apply below_alloc|apply pw_below_drewN|apply below_drew1|refine below_set ?_ GE281.out|refine below_set ?_ GE282.out)|exact HB.out))⟩)
         ·skip
          refine box_step ?hg (N:=4) ?hd (cs:=#[.bool false,.slice none 0 0,.slice none 0 0]) (t:=48) ?hr ?_;(case hd=>rfl);(case hg=>rfl);(case hr=>first|(go_simp;done)|(go_simp;rfl))
          intro gb310 hg w27 hbox hb
          have n0_:=Aside0.mk (blk_below (g:=gb281) (o:=.cells #[.string (⟨#[1,120]⟩:ByteArray),.int .u16 99,.int .u32 0,.string (⟨#[]⟩:ByteArray)] 32 (0,0)) (by (with_reducible repeat (first|apply blk_drewN|apply blk_drew|apply blk_alloc));exact BK281.out) hb)
          have n1_:=Aside0.mk (blk_below (g:=gb282) (o:=.cells #[.string (⟨#[1,121]⟩:ByteArray),.int .u16 99,.int .u32 0,.string (⟨#[]⟩:ByteArray)] 32 (0,0)) (by (with_reducible repeat (first|apply blk_drewN|apply blk_drew|apply blk_alloc));exact BK282.out) hb)
          have n2_:=Aside0.mk (below_step (by repeat (first|(with_reducible first|exact HB.out|apply below_alloc|apply pw_below_drewN|apply below_drew1|refine below_set ?_ GE281.out|refine below_set ?_ GE282.out)|exact HB.out)) hb)
          have n3_:=Aside0.mk (hbox)
          have n4_:=Aside0.mk ((by rw [hg];exact (below_size (by repeat (first|(with_reducible first|exact HB.out|apply below_alloc|apply pw_below_drewN|apply below_drew1|refine below_set ?_ GE281.out|refine below_set ?_ GE282.out)|exact HB.out))):w.heap.size≤gb310))
          have n5_:=Aside0.mk ((by rw [hg];exact (below_size (by repeat (first|(with_reducible first|exact HB.out|apply below_alloc|apply pw_below_drewN|apply below_drew1|refine below_set ?_ GE281.out|refine below_set ?_ GE282.out)|exact HB.out))):w.heap.size≤gb310))
          have n6_:=Aside0.mk ((by rw [hg];exact Nat.ne_of_lt (blk_lt (g:=gb281) (o:=.cells #[.string (⟨#[1,120]⟩:ByteArray),.int .u16 99,.int .u32 0,.string (⟨#[]⟩:ByteArray)] 32 (0,0)) (by (with_reducible repeat (first|apply blk_drewN|apply blk_drew|apply blk_alloc));exact BK281.out)):gb281≠gb310))
          have n7_:=Aside0.mk ((by rw [hg];exact Nat.ne_of_gt (blk_lt (g:=gb281) (o:=.cells #[.string (⟨#[1,120]⟩:ByteArray),.int .u16 99,.int .u32 0,.string (⟨#[]⟩:ByteArray)] 32 (0,0)) (by (with_reducible repeat (first|apply blk_drewN|apply blk_drew|apply blk_alloc));exact BK281.out)):gb310≠gb281))
          have n8_:=Aside0.mk ((by rw [hg];exact Nat.ne_of_lt (blk_lt (g:=gb282) (o:=.cells #[.string (⟨#[1,121]⟩:ByteArray),.int .u16 99,.int .u32 0,.string (⟨#[]⟩:ByteArray)] 32 (0,0)) (by (with_reducible repeat (first|apply blk_drewN|apply blk_drew|apply blk_alloc));exact BK282.out)):gb282≠gb310))
          have n9_:=Aside0.mk ((by rw [hg];exact Nat.ne_of_gt (blk_lt (g:=gb282) (o:=.cells #[.string (⟨#[1,121]⟩:ByteArray),.int .u16 99,.int .u32 0,.string (⟨#[]⟩:ByteArray)] 32 (0,0)) (by (with_reducible repeat (first|apply blk_drewN|apply blk_drew|apply blk_alloc));exact BK282.out)):gb310≠gb282))
          clear BK281
          clear BK282
          clear HB
          have BK281:=n0_
          have BK282:=n1_
          have HB:=n2_
          have BK310:=n3_
          have GW310:=n4_
          have GE310:=n5_
          have NB281_310:=n6_
          have NB310_281:=n7_
          have NB282_310:=n8_
          have NB310_282:=n9_
          clear n0_ n1_ n2_ n3_ n4_ n5_ n6_ n7_ n8_ n9_
          clear hb hbox hg
          refine hK.out _ _ ⟨(blk_cell BK281.out 0).trans rfl,(blk_cell BK281.out 1).trans rfl,(blk_cell BK281.out 2).trans rfl,(blk_cell BK281.out 3).trans rfl,(blk_cell BK282.out 0).trans rfl,(blk_cell BK282.out 1).trans rfl,(blk_cell BK282.out 2).trans rfl,(blk_cell BK282.out 3).trans rfl⟩ (fun hHeld=>?_)
          clear hK K
          refine norm_ (a':=?_) ?_ ?_
          rotate_left
          ·show Act.put _ (some 4) _ = _
           simp only [Act.put,setIfInBounds_toArray,set_cons_zero,set_cons_succ,i64_w,i32_w]
           rfl
          exact norm_ (by simp only [putAll,Act.put,setIfInBounds_toArray,set_cons_zero,set_cons_succ] <;> rfl) (hJ1_3_6_15 (gb310) _ ⟨hHeld,(by (with_reducible repeat (first|apply blk_drewN|apply blk_drew|apply blk_alloc));exact BK281.out),(by (with_reducible repeat (first|apply blk_drewN|apply blk_drew|apply blk_alloc));exact BK282.out),(by (with_reducible repeat (first|apply blk_drewN|apply blk_drew|apply blk_alloc));exact BK310.out),GW310.out,GE310.out,NB281_310.out,NB310_281.out,NB282_310.out,NB310_282.out,(by repeat (first|(with_reducible first|exact HB.out|apply below_alloc|apply pw_below_drewN|apply below_drew1|refine below_set ?_ GE281.out|refine below_set ?_ GE282.out|refine below_set ?_ GE310.out)|exact HB.out))⟩)
       ·skip
        rintro gb310 w27 ⟨hS_,h0_,h1_,h2_,h3_,h4_,h5_,h6_,h7_,h8_,h9_⟩
        have n0_:Aside0 (w27.heap[gb281]? = some (.cells #[.string (⟨#[1,120]⟩:ByteArray),.int .u16 99,.int .u32 0,.string (⟨#[]⟩:ByteArray)] 32 (0,0))):=⟨h0_⟩
        have n1_:Aside0 (w27.heap[gb282]? = some (.cells #[.string (⟨#[1,121]⟩:ByteArray),.int .u16 99,.int .u32 0,.string (⟨#[]⟩:ByteArray)] 32 (0,0))):=⟨h1_⟩
        have n2_:Aside0 (w27.heap[gb310]? = some (.cells #[.bool false,.slice none 0 0,.slice none 0 0] 48 (0,0))):=⟨h2_⟩
        have n3_:Aside0 (w.heap.size≤gb310):=⟨h3_⟩
        have n4_:Aside0 (w.heap.size≤gb310):=⟨h4_⟩
        have n5_:Aside0 (gb281≠gb310):=⟨h5_⟩
        have n6_:Aside0 (gb310≠gb281):=⟨h6_⟩
        have n7_:Aside0 (gb282≠gb310):=⟨h7_⟩
        have n8_:Aside0 (gb310≠gb282):=⟨h8_⟩
        have n9_:Aside0 (Below w.heap.size w w27):=⟨h9_⟩
        clear BK281
        clear BK282
        clear HB
        clear h0_ h1_ h2_ h3_ h4_ h5_ h6_ h7_ h8_ h9_
        have BK281:=n0_
        have BK282:=n1_
        have BK310:=n2_
        have GW310:=n3_
        have GE310:=n4_
        have NB281_310:=n5_
        have NB310_281:=n6_
        have NB282_310:=n7_
        have NB310_282:=n8_
        have HB:=n9_
        clear n0_ n1_ n2_ n3_ n4_ n5_ n6_ n7_ n8_ n9_
        have hHeld:w27.cell? ⟨gb281,0,none⟩ = some (.string (⟨#[1,120]⟩:ByteArray))∧w27.cell? ⟨gb281,1,none⟩ = some (.int .u16 99)∧w27.cell? ⟨gb281,2,none⟩ = some (.int .u32 0)∧w27.cell? ⟨gb281,3,none⟩ = some (.string (⟨#[]⟩:ByteArray))∧w27.cell? ⟨gb282,0,none⟩ = some (.string (⟨#[1,121]⟩:ByteArray))∧w27.cell? ⟨gb282,1,none⟩ = some (.int .u16 99)∧w27.cell? ⟨gb282,2,none⟩ = some (.int .u32 0)∧w27.cell? ⟨gb282,3,none⟩ = some (.string (⟨#[]⟩:ByteArray)):=hS_
        refine norm_ (a':=?_) ?_ ?_
        rotate_left
        ·simp only [putAll,Act.put,setIfInBounds_toArray,set_cons_zero,set_cons_succ]
         rfl
        refine one_ (i:=9) (N:=some 18) #[true,true,true,true,true,true,true,true,true,true,false,false,false,false,false,true,false,false] rfl rfl (one_of HT_.out (by kernel_rfl)) (by decide) (fun K hK=>?_)
        refine goesT_ Tryd.func19 (by kernel_rfl) rfl #[.int .u32 3] (by rfl) rfl rfl rfl (by (try simp only [List.map_toArray,List.map_cons,List.map_nil]);rfl) ?_
        with_reducible refine (bolterlaw09_awake_1.calls k 3 t295 t296 t297 t298 _ A4.out).mono ?_
        rintro e w28 ⟨rfl,hb⟩
        refine ⟨_,rfl,?_⟩
        have n0_:=Aside0.mk (blk_below (g:=gb281) (o:=.cells #[.string (⟨#[1,120]⟩:ByteArray),.int .u16 99,.int .u32 0,.string (⟨#[]⟩:ByteArray)] 32 (0,0)) (by (with_reducible repeat (first|apply blk_drewN|apply blk_drew|apply blk_alloc));exact BK281.out) hb)
        have n1_:=Aside0.mk (blk_below (g:=gb282) (o:=.cells #[.string (⟨#[1,121]⟩:ByteArray),.int .u16 99,.int .u32 0,.string (⟨#[]⟩:ByteArray)] 32 (0,0)) (by (with_reducible repeat (first|apply blk_drewN|apply blk_drew|apply blk_alloc));exact BK282.out) hb)
        have n2_:=Aside0.mk (blk_below (g:=gb310) (o:=.cells #[.bool false,.slice none 0 0,.slice none 0 0] 48 (0,0)) (by (with_reducible repeat (first|apply blk_drewN|apply blk_drew|apply blk_alloc));exact BK310.out) hb)
        have n3_:=Aside0.mk (below_step (by repeat (first|(with_reducible first|exact HB.out|apply below_alloc|apply pw_below_drewN|apply below_drew1|refine below_set ?_ GE281.out|refine below_set ?_ GE282.out|refine below_set ?_ GE310.out)|exact HB.out)) hb)
        clear BK281
        clear BK282
        clear BK310
        clear HB
        have BK281:=n0_
        have BK282:=n1_
        have BK310:=n2_
        have HB:=n3_
        clear n0_ n1_ n2_ n3_
        (try clear hb)
        (try clear hb2)
        (try clear hk)
        (try clear hi)
        refine hK.out _ _ ⟨(blk_cell BK281.out 0).trans rfl,(blk_cell BK281.out 1).trans rfl,(blk_cell BK281.out 2).trans rfl,(blk_cell BK281.out 3).trans rfl,(blk_cell BK282.out 0).trans rfl,(blk_cell BK282.out 1).trans rfl,(blk_cell BK282.out 2).trans rfl,(blk_cell BK282.out 3).trans rfl⟩ (fun hHeld=>?_)
        clear hK K
        refine norm_ (a':=?_) ?_ ?_
        rotate_left
        ·show Act.put _ (some 18) _ = _
         simp only [Act.put,setIfInBounds_toArray,set_cons_zero,set_cons_succ,i64_w,i32_w]
         rfl
        exact norm_ (by simp only [putAll,Act.put,setIfInBounds_toArray,set_cons_zero,set_cons_succ] <;> rfl) (hJ1_3_6_9_15 (gb310) _ ⟨hHeld,(by (with_reducible repeat (first|apply blk_drewN|apply blk_drew|apply blk_alloc));exact BK281.out),(by (with_reducible repeat (first|apply blk_drewN|apply blk_drew|apply blk_alloc));exact BK282.out),(by (with_reducible repeat (first|apply blk_drewN|apply blk_drew|apply blk_alloc));exact BK310.out),GW310.out,GE310.out,NB281_310.out,NB310_281.out,NB282_310.out,NB310_282.out,(by repeat (first|(with_reducible first|exact HB.out|apply below_alloc|apply pw_below_drewN|apply below_drew1|refine below_set ?_ GE281.out|refine below_set ?_ GE282.out|refine below_set ?_ GE310.out)|exact HB.out))⟩)
      ·skip
       rintro _ w27 ⟨hS_,h0_,h1_,h2_⟩
       have n0_:Aside0 (w27.heap[gb281]? = some (.cells #[.string (⟨#[1,120]⟩:ByteArray),.int .u16 99,.int .u32 0,.string (⟨#[]⟩:ByteArray)] 32 (0,0))):=⟨h0_⟩
       have n1_:Aside0 (w27.heap[gb282]? = some (.cells #[.string (⟨#[1,121]⟩:ByteArray),.int .u16 99,.int .u32 0,.string (⟨#[]⟩:ByteArray)] 32 (0,0))):=⟨h1_⟩
       have n2_:Aside0 (Below w.heap.size w w27):=⟨h2_⟩
       clear BK281
       clear BK282
       clear HB
       clear h0_ h1_ h2_
       have BK281:=n0_
       have BK282:=n1_
       have HB:=n2_
       clear n0_ n1_ n2_
       have hHeld:w27.cell? ⟨gb281,0,none⟩ = some (.string (⟨#[1,120]⟩:ByteArray))∧w27.cell? ⟨gb281,1,none⟩ = some (.int .u16 99)∧w27.cell? ⟨gb281,2,none⟩ = some (.int .u32 0)∧w27.cell? ⟨gb281,3,none⟩ = some (.string (⟨#[]⟩:ByteArray))∧w27.cell? ⟨gb282,0,none⟩ = some (.string (⟨#[1,121]⟩:ByteArray))∧w27.cell? ⟨gb282,1,none⟩ = some (.int .u16 99)∧w27.cell? ⟨gb282,2,none⟩ = some (.int .u32 0)∧w27.cell? ⟨gb282,3,none⟩ = some (.string (⟨#[]⟩:ByteArray)):=hS_
       refine norm_ (a':=?_) ?_ ?_
       rotate_left
       ·simp only [putAll,Act.put,setIfInBounds_toArray,set_cons_zero,set_cons_succ]
        rfl
       refine two_ (i:=10) (j:=15) (Ni:=some 19) (Nj:=some 4) #[true,true,true,true,true,true,true,true,true,true,true,false,false,false,false,false,false,false] #[true,true,true,true,true,true,true,true,true,true,false,false,false,false,false,true,false,false] rfl rfl rfl rfl (two_of HT_.out (by kernel_rfl)) (by decide) (by decide) (fun K hK=>?_) (fun K hK=>?_)
       ·skip
        refine Kd.R_lit_step k32 _ 32 ?hg (N:=19) ?hd (xs:=([(⟨t283,t284,t285,t286⟩:S32),(⟨t287,t288,t289,t290⟩:S32),(⟨(⟨#[1,120]⟩:ByteArray),99,0,(⟨#[]⟩:ByteArray)⟩:S32),(⟨t291,t292,t293,t294⟩:S32),(⟨(⟨#[1,121]⟩:ByteArray),99,0,(⟨#[]⟩:ByteArray)⟩:S32),(⟨t295,t296,t297,t298⟩:S32)]:List (S32))) (inner:=[.string t283,.int .u16 t284,.int .u32 t285,.string t286,.string t287,.int .u16 t288,.int .u32 t289,.string t290,.string (⟨#[1,120]⟩:ByteArray),.int .u16 99,.int .u32 0,.string (⟨#[]⟩:ByteArray),.string t291,.int .u16 t292,.int .u32 t293,.string t294,.string (⟨#[1,121]⟩:ByteArray),.int .u16 99,.int .u32 0,.string (⟨#[]⟩:ByteArray),.string t295,.int .u16 t296,.int .u32 t297,.string t298]) (ok:=fun _=>True) (okp:=fun _=>True) ?hr ?hp (fun _ hk=>hk) trivial (Below.refl _ _) (Nat.le_refl _) (by simp) ?_;(case hd=>rfl);(case hg=>rfl);(case hr=>first|(go_simp;done)|(go_simp;rfl));(case hp=>exact (Reps.c4 (show Kd.M k32 _ _ _ (⟨t283,t284,t285,t286⟩:S32) [.string t283,.int .u16 t284,.int .u32 t285,.string t286] from (k32_mkM _ _ _ (⟨t283,t284,t285,t286⟩:S32) )) (Reps.c4 (show Kd.M k32 _ _ _ (⟨t287,t288,t289,t290⟩:S32) [.string t287,.int .u16 t288,.int .u32 t289,.string t290] from (k32_mkM _ _ _ (⟨t287,t288,t289,t290⟩:S32) )) (Reps.c4 (show Kd.M k32 _ _ _ (⟨(⟨#[1,120]⟩:ByteArray),99,0,(⟨#[]⟩:ByteArray)⟩:S32) [.string (⟨#[1,120]⟩:ByteArray),.int .u16 99,.int .u32 0,.string (⟨#[]⟩:ByteArray)] from (k32_mkM _ _ _ (⟨(⟨#[1,120]⟩:ByteArray),99,0,(⟨#[]⟩:ByteArray)⟩:S32) )) (Reps.c4 (show Kd.M k32 _ _ _ (⟨t291,t292,t293,t294⟩:S32) [.string t291,.int .u16 t292,.int .u32 t293,.string t294] from (k32_mkM _ _ _ (⟨t291,t292,t293,t294⟩:S32) )) (Reps.c4 (show Kd.M k32 _ _ _ (⟨(⟨#[1,121]⟩:ByteArray),99,0,(⟨#[]⟩:ByteArray)⟩:S32) [.string (⟨#[1,121]⟩:ByteArray),.int .u16 99,.int .u32 0,.string (⟨#[]⟩:ByteArray)] from (k32_mkM _ _ _ (⟨(⟨#[1,121]⟩:ByteArray),99,0,(⟨#[]⟩:ByteArray)⟩:S32) )) (Reps.c4 (show Kd.M k32 _ _ _ (⟨t295,t296,t297,t298⟩:S32) [.string t295,.int .u16 t296,.int .u32 t297,.string t298] from (k32_mkM _ _ _ (⟨t295,t296,t297,t298⟩:S32) )) (Reps.none _ _))))))))
        intro v300 w28 ho29 hb hg_ hnew_
        clear hg_ hnew_
        (first|rw [← Ny299.out] at ho29|(simp only [Int.reduceToNat] at ho29;rw [← Ny299.out] at ho29))
        have n0_:=Aside0.mk (Kd.R_lower (Kd.R_newB (Kd.R_newB ho29 (g:=gb281) (o:=.cells #[.string (⟨#[1,120]⟩:ByteArray),.int .u16 99,.int .u32 0,.string (⟨#[]⟩:ByteArray)] 32 (0,0)) (by (with_reducible repeat (first|apply blk_drewN|apply blk_drew|apply blk_alloc));exact BK281.out)) (g:=gb282) (o:=.cells #[.string (⟨#[1,121]⟩:ByteArray),.int .u16 99,.int .u32 0,.string (⟨#[]⟩:ByteArray)] 32 (0,0)) (by (with_reducible repeat (first|apply blk_drewN|apply blk_drew|apply blk_alloc));exact BK282.out)) (below_size (by repeat (first|(with_reducible first|exact HB.out|apply below_alloc|apply pw_below_drewN|apply below_drew1|refine below_set ?_ GE281.out|refine below_set ?_ GE282.out)|exact HB.out))))
        have n1_:=Aside0.mk (blk_below (g:=gb281) (o:=.cells #[.string (⟨#[1,120]⟩:ByteArray),.int .u16 99,.int .u32 0,.string (⟨#[]⟩:ByteArray)] 32 (0,0)) (by (with_reducible repeat (first|apply blk_drewN|apply blk_drew|apply blk_alloc));exact BK281.out) hb)
        have n2_:=Aside0.mk (blk_below (g:=gb282) (o:=.cells #[.string (⟨#[1,121]⟩:ByteArray),.int .u16 99,.int .u32 0,.string (⟨#[]⟩:ByteArray)] 32 (0,0)) (by (with_reducible repeat (first|apply blk_drewN|apply blk_drew|apply blk_alloc));exact BK282.out) hb)
        have n3_:=Aside0.mk (below_step (by repeat (first|(with_reducible first|exact HB.out|apply below_alloc|apply pw_below_drewN|apply below_drew1|refine below_set ?_ GE281.out|refine below_set ?_ GE282.out)|exact HB.out)) hb)
        clear BK281
        clear BK282
        clear HB
        have HO301:=n0_
        have BK281:=n1_
        have BK282:=n2_
        have HB:=n3_
        clear n0_ n1_ n2_ n3_
        clear hb ho29
        refine hK.out _ _ ⟨(blk_cell BK281.out 0).trans rfl,(blk_cell BK281.out 1).trans rfl,(blk_cell BK281.out 2).trans rfl,(blk_cell BK281.out 3).trans rfl,(blk_cell BK282.out 0).trans rfl,(blk_cell BK282.out 1).trans rfl,(blk_cell BK282.out 2).trans rfl,(blk_cell BK282.out 3).trans rfl⟩ (fun hHeld=>?_)
        clear hK K
        refine norm_ (a':=?_) ?_ ?_
        rotate_left
        ·show Act.put _ (some 19) _ = _
         simp only [Act.put,setIfInBounds_toArray,set_cons_zero,set_cons_succ,i64_w,i32_w]
         rfl
        exact norm_ (by simp only [putAll,Act.put,setIfInBounds_toArray,set_cons_zero,set_cons_succ] <;> rfl) (hJ1_3_6_9_10 (v300) _ ⟨hHeld,(by (with_reducible repeat (first|apply Kd.R_alloc|apply Kd.R_drewN|apply Kd.R_drew));exact Kd.R_mono HO301.out (fun _ hk=>⟨hk.1.2,hk.2⟩)),(by (with_reducible repeat (first|apply blk_drewN|apply blk_drew|apply blk_alloc));exact BK281.out),(by (with_reducible repeat (first|apply blk_drewN|apply blk_drew|apply blk_alloc));exact BK282.out),(by repeat (first|(with_reducible first|exact HB.out|apply below_alloc|apply pw_below_drewN|apply below_drew1|refine below_set ?_ GE281.out|refine below_set ?_ GE282.out)|exact HB.out))⟩)
       ·skip
        refine box_step ?hg (N:=4) ?hd (cs:=#[.bool false,.slice none 0 0,.slice none 0 0]) (t:=48) ?hr ?_;(case hd=>rfl);(case hg=>rfl);(case hr=>first|(go_simp;done)|(go_simp;rfl))
        intro gb310 hg w28 hbox hb
        have n0_:=Aside0.mk (blk_below (g:=gb281) (o:=.cells #[.string (⟨#[1,120]⟩:ByteArray),.int .u16 99,.int .u32 0,.string (⟨#[]⟩:ByteArray)] 32 (0,0)) (by (with_reducible repeat (first|apply blk_drewN|apply blk_drew|apply blk_alloc));exact BK281.out) hb)
        have n1_:=Aside0.mk (blk_below (g:=gb282) (o:=.cells #[.string (⟨#[1,121]⟩:ByteArray),.int .u16 99,.int .u32 0,.string (⟨#[]⟩:ByteArray)] 32 (0,0)) (by (with_reducible repeat (first|apply blk_drewN|apply blk_drew|apply blk_alloc));exact BK282.out) hb)
        have n2_:=Aside0.mk (below_step (by repeat (first|(with_reducible first|exact HB.out|apply below_alloc|apply pw_below_drewN|apply below_drew1|refine below_set ?_ GE281.out|refine below_set ?_ GE282.out)|exact HB.out)) hb)
        have n3_:=Aside0.mk (hbox)
        have n4_:=Aside0.mk ((by rw [hg];exact (below_size (by repeat (first|(with_reducible first|exact HB.out|apply below_alloc|apply pw_below_drewN|apply below_drew1|refine below_set ?_ GE281.out|refine below_set ?_ GE282.out)|exact HB.out))):w.heap.size≤gb310))
        have n5_:=Aside0.mk ((by rw [hg];exact (below_size (by repeat (first|(with_reducible first|exact HB.out|apply below_alloc|apply pw_below_drewN|apply below_drew1|refine below_set ?_ GE281.out|refine below_set ?_ GE282.out)|exact HB.out))):w.heap.size≤gb310))
        have n6_:=Aside0.mk ((by rw [hg];exact Nat.ne_of_lt (blk_lt (g:=gb281) (o:=.cells #[.string (⟨#[1,120]⟩:ByteArray),.int .u16 99,.int .u32 0,.string (⟨#[]⟩:ByteArray)] 32 (0,0)) (by (with_reducible repeat (first|apply blk_drewN|apply blk_drew|apply blk_alloc));exact BK281.out)):gb281≠gb310))
        have n7_:=Aside0.mk ((by rw [hg];exact Nat.ne_of_gt (blk_lt (g:=gb281) (o:=.cells #[.string (⟨#[1,120]⟩:ByteArray),.int .u16 99,.int .u32 0,.string (⟨#[]⟩:ByteArray)] 32 (0,0)) (by (with_reducible repeat (first|apply blk_drewN|apply blk_drew|apply blk_alloc));exact BK281.out)):gb310≠gb281))
        have n8_:=Aside0.mk ((by rw [hg];exact Nat.ne_of_lt (blk_lt (g:=gb282) (o:=.cells #[.string (⟨#[1,121]⟩:ByteArray),.int .u16 99,.int .u32 0,.string (⟨#[]⟩:ByteArray)] 32 (0,0)) (by (with_reducible repeat (first|apply blk_drewN|apply blk_drew|apply blk_alloc));exact BK282.out)):gb282≠gb310))
        have n9_:=Aside0.mk ((by rw [hg];exact Nat.ne_of_gt (blk_lt (g:=gb282) (o:=.cells #[.string (⟨#[1,121]⟩:ByteArray),.int .u16 99,.int .u32 0,.string (⟨#[]⟩:ByteArray)] 32 (0,0)) (by (with_reducible repeat (first|apply blk_drewN|apply blk_drew|apply blk_alloc));exact BK282.out)):gb310≠gb282))
        clear BK281
        clear BK282
        clear HB
        have BK281:=n0_
        have BK282:=n1_
        have HB:=n2_
        have BK310:=n3_
        have GW310:=n4_
        have GE310:=n5_
        have NB281_310:=n6_
        have NB310_281:=n7_
        have NB282_310:=n8_
        have NB310_282:=n9_
        clear n0_ n1_ n2_ n3_ n4_ n5_ n6_ n7_ n8_ n9_
        clear hb hbox hg
        refine hK.out _ _ ⟨(blk_cell BK281.out 0).trans rfl,(blk_cell BK281.out 1).trans rfl,(blk_cell BK281.out 2).trans rfl,(blk_cell BK281.out 3).trans rfl,(blk_cell BK282.out 0).trans rfl,(blk_cell BK282.out 1).trans rfl,(blk_cell BK282.out 2).trans rfl,(blk_cell BK282.out 3).trans rfl⟩ (fun hHeld=>?_)
        clear hK K
        refine norm_ (a':=?_) ?_ ?_
        rotate_left
        ·show Act.put _ (some 4) _ = _
         simp only [Act.put,setIfInBounds_toArray,set_cons_zero,set_cons_succ,i64_w,i32_w]
         rfl
        exact norm_ (by simp only [putAll,Act.put,setIfInBounds_toArray,set_cons_zero,set_cons_succ] <;> rfl) (hJ1_3_6_9_15 (gb310) _ ⟨hHeld,(by (with_reducible repeat (first|apply blk_drewN|apply blk_drew|apply blk_alloc));exact BK281.out),(by (with_reducible repeat (first|apply blk_drewN|apply blk_drew|apply blk_alloc));exact BK282.out),(by (with_reducible repeat (first|apply blk_drewN|apply blk_drew|apply blk_alloc));exact BK310.out),GW310.out,GE310.out,NB281_310.out,NB310_281.out,NB282_310.out,NB310_282.out,(by repeat (first|(with_reducible first|exact HB.out|apply below_alloc|apply pw_below_drewN|apply below_drew1|refine below_set ?_ GE281.out|refine below_set ?_ GE282.out|refine below_set ?_ GE310.out)|exact HB.out))⟩)
     ·skip
      rintro gb310 w28 ⟨hS_,h0_,h1_,h2_,h3_,h4_,h5_,h6_,h7_,h8_,h9_⟩
      have n0_:Aside0 (w28.heap[gb281]? = some (.cells #[.string (⟨#[1,120]⟩:ByteArray),.int .u16 99,.int .u32 0,.string (⟨#[]⟩:ByteArray)] 32 (0,0))):=⟨h0_⟩
      have n1_:Aside0 (w28.heap[gb282]? = some (.cells #[.string (⟨#[1,121]⟩:ByteArray),.int .u16 99,.int .u32 0,.string (⟨#[]⟩:ByteArray)] 32 (0,0))):=⟨h1_⟩
      have n2_:Aside0 (w28.heap[gb310]? = some (.cells #[.bool false,.slice none 0 0,.slice none 0 0] 48 (0,0))):=⟨h2_⟩
      have n3_:Aside0 (w.heap.size≤gb310):=⟨h3_⟩
      have n4_:Aside0 (w.heap.size≤gb310):=⟨h4_⟩
      have n5_:Aside0 (gb281≠gb310):=⟨h5_⟩
      have n6_:Aside0 (gb310≠gb281):=⟨h6_⟩
      have n7_:Aside0 (gb282≠gb310):=⟨h7_⟩
      have n8_:Aside0 (gb310≠gb282):=⟨h8_⟩
      have n9_:Aside0 (Below w.heap.size w w28):=⟨h9_⟩
      clear BK281
      clear BK282
      clear HB
      clear h0_ h1_ h2_ h3_ h4_ h5_ h6_ h7_ h8_ h9_
      have BK281:=n0_
      have BK282:=n1_
      have BK310:=n2_
      have GW310:=n3_
      have GE310:=n4_
      have NB281_310:=n5_
      have NB310_281:=n6_
      have NB282_310:=n7_
      have NB310_282:=n8_
      have HB:=n9_
      clear n0_ n1_ n2_ n3_ n4_ n5_ n6_ n7_ n8_ n9_
      have hHeld:w28.cell? ⟨gb281,0,none⟩ = some (.string (⟨#[1,120]⟩:ByteArray))∧w28.cell? ⟨gb281,1,none⟩ = some (.int .u16 99)∧w28.cell? ⟨gb281,2,none⟩ = some (.int .u32 0)∧w28.cell? ⟨gb281,3,none⟩ = some (.string (⟨#[]⟩:ByteArray))∧w28.cell? ⟨gb282,0,none⟩ = some (.string (⟨#[1,121]⟩:ByteArray))∧w28.cell? ⟨gb282,1,none⟩ = some (.int .u16 99)∧w28.cell? ⟨gb282,2,none⟩ = some (.int .u32 0)∧w28.cell? ⟨gb282,3,none⟩ = some (.string (⟨#[]⟩:ByteArray)):=hS_
      refine norm_ (a':=?_) ?_ ?_
      rotate_left
      ·simp only [putAll,Act.put,setIfInBounds_toArray,set_cons_zero,set_cons_succ]
       rfl
      refine one_ (i:=10) (N:=some 19) #[true,true,true,true,true,true,true,true,true,true,true,false,false,false,false,true,false,false] rfl rfl (one_of HT_.out (by kernel_rfl)) (by decide) (fun K hK=>?_)
      refine Kd.R_lit_step k32 _ 32 ?hg (N:=19) ?hd (xs:=([(⟨t283,t284,t285,t286⟩:S32),(⟨t287,t288,t289,t290⟩:S32),(⟨(⟨#[1,120]⟩:ByteArray),99,0,(⟨#[]⟩:ByteArray)⟩:S32),(⟨t291,t292,t293,t294⟩:S32),(⟨(⟨#[1,121]⟩:ByteArray),99,0,(⟨#[]⟩:ByteArray)⟩:S32),(⟨t295,t296,t297,t298⟩:S32)]:List (S32))) (inner:=[.string t283,.int .u16 t284,.int .u32 t285,.string t286,.string t287,.int .u16 t288,.int .u32 t289,.string t290,.string (⟨#[1,120]⟩:ByteArray),.int .u16 99,.int .u32 0,.string (⟨#[]⟩:ByteArray),.string t291,.int .u16 t292,.int .u32 t293,.string t294,.string (⟨#[1,121]⟩:ByteArray),.int .u16 99,.int .u32 0,.string (⟨#[]⟩:ByteArray),.string t295,.int .u16 t296,.int .u32 t297,.string t298]) (ok:=fun _=>True) (okp:=fun _=>True) ?hr ?hp (fun _ hk=>hk) trivial (Below.refl _ _) (Nat.le_refl _) (by simp) ?_;(case hd=>rfl);(case hg=>rfl);(case hr=>first|(go_simp;done)|(go_simp;rfl));(case hp=>exact (Reps.c4 (show Kd.M k32 _ _ _ (⟨t283,t284,t285,t286⟩:S32) [.string t283,.int .u16 t284,.int .u32 t285,.string t286] from (k32_mkM _ _ _ (⟨t283,t284,t285,t286⟩:S32) )) (Reps.c4 (show Kd.M k32 _ _ _ (⟨t287,t288,t289,t290⟩:S32) [.string t287,.int .u16 t288,.int .u32 t289,.string t290] from (k32_mkM _ _ _ (⟨t287,t288,t289,t290⟩:S32) )) (Reps.c4 (show Kd.M k32 _ _ _ (⟨(⟨#[1,120]⟩:ByteArray),99,0,(⟨#[]⟩:ByteArray)⟩:S32) [.string (⟨#[1,120]⟩:ByteArray),.int .u16 99,.int .u32 0,.string (⟨#[]⟩:ByteArray)] from (k32_mkM _ _ _ (⟨(⟨#[1,120]⟩:ByteArray),99,0,(⟨#[]⟩:ByteArray)⟩:S32) )) (Reps.c4 (show Kd.M k32 _ _ _ (⟨t291,t292,t293,t294⟩:S32) [.string t291,.int .u16 t292,.int .u32 t293,.string t294] from (k32_mkM _ _ _ (⟨t291,t292,t293,t294⟩:S32) )) (Reps.c4 (show Kd.M k32 _ _ _ (⟨(⟨#[1,121]⟩:ByteArray),99,0,(⟨#[]⟩:ByteArray)⟩:S32) [.string (⟨#[1,121]⟩:ByteArray),.int .u16 99,.int .u32 0,.string (⟨#[]⟩:ByteArray)] from (k32_mkM _ _ _ (⟨(⟨#[1,121]⟩:ByteArray),99,0,(⟨#[]⟩:ByteArray)⟩:S32) )) (Reps.c4 (show Kd.M k32 _ _ _ (⟨t295,t296,t297,t298⟩:S32) [.string t295,.int .u16 t296,.int .u32 t297,.string t298] from (k32_mkM _ _ _ (⟨t295,t296,t297,t298⟩:S32) )) (Reps.none _ _))))))))
      intro v300 w29 ho30 hb hg_ hnew_
      clear hg_ hnew_
      (first|rw [← Ny299.out] at ho30|(simp only [Int.reduceToNat] at ho30;rw [← Ny299.out] at ho30))
      have n0_:=Aside0.mk (Kd.R_lower (Kd.R_newB (Kd.R_newB ho30 (g:=gb281) (o:=.cells #[.string (⟨#[1,120]⟩:ByteArray),.int .u16 99,.int .u32 0,.string (⟨#[]⟩:ByteArray)] 32 (0,0)) (by (with_reducible repeat (first|apply blk_drewN|apply blk_drew|apply blk_alloc));exact BK281.out)) (g:=gb282) (o:=.cells #[.string (⟨#[1,121]⟩:ByteArray),.int .u16 99,.int .u32 0,.string (⟨#[]⟩:ByteArray)] 32 (0,0)) (by (with_reducible repeat (first|apply blk_drewN|apply blk_drew|apply blk_alloc));exact BK282.out)) (below_size (by repeat (first|(with_reducible first|exact HB.out|apply below_alloc|apply pw_below_drewN|apply below_drew1|refine below_set ?_ GE281.out|refine below_set ?_ GE282.out|refine below_set ?_ GE310.out)|exact HB.out))))
      have n1_:=Aside0.mk (blk_below (g:=gb281) (o:=.cells #[.string (⟨#[1,120]⟩:ByteArray),.int .u16 99,.int .u32 0,.string (⟨#[]⟩:ByteArray)] 32 (0,0)) (by (with_reducible repeat (first|apply blk_drewN|apply blk_drew|apply blk_alloc));exact BK281.out) hb)
      have n2_:=Aside0.mk (blk_below (g:=gb282) (o:=.cells #[.string (⟨#[1,121]⟩:ByteArray),.int .u16 99,.int .u32 0,.string (⟨#[]⟩:ByteArray)] 32 (0,0)) (by (with_reducible repeat (first|apply blk_drewN|apply blk_drew|apply blk_alloc));exact BK282.out) hb)
      have n3_:=Aside0.mk (blk_below (g:=gb310) (o:=.cells #[.bool false,.slice none 0 0,.slice none 0 0] 48 (0,0)) (by (with_reducible repeat (first|apply blk_drewN|apply blk_drew|apply blk_alloc));exact BK310.out) hb)
      have n4_:=Aside0.mk (below_step (by repeat (first|(with_reducible first|exact HB.out|apply below_alloc|apply pw_below_drewN|apply below_drew1|refine below_set ?_ GE281.out|refine below_set ?_ GE282.out|refine below_set ?_ GE310.out)|exact HB.out)) hb)
      clear BK281
      clear BK282
      clear BK310
      clear HB
      have HO301:=n0_
      have BK281:=n1_
      have BK282:=n2_
      have BK310:=n3_
      have HB:=n4_
      clear n0_ n1_ n2_ n3_ n4_
      clear hb ho30
      refine hK.out _ _ ⟨(blk_cell BK281.out 0).trans rfl,(blk_cell BK281.out 1).trans rfl,(blk_cell BK281.out 2).trans rfl,(blk_cell BK281.out 3).trans rfl,(blk_cell BK282.out 0).trans rfl,(blk_cell BK282.out 1).trans rfl,(blk_cell BK282.out 2).trans rfl,(blk_cell BK282.out 3).trans rfl⟩ (fun hHeld=>?_)
      clear hK K
      refine norm_ (a':=?_) ?_ ?_
      rotate_left
      ·show Act.put _ (some 19) _ = _
       simp only [Act.put,setIfInBounds_toArray,set_cons_zero,set_cons_succ,i64_w,i32_w]
       rfl
      exact norm_ (by simp only [putAll,Act.put,setIfInBounds_toArray,set_cons_zero,set_cons_succ] <;> rfl) (hJ1_3_6_9_10_15 (v300,gb310) _ ⟨hHeld,(by (with_reducible repeat (first|apply Kd.R_alloc|apply Kd.R_drewN|apply Kd.R_drew));exact Kd.R_mono HO301.out (fun _ hk=>⟨hk.1.2,hk.2⟩)),(by (with_reducible repeat (first|apply blk_drewN|apply blk_drew|apply blk_alloc));exact BK281.out),(by (with_reducible repeat (first|apply blk_drewN|apply blk_drew|apply blk_alloc));exact BK282.out),(by (with_reducible repeat (first|apply blk_drewN|apply blk_drew|apply blk_alloc));exact BK310.out),GW310.out,GE310.out,NB281_310.out,NB310_281.out,NB282_310.out,NB310_282.out,(by repeat (first|(with_reducible first|exact HB.out|apply below_alloc|apply pw_below_drewN|apply below_drew1|refine below_set ?_ GE281.out|refine below_set ?_ GE282.out|refine below_set ?_ GE310.out)|exact HB.out))⟩)
    ·skip
     rintro v300 w29 ⟨hS_,h0_,h1_,h2_,h3_⟩
     have n0_:Aside0 (Kd.R k32 32 w29 w.heap.size (fun k_=>k_≠gb281∧k_≠gb282) v300 y299):=⟨h0_⟩
     have n1_:Aside0 (w29.heap[gb281]? = some (.cells #[.string (⟨#[1,120]⟩:ByteArray),.int .u16 99,.int .u32 0,.string (⟨#[]⟩:ByteArray)] 32 (0,0))):=⟨h1_⟩
     have n2_:Aside0 (w29.heap[gb282]? = some (.cells #[.string (⟨#[1,121]⟩:ByteArray),.int .u16 99,.int .u32 0,.string (⟨#[]⟩:ByteArray)] 32 (0,0))):=⟨h2_⟩
     have n3_:Aside0 (Below w.heap.size w w29):=⟨h3_⟩
     clear BK281
     clear BK282
     clear HB
     clear h0_ h1_ h2_ h3_
     have HO301:=n0_
     have BK281:=n1_
     have BK282:=n2_
     have HB:=n3_
     clear n0_ n1_ n2_ n3_
     have hHeld:w29.cell? ⟨gb281,0,none⟩ = some (.string (⟨#[1,120]⟩:ByteArray))∧w29.cell? ⟨gb281,1,none⟩ = some (.int .u16 99)∧w29.cell? ⟨gb281,2,none⟩ = some (.int .u32 0)∧w29.cell? ⟨gb281,3,none⟩ = some (.string (⟨#[]⟩:ByteArray))∧w29.cell? ⟨gb282,0,none⟩ = some (.string (⟨#[1,121]⟩:ByteArray))∧w29.cell? ⟨gb282,1,none⟩ = some (.int .u16 99)∧w29.cell? ⟨gb282,2,none⟩ = some (.int .u32 0)∧w29.cell? ⟨gb282,3,none⟩ = some (.string (⟨#[]⟩:ByteArray)):=hS_
     obtain ⟨Ao30,co30,eo30⟩:=Kd.R_slice HO301.out
     (first|subst eo30|(injection eo30 with f1_ f2_ f3_;have f4_:=f1_.symm;have f5_:=f3_.symm;clear f1_ f2_ f3_;subst f4_;subst f5_))
     refine norm_ (a':=?_) ?_ ?_
     rotate_left
     ·simp only [putAll,Act.put,setIfInBounds_toArray,set_cons_zero,set_cons_succ]
      rfl
     refine two_ (i:=11) (j:=15) (Ni:=some 20) (Nj:=some 4) #[true,true,true,true,true,true,true,true,true,true,true,true,false,false,false,false,false,false] #[true,true,true,true,true,true,true,true,true,true,true,false,false,false,false,true,false,false] rfl rfl rfl rfl (two_of HT_.out (by kernel_rfl)) (by decide) (by decide) (fun K hK=>?_) (fun K hK=>?_)
     ·skip
      refine goes_ Tryd.func15 (by kernel_rfl) rfl #[.string (⟨#[]⟩:ByteArray),.int .u32 2,.slice Ao30 y299.length co30] (by rfl) rfl rfl (by (try simp only [List.map_toArray,List.map_cons,List.map_nil]);rfl) ?_
      with_reducible refine (stream_Part.calls k (⟨#[]⟩:ByteArray) 2 _ _ y299 t302 t303 t306 none _ ?side1 ?side2 A5.out).mono ?_
      (case side1=>repeat (first|exact (Kd.R_reads' HO301.out).2.2|(with_reducible refine Kd.C_alloc ?_ _)|(with_reducible refine Kd.C_drewN ?_ _)|(with_reducible refine Kd.C_drew ?_)))
      (case side2=>exact (Kd.R_reads' HO301.out).2.1)
      rintro e w31 ⟨v304,v307,rfl,ho0,ho1,hb⟩
      refine ⟨_,rfl,?_⟩
      have n0_:=Aside0.mk (Kd.R_elder' (by (with_reducible repeat (first|apply Kd.R_alloc|apply Kd.R_drewN|apply Kd.R_drew));exact HO301.out) (Kd.R_base ho0) hb)
      have n1_:=Aside0.mk (Kd.R_lower (Kd.R_newB (Kd.R_newB (Kd.R_new' ho0 (Kd.R_lt (by (with_reducible repeat (first|apply Kd.R_alloc|apply Kd.R_drewN|apply Kd.R_drew));exact HO301.out))) (g:=gb281) (o:=.cells #[.string (⟨#[1,120]⟩:ByteArray),.int .u16 99,.int .u32 0,.string (⟨#[]⟩:ByteArray)] 32 (0,0)) (by (with_reducible repeat (first|apply blk_drewN|apply blk_drew|apply blk_alloc));exact BK281.out)) (g:=gb282) (o:=.cells #[.string (⟨#[1,121]⟩:ByteArray),.int .u16 99,.int .u32 0,.string (⟨#[]⟩:ByteArray)] 32 (0,0)) (by (with_reducible repeat (first|apply blk_drewN|apply blk_drew|apply blk_alloc));exact BK282.out)) (below_size (by repeat (first|(with_reducible first|exact HB.out|apply below_alloc|apply pw_below_drewN|apply below_drew1|refine below_set ?_ GE281.out|refine below_set ?_ GE282.out)|exact HB.out))))
      have n2_:=Aside0.mk (Kd.S_lower (Kd.S_newB (Kd.S_newB (Kd.S_new' ho1 (Kd.R_lt (by (with_reducible repeat (first|apply Kd.R_alloc|apply Kd.R_drewN|apply Kd.R_drew));exact HO301.out))) (g:=gb281) (o:=.cells #[.string (⟨#[1,120]⟩:ByteArray),.int .u16 99,.int .u32 0,.string (⟨#[]⟩:ByteArray)] 32 (0,0)) (by (with_reducible repeat (first|apply blk_drewN|apply blk_drew|apply blk_alloc));exact BK281.out)) (g:=gb282) (o:=.cells #[.string (⟨#[1,121]⟩:ByteArray),.int .u16 99,.int .u32 0,.string (⟨#[]⟩:ByteArray)] 32 (0,0)) (by (with_reducible repeat (first|apply blk_drewN|apply blk_drew|apply blk_alloc));exact BK282.out)) (below_size (by repeat (first|(with_reducible first|exact HB.out|apply below_alloc|apply pw_below_drewN|apply below_drew1|refine below_set ?_ GE281.out|refine below_set ?_ GE282.out)|exact HB.out))))
      have n3_:=Aside0.mk (blk_below (g:=gb281) (o:=.cells #[.string (⟨#[1,120]⟩:ByteArray),.int .u16 99,.int .u32 0,.string (⟨#[]⟩:ByteArray)] 32 (0,0)) (by (with_reducible repeat (first|apply blk_drewN|apply blk_drew|apply blk_alloc));exact BK281.out) hb)
      have n4_:=Aside0.mk (blk_below (g:=gb282) (o:=.cells #[.string (⟨#[1,121]⟩:ByteArray),.int .u16 99,.int .u32 0,.string (⟨#[]⟩:ByteArray)] 32 (0,0)) (by (with_reducible repeat (first|apply blk_drewN|apply blk_drew|apply blk_alloc));exact BK282.out) hb)
      have n5_:=Aside0.mk (below_step (by repeat (first|(with_reducible first|exact HB.out|apply below_alloc|apply pw_below_drewN|apply below_drew1|refine below_set ?_ GE281.out|refine below_set ?_ GE282.out)|exact HB.out)) hb)
      clear HO301
      clear BK281
      clear BK282
      clear HB
      have HO301:=n0_
      have HO305:=n1_
      have HO308:=n2_
      have BK281:=n3_
      have BK282:=n4_
      have HB:=n5_
      clear n0_ n1_ n2_ n3_ n4_ n5_
      (try clear hb)
      (try clear hb2)
      (try clear hk)
      (try clear hi)
      (try clear ho0)
      (try clear ho1)
      (try simp only [errW_none,errW_some])
      refine hK.out _ _ ⟨(blk_cell BK281.out 0).trans rfl,(blk_cell BK281.out 1).trans rfl,(blk_cell BK281.out 2).trans rfl,(blk_cell BK281.out 3).trans rfl,(blk_cell BK282.out 0).trans rfl,(blk_cell BK282.out 1).trans rfl,(blk_cell BK282.out 2).trans rfl,(blk_cell BK282.out 3).trans rfl⟩ (fun hHeld=>?_)
      clear hK K
      refine norm_ (a':=?_) ?_ ?_
      rotate_left
      ·show Act.put _ (some 20) _ = _
       simp only [Act.put,setIfInBounds_toArray,set_cons_zero,set_cons_succ,i64_w,i32_w]
       rfl
      refine pure_ (i:=12) (N:=some 8) (v:=?_) (a':=?_) #[true,true,true,true,true,true,true,true,true,true,true,true,true,false,false,false,false,false] rfl rfl (any_of HT_.out (by kernel_rfl)) (fun _ _ _ h=>h) (Or.inl ⟨by rfl,?_⟩) ?_ ?_
      rotate_left
      ·intro w'
       go_simp
       with_reducible rfl
      rotate_left
      ·simp only [Act.put,setIfInBounds_toArray,set_cons_zero,set_cons_succ,i64_w,i32_w]
       rfl
      refine pure_ (i:=13) (N:=some 21) (v:=?_) (a':=?_) #[true,true,true,true,true,true,true,true,true,true,true,true,true,true,false,false,false,false] rfl rfl (any_of HT_.out (by kernel_rfl)) (fun _ _ _ h=>h) (Or.inl ⟨by rfl,?_⟩) ?_ ?_
      rotate_left
      ·intro w'
       go_simp
       with_reducible rfl
      rotate_left
      ·simp only [Act.put,setIfInBounds_toArray,set_cons_zero,set_cons_succ,i64_w,i32_w]
       rfl
      refine pure_ (i:=14) (N:=some 22) (v:=?_) (a':=?_) #[true,true,true,true,true,true,true,true,true,true,true,true,true,true,true,false,false,false] rfl rfl (any_of HT_.out (by kernel_rfl)) (fun _ _ _ h=>h) (Or.inl ⟨by rfl,?_⟩) ?_ ?_
      rotate_left
      ·intro w'
       go_simp
       with_reducible rfl
      rotate_left
      ·simp only [Act.put,setIfInBounds_toArray,set_cons_zero,set_cons_succ,i64_w,i32_w]
       rfl
      exact norm_ (by simp only [putAll,Act.put,setIfInBounds_toArray,set_cons_zero,set_cons_succ] <;> rfl) (hJ1_3_6_9_10_11 (.slice Ao30 y299.length co30,v304,v307) _ ⟨hHeld,(by (with_reducible repeat (first|apply Kd.R_alloc|apply Kd.R_drewN|apply Kd.R_drew));exact Kd.R_mono HO301.out (fun _ hk=>⟨hk.2,⟨hk.1.1,hk.1.2⟩⟩)),(by (with_reducible repeat (first|apply Kd.R_alloc|apply Kd.R_drewN|apply Kd.R_drew));exact Kd.R_mono HO305.out (fun _ hk=>⟨hk.1.1.2,⟨hk.1.2,hk.2⟩⟩)),(by (with_reducible repeat (first|apply Kd.S_alloc|apply Kd.S_drewN|apply Kd.S_drew));exact Kd.S_mono HO308.out (fun _ hk=>⟨hk.1.1.2,⟨hk.1.1.1,⟨hk.1.2,hk.2⟩⟩⟩)),(by (with_reducible repeat (first|apply blk_drewN|apply blk_drew|apply blk_alloc));exact BK281.out),(by (with_reducible repeat (first|apply blk_drewN|apply blk_drew|apply blk_alloc));exact BK282.out),(by repeat (first|(with_reducible first|exact HB.out|apply below_alloc|apply pw_below_drewN|apply below_drew1|refine below_set ?_ GE281.out|refine below_set ?_ GE282.out)|exact HB.out))⟩)
     ·skip
      refine box_step ?hg (N:=4) ?hd (cs:=#[.bool false,.slice none 0 0,.slice none 0 0]) (t:=48) ?hr ?_;(case hd=>rfl);(case hg=>rfl);(case hr=>first|(go_simp;done)|(go_simp;rfl))
      intro gb310 hg w30 hbox hb
      have n0_:=Aside0.mk (Kd.R_below (by (with_reducible repeat (first|apply Kd.R_alloc|apply Kd.R_drewN|apply Kd.R_drew));exact HO301.out) hb)
      have n1_:=Aside0.mk (blk_below (g:=gb281) (o:=.cells #[.string (⟨#[1,120]⟩:ByteArray),.int .u16 99,.int .u32 0,.string (⟨#[]⟩:ByteArray)] 32 (0,0)) (by (with_reducible repeat (first|apply blk_drewN|apply blk_drew|apply blk_alloc));exact BK281.out) hb)
      have n2_:=Aside0.mk (blk_below (g:=gb282) (o:=.cells #[.string (⟨#[1,121]⟩:ByteArray),.int .u16 99,.int .u32 0,.string (⟨#[]⟩:ByteArray)] 32 (0,0)) (by (with_reducible repeat (first|apply blk_drewN|apply blk_drew|apply blk_alloc));exact BK282.out) hb)
      have n3_:=Aside0.mk (below_step (by repeat (first|(with_reducible first|exact HB.out|apply below_alloc|apply pw_below_drewN|apply below_drew1|refine below_set ?_ GE281.out|refine below_set ?_ GE282.out)|exact HB.out)) hb)
      have n4_:=Aside0.mk (hbox)
      have n5_:=Aside0.mk ((by rw [hg];exact (below_size (by repeat (first|(with_reducible first|exact HB.out|apply below_alloc|apply pw_below_drewN|apply below_drew1|refine below_set ?_ GE281.out|refine below_set ?_ GE282.out)|exact HB.out))):w.heap.size≤gb310))
      have n6_:=Aside0.mk ((by rw [hg];exact (below_size (by repeat (first|(with_reducible first|exact HB.out|apply below_alloc|apply pw_below_drewN|apply below_drew1|refine below_set ?_ GE281.out|refine below_set ?_ GE282.out)|exact HB.out))):w.heap.size≤gb310))
      have n7_:=Aside0.mk ((by rw [hg];exact Nat.ne_of_lt (blk_lt (g:=gb281) (o:=.cells #[.string (⟨#[1,120]⟩:ByteArray),.int .u16 99,.int .u32 0,.string (⟨#[]⟩:ByteArray)] 32 (0,0)) (by (with_reducible repeat (first|apply blk_drewN|apply blk_drew|apply blk_alloc));exact BK281.out)):gb281≠gb310))
      have n8_:=Aside0.mk ((by rw [hg];exact Nat.ne_of_gt (blk_lt (g:=gb281) (o:=.cells #[.string (⟨#[1,120]⟩:ByteArray),.int .u16 99,.int .u32 0,.string (⟨#[]⟩:ByteArray)] 32 (0,0)) (by (with_reducible repeat (first|apply blk_drewN|apply blk_drew|apply blk_alloc));exact BK281.out)):gb310≠gb281))
      have n9_:=Aside0.mk ((by rw [hg];exact Nat.ne_of_lt (blk_lt (g:=gb282) (o:=.cells #[.string (⟨#[1,121]⟩:ByteArray),.int .u16 99,.int .u32 0,.string (⟨#[]⟩:ByteArray)] 32 (0,0)) (by (with_reducible repeat (first|apply blk_drewN|apply blk_drew|apply blk_alloc));exact BK282.out)):gb282≠gb310))
      have n10_:=Aside0.mk ((by rw [hg];exact Nat.ne_of_gt (blk_lt (g:=gb282) (o:=.cells #[.string (⟨#[1,121]⟩:ByteArray),.int .u16 99,.int .u32 0,.string (⟨#[]⟩:ByteArray)] 32 (0,0)) (by (with_reducible repeat (first|apply blk_drewN|apply blk_drew|apply blk_alloc));exact BK282.out)):gb310≠gb282))
      clear HO301
      clear BK281
      clear BK282
      clear HB
      have HO301:=n0_
      have BK281:=n1_
      have BK282:=n2_
      have HB:=n3_
      have BK310:=n4_
      have GW310:=n5_
      have GE310:=n6_
      have NB281_310:=n7_
      have NB310_281:=n8_
      have NB282_310:=n9_
      have NB310_282:=n10_
      clear n0_ n1_ n2_ n3_ n4_ n5_ n6_ n7_ n8_ n9_ n10_
      clear hb hbox hg
      refine hK.out _ _ ⟨(blk_cell BK281.out 0).trans rfl,(blk_cell BK281.out 1).trans rfl,(blk_cell BK281.out 2).trans rfl,(blk_cell BK281.out 3).trans rfl,(blk_cell BK282.out 0).trans rfl,(blk_cell BK282.out 1).trans rfl,(blk_cell BK282.out 2).trans rfl,(blk_cell BK282.out 3).trans rfl⟩ (fun hHeld=>?_)
      clear hK K
      refine norm_ (a':=?_) ?_ ?_
      rotate_left
      ·show Act.put _ (some 4) _ = _
       simp only [Act.put,setIfInBounds_toArray,set_cons_zero,set_cons_succ,i64_w,i32_w]
       rfl
      exact norm_ (by simp only [putAll,Act.put,setIfInBounds_toArray,set_cons_zero,set_cons_succ] <;> rfl) (hJ1_3_6_9_10_15 (.slice Ao30 y299.length co30,gb310) _ ⟨hHeld,(by (with_reducible repeat (first|apply Kd.R_alloc|apply Kd.R_drewN|apply Kd.R_drew));exact HO301.out),(by (with_reducible repeat (first|apply blk_drewN|apply blk_drew|apply blk_alloc));exact BK281.out),(by (with_reducible repeat (first|apply blk_drewN|apply blk_drew|apply blk_alloc));exact BK282.out),(by (with_reducible repeat (first|apply blk_drewN|apply blk_drew|apply blk_alloc));exact BK310.out),GW310.out,GE310.out,NB281_310.out,NB310_281.out,NB282_310.out,NB310_282.out,(by repeat (first|(with_reducible first|exact HB.out|apply below_alloc|apply pw_below_drewN|apply below_drew1|refine below_set ?_ GE281.out|refine below_set ?_ GE282.out|refine below_set ?_ GE310.out)|exact HB.out))⟩)
   ·skip
    rintro ⟨v300,gb310⟩ w30 ⟨hS_,h0_,h1_,h2_,h3_,h4_,h5_,h6_,h7_,h8_,h9_,h10_⟩
    have n0_:Aside0 (Kd.R k32 32 w30 w.heap.size (fun k_=>k_≠gb281∧k_≠gb282) v300 y299):=⟨h0_⟩
    have n1_:Aside0 (w30.heap[gb281]? = some (.cells #[.string (⟨#[1,120]⟩:ByteArray),.int .u16 99,.int .u32 0,.string (⟨#[]⟩:ByteArray)] 32 (0,0))):=⟨h1_⟩
    have n2_:Aside0 (w30.heap[gb282]? = some (.cells #[.string (⟨#[1,121]⟩:ByteArray),.int .u16 99,.int .u32 0,.string (⟨#[]⟩:ByteArray)] 32 (0,0))):=⟨h2_⟩
    have n3_:Aside0 (w30.heap[gb310]? = some (.cells #[.bool false,.slice none 0 0,.slice none 0 0] 48 (0,0))):=⟨h3_⟩
    have n4_:Aside0 (w.heap.size≤gb310):=⟨h4_⟩
    have n5_:Aside0 (w.heap.size≤gb310):=⟨h5_⟩
    have n6_:Aside0 (gb281≠gb310):=⟨h6_⟩
    have n7_:Aside0 (gb310≠gb281):=⟨h7_⟩
    have n8_:Aside0 (gb282≠gb310):=⟨h8_⟩
    have n9_:Aside0 (gb310≠gb282):=⟨h9_⟩
    have n10_:Aside0 (Below w.heap.size w w30):=⟨h10_⟩
    clear BK281
    clear BK282
    clear HB
    clear h0_ h1_ h2_ h3_ h4_ h5_ h6_ h7_ h8_ h9_ h10_
    have HO301:=n0_
    have BK281:=n1_
    have BK282:=n2_
    have BK310:=n3_
    have GW310:=n4_
    have GE310:=n5_
    have NB281_310:=n6_
    have NB310_281:=n7_
    have NB282_310:=n8_
    have NB310_282:=n9_
    have HB:=n10_
    clear n0_ n1_ n2_ n3_ n4_ n5_ n6_ n7_ n8_ n9_ n10_
    have hHeld:w30.cell? ⟨gb281,0,none⟩ = some (.string (⟨#[1,120]⟩:ByteArray))∧w30.cell? ⟨gb281,1,none⟩ = some (.int .u16 99)∧w30.cell? ⟨gb281,2,none⟩ = some (.int .u32 0)∧w30.cell? ⟨gb281,3,none⟩ = some (.string (⟨#[]⟩:ByteArray))∧w30.cell? ⟨gb282,0,none⟩ = some (.string (⟨#[1,121]⟩:ByteArray))∧w30.cell? ⟨gb282,1,none⟩ = some (.int .u16 99)∧w30.cell? ⟨gb282,2,none⟩ = some (.int .u32 0)∧w30.cell? ⟨gb282,3,none⟩ = some (.string (⟨#[]⟩:ByteArray)):=hS_
    obtain ⟨Ao31,co31,eo31⟩:=Kd.R_slice HO301.out
    (first|subst eo31|(injection eo31 with f1_ f2_ f3_;have f4_:=f1_.symm;have f5_:=f3_.symm;clear f1_ f2_ f3_;subst f4_;subst f5_))
    refine norm_ (a':=?_) ?_ ?_
    rotate_left
    ·simp only [putAll,Act.put,setIfInBounds_toArray,set_cons_zero,set_cons_succ]
     rfl
    refine one_ (i:=11) (N:=some 20) #[true,true,true,true,true,true,true,true,true,true,true,true,false,false,false,true,false,false] rfl rfl (one_of HT_.out (by kernel_rfl)) (by decide) (fun K hK=>?_)
    refine goes_ Tryd.func15 (by kernel_rfl) rfl #[.string (⟨#[]⟩:ByteArray),.int .u32 2,.slice Ao31 y299.length co31] (by rfl) rfl rfl (by (try simp only [List.map_toArray,List.map_cons,List.map_nil]);rfl) ?_
    with_reducible refine (stream_Part.calls k (⟨#[]⟩:ByteArray) 2 _ _ y299 t302 t303 t306 none _ ?side1 ?side2 A5.out).mono ?_
    (case side1=>repeat (first|exact (Kd.R_reads' HO301.out).2.2|(with_reducible refine Kd.C_alloc ?_ _)|(with_reducible refine Kd.C_drewN ?_ _)|(with_reducible refine Kd.C_drew ?_)))
    (case side2=>exact (Kd.R_reads' HO301.out).2.1)
    rintro e w32 ⟨v304,v307,rfl,ho0,ho1,hb⟩
    refine ⟨_,rfl,?_⟩
    have n0_:=Aside0.mk (Kd.R_elder' (by (with_reducible repeat (first|apply Kd.R_alloc|apply Kd.R_drewN|apply Kd.R_drew));exact HO301.out) (Kd.R_base ho0) hb)
    have n1_:=Aside0.mk (Kd.R_lower (Kd.R_newB (Kd.R_newB (Kd.R_new' ho0 (Kd.R_lt (by (with_reducible repeat (first|apply Kd.R_alloc|apply Kd.R_drewN|apply Kd.R_drew));exact HO301.out))) (g:=gb281) (o:=.cells #[.string (⟨#[1,120]⟩:ByteArray),.int .u16 99,.int .u32 0,.string (⟨#[]⟩:ByteArray)] 32 (0,0)) (by (with_reducible repeat (first|apply blk_drewN|apply blk_drew|apply blk_alloc));exact BK281.out)) (g:=gb282) (o:=.cells #[.string (⟨#[1,121]⟩:ByteArray),.int .u16 99,.int .u32 0,.string (⟨#[]⟩:ByteArray)] 32 (0,0)) (by (with_reducible repeat (first|apply blk_drewN|apply blk_drew|apply blk_alloc));exact BK282.out)) (below_size (by repeat (first|(with_reducible first|exact HB.out|apply below_alloc|apply pw_below_drewN|apply below_drew1|refine below_set ?_ GE281.out|refine below_set ?_ GE282.out|refine below_set ?_ GE310.out)|exact HB.out))))
    have n2_:=Aside0.mk (Kd.S_lower (Kd.S_newB (Kd.S_newB (Kd.S_new' ho1 (Kd.R_lt (by (with_reducible repeat (first|apply Kd.R_alloc|apply Kd.R_drewN|apply Kd.R_drew));exact HO301.out))) (g:=gb281) (o:=.cells #[.string (⟨#[1,120]⟩:ByteArray),.int .u16 99,.int .u32 0,.string (⟨#[]⟩:ByteArray)] 32 (0,0)) (by (with_reducible repeat (first|apply blk_drewN|apply blk_drew|apply blk_alloc));exact BK281.out)) (g:=gb282) (o:=.cells #[.string (⟨#[1,121]⟩:ByteArray),.int .u16 99,.int .u32 0,.string (⟨#[]⟩:ByteArray)] 32 (0,0)) (by (with_reducible repeat (first|apply blk_drewN|apply blk_drew|apply blk_alloc));exact BK282.out)) (below_size (by repeat (first|(with_reducible first|exact HB.out|apply below_alloc|apply pw_below_drewN|apply below_drew1|refine below_set ?_ GE281.out|refine below_set ?_ GE282.out|refine below_set ?_ GE310.out)|exact HB.out))))
    have n3_:=Aside0.mk (blk_below (g:=gb281) (o:=.cells #[.string (⟨#[1,120]⟩:ByteArray),.int .u16 99,.int .u32 0,.string (⟨#[]⟩:ByteArray)] 32 (0,0)) (by (with_reducible repeat (first|apply blk_drewN|apply blk_drew|apply blk_alloc));exact BK281.out) hb)
    have n4_:=Aside0.mk (blk_below (g:=gb282) (o:=.cells #[.string (⟨#[1,121]⟩:ByteArray),.int .u16 99,.int .u32 0,.string (⟨#[]⟩:ByteArray)] 32 (0,0)) (by (with_reducible repeat (first|apply blk_drewN|apply blk_drew|apply blk_alloc));exact BK282.out) hb)
    have n5_:=Aside0.mk (blk_below (g:=gb310) (o:=.cells #[.bool false,.slice none 0 0,.slice none 0 0] 48 (0,0)) (by (with_reducible repeat (first|apply blk_drewN|apply blk_drew|apply blk_alloc));exact BK310.out) hb)
    have n6_:=Aside0.mk (below_step (by repeat (first|(with_reducible first|exact HB.out|apply below_alloc|apply pw_below_drewN|apply below_drew1|refine below_set ?_ GE281.out|refine below_set ?_ GE282.out|refine below_set ?_ GE310.out)|exact HB.out)) hb)
    clear HO301
    clear BK281
    clear BK282
    clear BK310
    clear HB
    have HO301:=n0_
    have HO305:=n1_
    have HO308:=n2_
    have BK281:=n3_
    have BK282:=n4_
    have BK310:=n5_
    have HB:=n6_
    clear n0_ n1_ n2_ n3_ n4_ n5_ n6_
    (try clear hb)
    (try clear hb2)
    (try clear hk)
    (try clear hi)
    (try clear ho0)
    (try clear ho1)
    (try simp only [errW_none,errW_some])
    refine hK.out _ _ ⟨(blk_cell BK281.out 0).trans rfl,(blk_cell BK281.out 1).trans rfl,(blk_cell BK281.out 2).trans rfl,(blk_cell BK281.out 3).trans rfl,(blk_cell BK282.out 0).trans rfl,(blk_cell BK282.out 1).trans rfl,(blk_cell BK282.out 2).trans rfl,(blk_cell BK282.out 3).trans rfl⟩ (fun hHeld=>?_)
    clear hK K
    refine norm_ (a':=?_) ?_ ?_
    rotate_left
    ·show Act.put _ (some 20) _ = _
     simp only [Act.put,setIfInBounds_toArray,set_cons_zero,set_cons_succ,i64_w,i32_w]
     rfl
    refine pure_ (i:=12) (N:=some 8) (v:=?_) (a':=?_) #[true,true,true,true,true,true,true,true,true,true,true,true,true,false,false,true,false,false] rfl rfl (any_of HT_.out (by kernel_rfl)) (fun _ _ _ h=>h) (Or.inl ⟨by rfl,?_⟩) ?_ ?_
    rotate_left
    ·intro w'
     go_simp
     with_reducible rfl
    rotate_left
    ·simp only [Act.put,setIfInBounds_toArray,set_cons_zero,set_cons_succ,i64_w,i32_w]
     rfl
    refine pure_ (i:=13) (N:=some 21) (v:=?_) (a':=?_) #[true,true,true,true,true,true,true,true,true,true,true,true,true,true,false,true,false,false] rfl rfl (any_of HT_.out (by kernel_rfl)) (fun _ _ _ h=>h) (Or.inl ⟨by rfl,?_⟩) ?_ ?_
    rotate_left
    ·intro w'
     go_simp
     with_reducible rfl
    rotate_left
    ·simp only [Act.put,setIfInBounds_toArray,set_cons_zero,set_cons_succ,i64_w,i32_w]
     rfl
    refine pure_ (i:=14) (N:=some 22) (v:=?_) (a':=?_) #[true,true,true,true,true,true,true,true,true,true,true,true,true,true,true,true,false,false] rfl rfl (any_of HT_.out (by kernel_rfl)) (fun _ _ _ h=>h) (Or.inl ⟨by rfl,?_⟩) ?_ ?_
    rotate_left
    ·intro w'
     go_simp
     with_reducible rfl
    rotate_left
    ·simp only [Act.put,setIfInBounds_toArray,set_cons_zero,set_cons_succ,i64_w,i32_w]
     rfl
    exact norm_ (by simp only [putAll,Act.put,setIfInBounds_toArray,set_cons_zero,set_cons_succ] <;> rfl) (hJ1_3_6_9_10_11_15 (.slice Ao31 y299.length co31,v304,v307,gb310) _ ⟨hHeld,(by (with_reducible repeat (first|apply Kd.R_alloc|apply Kd.R_drewN|apply Kd.R_drew));exact Kd.R_mono HO301.out (fun _ hk=>⟨hk.2,⟨hk.1.1,hk.1.2⟩⟩)),(by (with_reducible repeat (first|apply Kd.R_alloc|apply Kd.R_drewN|apply Kd.R_drew));exact Kd.R_mono HO305.out (fun _ hk=>⟨hk.1.1.2,⟨hk.1.2,hk.2⟩⟩)),(by (with_reducible repeat (first|apply Kd.S_alloc|apply Kd.S_drewN|apply Kd.S_drew));exact Kd.S_mono HO308.out (fun _ hk=>⟨hk.1.1.2,⟨hk.1.1.1,⟨hk.1.2,hk.2⟩⟩⟩)),(by (with_reducible repeat (first|apply blk_drewN|apply blk_drew|apply blk_alloc));exact BK281.out),(by (with_reducible repeat (first|apply blk_drewN|apply blk_drew|apply blk_alloc));exact BK282.out),(by (with_reducible repeat (first|apply blk_drewN|apply blk_drew|apply blk_alloc));exact BK310.out),GW310.out,GE310.out,NB281_310.out,NB310_281.out,NB282_310.out,NB310_282.out,(by repeat (first|(with_reducible first|exact HB.out|apply below_alloc|apply pw_below_drewN|apply below_drew1|refine below_set ?_ GE281.out|refine below_set ?_ GE282.out|refine below_set ?_ GE310.out)|exact HB.out))⟩)
  ·skip
   rintro ⟨v300,v304,v307⟩ w31 ⟨hS_,h0_,h1_,h2_,h3_,h4_,h5_⟩
   have n0_:Aside0 (Kd.R k32 32 w31 w.heap.size (fun k_=>some k_≠(v304:Value).ownBlock∧k_≠gb281∧k_≠gb282) v300 y299):=⟨h0_⟩
   have n1_:Aside0 (Kd.R k32 32 w31 w.heap.size (fun k_=>some k_≠(v300:Value).ownBlock∧k_≠gb281∧k_≠gb282) v304 t303):=⟨h1_⟩
   have n2_:Aside0 (Kd.S k57 57 w31 w.heap.size (fun k_=>some k_≠(v300:Value).ownBlock∧some k_≠(v304:Value).ownBlock∧k_≠gb281∧k_≠gb282) v307 t306):=⟨h2_⟩
   have n3_:Aside0 (w31.heap[gb281]? = some (.cells #[.string (⟨#[1,120]⟩:ByteArray),.int .u16 99,.int .u32 0,.string (⟨#[]⟩:ByteArray)] 32 (0,0))):=⟨h3_⟩
   have n4_:Aside0 (w31.heap[gb282]? = some (.cells #[.string (⟨#[1,121]⟩:ByteArray),.int .u16 99,.int .u32 0,.string (⟨#[]⟩:ByteArray)] 32 (0,0))):=⟨h4_⟩
   have n5_:Aside0 (Below w.heap.size w w31):=⟨h5_⟩
   clear BK281
   clear BK282
   clear HB
   clear h0_ h1_ h2_ h3_ h4_ h5_
   have HO301:=n0_
   have HO305:=n1_
   have HO308:=n2_
   have BK281:=n3_
   have BK282:=n4_
   have HB:=n5_
   clear n0_ n1_ n2_ n3_ n4_ n5_
   have hHeld:w31.cell? ⟨gb281,0,none⟩ = some (.string (⟨#[1,120]⟩:ByteArray))∧w31.cell? ⟨gb281,1,none⟩ = some (.int .u16 99)∧w31.cell? ⟨gb281,2,none⟩ = some (.int .u32 0)∧w31.cell? ⟨gb281,3,none⟩ = some (.string (⟨#[]⟩:ByteArray))∧w31.cell? ⟨gb282,0,none⟩ = some (.string (⟨#[1,121]⟩:ByteArray))∧w31.cell? ⟨gb282,1,none⟩ = some (.int .u16 99)∧w31.cell? ⟨gb282,2,none⟩ = some (.int .u32 0)∧w31.cell? ⟨gb282,3,none⟩ = some (.string (⟨#[]⟩:ByteArray)):=hS_
   refine norm_ (a':=?_) ?_ ?_
   rotate_left
   ·simp only [putAll,Act.put,setIfInBounds_toArray,set_cons_zero,set_cons_succ]
    rfl
   refine one_ (i:=15) (N:=some 4) #[true,true,true,true,true,true,true,true,true,true,true,true,true,true,true,true,false,false] rfl rfl (one_of HT_.out (by kernel_rfl)) (by decide) (fun K hK=>?_)
   refine box_step ?hg (N:=4) ?hd (cs:=#[.bool false,.slice none 0 0,.slice none 0 0]) (t:=48) ?hr ?_;(case hd=>rfl);(case hg=>rfl);(case hr=>first|(go_simp;done)|(go_simp;rfl))
   intro gb310 hg w32 hbox hb
   have n0_:=Aside0.mk (Kd.R_below (by (with_reducible repeat (first|apply Kd.R_alloc|apply Kd.R_drewN|apply Kd.R_drew));exact HO301.out) hb)
   have n1_:=Aside0.mk (Kd.R_below (by (with_reducible repeat (first|apply Kd.R_alloc|apply Kd.R_drewN|apply Kd.R_drew));exact HO305.out) hb)
   have n2_:=Aside0.mk (Kd.S_below (by (with_reducible repeat (first|apply Kd.S_alloc|apply Kd.S_drewN|apply Kd.S_drew));exact HO308.out) hb)
   have n3_:=Aside0.mk (blk_below (g:=gb281) (o:=.cells #[.string (⟨#[1,120]⟩:ByteArray),.int .u16 99,.int .u32 0,.string (⟨#[]⟩:ByteArray)] 32 (0,0)) (by (with_reducible repeat (first|apply blk_drewN|apply blk_drew|apply blk_alloc));exact BK281.out) hb)
   have n4_:=Aside0.mk (blk_below (g:=gb282) (o:=.cells #[.string (⟨#[1,121]⟩:ByteArray),.int .u16 99,.int .u32 0,.string (⟨#[]⟩:ByteArray)] 32 (0,0)) (by (with_reducible repeat (first|apply blk_drewN|apply blk_drew|apply blk_alloc));exact BK282.out) hb)
   have n5_:=Aside0.mk (below_step (by repeat (first|(with_reducible first|exact HB.out|apply below_alloc|apply pw_below_drewN|apply below_drew1|refine below_set ?_ GE281.out|refine below_set ?_ GE282.out)|exact HB.out)) hb)
   have n6_:=Aside0.mk (hbox)
   have n7_:=Aside0.mk ((by rw [hg];exact (below_size (by repeat (first|(with_reducible first|exact HB.out|apply below_alloc|apply pw_below_drewN|apply below_drew1|refine below_set ?_ GE281.out|refine below_set ?_ GE282.out)|exact HB.out))):w.heap.size≤gb310))
   have n8_:=Aside0.mk ((by rw [hg];exact (below_size (by repeat (first|(with_reducible first|exact HB.out|apply below_alloc|apply pw_below_drewN|apply below_drew1|refine below_set ?_ GE281.out|refine below_set ?_ GE282.out)|exact HB.out))):w.heap.size≤gb310))
   have n9_:=Aside0.mk ((by rw [hg];exact Nat.ne_of_lt (blk_lt (g:=gb281) (o:=.cells #[.string (⟨#[1,120]⟩:ByteArray),.int .u16 99,.int .u32 0,.string (⟨#[]⟩:ByteArray)] 32 (0,0)) (by (with_reducible repeat (first|apply blk_drewN|apply blk_drew|apply blk_alloc));exact BK281.out)):gb281≠gb310))
   have n10_:=Aside0.mk ((by rw [hg];exact Nat.ne_of_gt (blk_lt (g:=gb281) (o:=.cells #[.string (⟨#[1,120]⟩:ByteArray),.int .u16 99,.int .u32 0,.string (⟨#[]⟩:ByteArray)] 32 (0,0)) (by (with_reducible repeat (first|apply blk_drewN|apply blk_drew|apply blk_alloc));exact BK281.out)):gb310≠gb281))
   have n11_:=Aside0.mk ((by rw [hg];exact Nat.ne_of_lt (blk_lt (g:=gb282) (o:=.cells #[.string (⟨#[1,121]⟩:ByteArray),.int .u16 99,.int .u32 0,.string (⟨#[]⟩:ByteArray)] 32 (0,0)) (by (with_reducible repeat (first|apply blk_drewN|apply blk_drew|apply blk_alloc));exact BK282.out)):gb282≠gb310))
   have n12_:=Aside0.mk ((by rw [hg];exact Nat.ne_of_gt (blk_lt (g:=gb282) (o:=.cells #[.string (⟨#[1,121]⟩:ByteArray),.int .u16 99,.int .u32 0,.string (⟨#[]⟩:ByteArray)] 32 (0,0)) (by (with_reducible repeat (first|apply blk_drewN|apply blk_drew|apply blk_alloc));exact BK282.out)):gb310≠gb282))
   clear HO301
   clear HO305
   clear HO308
   clear BK281
   clear BK282
   clear HB
   have HO301:=n0_
   have HO305:=n1_
   have HO308:=n2_
   have BK281:=n3_
   have BK282:=n4_
   have HB:=n5_
   have BK310:=n6_
   have GW310:=n7_
   have GE310:=n8_
   have NB281_310:=n9_
   have NB310_281:=n10_
   have NB282_310:=n11_
   have NB310_282:=n12_
   clear n0_ n1_ n2_ n3_ n4_ n5_ n6_ n7_ n8_ n9_ n10_ n11_ n12_
   clear hb hbox hg
   refine hK.out _ _ ⟨(blk_cell BK281.out 0).trans rfl,(blk_cell BK281.out 1).trans rfl,(blk_cell BK281.out 2).trans rfl,(blk_cell BK281.out 3).trans rfl,(blk_cell BK282.out 0).trans rfl,(blk_cell BK282.out 1).trans rfl,(blk_cell BK282.out 2).trans rfl,(blk_cell BK282.out 3).trans rfl⟩ (fun hHeld=>?_)
   clear hK K
   refine norm_ (a':=?_) ?_ ?_
   rotate_left
   ·show Act.put _ (some 4) _ = _
    simp only [Act.put,setIfInBounds_toArray,set_cons_zero,set_cons_succ,i64_w,i32_w]
    rfl
   exact norm_ (by simp only [putAll,Act.put,setIfInBounds_toArray,set_cons_zero,set_cons_succ] <;> rfl) (hJ1_3_6_9_10_11_15 (v300,v304,v307,gb310) _ ⟨hHeld,(by (with_reducible repeat (first|apply Kd.R_alloc|apply Kd.R_drewN|apply Kd.R_drew));exact HO301.out),(by (with_reducible repeat (first|apply Kd.R_alloc|apply Kd.R_drewN|apply Kd.R_drew));exact HO305.out),(by (with_reducible repeat (first|apply Kd.S_alloc|apply Kd.S_drewN|apply Kd.S_drew));exact HO308.out),(by (with_reducible repeat (first|apply blk_drewN|apply blk_drew|apply blk_alloc));exact BK281.out),(by (with_reducible repeat (first|apply blk_drewN|apply blk_drew|apply blk_alloc));exact BK282.out),(by (with_reducible repeat (first|apply blk_drewN|apply blk_drew|apply blk_alloc));exact BK310.out),GW310.out,GE310.out,NB281_310.out,NB310_281.out,NB282_310.out,NB310_282.out,(by repeat (first|(with_reducible first|exact HB.out|apply below_alloc|apply pw_below_drewN|apply below_drew1|refine below_set ?_ GE281.out|refine below_set ?_ GE282.out|refine below_set ?_ GE310.out)|exact HB.out))⟩)
 rintro ⟨v300,v304,v307,gb310⟩ w32 ⟨hS_,h0_,h1_,h2_,h3_,h4_,h5_,h6_,h7_,h8_,h9_,h10_,h11_,h12_⟩
 have n0_:Aside0 (Kd.R k32 32 w32 w.heap.size (fun k_=>some k_≠(v304:Value).ownBlock∧k_≠gb281∧k_≠gb282) v300 y299):=⟨h0_⟩
 have n1_:Aside0 (Kd.R k32 32 w32 w.heap.size (fun k_=>some k_≠(v300:Value).ownBlock∧k_≠gb281∧k_≠gb282) v304 t303):=⟨h1_⟩
 have n2_:Aside0 (Kd.S k57 57 w32 w.heap.size (fun k_=>some k_≠(v300:Value).ownBlock∧some k_≠(v304:Value).ownBlock∧k_≠gb281∧k_≠gb282) v307 t306):=⟨h2_⟩
 have n3_:Aside0 (w32.heap[gb281]? = some (.cells #[.string (⟨#[1,120]⟩:ByteArray),.int .u16 99,.int .u32 0,.string (⟨#[]⟩:ByteArray)] 32 (0,0))):=⟨h3_⟩
 have n4_:Aside0 (w32.heap[gb282]? = some (.cells #[.string (⟨#[1,121]⟩:ByteArray),.int .u16 99,.int .u32 0,.string (⟨#[]⟩:ByteArray)] 32 (0,0))):=⟨h4_⟩
 have n5_:Aside0 (w32.heap[gb310]? = some (.cells #[.bool false,.slice none 0 0,.slice none 0 0] 48 (0,0))):=⟨h5_⟩
 have n6_:Aside0 (w.heap.size≤gb310):=⟨h6_⟩
 have n7_:Aside0 (w.heap.size≤gb310):=⟨h7_⟩
 have n8_:Aside0 (gb281≠gb310):=⟨h8_⟩
 have n9_:Aside0 (gb310≠gb281):=⟨h9_⟩
 have n10_:Aside0 (gb282≠gb310):=⟨h10_⟩
 have n11_:Aside0 (gb310≠gb282):=⟨h11_⟩
 have n12_:Aside0 (Below w.heap.size w w32):=⟨h12_⟩
 clear BK281
 clear BK282
 clear HB
 clear h0_ h1_ h2_ h3_ h4_ h5_ h6_ h7_ h8_ h9_ h10_ h11_ h12_
 have HO301:=n0_
 have HO305:=n1_
 have HO308:=n2_
 have BK281:=n3_
 have BK282:=n4_
 have BK310:=n5_
 have GW310:=n6_
 have GE310:=n7_
 have NB281_310:=n8_
 have NB310_281:=n9_
 have NB282_310:=n10_
 have NB310_282:=n11_
 have HB:=n12_
 clear n0_ n1_ n2_ n3_ n4_ n5_ n6_ n7_ n8_ n9_ n10_ n11_ n12_
 have hHeld:w32.cell? ⟨gb281,0,none⟩ = some (.string (⟨#[1,120]⟩:ByteArray))∧w32.cell? ⟨gb281,1,none⟩ = some (.int .u16 99)∧w32.cell? ⟨gb281,2,none⟩ = some (.int .u32 0)∧w32.cell? ⟨gb281,3,none⟩ = some (.string (⟨#[]⟩:ByteArray))∧w32.cell? ⟨gb282,0,none⟩ = some (.string (⟨#[1,121]⟩:ByteArray))∧w32.cell? ⟨gb282,1,none⟩ = some (.int .u16 99)∧w32.cell? ⟨gb282,2,none⟩ = some (.int .u32 0)∧w32.cell? ⟨gb282,3,none⟩ = some (.string (⟨#[]⟩:ByteArray)):=hS_
 obtain ⟨Ao34,co34,eo34⟩:=Kd.R_slice HO305.out
 (first|subst eo34|(injection eo34 with f1_ f2_ f3_;have f4_:=f1_.symm;have f5_:=f3_.symm;clear f1_ f2_ f3_;subst f4_;subst f5_))
 obtain ⟨Ao36,co36,eo36⟩:=Kd.S_slice HO308.out
 (first|subst eo36|(injection eo36 with f1_ f2_ f3_;have f4_:=f1_.symm;have f5_:=f3_.symm;clear f1_ f2_ f3_;subst f4_;subst f5_))
 refine norm_ (a':=?_) ?_ ?_
 rotate_left
 ·simp only [putAll,Act.put,setIfInBounds_toArray,set_cons_zero,set_cons_succ]
  rfl
 refine one_ (i:=16) (N:=none) #[true,true,true,true,true,true,true,true,true,true,true,true,true,true,true,true,true,false] rfl rfl (one_of HT_.out (by kernel_rfl)) (by decide) (fun K hK=>?_)
 have hs33:w32.cell? ⟨gb310,0,none⟩ = some (.bool false):=(blk_cell BK310.out 0).trans rfl
 have hfs33:=blk_frozen BK310.out 0
 have hns33_0:=NB281_310.out
 have hns33_1:=NB282_310.out
 have hms33_0:=NB310_281.out
 have hms33_1:=NB310_282.out
 have hs35:w32.cell? ⟨gb310,1,none⟩ = some (.slice none 0 0):=(blk_cell BK310.out 1).trans rfl
 have hfs35:=blk_frozen BK310.out 1
 have hns35_0:=NB281_310.out
 have hns35_1:=NB282_310.out
 have hms35_0:=NB310_281.out
 have hms35_1:=NB310_282.out
 have hs37:w32.cell? ⟨gb310,2,none⟩ = some (.slice none 0 0):=(blk_cell BK310.out 2).trans rfl
 have hfs37:=blk_frozen BK310.out 2
 have hns37_0:=NB281_310.out
 have hns37_1:=NB282_310.out
 have hms37_0:=NB310_281.out
 have hms37_1:=NB310_282.out
 refine skip_ (w1:=?_) (by rfl) rfl ?_ ?_
 rotate_left
 ·go_simp
  rfl
 refine hK.out _ _ ⟨((cell_far (p:=⟨gb310,_,none⟩) NB281_310.out _).trans (((cell_far (p:=⟨gb310,_,none⟩) NB281_310.out _).trans (((cell_far (p:=⟨gb310,_,none⟩) NB281_310.out _).trans (hHeld.1)))))),((cell_far (p:=⟨gb310,_,none⟩) NB281_310.out _).trans (((cell_far (p:=⟨gb310,_,none⟩) NB281_310.out _).trans (((cell_far (p:=⟨gb310,_,none⟩) NB281_310.out _).trans (hHeld.2.1)))))),((cell_far (p:=⟨gb310,_,none⟩) NB281_310.out _).trans (((cell_far (p:=⟨gb310,_,none⟩) NB281_310.out _).trans (((cell_far (p:=⟨gb310,_,none⟩) NB281_310.out _).trans (hHeld.2.2.1)))))),((cell_far (p:=⟨gb310,_,none⟩) NB281_310.out _).trans (((cell_far (p:=⟨gb310,_,none⟩) NB281_310.out _).trans (((cell_far (p:=⟨gb310,_,none⟩) NB281_310.out _).trans (hHeld.2.2.2.1)))))),((cell_far (p:=⟨gb310,_,none⟩) NB282_310.out _).trans (((cell_far (p:=⟨gb310,_,none⟩) NB282_310.out _).trans (((cell_far (p:=⟨gb310,_,none⟩) NB282_310.out _).trans (hHeld.2.2.2.2.1)))))),((cell_far (p:=⟨gb310,_,none⟩) NB282_310.out _).trans (((cell_far (p:=⟨gb310,_,none⟩) NB282_310.out _).trans (((cell_far (p:=⟨gb310,_,none⟩) NB282_310.out _).trans (hHeld.2.2.2.2.2.1)))))),((cell_far (p:=⟨gb310,_,none⟩) NB282_310.out _).trans (((cell_far (p:=⟨gb310,_,none⟩) NB282_310.out _).trans (((cell_far (p:=⟨gb310,_,none⟩) NB282_310.out _).trans (hHeld.2.2.2.2.2.2.1)))))),((cell_far (p:=⟨gb310,_,none⟩) NB282_310.out _).trans (((cell_far (p:=⟨gb310,_,none⟩) NB282_310.out _).trans (((cell_far (p:=⟨gb310,_,none⟩) NB282_310.out _).trans (hHeld.2.2.2.2.2.2.2))))))⟩ (fun hHeld=>?_)
 clear hK K
 refine pure_ (i:=17) (N:=some 5) (v:=?_) (a':=?_) #[true,true,true,true,true,true,true,true,true,true,true,true,true,true,true,true,true,true] rfl rfl (any_of HT_.out (by kernel_rfl)) (fun _ _ _ h=>h) (Or.inl ⟨by rfl,?_⟩) ?_ ?_
 rotate_left
 ·intro w'
  go_simp
  with_reducible rfl
 rotate_left
 ·simp only [Act.put,setIfInBounds_toArray,set_cons_zero,set_cons_succ,i64_w,i32_w]
  rfl
 refine done_ (done_of HT_.out (by kernel_rfl)) ?_
 try go_wp2
 have n0_:Aside0 (Kd.R k32 32 (((w32.setCell ⟨gb310,0,none⟩ (.bool t302)).setCell ⟨gb310,1,none⟩ (.slice Ao34 t303.length co34)).setCell ⟨gb310,2,none⟩ (.slice Ao36 t306.length co36)) w.heap.size (fun k_=>some k_≠(.slice Ao34 t303.length co34:Value).ownBlock∧k_≠gb281∧k_≠gb282) v300 y299):=⟨by (with_reducible repeat (first|apply Kd.R_alloc|apply Kd.R_drewN|apply Kd.R_drew));exact Kd.R_mono (Kd.R_far (p:=⟨gb310,2,none⟩) (Kd.R_far (p:=⟨gb310,1,none⟩) (Kd.R_far (p:=⟨gb310,0,none⟩) (Kd.R_types HO301.out BK310.out (by decide)) (fun _ hk=>hk.2) (.bool t302)) (fun _ hk=>hk.2) (.slice Ao34 t303.length co34)) (fun _ hk=>hk.2) (.slice Ao36 t306.length co36)) (fun _ hk=>⟨hk.1.1,⟨hk.1.2.1,hk.1.2.2⟩⟩)⟩
 have n1_:Aside0 (Kd.R k32 32 (((w32.setCell ⟨gb310,0,none⟩ (.bool t302)).setCell ⟨gb310,1,none⟩ (.slice Ao34 t303.length co34)).setCell ⟨gb310,2,none⟩ (.slice Ao36 t306.length co36)) w.heap.size (fun k_=>some k_≠(v300:Value).ownBlock∧k_≠gb281∧k_≠gb282) (.slice Ao34 t303.length co34) t303):=⟨by (with_reducible repeat (first|apply Kd.R_alloc|apply Kd.R_drewN|apply Kd.R_drew));exact Kd.R_mono (Kd.R_far (p:=⟨gb310,2,none⟩) (Kd.R_far (p:=⟨gb310,1,none⟩) (Kd.R_far (p:=⟨gb310,0,none⟩) (Kd.R_types HO305.out BK310.out (by decide)) (fun _ hk=>hk.2) (.bool t302)) (fun _ hk=>hk.2) (.slice Ao34 t303.length co34)) (fun _ hk=>hk.2) (.slice Ao36 t306.length co36)) (fun _ hk=>⟨hk.1.1,⟨hk.1.2.1,hk.1.2.2⟩⟩)⟩
 have n2_:Aside0 (Kd.S k57 57 (((w32.setCell ⟨gb310,0,none⟩ (.bool t302)).setCell ⟨gb310,1,none⟩ (.slice Ao34 t303.length co34)).setCell ⟨gb310,2,none⟩ (.slice Ao36 t306.length co36)) w.heap.size (fun k_=>some k_≠(v300:Value).ownBlock∧some k_≠(.slice Ao34 t303.length co34:Value).ownBlock∧k_≠gb281∧k_≠gb282) (.slice Ao36 t306.length co36) t306):=⟨by (with_reducible repeat (first|apply Kd.S_alloc|apply Kd.S_drewN|apply Kd.S_drew));exact Kd.S_mono (Kd.S_far (p:=⟨gb310,2,none⟩) (Kd.S_far (p:=⟨gb310,1,none⟩) (Kd.S_far (p:=⟨gb310,0,none⟩) (Kd.S_types HO308.out BK310.out (by decide)) (fun _ hk=>hk.2) (.bool t302)) (fun _ hk=>hk.2) (.slice Ao34 t303.length co34)) (fun _ hk=>hk.2) (.slice Ao36 t306.length co36)) (fun _ hk=>⟨hk.1.1,⟨hk.1.2.1,⟨hk.1.2.2.1,hk.1.2.2.2⟩⟩⟩)⟩
 have n3_:Aside0 ((((w32.setCell ⟨gb310,0,none⟩ (.bool t302)).setCell ⟨gb310,1,none⟩ (.slice Ao34 t303.length co34)).setCell ⟨gb310,2,none⟩ (.slice Ao36 t306.length co36)).heap[gb281]? = some (.cells #[.string (⟨#[1,120]⟩:ByteArray),.int .u16 99,.int .u32 0,.string (⟨#[]⟩:ByteArray)] 32 (0,0))):=⟨by (with_reducible repeat (first|apply blk_drewN|apply blk_drew|apply blk_alloc));refine blk_far ?_ NB281_310.out _;(with_reducible repeat (first|apply blk_drewN|apply blk_drew|apply blk_alloc));refine blk_far ?_ NB281_310.out _;(with_reducible repeat (first|apply blk_drewN|apply blk_drew|apply blk_alloc));refine blk_far ?_ NB281_310.out _;(with_reducible repeat (first|apply blk_drewN|apply blk_drew|apply blk_alloc));exact BK281.out⟩
 have n4_:Aside0 ((((w32.setCell ⟨gb310,0,none⟩ (.bool t302)).setCell ⟨gb310,1,none⟩ (.slice Ao34 t303.length co34)).setCell ⟨gb310,2,none⟩ (.slice Ao36 t306.length co36)).heap[gb282]? = some (.cells #[.string (⟨#[1,121]⟩:ByteArray),.int .u16 99,.int .u32 0,.string (⟨#[]⟩:ByteArray)] 32 (0,0))):=⟨by (with_reducible repeat (first|apply blk_drewN|apply blk_drew|apply blk_alloc));refine blk_far ?_ NB282_310.out _;(with_reducible repeat (first|apply blk_drewN|apply blk_drew|apply blk_alloc));refine blk_far ?_ NB282_310.out _;(with_reducible repeat (first|apply blk_drewN|apply blk_drew|apply blk_alloc));refine blk_far ?_ NB282_310.out _;(with_reducible repeat (first|apply blk_drewN|apply blk_drew|apply blk_alloc));exact BK282.out⟩
 have n5_:Aside0 ((((w32.setCell ⟨gb310,0,none⟩ (.bool t302)).setCell ⟨gb310,1,none⟩ (.slice Ao34 t303.length co34)).setCell ⟨gb310,2,none⟩ (.slice Ao36 t306.length co36)).heap[gb310]? = some (.cells #[.bool t302,.slice Ao34 t303.length co34,.slice Ao36 t306.length co36] 48 (0,0))):=⟨by (with_reducible repeat (first|apply blk_drewN|apply blk_drew|apply blk_alloc));refine blk_put (cs:=#[.bool t302,.slice Ao34 t303.length co34,.slice none 0 0]) ?_ 2 _ rfl;(with_reducible repeat (first|apply blk_drewN|apply blk_drew|apply blk_alloc));refine blk_put (cs:=#[.bool t302,.slice none 0 0,.slice none 0 0]) ?_ 1 _ rfl;(with_reducible repeat (first|apply blk_drewN|apply blk_drew|apply blk_alloc));refine blk_put (cs:=#[.bool false,.slice none 0 0,.slice none 0 0]) ?_ 0 _ rfl;(with_reducible repeat (first|apply blk_drewN|apply blk_drew|apply blk_alloc));exact BK310.out⟩
 have n6_:Aside0 (Below w.heap.size w (((w32.setCell ⟨gb310,0,none⟩ (.bool t302)).setCell ⟨gb310,1,none⟩ (.slice Ao34 t303.length co34)).setCell ⟨gb310,2,none⟩ (.slice Ao36 t306.length co36))):=⟨by repeat (first|(with_reducible first|exact HB.out|apply below_alloc|apply pw_below_drewN|apply below_drew1|refine below_set ?_ GE281.out|refine below_set ?_ GE282.out|refine below_set ?_ GE310.out)|exact HB.out)⟩
 (try clear HO301)
 (try clear HO305)
 (try clear HO308)
 (try clear BK281)
 (try clear BK282)
 (try clear BK310)
 (try clear HB)
 generalize (((w32.setCell ⟨gb310,0,none⟩ (.bool t302)).setCell ⟨gb310,1,none⟩ (.slice Ao34 t303.length co34)).setCell ⟨gb310,2,none⟩ (.slice Ao36 t306.length co36)) = w38 at n0_ n1_ n2_ n3_ n4_ n5_ n6_ ⊢
 have HO301:=n0_
 have HO305:=n1_
 have HO308:=n2_
 have BK281:=n3_
 have BK282:=n4_
 have BK310:=n5_
 have HB:=n6_
 clear n0_ n1_ n2_ n3_ n4_ n5_ n6_
 have n0_:=Aside0.mk (Kd.R_drew HO301.out)
 have n1_:=Aside0.mk (Kd.R_drew HO305.out)
 have n2_:=Aside0.mk (Kd.S_drew HO308.out)
 have n3_:=Aside0.mk (blk_drew BK281.out)
 have n4_:=Aside0.mk (blk_drew BK282.out)
 have n5_:=Aside0.mk (blk_drew BK310.out)
 have n6_:=Aside0.mk (below_drew1 HB.out)
 clear HO301
 clear HO305
 clear HO308
 clear BK281
 clear BK282
 clear BK310
 clear HB
 have HO301:=n0_
 have HO305:=n1_
 have HO308:=n2_
 have BK281:=n3_
 have BK282:=n4_
 have BK310:=n5_
 have HB:=n6_
 clear n0_ n1_ n2_ n3_ n4_ n5_ n6_
 have p312:0≤(0:Int):=(by omega)
 have q312:0 < (t306.length:Int):=of_decide_eq_true (by first|(with_reducible assumption)|assumption)
 obtain ⟨ad312,A312_8,c312_8,A312_9,c312_9,e312,hx312_0,hx312_1,hx312_2,hx312_3,hx312_4,hx312_5,hx312_6,hx312_7,hx312_8,hx312_9,hl312_8,hi312_8,hl312_9,hi312_9⟩:=at_T57 (Kd.S_reads' HO308.out).2.2 0 p312 q312
 cases e312
 obtain ⟨ce312,hce312,hMe312,hcc312⟩:=Kd.S_get HO308.out z57 0 p312 (by first|exact q312|exact of_decide_eq_true (by first|(with_reducible assumption)|assumption)|(have e_:=(Kd.S_reads' HO308.out).1;omega))
 obtain ⟨ve312_8,ve312_9,rfl,ge312_8,ge312_9⟩:=k57_openM hMe312
 have hv312_8:=hcc312 8 _ rfl
 rw [add_field _ _ 8 (by omega)] at hv312_8
 replace hv312_8:=Option.some.inj (hv312_8.symm.trans hx312_8)
 rw [hv312_8] at ge312_8
 have HL312_8:=Aside0.mk (show Kd.R k32 32 _ _ _ _ ((rd_T57 t306 0).f2) from ge312_8)
 clear hv312_8 ge312_8
 have hv312_9:=hcc312 9 _ rfl
 rw [add_field _ _ 9 (by omega)] at hv312_9
 replace hv312_9:=Option.some.inj (hv312_9.symm.trans hx312_9)
 rw [hv312_9] at ge312_9
 have HL312_9:=Aside0.mk (show Kd.R k32 32 _ _ _ _ ((rd_T57 t306 0).f3) from ge312_9)
 clear hv312_9 ge312_9
 clear hcc312 hce312
 have qi312:(0 < t306.length) = True:=eq_true (by omega)
 (try rw [show ((0:Int)).toNat = 0 from rfl] at hx312_0)
 (try rw [show 0 * 10 = 0 from rfl] at hx312_0)
 (try rw [Addr.add_zero'] at hx312_0)
 (try rw [show ((0:Int)).toNat = 0 from rfl] at hx312_1)
 (try rw [show 0 * 10 = 0 from rfl] at hx312_1)
 (try rw [Addr.add_zero'] at hx312_1)
 (try rw [show ((0:Int)).toNat = 0 from rfl] at hx312_2)
 (try rw [show 0 * 10 = 0 from rfl] at hx312_2)
 (try rw [Addr.add_zero'] at hx312_2)
 (try rw [show ((0:Int)).toNat = 0 from rfl] at hx312_3)
 (try rw [show 0 * 10 = 0 from rfl] at hx312_3)
 (try rw [Addr.add_zero'] at hx312_3)
 (try rw [show ((0:Int)).toNat = 0 from rfl] at hx312_4)
 (try rw [show 0 * 10 = 0 from rfl] at hx312_4)
 (try rw [Addr.add_zero'] at hx312_4)
 (try rw [show ((0:Int)).toNat = 0 from rfl] at hx312_5)
 (try rw [show 0 * 10 = 0 from rfl] at hx312_5)
 (try rw [Addr.add_zero'] at hx312_5)
 (try rw [show ((0:Int)).toNat = 0 from rfl] at hx312_6)
 (try rw [show 0 * 10 = 0 from rfl] at hx312_6)
 (try rw [Addr.add_zero'] at hx312_6)
 (try rw [show ((0:Int)).toNat = 0 from rfl] at hx312_7)
 (try rw [show 0 * 10 = 0 from rfl] at hx312_7)
 (try rw [Addr.add_zero'] at hx312_7)
 (try rw [show ((0:Int)).toNat = 0 from rfl] at hx312_8)
 (try rw [show 0 * 10 = 0 from rfl] at hx312_8)
 (try rw [Addr.add_zero'] at hx312_8)
 (try rw [show ((0:Int)).toNat = 0 from rfl] at hx312_9)
 (try rw [show 0 * 10 = 0 from rfl] at hx312_9)
 (try rw [Addr.add_zero'] at hx312_9)
 have HR312_8:=Aside0.mk hi312_8
 have HC312_8:=Aside0.mk hl312_8
 clear hi312_8 hl312_8
 have HR312_9:=Aside0.mk hi312_9
 have HC312_9:=Aside0.mk hl312_9
 clear hi312_9 hl312_9
 replace p312:=eq_true p312
 replace q312:=eq_true q312
 have p313:0≤(0:Int):=(by omega)
 have q313:0 < (t306.length:Int):=of_decide_eq_true (by first|(with_reducible assumption)|assumption)
 obtain ⟨ad313,A313_8,c313_8,A313_9,c313_9,e313,hx313_0,hx313_1,hx313_2,hx313_3,hx313_4,hx313_5,hx313_6,hx313_7,hx313_8,hx313_9,hl313_8,hi313_8,hl313_9,hi313_9⟩:=at_T57 (Kd.S_reads' HO308.out).2.2 0 p313 q313
 obtain rfl:ad312 = ad313:=(by injection e313)
 obtain ⟨ce313,hce313,hMe313,hcc313⟩:=Kd.S_get HO308.out z57 0 p313 (by first|exact q313|exact of_decide_eq_true (by first|(with_reducible assumption)|assumption)|(have e_:=(Kd.S_reads' HO308.out).1;omega))
 obtain ⟨ve313_8,ve313_9,rfl,ge313_8,ge313_9⟩:=k57_openM hMe313
 have hv313_8:=hcc313 8 _ rfl
 rw [add_field _ _ 8 (by omega)] at hv313_8
 replace hv313_8:=Option.some.inj (hv313_8.symm.trans hx313_8)
 rw [hv313_8] at ge313_8
 have HL313_8:=Aside0.mk (show Kd.R k32 32 _ _ _ _ ((rd_T57 t306 0).f2) from ge313_8)
 clear hv313_8 ge313_8
 have hv313_9:=hcc313 9 _ rfl
 rw [add_field _ _ 9 (by omega)] at hv313_9
 replace hv313_9:=Option.some.inj (hv313_9.symm.trans hx313_9)
 rw [hv313_9] at ge313_9
 have HL313_9:=Aside0.mk (show Kd.R k32 32 _ _ _ _ ((rd_T57 t306 0).f3) from ge313_9)
 clear hv313_9 ge313_9
 clear hcc313 hce313
 have qi313:(0 < t306.length) = True:=eq_true (by omega)
 (try rw [show ((0:Int)).toNat = 0 from rfl] at hx313_0)
 (try rw [show 0 * 10 = 0 from rfl] at hx313_0)
 (try rw [Addr.add_zero'] at hx313_0)
 (try rw [show ((0:Int)).toNat = 0 from rfl] at hx313_1)
 (try rw [show 0 * 10 = 0 from rfl] at hx313_1)
 (try rw [Addr.add_zero'] at hx313_1)
 (try rw [show ((0:Int)).toNat = 0 from rfl] at hx313_2)
 (try rw [show 0 * 10 = 0 from rfl] at hx313_2)
 (try rw [Addr.add_zero'] at hx313_2)
 (try rw [show ((0:Int)).toNat = 0 from rfl] at hx313_3)
 (try rw [show 0 * 10 = 0 from rfl] at hx313_3)
 (try rw [Addr.add_zero'] at hx313_3)
 (try rw [show ((0:Int)).toNat = 0 from rfl] at hx313_4)
 (try rw [show 0 * 10 = 0 from rfl] at hx313_4)
 (try rw [Addr.add_zero'] at hx313_4)
 (try rw [show ((0:Int)).toNat = 0 from rfl] at hx313_5)
 (try rw [show 0 * 10 = 0 from rfl] at hx313_5)
 (try rw [Addr.add_zero'] at hx313_5)
 (try rw [show ((0:Int)).toNat = 0 from rfl] at hx313_6)
 (try rw [show 0 * 10 = 0 from rfl] at hx313_6)
 (try rw [Addr.add_zero'] at hx313_6)
 (try rw [show ((0:Int)).toNat = 0 from rfl] at hx313_7)
 (try rw [show 0 * 10 = 0 from rfl] at hx313_7)
 (try rw [Addr.add_zero'] at hx313_7)
 (try rw [show ((0:Int)).toNat = 0 from rfl] at hx313_8)
 (try rw [show 0 * 10 = 0 from rfl] at hx313_8)
 (try rw [Addr.add_zero'] at hx313_8)
 (try rw [show ((0:Int)).toNat = 0 from rfl] at hx313_9)
 (try rw [show 0 * 10 = 0 from rfl] at hx313_9)
 (try rw [Addr.add_zero'] at hx313_9)
 have HR313_8:=Aside0.mk hi313_8
 have HC313_8:=Aside0.mk hl313_8
 clear hi313_8 hl313_8
 have HR313_9:=Aside0.mk hi313_9
 have HC313_9:=Aside0.mk hl313_9
 clear hi313_9 hl313_9
 replace p313:=eq_true p313
 replace q313:=eq_true q313
 have ea_:=Option.some.inj (hx312_8.symm.trans hx313_8)
 injection ea_ with ea_ en_ ec_
 subst ea_
 subst ec_
 clear en_
 have ea_:=Option.some.inj (hx312_9.symm.trans hx313_9)
 injection ea_ with ea_ en_ ec_
 subst ea_
 subst ec_
 clear en_
 have p314:0≤(0:Int):=(by omega)
 have q314:0 < (t306.length:Int):=of_decide_eq_true (by first|(with_reducible assumption)|assumption)
 obtain ⟨ad314,A314_8,c314_8,A314_9,c314_9,e314,hx314_0,hx314_1,hx314_2,hx314_3,hx314_4,hx314_5,hx314_6,hx314_7,hx314_8,hx314_9,hl314_8,hi314_8,hl314_9,hi314_9⟩:=at_T57 (Kd.S_reads' HO308.out).2.2 0 p314 q314
 obtain rfl:ad312 = ad314:=(by injection e314)
 obtain ⟨ce314,hce314,hMe314,hcc314⟩:=Kd.S_get HO308.out z57 0 p314 (by first|exact q314|exact of_decide_eq_true (by first|(with_reducible assumption)|assumption)|(have e_:=(Kd.S_reads' HO308.out).1;omega))
 obtain ⟨ve314_8,ve314_9,rfl,ge314_8,ge314_9⟩:=k57_openM hMe314
 have hv314_8:=hcc314 8 _ rfl
 rw [add_field _ _ 8 (by omega)] at hv314_8
 replace hv314_8:=Option.some.inj (hv314_8.symm.trans hx314_8)
 rw [hv314_8] at ge314_8
 have HL314_8:=Aside0.mk (show Kd.R k32 32 _ _ _ _ ((rd_T57 t306 0).f2) from ge314_8)
 clear hv314_8 ge314_8
 have hv314_9:=hcc314 9 _ rfl
 rw [add_field _ _ 9 (by omega)] at hv314_9
 replace hv314_9:=Option.some.inj (hv314_9.symm.trans hx314_9)
 rw [hv314_9] at ge314_9
 have HL314_9:=Aside0.mk (show Kd.R k32 32 _ _ _ _ ((rd_T57 t306 0).f3) from ge314_9)
 clear hv314_9 ge314_9
 clear hcc314 hce314
 have qi314:(0 < t306.length) = True:=eq_true (by omega)
 (try rw [show ((0:Int)).toNat = 0 from rfl] at hx314_0)
 (try rw [show 0 * 10 = 0 from rfl] at hx314_0)
 (try rw [Addr.add_zero'] at hx314_0)
 (try rw [show ((0:Int)).toNat = 0 from rfl] at hx314_1)
 (try rw [show 0 * 10 = 0 from rfl] at hx314_1)
 (try rw [Addr.add_zero'] at hx314_1)
 (try rw [show ((0:Int)).toNat = 0 from rfl] at hx314_2)
 (try rw [show 0 * 10 = 0 from rfl] at hx314_2)
 (try rw [Addr.add_zero'] at hx314_2)
 (try rw [show ((0:Int)).toNat = 0 from rfl] at hx314_3)
 (try rw [show 0 * 10 = 0 from rfl] at hx314_3)
 (try rw [Addr.add_zero'] at hx314_3)
 (try rw [show ((0:Int)).toNat = 0 from rfl] at hx314_4)
 (try rw [show 0 * 10 = 0 from rfl] at hx314_4)
 (try rw [Addr.add_zero'] at hx314_4)
 (try rw [show ((0:Int)).toNat = 0 from rfl] at hx314_5)
 (try rw [show 0 * 10 = 0 from rfl] at hx314_5)
 (try rw [Addr.add_zero'] at hx314_5)
 (try rw [show ((0:Int)).toNat = 0 from rfl] at hx314_6)
 (try rw [show 0 * 10 = 0 from rfl] at hx314_6)
 (try rw [Addr.add_zero'] at hx314_6)
 (try rw [show ((0:Int)).toNat = 0 from rfl] at hx314_7)
 (try rw [show 0 * 10 = 0 from rfl] at hx314_7)
 (try rw [Addr.add_zero'] at hx314_7)
 (try rw [show ((0:Int)).toNat = 0 from rfl] at hx314_8)
 (try rw [show 0 * 10 = 0 from rfl] at hx314_8)
 (try rw [Addr.add_zero'] at hx314_8)
 (try rw [show ((0:Int)).toNat = 0 from rfl] at hx314_9)
 (try rw [show 0 * 10 = 0 from rfl] at hx314_9)
 (try rw [Addr.add_zero'] at hx314_9)
 have HR314_8:=Aside0.mk hi314_8
 have HC314_8:=Aside0.mk hl314_8
 clear hi314_8 hl314_8
 have HR314_9:=Aside0.mk hi314_9
 have HC314_9:=Aside0.mk hl314_9
 clear hi314_9 hl314_9
 replace p314:=eq_true p314
 replace q314:=eq_true q314
 have ea_:=Option.some.inj (hx312_8.symm.trans hx314_8)
 injection ea_ with ea_ en_ ec_
 subst ea_
 subst ec_
 clear en_
 have ea_:=Option.some.inj (hx312_9.symm.trans hx314_9)
 injection ea_ with ea_ en_ ec_
 subst ea_
 subst ec_
 clear en_
 have p315:0≤(0:Int):=(by omega)
 have q315:0 < (((rd_T57 t306 0).f2).length:Int):=of_decide_eq_true (by first|(with_reducible assumption)|assumption)
 obtain ⟨ad315,e315,hx315_0,hx315_1,hx315_2,hx315_3⟩:=at_T32 (by repeat (first|(with_reducible exact HR314_8.out)|(with_reducible refine Kd.C_alloc ?_ _)|(with_reducible refine Kd.C_drewN ?_ _)|(with_reducible refine Kd.C_drew ?_)|exact HR314_8.out)) 0 p315 q315
 cases e315
 have qi315:(0 < ((rd_T57 t306 0).f2).length) = True:=eq_true (by omega)
 (try rw [show ((0:Int)).toNat = 0 from rfl] at hx315_0)
 (try rw [show 0 * 4 = 0 from rfl] at hx315_0)
 (try rw [Addr.add_zero'] at hx315_0)
 (try rw [show ((0:Int)).toNat = 0 from rfl] at hx315_1)
 (try rw [show 0 * 4 = 0 from rfl] at hx315_1)
 (try rw [Addr.add_zero'] at hx315_1)
 (try rw [show ((0:Int)).toNat = 0 from rfl] at hx315_2)
 (try rw [show 0 * 4 = 0 from rfl] at hx315_2)
 (try rw [Addr.add_zero'] at hx315_2)
 (try rw [show ((0:Int)).toNat = 0 from rfl] at hx315_3)
 (try rw [show 0 * 4 = 0 from rfl] at hx315_3)
 (try rw [Addr.add_zero'] at hx315_3)
 replace p315:=eq_true p315
 replace q315:=eq_true q315
 have p316:0≤(0:Int):=(by omega)
 have q316:0 < (t306.length:Int):=of_decide_eq_true (by first|(with_reducible assumption)|assumption)
 obtain ⟨ad316,A316_8,c316_8,A316_9,c316_9,e316,hx316_0,hx316_1,hx316_2,hx316_3,hx316_4,hx316_5,hx316_6,hx316_7,hx316_8,hx316_9,hl316_8,hi316_8,hl316_9,hi316_9⟩:=at_T57 (Kd.S_reads' HO308.out).2.2 0 p316 q316
 obtain rfl:ad312 = ad316:=(by injection e316)
 obtain ⟨ce316,hce316,hMe316,hcc316⟩:=Kd.S_get HO308.out z57 0 p316 (by first|exact q316|exact of_decide_eq_true (by first|(with_reducible assumption)|assumption)|(have e_:=(Kd.S_reads' HO308.out).1;omega))
 obtain ⟨ve316_8,ve316_9,rfl,ge316_8,ge316_9⟩:=k57_openM hMe316
 have hv316_8:=hcc316 8 _ rfl
 rw [add_field _ _ 8 (by omega)] at hv316_8
 replace hv316_8:=Option.some.inj (hv316_8.symm.trans hx316_8)
 rw [hv316_8] at ge316_8
 have HL316_8:=Aside0.mk (show Kd.R k32 32 _ _ _ _ ((rd_T57 t306 0).f2) from ge316_8)
 clear hv316_8 ge316_8
 have hv316_9:=hcc316 9 _ rfl
 rw [add_field _ _ 9 (by omega)] at hv316_9
 replace hv316_9:=Option.some.inj (hv316_9.symm.trans hx316_9)
 rw [hv316_9] at ge316_9
 have HL316_9:=Aside0.mk (show Kd.R k32 32 _ _ _ _ ((rd_T57 t306 0).f3) from ge316_9)
 clear hv316_9 ge316_9
 clear hcc316 hce316
 have qi316:(0 < t306.length) = True:=eq_true (by omega)
 (try rw [show ((0:Int)).toNat = 0 from rfl] at hx316_0)
 (try rw [show 0 * 10 = 0 from rfl] at hx316_0)
 (try rw [Addr.add_zero'] at hx316_0)
 (try rw [show ((0:Int)).toNat = 0 from rfl] at hx316_1)
 (try rw [show 0 * 10 = 0 from rfl] at hx316_1)
 (try rw [Addr.add_zero'] at hx316_1)
 (try rw [show ((0:Int)).toNat = 0 from rfl] at hx316_2)
 (try rw [show 0 * 10 = 0 from rfl] at hx316_2)
 (try rw [Addr.add_zero'] at hx316_2)
 (try rw [show ((0:Int)).toNat = 0 from rfl] at hx316_3)
 (try rw [show 0 * 10 = 0 from rfl] at hx316_3)
 (try rw [Addr.add_zero'] at hx316_3)
 (try rw [show ((0:Int)).toNat = 0 from rfl] at hx316_4)
 (try rw [show 0 * 10 = 0 from rfl] at hx316_4)
 (try rw [Addr.add_zero'] at hx316_4)
 (try rw [show ((0:Int)).toNat = 0 from rfl] at hx316_5)
 (try rw [show 0 * 10 = 0 from rfl] at hx316_5)
 (try rw [Addr.add_zero'] at hx316_5)
 (try rw [show ((0:Int)).toNat = 0 from rfl] at hx316_6)
 (try rw [show 0 * 10 = 0 from rfl] at hx316_6)
 (try rw [Addr.add_zero'] at hx316_6)
 (try rw [show ((0:Int)).toNat = 0 from rfl] at hx316_7)
 (try rw [show 0 * 10 = 0 from rfl] at hx316_7)
 (try rw [Addr.add_zero'] at hx316_7)
 (try rw [show ((0:Int)).toNat = 0 from rfl] at hx316_8)
 (try rw [show 0 * 10 = 0 from rfl] at hx316_8)
 (try rw [Addr.add_zero'] at hx316_8)
 (try rw [show ((0:Int)).toNat = 0 from rfl] at hx316_9)
 (try rw [show 0 * 10 = 0 from rfl] at hx316_9)
 (try rw [Addr.add_zero'] at hx316_9)
 have HR316_8:=Aside0.mk hi316_8
 have HC316_8:=Aside0.mk hl316_8
 clear hi316_8 hl316_8
 have HR316_9:=Aside0.mk hi316_9
 have HC316_9:=Aside0.mk hl316_9
 clear hi316_9 hl316_9
 replace p316:=eq_true p316
 replace q316:=eq_true q316
 have ea_:=Option.some.inj (hx312_8.symm.trans hx316_8)
 injection ea_ with ea_ en_ ec_
 subst ea_
 subst ec_
 clear en_
 have ea_:=Option.some.inj (hx312_9.symm.trans hx316_9)
 injection ea_ with ea_ en_ ec_
 subst ea_
 subst ec_
 clear en_
 have p317:0≤(0:Int):=(by omega)
 have q317:0 < (((rd_T57 t306 0).f3).length:Int):=of_decide_eq_true (by first|(with_reducible assumption)|assumption)
 obtain ⟨ad317,e317,hx317_0,hx317_1,hx317_2,hx317_3⟩:=at_T32 (by repeat (first|(with_reducible exact HR316_9.out)|(with_reducible refine Kd.C_alloc ?_ _)|(with_reducible refine Kd.C_drewN ?_ _)|(with_reducible refine Kd.C_drew ?_)|exact HR316_9.out)) 0 p317 q317
 cases e317
 have qi317:(0 < ((rd_T57 t306 0).f3).length) = True:=eq_true (by omega)
 (try rw [show ((0:Int)).toNat = 0 from rfl] at hx317_0)
 (try rw [show 0 * 4 = 0 from rfl] at hx317_0)
 (try rw [Addr.add_zero'] at hx317_0)
 (try rw [show ((0:Int)).toNat = 0 from rfl] at hx317_1)
 (try rw [show 0 * 4 = 0 from rfl] at hx317_1)
 (try rw [Addr.add_zero'] at hx317_1)
 (try rw [show ((0:Int)).toNat = 0 from rfl] at hx317_2)
 (try rw [show 0 * 4 = 0 from rfl] at hx317_2)
 (try rw [Addr.add_zero'] at hx317_2)
 (try rw [show ((0:Int)).toNat = 0 from rfl] at hx317_3)
 (try rw [show 0 * 4 = 0 from rfl] at hx317_3)
 (try rw [Addr.add_zero'] at hx317_3)
 replace p317:=eq_true p317
 replace q317:=eq_true q317
 refine start_ (n:=55) (S:=fun w'=>w'.cell? ⟨gb310,0,none⟩ = some (.bool t302)∧w'.cell? ⟨gb310,1,none⟩ = some (.slice Ao34 t303.length co34)∧w'.cell? ⟨gb310,2,none⟩ = some (.slice (some ad312) t306.length co36)∧w'.cell? ⟨gb281,0,none⟩ = some (.string (⟨#[1,120]⟩:ByteArray))∧w'.cell? ⟨gb281,1,none⟩ = some (.int .u16 99)∧w'.cell? ⟨gb281,2,none⟩ = some (.int .u32 0)∧w'.cell? ⟨gb281,3,none⟩ = some (.string (⟨#[]⟩:ByteArray))∧w'.cell? ⟨gb282,0,none⟩ = some (.string (⟨#[1,121]⟩:ByteArray))∧w'.cell? ⟨gb282,1,none⟩ = some (.int .u16 99)∧w'.cell? ⟨gb282,2,none⟩ = some (.int .u32 0)∧w'.cell? ⟨gb282,3,none⟩ = some (.string (⟨#[]⟩:ByteArray))∧w'.cell? ad312 = some (.string ((rd_T57 t306 0).f0.f0))∧w'.cell? ⟨ad312.block,ad312.off + 1,none⟩ = some (.int .u16 ((rd_T57 t306 0).f0.f1))∧w'.cell? ⟨ad312.block,ad312.off + 2,none⟩ = some (.int .u32 ((rd_T57 t306 0).f0.f2))∧w'.cell? ⟨ad312.block,ad312.off + 3,none⟩ = some (.string ((rd_T57 t306 0).f0.f3))∧w'.cell? ⟨ad312.block,ad312.off + 4,none⟩ = some (.string ((rd_T57 t306 0).f1.f0))∧w'.cell? ⟨ad312.block,ad312.off + 5,none⟩ = some (.int .u16 ((rd_T57 t306 0).f1.f1))∧w'.cell? ⟨ad312.block,ad312.off + 6,none⟩ = some (.int .u32 ((rd_T57 t306 0).f1.f2))∧w'.cell? ⟨ad312.block,ad312.off + 7,none⟩ = some (.string ((rd_T57 t306 0).f1.f3))∧w'.cell? ⟨ad312.block,ad312.off + 8,none⟩ = some (.slice (some ad315) ((rd_T57 t306 0).f2).length c312_8)∧w'.cell? ⟨ad312.block,ad312.off + 9,none⟩ = some (.slice (some ad317) ((rd_T57 t306 0).f3).length c312_9)∧w'.cell? ad312 = some (.string ((rd_T57 t306 0).f0.f0))∧w'.cell? ⟨ad312.block,ad312.off + 1,none⟩ = some (.int .u16 ((rd_T57 t306 0).f0.f1))∧w'.cell? ⟨ad312.block,ad312.off + 2,none⟩ = some (.int .u32 ((rd_T57 t306 0).f0.f2))∧w'.cell? ⟨ad312.block,ad312.off + 3,none⟩ = some (.string ((rd_T57 t306 0).f0.f3))∧w'.cell? ⟨ad312.block,ad312.off + 4,none⟩ = some (.string ((rd_T57 t306 0).f1.f0))∧w'.cell? ⟨ad312.block,ad312.off + 5,none⟩ = some (.int .u16 ((rd_T57 t306 0).f1.f1))∧w'.cell? ⟨ad312.block,ad312.off + 6,none⟩ = some (.int .u32 ((rd_T57 t306 0).f1.f2))∧w'.cell? ⟨ad312.block,ad312.off + 7,none⟩ = some (.string ((rd_T57 t306 0).f1.f3))∧w'.cell? ⟨ad312.block,ad312.off + 8,none⟩ = some (.slice (some ad315) ((rd_T57 t306 0).f2).length c312_8)∧w'.cell? ⟨ad312.block,ad312.off + 9,none⟩ = some (.slice (some ad317) ((rd_T57 t306 0).f3).length c312_9)∧w'.cell? ad312 = some (.string ((rd_T57 t306 0).f0.f0))∧w'.cell? ⟨ad312.block,ad312.off + 1,none⟩ = some (.int .u16 ((rd_T57 t306 0).f0.f1))∧w'.cell? ⟨ad312.block,ad312.off + 2,none⟩ = some (.int .u32 ((rd_T57 t306 0).f0.f2))∧w'.cell? ⟨ad312.block,ad312.off + 3,none⟩ = some (.string ((rd_T57 t306 0).f0.f3))∧w'.cell? ⟨ad312.block,ad312.off + 4,none⟩ = some (.string ((rd_T57 t306 0).f1.f0))∧w'.cell? ⟨ad312.block,ad312.off + 5,none⟩ = some (.int .u16 ((rd_T57 t306 0).f1.f1))∧w'.cell? ⟨ad312.block,ad312.off + 6,none⟩ = some (.int .u32 ((rd_T57 t306 0).f1.f2))∧w'.cell? ⟨ad312.block,ad312.off + 7,none⟩ = some (.string ((rd_T57 t306 0).f1.f3))∧w'.cell? ⟨ad312.block,ad312.off + 8,none⟩ = some (.slice (some ad315) ((rd_T57 t306 0).f2).length c312_8)∧w'.cell? ⟨ad312.block,ad312.off + 9,none⟩ = some (.slice (some ad317) ((rd_T57 t306 0).f3).length c312_9)∧w'.cell? ad315 = some (.string ((rd_T32 ((rd_T57 t306 0).f2) 0).f0))∧w'.cell? ⟨ad315.block,ad315.off + 1,none⟩ = some (.int .u16 ((rd_T32 ((rd_T57 t306 0).f2) 0).f1))∧w'.cell? ⟨ad315.block,ad315.off + 2,none⟩ = some (.int .u32 ((rd_T32 ((rd_T57 t306 0).f2) 0).f2))∧w'.cell? ⟨ad315.block,ad315.off + 3,none⟩ = some (.string ((rd_T32 ((rd_T57 t306 0).f2) 0).f3))∧w'.cell? ad312 = some (.string ((rd_T57 t306 0).f0.f0))∧w'.cell? ⟨ad312.block,ad312.off + 1,none⟩ = some (.int .u16 ((rd_T57 t306 0).f0.f1))∧w'.cell? ⟨ad312.block,ad312.off + 2,none⟩ = some (.int .u32 ((rd_T57 t306 0).f0.f2))∧w'.cell? ⟨ad312.block,ad312.off + 3,none⟩ = some (.string ((rd_T57 t306 0).f0.f3))∧w'.cell? ⟨ad312.block,ad312.off + 4,none⟩ = some (.string ((rd_T57 t306 0).f1.f0))∧w'.cell? ⟨ad312.block,ad312.off + 5,none⟩ = some (.int .u16 ((rd_T57 t306 0).f1.f1))∧w'.cell? ⟨ad312.block,ad312.off + 6,none⟩ = some (.int .u32 ((rd_T57 t306 0).f1.f2))∧w'.cell? ⟨ad312.block,ad312.off + 7,none⟩ = some (.string ((rd_T57 t306 0).f1.f3))∧w'.cell? ⟨ad312.block,ad312.off + 8,none⟩ = some (.slice (some ad315) ((rd_T57 t306 0).f2).length c312_8)∧w'.cell? ⟨ad312.block,ad312.off + 9,none⟩ = some (.slice (some ad317) ((rd_T57 t306 0).f3).length c312_9)∧w'.cell? ad317 = some (.string ((rd_T32 ((rd_T57 t306 0).f3) 0).f0))∧w'.cell? ⟨ad317.block,ad317.off + 1,none⟩ = some (.int .u16 ((rd_T32 ((rd_T57 t306 0).f3) 0).f1))∧w'.cell? ⟨ad317.block,ad317.off + 2,none⟩ = some (.int .u32 ((rd_T32 ((rd_T57 t306 0).f3) 0).f2))∧w'.cell? ⟨ad317.block,ad317.off + 3,none⟩ = some (.string ((rd_T32 ((rd_T57 t306 0).f3) 0).f3))) (ds:=[]) #[false,false,false,false,false,false,false,false,false,false,false,false,false,false,false,false,false,false,false,false,false,false,false,false,false,false,false,false,false,false,false,false,false,false,false,false,false,false,false,false,false,false,false,false,false,false,false,false,false,false,false,false,false,false,false] (by kernel_rfl) rfl rfl ⟨(blk_cell BK310.out 0).trans rfl,(blk_cell BK310.out 1).trans rfl,(blk_cell BK310.out 2).trans rfl,(blk_cell BK281.out 0).trans rfl,(blk_cell BK281.out 1).trans rfl,(blk_cell BK281.out 2).trans rfl,(blk_cell BK281.out 3).trans rfl,(blk_cell BK282.out 0).trans rfl,(blk_cell BK282.out 1).trans rfl,(blk_cell BK282.out 2).trans rfl,(blk_cell BK282.out 3).trans rfl,hx312_0,hx312_1,hx312_2,hx312_3,hx312_4,hx312_5,hx312_6,hx312_7,hx312_8,hx312_9,hx313_0,hx313_1,hx313_2,hx313_3,hx313_4,hx313_5,hx313_6,hx313_7,hx313_8,hx313_9,hx314_0,hx314_1,hx314_2,hx314_3,hx314_4,hx314_5,hx314_6,hx314_7,hx314_8,hx314_9,hx315_0,hx315_1,hx315_2,hx315_3,hx316_0,hx316_1,hx316_2,hx316_3,hx316_4,hx316_5,hx316_6,hx316_7,hx316_8,hx316_9,hx317_0,hx317_1,hx317_2,hx317_3⟩ (fun hHeld=>?_);refine with_tabW bolterlaw09_awake.tab4 bolterlaw09_awake.bits4 (fun HT_ HW_=>?_)
 generalize w38.drew = w39 at HO301 HO305 HO308 BK281 BK282 BK310 HB HL312_8 HL312_9 HL313_8 HL313_9 HL314_8 HL314_9 HL316_8 HL316_9 HR312_8 HR312_9 HR313_8 HR313_9 HR314_8 HR314_9 HR316_8 HR316_9 hx312_0 hx312_1 hx312_2 hx312_3 hx312_4 hx312_5 hx312_6 hx312_7 hx312_8 hx312_9 hx313_0 hx313_1 hx313_2 hx313_3 hx313_4 hx313_5 hx313_6 hx313_7 hx313_8 hx313_9 hx314_0 hx314_1 hx314_2 hx314_3 hx314_4 hx314_5 hx314_6 hx314_7 hx314_8 hx314_9 hx315_0 hx315_1 hx315_2 hx315_3 hx316_0 hx316_1 hx316_2 hx316_3 hx316_4 hx316_5 hx316_6 hx316_7 hx316_8 hx316_9 hx317_0 hx317_1 hx317_2 hx317_3 hHeld ⊢
 refine pure_ (i:=0) (N:=some 23) (v:=?_) (a':=?_) #[true,false,false,false,false,false,false,false,false,false,false,false,false,false,false,false,false,false,false,false,false,false,false,false,false,false,false,false,false,false,false,false,false,false,false,false,false,false,false,false,false,false,false,false,false,false,false,false,false,false,false,false,false,false,false] rfl rfl (any_of HT_.out (by kernel_rfl)) (fun _ _ _ h=>h) (Or.inl ⟨by rfl,?_⟩) ?_ ?_
 rotate_left
 ·intro w'
  go_simp
  with_reducible rfl
 rotate_left
 ·simp only [Act.put,setIfInBounds_toArray,set_cons_zero,set_cons_succ,i64_w,i32_w]
  rfl
 refine pure_ (i:=1) (N:=some 24) (v:=?_) (a':=?_) #[true,true,false,false,false,false,false,false,false,false,false,false,false,false,false,false,false,false,false,false,false,false,false,false,false,false,false,false,false,false,false,false,false,false,false,false,false,false,false,false,false,false,false,false,false,false,false,false,false,false,false,false,false,false,false] rfl rfl (any_of HT_.out (by kernel_rfl)) (fun _ _ _ h=>h) (Or.inl ⟨by rfl,?_⟩) ?_ ?_
 rotate_left
 ·intro w'
  go_simp
  with_reducible rfl
 rotate_left
 ·simp only [Act.put,setIfInBounds_toArray,set_cons_zero,set_cons_succ,i64_w,i32_w]
  rfl
 refine pure_ (i:=2) (N:=some 25) (v:=?_) (a':=?_) #[true,true,true,false,false,false,false,false,false,false,false,false,false,false,false,false,false,false,false,false,false,false,false,false,false,false,false,false,false,false,false,false,false,false,false,false,false,false,false,false,false,false,false,false,false,false,false,false,false,false,false,false,false,false,false] rfl rfl (any_of HT_.out (by kernel_rfl)) (fun _ _ _ h=>h) (Or.inl ⟨by rfl,?_⟩) ?_ ?_
 rotate_left
 ·intro w'
  go_simp
  with_reducible rfl
 rotate_left
 ·simp only [Act.put,setIfInBounds_toArray,set_cons_zero,set_cons_succ,i64_w,i32_w]
  rfl
 refine pure_ (i:=3) (N:=some 26) (v:=?_) (a':=?_) #[true,true,true,true,false,false,false,false,false,false,false,false,false,false,false,false,false,false,false,false,false,false,false,false,false,false,false,false,false,false,false,false,false,false,false,false,false,false,false,false,false,false,false,false,false,false,false,false,false,false,false,false,false,false,false] rfl rfl (any_of HT_.out (by kernel_rfl)) (fun _ _ _ h=>h) (Or.inl ⟨by rfl,?_⟩) ?_ ?_
 rotate_left
 ·intro w'
  go_simp
  with_reducible rfl
 rotate_left
 ·simp only [Act.put,setIfInBounds_toArray,set_cons_zero,set_cons_succ,i64_w,i32_w]
  rfl
 refine take_ (i:=4) (N:=some 27) (v:=?_) (a':=?_) #[true,true,true,true,true,false,false,false,false,false,false,false,false,false,false,false,false,false,false,false,false,false,false,false,false,false,false,false,false,false,false,false,false,false,false,false,false,false,false,false,false,false,false,false,false,false,false,false,false,false,false,false,false,false,false] rfl rfl (take_ofW HT_.out HW_.out (by kernel_rfl)) (fun _ _ _ h=>h) (Or.inl ⟨by rfl,?_⟩) hHeld ?_ ?_
 rotate_left
 ·rintro w' ⟨s0,s1,s2,s3,s4,s5,s6,s7,s8,s9,s10,s11,s12,s13,s14,s15,s16,s17,s18,s19,s20,s21,s22,s23,s24,s25,s26,s27,s28,s29,s30,s31,s32,s33,s34,s35,s36,s37,s38,s39,s40,s41,s42,s43,s44,s45,s46,s47,s48,s49,s50,s51,s52,s53,s54,s55,s56,s57,s58⟩
  go_simp
  with_reducible rfl
 rotate_left
 ·simp only [Act.put,setIfInBounds_toArray,set_cons_zero,set_cons_succ,i64_w,i32_w]
  rfl
 refine pure_ (i:=5) (N:=some 28) (v:=?_) (a':=?_) #[true,true,true,true,true,true,false,false,false,false,false,false,false,false,false,false,false,false,false,false,false,false,false,false,false,false,false,false,false,false,false,false,false,false,false,false,false,false,false,false,false,false,false,false,false,false,false,false,false,false,false,false,false,false,false] rfl rfl (any_of HT_.out (by kernel_rfl)) (fun _ _ _ h=>h) (Or.inl ⟨by rfl,?_⟩) ?_ ?_
 rotate_left
 ·intro w'
  go_simp
  with_reducible rfl
 rotate_left
 ·simp only [Act.put,setIfInBounds_toArray,set_cons_zero,set_cons_succ,i64_w,i32_w]
  rfl
 refine pure_ (i:=6) (N:=some 29) (v:=?_) (a':=?_) #[true,true,true,true,true,true,true,false,false,false,false,false,false,false,false,false,false,false,false,false,false,false,false,false,false,false,false,false,false,false,false,false,false,false,false,false,false,false,false,false,false,false,false,false,false,false,false,false,false,false,false,false,false,false,false] rfl rfl (any_of HT_.out (by kernel_rfl)) (fun _ _ _ h=>h) (Or.inl ⟨by rfl,?_⟩) ?_ ?_
 rotate_left
 ·intro w'
  go_simp
  with_reducible rfl
 rotate_left
 ·simp only [Act.put,setIfInBounds_toArray,set_cons_zero,set_cons_succ,i64_w,i32_w]
  rfl
 refine pure_ (i:=7) (N:=some 30) (v:=?_) (a':=?_) #[true,true,true,true,true,true,true,true,false,false,false,false,false,false,false,false,false,false,false,false,false,false,false,false,false,false,false,false,false,false,false,false,false,false,false,false,false,false,false,false,false,false,false,false,false,false,false,false,false,false,false,false,false,false,false] rfl rfl (any_of HT_.out (by kernel_rfl)) (fun _ _ _ h=>h) (Or.inl ⟨by rfl,?_⟩) ?_ ?_
 rotate_left
 ·intro w'
  go_simp
  with_reducible rfl
 rotate_left
 ·simp only [Act.put,setIfInBounds_toArray,set_cons_zero,set_cons_succ,i64_w,i32_w]
  rfl
 refine pure_ (i:=8) (N:=some 31) (v:=?_) (a':=?_) #[true,true,true,true,true,true,true,true,true,false,false,false,false,false,false,false,false,false,false,false,false,false,false,false,false,false,false,false,false,false,false,false,false,false,false,false,false,false,false,false,false,false,false,false,false,false,false,false,false,false,false,false,false,false,false] rfl rfl (any_of HT_.out (by kernel_rfl)) (fun _ _ _ h=>h) (Or.inl ⟨by rfl,?_⟩) ?_ ?_
 rotate_left
 ·intro w'
  go_simp
  with_reducible rfl
 rotate_left
 ·simp only [Act.put,setIfInBounds_toArray,set_cons_zero,set_cons_succ,i64_w,i32_w]
  rfl
 refine pure_ (i:=9) (N:=some 32) (v:=?_) (a':=?_) #[true,true,true,true,true,true,true,true,true,true,false,false,false,false,false,false,false,false,false,false,false,false,false,false,false,false,false,false,false,false,false,false,false,false,false,false,false,false,false,false,false,false,false,false,false,false,false,false,false,false,false,false,false,false,false] rfl rfl (any_of HT_.out (by kernel_rfl)) (fun _ _ _ h=>h) (Or.inl ⟨by rfl,?_⟩) ?_ ?_
 rotate_left
 ·intro w'
  go_simp
  with_reducible rfl
 rotate_left
 ·simp only [Act.put,setIfInBounds_toArray,set_cons_zero,set_cons_succ,i64_w,i32_w]
  rfl
 refine take_ (i:=10) (N:=some 33) (v:=?_) (a':=?_) #[true,true,true,true,true,true,true,true,true,true,true,false,false,false,false,false,false,false,false,false,false,false,false,false,false,false,false,false,false,false,false,false,false,false,false,false,false,false,false,false,false,false,false,false,false,false,false,false,false,false,false,false,false,false,false] rfl rfl (take_ofW HT_.out HW_.out (by kernel_rfl)) (fun _ _ _ h=>h) (Or.inl ⟨by rfl,?_⟩) hHeld ?_ ?_
 rotate_left
 ·rintro w' ⟨s0,s1,s2,s3,s4,s5,s6,s7,s8,s9,s10,s11,s12,s13,s14,s15,s16,s17,s18,s19,s20,s21,s22,s23,s24,s25,s26,s27,s28,s29,s30,s31,s32,s33,s34,s35,s36,s37,s38,s39,s40,s41,s42,s43,s44,s45,s46,s47,s48,s49,s50,s51,s52,s53,s54,s55,s56,s57,s58⟩
  go_simp
  with_reducible rfl
 rotate_left
 ·simp only [Act.put,setIfInBounds_toArray,set_cons_zero,set_cons_succ,i64_w,i32_w]
  rfl
 refine pure_ (i:=11) (N:=some 34) (v:=?_) (a':=?_) #[true,true,true,true,true,true,true,true,true,true,true,true,false,false,false,false,false,false,false,false,false,false,false,false,false,false,false,false,false,false,false,false,false,false,false,false,false,false,false,false,false,false,false,false,false,false,false,false,false,false,false,false,false,false,false] rfl rfl (any_of HT_.out (by kernel_rfl)) (fun _ _ _ h=>h) (Or.inl ⟨by rfl,?_⟩) ?_ ?_
 rotate_left
 ·intro w'
  go_simp
  with_reducible rfl
 rotate_left
 ·simp only [Act.put,setIfInBounds_toArray,set_cons_zero,set_cons_succ,i64_w,i32_w]
  rfl
 refine pure_ (i:=12) (N:=some 35) (v:=?_) (a':=?_) #[true,true,true,true,true,true,true,true,true,true,true,true,true,false,false,false,false,false,false,false,false,false,false,false,false,false,false,false,false,false,false,false,false,false,false,false,false,false,false,false,false,false,false,false,false,false,false,false,false,false,false,false,false,false,false] rfl rfl (any_of HT_.out (by kernel_rfl)) (fun _ _ _ h=>h) (Or.inl ⟨by rfl,?_⟩) ?_ ?_
 rotate_left
 ·intro w'
  go_simp
  with_reducible rfl
 rotate_left
 ·simp only [Act.put,setIfInBounds_toArray,set_cons_zero,set_cons_succ,i64_w,i32_w]
  rfl
 refine take_ (i:=13) (N:=some 36) (v:=?_) (a':=?_) #[true,true,true,true,true,true,true,true,true,true,true,true,true,true,false,false,false,false,false,false,false,false,false,false,false,false,false,false,false,false,false,false,false,false,false,false,false,false,false,false,false,false,false,false,false,false,false,false,false,false,false,false,false,false,false] rfl rfl (take_ofW HT_.out HW_.out (by kernel_rfl)) (fun _ _ _ h=>h) (Or.inl ⟨by rfl,?_⟩) hHeld ?_ ?_
 rotate_left
 ·rintro w' ⟨s0,s1,s2,s3,s4,s5,s6,s7,s8,s9,s10,s11,s12,s13,s14,s15,s16,s17,s18,s19,s20,s21,s22,s23,s24,s25,s26,s27,s28,s29,s30,s31,s32,s33,s34,s35,s36,s37,s38,s39,s40,s41,s42,s43,s44,s45,s46,s47,s48,s49,s50,s51,s52,s53,s54,s55,s56,s57,s58⟩
  go_simp
  with_reducible rfl
 rotate_left
 ·simp only [Act.put,setIfInBounds_toArray,set_cons_zero,set_cons_succ,i64_w,i32_w]
  rfl
 refine pure_ (i:=14) (N:=some 37) (v:=?_) (a':=?_) #[true,true,true,true,true,true,true,true,true,true,true,true,true,true,true,false,false,false,false,false,false,false,false,false,false,false,false,false,false,false,false,false,false,false,false,false,false,false,false,false,false,false,false,false,false,false,false,false,false,false,false,false,false,false,false] rfl rfl (any_of HT_.out (by kernel_rfl)) (fun _ _ _ h=>h) (Or.inl ⟨by rfl,?_⟩) ?_ ?_
 rotate_left
 ·intro w'
  go_simp
  with_reducible rfl
 rotate_left
 ·simp only [Act.put,setIfInBounds_toArray,set_cons_zero,set_cons_succ,i64_w,i32_w]
  rfl
 refine pure_ (i:=15) (N:=some 38) (v:=?_) (a':=?_) #[true,true,true,true,true,true,true,true,true,true,true,true,true,true,true,true,false,false,false,false,false,false,false,false,false,false,false,false,false,false,false,false,false,false,false,false,false,false,false,false,false,false,false,false,false,false,false,false,false,false,false,false,false,false,false] rfl rfl (any_of HT_.out (by kernel_rfl)) (fun _ _ _ h=>h) (Or.inl ⟨by rfl,?_⟩) ?_ ?_
 rotate_left
 ·intro w'
  go_simp
  with_reducible rfl
 rotate_left
 ·simp only [Act.put,setIfInBounds_toArray,set_cons_zero,set_cons_succ,i64_w,i32_w]
  rfl
 refine pure_ (i:=16) (N:=some 39) (v:=?_) (a':=?_) #[true,true,true,true,true,true,true,true,true,true,true,true,true,true,true,true,true,false,false,false,false,false,false,false,false,false,false,false,false,false,false,false,false,false,false,false,false,false,false,false,false,false,false,false,false,false,false,false,false,false,false,false,false,false,false] rfl rfl (any_of HT_.out (by kernel_rfl)) (fun _ _ _ h=>h) (Or.inl ⟨by rfl,?_⟩) ?_ ?_
 rotate_left
 ·intro w'
  go_simp
  with_reducible rfl
 rotate_left
 ·simp only [Act.put,setIfInBounds_toArray,set_cons_zero,set_cons_succ,i64_w,i32_w]
  rfl
 refine pure_ (i:=17) (N:=some 40) (v:=?_) (a':=?_) #[true,true,true,true,true,true,true,true,true,true,true,true,true,true,true,true,true,true,false,false,false,false,false,false,false,false,false,false,false,false,false,false,false,false,false,false,false,false,false,false,false,false,false,false,false,false,false,false,false,false,false,false,false,false,false] rfl rfl (any_of HT_.out (by kernel_rfl)) (fun _ _ _ h=>h) (Or.inl ⟨by rfl,?_⟩) ?_ ?_
 rotate_left
 ·intro w'
  go_simp
  with_reducible rfl
 rotate_left
 ·simp only [Act.put,setIfInBounds_toArray,set_cons_zero,set_cons_succ,i64_w,i32_w]
  rfl
 refine pure_ (i:=18) (N:=some 41) (v:=?_) (a':=?_) #[true,true,true,true,true,true,true,true,true,true,true,true,true,true,true,true,true,true,true,false,false,false,false,false,false,false,false,false,false,false,false,false,false,false,false,false,false,false,false,false,false,false,false,false,false,false,false,false,false,false,false,false,false,false,false] rfl rfl (any_of HT_.out (by kernel_rfl)) (fun _ _ _ h=>h) (Or.inl ⟨by rfl,?_⟩) ?_ ?_
 rotate_left
 ·intro w'
  go_simp
  with_reducible rfl
 rotate_left
 ·simp only [Act.put,setIfInBounds_toArray,set_cons_zero,set_cons_succ,i64_w,i32_w]
  rfl
 refine take_ (i:=19) (N:=some 42) (v:=?_) (a':=?_) #[true,true,true,true,true,true,true,true,true,true,true,true,true,true,true,true,true,true,true,true,false,false,false,false,false,false,false,false,false,false,false,false,false,false,false,false,false,false,false,false,false,false,false,false,false,false,false,false,false,false,false,false,false,false,false] rfl rfl (take_ofW HT_.out HW_.out (by kernel_rfl)) (fun _ _ _ h=>h) (Or.inl ⟨by rfl,?_⟩) hHeld ?_ ?_
 rotate_left
 ·rintro w' ⟨s0,s1,s2,s3,s4,s5,s6,s7,s8,s9,s10,s11,s12,s13,s14,s15,s16,s17,s18,s19,s20,s21,s22,s23,s24,s25,s26,s27,s28,s29,s30,s31,s32,s33,s34,s35,s36,s37,s38,s39,s40,s41,s42,s43,s44,s45,s46,s47,s48,s49,s50,s51,s52,s53,s54,s55,s56,s57,s58⟩
  go_simp
  with_reducible rfl
 rotate_left
 ·simp only [Act.put,setIfInBounds_toArray,set_cons_zero,set_cons_succ,i64_w,i32_w]
  rfl
 refine pure_ (i:=20) (N:=some 43) (v:=?_) (a':=?_) #[true,true,true,true,true,true,true,true,true,true,true,true,true,true,true,true,true,true,true,true,true,false,false,false,false,false,false,false,false,false,false,false,false,false,false,false,false,false,false,false,false,false,false,false,false,false,false,false,false,false,false,false,false,false,false] rfl rfl (any_of HT_.out (by kernel_rfl)) (fun _ _ _ h=>h) (Or.inl ⟨by rfl,?_⟩) ?_ ?_
 rotate_left
 ·intro w'
  go_simp
  with_reducible rfl
 rotate_left
 ·simp only [Act.put,setIfInBounds_toArray,set_cons_zero,set_cons_succ,i64_w,i32_w]
  rfl
 refine pure_ (i:=21) (N:=some 44) (v:=?_) (a':=?_) #[true,true,true,true,true,true,true,true,true,true,true,true,true,true,true,true,true,true,true,true,true,true,false,false,false,false,false,false,false,false,false,false,false,false,false,false,false,false,false,false,false,false,false,false,false,false,false,false,false,false,false,false,false,false,false] rfl rfl (any_of HT_.out (by kernel_rfl)) (fun _ _ _ h=>h) (Or.inl ⟨by rfl,?_⟩) ?_ ?_
 rotate_left
 ·intro w'
  go_simp
  with_reducible rfl
 rotate_left
 ·simp only [Act.put,setIfInBounds_toArray,set_cons_zero,set_cons_succ,i64_w,i32_w]
  rfl
 refine take_ (i:=22) (N:=some 45) (v:=?_) (a':=?_) #[true,true,true,true,true,true,true,true,true,true,true,true,true,true,true,true,true,true,true,true,true,true,true,false,false,false,false,false,false,false,false,false,false,false,false,false,false,false,false,false,false,false,false,false,false,false,false,false,false,false,false,false,false,false,false] rfl rfl (take_ofW HT_.out HW_.out (by kernel_rfl)) (fun _ _ _ h=>h) (Or.inl ⟨by rfl,?_⟩) hHeld ?_ ?_
 rotate_left
 ·rintro w' ⟨s0,s1,s2,s3,s4,s5,s6,s7,s8,s9,s10,s11,s12,s13,s14,s15,s16,s17,s18,s19,s20,s21,s22,s23,s24,s25,s26,s27,s28,s29,s30,s31,s32,s33,s34,s35,s36,s37,s38,s39,s40,s41,s42,s43,s44,s45,s46,s47,s48,s49,s50,s51,s52,s53,s54,s55,s56,s57,s58⟩
  go_simp
  with_reducible rfl
 rotate_left
 ·simp only [Act.put,setIfInBounds_toArray,set_cons_zero,set_cons_succ,i64_w,i32_w]
  rfl
 refine pure_ (i:=23) (N:=some 46) (v:=?_) (a':=?_) #[true,true,true,true,true,true,true,true,true,true,true,true,true,true,true,true,true,true,true,true,true,true,true,true,false,false,false,false,false,false,false,false,false,false,false,false,false,false,false,false,false,false,false,false,false,false,false,false,false,false,false,false,false,false,false] rfl rfl (any_of HT_.out (by kernel_rfl)) (fun _ _ _ h=>h) (Or.inl ⟨by rfl,?_⟩) ?_ ?_
 rotate_left
 ·intro w'
  go_simp
  with_reducible rfl
 rotate_left
 ·simp only [Act.put,setIfInBounds_toArray,set_cons_zero,set_cons_succ,i64_w,i32_w]
  rfl
 refine pure_ (i:=24) (N:=some 47) (v:=?_) (a':=?_) #[true,true,true,true,true,true,true,true,true,true,true,true,true,true,true,true,true,true,true,true,true,true,true,true,true,false,false,false,false,false,false,false,false,false,false,false,false,false,false,false,false,false,false,false,false,false,false,false,false,false,false,false,false,false,false] rfl rfl (any_of HT_.out (by kernel_rfl)) (fun _ _ _ h=>h) (Or.inl ⟨by rfl,?_⟩) ?_ ?_
 rotate_left
 ·intro w'
  go_simp
  with_reducible rfl
 rotate_left
 ·simp only [Act.put,setIfInBounds_toArray,set_cons_zero,set_cons_succ,i64_w,i32_w]
  rfl
 refine pure_ (i:=25) (N:=some 48) (v:=?_) (a':=?_) #[true,true,true,true,true,true,true,true,true,true,true,true,true,true,true,true,true,true,true,true,true,true,true,true,true,true,false,false,false,false,false,false,false,false,false,false,false,false,false,false,false,false,false,false,false,false,false,false,false,false,false,false,false,false,false] rfl rfl (any_of HT_.out (by kernel_rfl)) (fun _ _ _ h=>h) (Or.inl ⟨by rfl,?_⟩) ?_ ?_
 rotate_left
 ·intro w'
  go_simp
  with_reducible rfl
 rotate_left
 ·simp only [Act.put,setIfInBounds_toArray,set_cons_zero,set_cons_succ,i64_w,i32_w]
  rfl
 refine pure_ (i:=26) (N:=some 49) (v:=?_) (a':=?_) #[true,true,true,true,true,true,true,true,true,true,true,true,true,true,true,true,true,true,true,true,true,true,true,true,true,true,true,false,false,false,false,false,false,false,false,false,false,false,false,false,false,false,false,false,false,false,false,false,false,false,false,false,false,false,false] rfl rfl (any_of HT_.out (by kernel_rfl)) (fun _ _ _ h=>h) (Or.inl ⟨by rfl,?_⟩) ?_ ?_
 rotate_left
 ·intro w'
  go_simp
  with_reducible rfl
 rotate_left
 ·simp only [Act.put,setIfInBounds_toArray,set_cons_zero,set_cons_succ,i64_w,i32_w]
  rfl
 refine pure_ (i:=27) (N:=some 50) (v:=?_) (a':=?_) #[true,true,true,true,true,true,true,true,true,true,true,true,true,true,true,true,true,true,true,true,true,true,true,true,true,true,true,true,false,false,false,false,false,false,false,false,false,false,false,false,false,false,false,false,false,false,false,false,false,false,false,false,false,false,false] rfl rfl (any_of HT_.out (by kernel_rfl)) (fun _ _ _ h=>h) (Or.inl ⟨by rfl,?_⟩) ?_ ?_
 rotate_left
 ·intro w'
  go_simp
  with_reducible rfl
 rotate_left
 ·simp only [Act.put,setIfInBounds_toArray,set_cons_zero,set_cons_succ,i64_w,i32_w]
  rfl
 refine take_ (i:=28) (N:=some 51) (v:=?_) (a':=?_) #[true,true,true,true,true,true,true,true,true,true,true,true,true,true,true,true,true,true,true,true,true,true,true,true,true,true,true,true,true,false,false,false,false,false,false,false,false,false,false,false,false,false,false,false,false,false,false,false,false,false,false,false,false,false,false] rfl rfl (take_ofW HT_.out HW_.out (by kernel_rfl)) (fun _ _ _ h=>h) (Or.inl ⟨by rfl,?_⟩) hHeld ?_ ?_
 rotate_left
 ·rintro w' ⟨s0,s1,s2,s3,s4,s5,s6,s7,s8,s9,s10,s11,s12,s13,s14,s15,s16,s17,s18,s19,s20,s21,s22,s23,s24,s25,s26,s27,s28,s29,s30,s31,s32,s33,s34,s35,s36,s37,s38,s39,s40,s41,s42,s43,s44,s45,s46,s47,s48,s49,s50,s51,s52,s53,s54,s55,s56,s57,s58⟩
  go_simp
  with_reducible rfl
 rotate_left
 ·simp only [Act.put,setIfInBounds_toArray,set_cons_zero,set_cons_succ,i64_w,i32_w]
  rfl
 refine pure_ (i:=29) (N:=some 52) (v:=?_) (a':=?_) #[true,true,true,true,true,true,true,true,true,true,true,true,true,true,true,true,true,true,true,true,true,true,true,true,true,true,true,true,true,true,false,false,false,false,false,false,false,false,false,false,false,false,false,false,false,false,false,false,false,false,false,false,false,false,false] rfl rfl (any_of HT_.out (by kernel_rfl)) (fun _ _ _ h=>h) (Or.inl ⟨by rfl,?_⟩) ?_ ?_
 rotate_left
 ·intro w'
  go_simp
  with_reducible rfl
 rotate_left
 ·simp only [Act.put,setIfInBounds_toArray,set_cons_zero,set_cons_succ,i64_w,i32_w]
  rfl
 refine pure_ (i:=30) (N:=some 53) (v:=?_) (a':=?_) #[true,true,true,true,true,true,true,true,true,true,true,true,true,true,true,true,true,true,true,true,true,true,true,true,true,true,true,true,true,true,true,false,false,false,false,false,false,false,false,false,false,false,false,false,false,false,false,false,false,false,false,false,false,false,false] rfl rfl (any_of HT_.out (by kernel_rfl)) (fun _ _ _ h=>h) (Or.inl ⟨by rfl,?_⟩) ?_ ?_
 rotate_left
 ·intro w'
  go_simp
  with_reducible rfl
 rotate_left
 ·simp only [Act.put,setIfInBounds_toArray,set_cons_zero,set_cons_succ,i64_w,i32_w]
  rfl
 refine take_ (i:=31) (N:=some 54) (v:=?_) (a':=?_) #[true,true,true,true,true,true,true,true,true,true,true,true,true,true,true,true,true,true,true,true,true,true,true,true,true,true,true,true,true,true,true,true,false,false,false,false,false,false,false,false,false,false,false,false,false,false,false,false,false,false,false,false,false,false,false] rfl rfl (take_ofW HT_.out HW_.out (by kernel_rfl)) (fun _ _ _ h=>h) (Or.inl ⟨by rfl,?_⟩) hHeld ?_ ?_
 rotate_left
 ·rintro w' ⟨s0,s1,s2,s3,s4,s5,s6,s7,s8,s9,s10,s11,s12,s13,s14,s15,s16,s17,s18,s19,s20,s21,s22,s23,s24,s25,s26,s27,s28,s29,s30,s31,s32,s33,s34,s35,s36,s37,s38,s39,s40,s41,s42,s43,s44,s45,s46,s47,s48,s49,s50,s51,s52,s53,s54,s55,s56,s57,s58⟩
  go_simp
  with_reducible rfl
 rotate_left
 ·simp only [Act.put,setIfInBounds_toArray,set_cons_zero,set_cons_succ,i64_w,i32_w]
  rfl
 refine pure_ (i:=32) (N:=some 55) (v:=?_) (a':=?_) #[true,true,true,true,true,true,true,true,true,true,true,true,true,true,true,true,true,true,true,true,true,true,true,true,true,true,true,true,true,true,true,true,true,false,false,false,false,false,false,false,false,false,false,false,false,false,false,false,false,false,false,false,false,false,false] rfl rfl (any_of HT_.out (by kernel_rfl)) (fun _ _ _ h=>h) (Or.inl ⟨by rfl,?_⟩) ?_ ?_
 rotate_left
 ·intro w'
  go_simp
  with_reducible rfl
 rotate_left
 ·simp only [Act.put,setIfInBounds_toArray,set_cons_zero,set_cons_succ,i64_w,i32_w]
  rfl
 refine take_ (i:=33) (N:=some 56) (v:=?_) (a':=?_) #[true,true,true,true,true,true,true,true,true,true,true,true,true,true,true,true,true,true,true,true,true,true,true,true,true,true,true,true,true,true,true,true,true,true,false,false,false,false,false,false,false,false,false,false,false,false,false,false,false,false,false,false,false,false,false] rfl rfl (take_ofW HT_.out HW_.out (by kernel_rfl)) (fun _ _ _ h=>h) (Or.inl ⟨by rfl,?_⟩) hHeld ?_ ?_
 rotate_left
 ·rintro w' ⟨s0,s1,s2,s3,s4,s5,s6,s7,s8,s9,s10,s11,s12,s13,s14,s15,s16,s17,s18,s19,s20,s21,s22,s23,s24,s25,s26,s27,s28,s29,s30,s31,s32,s33,s34,s35,s36,s37,s38,s39,s40,s41,s42,s43,s44,s45,s46,s47,s48,s49,s50,s51,s52,s53,s54,s55,s56,s57,s58⟩
  go_simp
  with_reducible rfl
 rotate_left
 ·simp only [Act.put,setIfInBounds_toArray,set_cons_zero,set_cons_succ,i64_w,i32_w]
  rfl
 refine take_ (i:=34) (N:=some 57) (v:=?_) (a':=?_) #[true,true,true,true,true,true,true,true,true,true,true,true,true,true,true,true,true,true,true,true,true,true,true,true,true,true,true,true,true,true,true,true,true,true,true,false,false,false,false,false,false,false,false,false,false,false,false,false,false,false,false,false,false,false,false] rfl rfl (take_ofW HT_.out HW_.out (by kernel_rfl)) (fun _ _ _ h=>h) (Or.inl ⟨by rfl,?_⟩) hHeld ?_ ?_
 rotate_left
 ·rintro w' ⟨s0,s1,s2,s3,s4,s5,s6,s7,s8,s9,s10,s11,s12,s13,s14,s15,s16,s17,s18,s19,s20,s21,s22,s23,s24,s25,s26,s27,s28,s29,s30,s31,s32,s33,s34,s35,s36,s37,s38,s39,s40,s41,s42,s43,s44,s45,s46,s47,s48,s49,s50,s51,s52,s53,s54,s55,s56,s57,s58⟩
  go_simp
  with_reducible rfl
 rotate_left
 ·simp only [Act.put,setIfInBounds_toArray,set_cons_zero,set_cons_succ,i64_w,i32_w]
  rfl
 refine pure_ (i:=35) (N:=some 58) (v:=?_) (a':=?_) #[true,true,true,true,true,true,true,true,true,true,true,true,true,true,true,true,true,true,true,true,true,true,true,true,true,true,true,true,true,true,true,true,true,true,true,true,false,false,false,false,false,false,false,false,false,false,false,false,false,false,false,false,false,false,false] rfl rfl (any_of HT_.out (by kernel_rfl)) (fun _ _ _ h=>h) (Or.inl ⟨by rfl,?_⟩) ?_ ?_
 rotate_left
 ·intro w'
  go_simp
  with_reducible rfl
 rotate_left
 ·simp only [Act.put,setIfInBounds_toArray,set_cons_zero,set_cons_succ,i64_w,i32_w]
  rfl
 refine pure_ (i:=36) (N:=some 59) (v:=?_) (a':=?_) #[true,true,true,true,true,true,true,true,true,true,true,true,true,true,true,true,true,true,true,true,true,true,true,true,true,true,true,true,true,true,true,true,true,true,true,true,true,false,false,false,false,false,false,false,false,false,false,false,false,false,false,false,false,false,false] rfl rfl (any_of HT_.out (by kernel_rfl)) (fun _ _ _ h=>h) (Or.inl ⟨by rfl,?_⟩) ?_ ?_
 rotate_left
 ·intro w'
  go_simp
  with_reducible rfl
 rotate_left
 ·simp only [Act.put,setIfInBounds_toArray,set_cons_zero,set_cons_succ,i64_w,i32_w]
  rfl
 refine pure_ (i:=37) (N:=some 60) (v:=?_) (a':=?_) #[true,true,true,true,true,true,true,true,true,true,true,true,true,true,true,true,true,true,true,true,true,true,true,true,true,true,true,true,true,true,true,true,true,true,true,true,true,true,false,false,false,false,false,false,false,false,false,false,false,false,false,false,false,false,false] rfl rfl (any_of HT_.out (by kernel_rfl)) (fun _ _ _ h=>h) (Or.inl ⟨by rfl,?_⟩) ?_ ?_
 rotate_left
 ·intro w'
  go_simp
  with_reducible rfl
 rotate_left
 ·simp only [Act.put,setIfInBounds_toArray,set_cons_zero,set_cons_succ,i64_w,i32_w]
  rfl
 refine pure_ (i:=38) (N:=some 61) (v:=?_) (a':=?_) #[true,true,true,true,true,true,true,true,true,true,true,true,true,true,true,true,true,true,true,true,true,true,true,true,true,true,true,true,true,true,true,true,true,true,true,true,true,true,true,false,false,false,false,false,false,false,false,false,false,false,false,false,false,false,false] rfl rfl (any_of HT_.out (by kernel_rfl)) (fun _ _ _ h=>h) (Or.inl ⟨by rfl,?_⟩) ?_ ?_
 rotate_left
 ·intro w'
  go_simp
  with_reducible rfl
 rotate_left
 ·simp only [Act.put,setIfInBounds_toArray,set_cons_zero,set_cons_succ,i64_w,i32_w]
  rfl
 refine take_ (i:=39) (N:=some 62) (v:=?_) (a':=?_) #[true,true,true,true,true,true,true,true,true,true,true,true,true,true,true,true,true,true,true,true,true,true,true,true,true,true,true,true,true,true,true,true,true,true,true,true,true,true,true,true,false,false,false,false,false,false,false,false,false,false,false,false,false,false,false] rfl rfl (take_ofW HT_.out HW_.out (by kernel_rfl)) (fun _ _ _ h=>h) (Or.inl ⟨by rfl,?_⟩) hHeld ?_ ?_
 rotate_left
 ·rintro w' ⟨s0,s1,s2,s3,s4,s5,s6,s7,s8,s9,s10,s11,s12,s13,s14,s15,s16,s17,s18,s19,s20,s21,s22,s23,s24,s25,s26,s27,s28,s29,s30,s31,s32,s33,s34,s35,s36,s37,s38,s39,s40,s41,s42,s43,s44,s45,s46,s47,s48,s49,s50,s51,s52,s53,s54,s55,s56,s57,s58⟩
  go_simp
  with_reducible rfl
 rotate_left
 ·simp only [Act.put,setIfInBounds_toArray,set_cons_zero,set_cons_succ,i64_w,i32_w]
  rfl
 refine pure_ (i:=40) (N:=some 63) (v:=?_) (a':=?_) #[true,true,true,true,true,true,true,true,true,true,true,true,true,true,true,true,true,true,true,true,true,true,true,true,true,true,true,true,true,true,true,true,true,true,true,true,true,true,true,true,true,false,false,false,false,false,false,false,false,false,false,false,false,false,false] rfl rfl (any_of HT_.out (by kernel_rfl)) (fun _ _ _ h=>h) (Or.inl ⟨by rfl,?_⟩) ?_ ?_
 rotate_left
 ·intro w'
  go_simp
  with_reducible rfl
 rotate_left
 ·simp only [Act.put,setIfInBounds_toArray,set_cons_zero,set_cons_succ,i64_w,i32_w]
  rfl
 refine pure_ (i:=41) (N:=some 64) (v:=?_) (a':=?_) #[true,true,true,true,true,true,true,true,true,true,true,true,true,true,true,true,true,true,true,true,true,true,true,true,true,true,true,true,true,true,true,true,true,true,true,true,true,true,true,true,true,true,false,false,false,false,false,false,false,false,false,false,false,false,false] rfl rfl (any_of HT_.out (by kernel_rfl)) (fun _ _ _ h=>h) (Or.inl ⟨by rfl,?_⟩) ?_ ?_
 rotate_left
 ·intro w'
  go_simp
  with_reducible rfl
 rotate_left
 ·simp only [Act.put,setIfInBounds_toArray,set_cons_zero,set_cons_succ,i64_w,i32_w]
  rfl
 refine take_ (i:=42) (N:=some 65) (v:=?_) (a':=?_) #[true,true,true,true,true,true,true,true,true,true,true,true,true,true,true,true,true,true,true,true,true,true,true,true,true,true,true,true,true,true,true,true,true,true,true,true,true,true,true,true,true,true,true,false,false,false,false,false,false,false,false,false,false,false,false] rfl rfl (take_ofW HT_.out HW_.out (by kernel_rfl)) (fun _ _ _ h=>h) (Or.inl ⟨by rfl,?_⟩) hHeld ?_ ?_
 rotate_left
 ·rintro w' ⟨s0,s1,s2,s3,s4,s5,s6,s7,s8,s9,s10,s11,s12,s13,s14,s15,s16,s17,s18,s19,s20,s21,s22,s23,s24,s25,s26,s27,s28,s29,s30,s31,s32,s33,s34,s35,s36,s37,s38,s39,s40,s41,s42,s43,s44,s45,s46,s47,s48,s49,s50,s51,s52,s53,s54,s55,s56,s57,s58⟩
  go_simp
  with_reducible rfl
 rotate_left
 ·simp only [Act.put,setIfInBounds_toArray,set_cons_zero,set_cons_succ,i64_w,i32_w]
  rfl
 refine pure_ (i:=43) (N:=some 66) (v:=?_) (a':=?_) #[true,true,true,true,true,true,true,true,true,true,true,true,true,true,true,true,true,true,true,true,true,true,true,true,true,true,true,true,true,true,true,true,true,true,true,true,true,true,true,true,true,true,true,true,false,false,false,false,false,false,false,false,false,false,false] rfl rfl (any_of HT_.out (by kernel_rfl)) (fun _ _ _ h=>h) (Or.inl ⟨by rfl,?_⟩) ?_ ?_
 rotate_left
 ·intro w'
  go_simp
  with_reducible rfl
 rotate_left
 ·simp only [Act.put,setIfInBounds_toArray,set_cons_zero,set_cons_succ,i64_w,i32_w]
  rfl
 refine take_ (i:=44) (N:=some 67) (v:=?_) (a':=?_) #[true,true,true,true,true,true,true,true,true,true,true,true,true,true,true,true,true,true,true,true,true,true,true,true,true,true,true,true,true,true,true,true,true,true,true,true,true,true,true,true,true,true,true,true,true,false,false,false,false,false,false,false,false,false,false] rfl rfl (take_ofW HT_.out HW_.out (by kernel_rfl)) (fun _ _ _ h=>h) (Or.inl ⟨by rfl,?_⟩) hHeld ?_ ?_
 rotate_left
 ·rintro w' ⟨s0,s1,s2,s3,s4,s5,s6,s7,s8,s9,s10,s11,s12,s13,s14,s15,s16,s17,s18,s19,s20,s21,s22,s23,s24,s25,s26,s27,s28,s29,s30,s31,s32,s33,s34,s35,s36,s37,s38,s39,s40,s41,s42,s43,s44,s45,s46,s47,s48,s49,s50,s51,s52,s53,s54,s55,s56,s57,s58⟩
  go_simp
  with_reducible rfl
 rotate_left
 ·simp only [Act.put,setIfInBounds_toArray,set_cons_zero,set_cons_succ,i64_w,i32_w]
  rfl
 refine take_ (i:=45) (N:=some 68) (v:=?_) (a':=?_) #[true,true,true,true,true,true,true,true,true,true,true,true,true,true,true,true,true,true,true,true,true,true,true,true,true,true,true,true,true,true,true,true,true,true,true,true,true,true,true,true,true,true,true,true,true,true,false,false,false,false,false,false,false,false,false] rfl rfl (take_ofW HT_.out HW_.out (by kernel_rfl)) (fun _ _ _ h=>h) (Or.inl ⟨by rfl,?_⟩) hHeld ?_ ?_
 rotate_left
 ·rintro w' ⟨s0,s1,s2,s3,s4,s5,s6,s7,s8,s9,s10,s11,s12,s13,s14,s15,s16,s17,s18,s19,s20,s21,s22,s23,s24,s25,s26,s27,s28,s29,s30,s31,s32,s33,s34,s35,s36,s37,s38,s39,s40,s41,s42,s43,s44,s45,s46,s47,s48,s49,s50,s51,s52,s53,s54,s55,s56,s57,s58⟩
  go_simp
  with_reducible rfl
 rotate_left
 ·simp only [Act.put,setIfInBounds_toArray,set_cons_zero,set_cons_succ,i64_w,i32_w]
  rfl
 refine pure_ (i:=46) (N:=some 69) (v:=?_) (a':=?_) #[true,true,true,true,true,true,true,true,true,true,true,true,true,true,true,true,true,true,true,true,true,true,true,true,true,true,true,true,true,true,true,true,true,true,true,true,true,true,true,true,true,true,true,true,true,true,true,false,false,false,false,false,false,false,false] rfl rfl (any_of HT_.out (by kernel_rfl)) (fun _ _ _ h=>h) (Or.inl ⟨by rfl,?_⟩) ?_ ?_
 rotate_left
 ·intro w'
  go_simp
  with_reducible rfl
 rotate_left
 ·simp only [Act.put,setIfInBounds_toArray,set_cons_zero,set_cons_succ,i64_w,i32_w]
  rfl
 refine pure_ (i:=47) (N:=some 70) (v:=?_) (a':=?_) #[true,true,true,true,true,true,true,true,true,true,true,true,true,true,true,true,true,true,true,true,true,true,true,true,true,true,true,true,true,true,true,true,true,true,true,true,true,true,true,true,true,true,true,true,true,true,true,true,false,false,false,false,false,false,false] rfl rfl (any_of HT_.out (by kernel_rfl)) (fun _ _ _ h=>h) (Or.inl ⟨by rfl,?_⟩) ?_ ?_
 rotate_left
 ·intro w'
  go_simp
  with_reducible rfl
 rotate_left
 ·simp only [Act.put,setIfInBounds_toArray,set_cons_zero,set_cons_succ,i64_w,i32_w]
  rfl
 refine pure_ (i:=48) (N:=some 71) (v:=?_) (a':=?_) #[true,true,true,true,true,true,true,true,true,true,true,true,true,true,true,true,true,true,true,true,true,true,true,true,true,true,true,true,true,true,true,true,true,true,true,true,true,true,true,true,true,true,true,true,true,true,true,true,true,false,false,false,false,false,false] rfl rfl (any_of HT_.out (by kernel_rfl)) (fun _ _ _ h=>h) (Or.inl ⟨by rfl,?_⟩) ?_ ?_
 rotate_left
 ·intro w'
  go_simp
  with_reducible rfl
 rotate_left
 ·simp only [Act.put,setIfInBounds_toArray,set_cons_zero,set_cons_succ,i64_w,i32_w]
  rfl
 refine pure_ (i:=49) (N:=some 72) (v:=?_) (a':=?_) #[true,true,true,true,true,true,true,true,true,true,true,true,true,true,true,true,true,true,true,true,true,true,true,true,true,true,true,true,true,true,true,true,true,true,true,true,true,true,true,true,true,true,true,true,true,true,true,true,true,true,false,false,false,false,false] rfl rfl (any_of HT_.out (by kernel_rfl)) (fun _ _ _ h=>h) (Or.inl ⟨by rfl,?_⟩) ?_ ?_
 rotate_left
 ·intro w'
  go_simp
  with_reducible rfl
 rotate_left
 ·simp only [Act.put,setIfInBounds_toArray,set_cons_zero,set_cons_succ,i64_w,i32_w]
  rfl
 refine one_ (i:=50) (N:=some 73) #[true,true,true,true,true,true,true,true,true,true,true,true,true,true,true,true,true,true,true,true,true,true,true,true,true,true,true,true,true,true,true,true,true,true,true,true,true,true,true,true,true,true,true,true,true,true,true,true,true,true,true,false,false,false,false] rfl rfl (one_of HT_.out (by kernel_rfl)) (by decide) (fun K hK=>?_)
 refine goesT_ Tryd.func19 (by kernel_rfl) rfl #[.int .u32 3] (by rfl) rfl rfl rfl (by (try simp only [List.map_toArray,List.map_cons,List.map_nil]);rfl) ?_
 with_reducible refine (bolterlaw09_awake_1.calls k 3 t318 t319 t320 t321 _ A14.out).mono ?_
 rintro e w40 ⟨rfl,hb⟩
 have HS11_:=(hb.cell (World.block_lt_of_cell? _ _ (hHeld.2.2.2.2.2.2.2.2.2.2.2.1))).trans (hHeld.2.2.2.2.2.2.2.2.2.2.2.1)
 have HS12_:=(hb.cell (World.block_lt_of_cell? _ _ (hHeld.2.2.2.2.2.2.2.2.2.2.2.2.1))).trans (hHeld.2.2.2.2.2.2.2.2.2.2.2.2.1)
 have HS13_:=(hb.cell (World.block_lt_of_cell? _ _ (hHeld.2.2.2.2.2.2.2.2.2.2.2.2.2.1))).trans (hHeld.2.2.2.2.2.2.2.2.2.2.2.2.2.1)
 have HS14_:=(hb.cell (World.block_lt_of_cell? _ _ (hHeld.2.2.2.2.2.2.2.2.2.2.2.2.2.2.1))).trans (hHeld.2.2.2.2.2.2.2.2.2.2.2.2.2.2.1)
 have HS15_:=(hb.cell (World.block_lt_of_cell? _ _ (hHeld.2.2.2.2.2.2.2.2.2.2.2.2.2.2.2.1))).trans (hHeld.2.2.2.2.2.2.2.2.2.2.2.2.2.2.2.1)
 have HS16_:=(hb.cell (World.block_lt_of_cell? _ _ (hHeld.2.2.2.2.2.2.2.2.2.2.2.2.2.2.2.2.1))).trans (hHeld.2.2.2.2.2.2.2.2.2.2.2.2.2.2.2.2.1)
 have HS17_:=(hb.cell (World.block_lt_of_cell? _ _ (hHeld.2.2.2.2.2.2.2.2.2.2.2.2.2.2.2.2.2.1))).trans (hHeld.2.2.2.2.2.2.2.2.2.2.2.2.2.2.2.2.2.1)
 have HS18_:=(hb.cell (World.block_lt_of_cell? _ _ (hHeld.2.2.2.2.2.2.2.2.2.2.2.2.2.2.2.2.2.2.1))).trans (hHeld.2.2.2.2.2.2.2.2.2.2.2.2.2.2.2.2.2.2.1)
 have HS19_:=(hb.cell (World.block_lt_of_cell? _ _ (hHeld.2.2.2.2.2.2.2.2.2.2.2.2.2.2.2.2.2.2.2.1))).trans (hHeld.2.2.2.2.2.2.2.2.2.2.2.2.2.2.2.2.2.2.2.1)
 have HS20_:=(hb.cell (World.block_lt_of_cell? _ _ (hHeld.2.2.2.2.2.2.2.2.2.2.2.2.2.2.2.2.2.2.2.2.1))).trans (hHeld.2.2.2.2.2.2.2.2.2.2.2.2.2.2.2.2.2.2.2.2.1)
 have HS21_:=(hb.cell (World.block_lt_of_cell? _ _ (hHeld.2.2.2.2.2.2.2.2.2.2.2.2.2.2.2.2.2.2.2.2.2.1))).trans (hHeld.2.2.2.2.2.2.2.2.2.2.2.2.2.2.2.2.2.2.2.2.2.1)
 have HS22_:=(hb.cell (World.block_lt_of_cell? _ _ (hHeld.2.2.2.2.2.2.2.2.2.2.2.2.2.2.2.2.2.2.2.2.2.2.1))).trans (hHeld.2.2.2.2.2.2.2.2.2.2.2.2.2.2.2.2.2.2.2.2.2.2.1)
 have HS23_:=(hb.cell (World.block_lt_of_cell? _ _ (hHeld.2.2.2.2.2.2.2.2.2.2.2.2.2.2.2.2.2.2.2.2.2.2.2.1))).trans (hHeld.2.2.2.2.2.2.2.2.2.2.2.2.2.2.2.2.2.2.2.2.2.2.2.1)
 have HS24_:=(hb.cell (World.block_lt_of_cell? _ _ (hHeld.2.2.2.2.2.2.2.2.2.2.2.2.2.2.2.2.2.2.2.2.2.2.2.2.1))).trans (hHeld.2.2.2.2.2.2.2.2.2.2.2.2.2.2.2.2.2.2.2.2.2.2.2.2.1)
 have HS25_:=(hb.cell (World.block_lt_of_cell? _ _ (hHeld.2.2.2.2.2.2.2.2.2.2.2.2.2.2.2.2.2.2.2.2.2.2.2.2.2.1))).trans (hHeld.2.2.2.2.2.2.2.2.2.2.2.2.2.2.2.2.2.2.2.2.2.2.2.2.2.1)
 have HS26_:=(hb.cell (World.block_lt_of_cell? _ _ (hHeld.2.2.2.2.2.2.2.2.2.2.2.2.2.2.2.2.2.2.2.2.2.2.2.2.2.2.1))).trans (hHeld.2.2.2.2.2.2.2.2.2.2.2.2.2.2.2.2.2.2.2.2.2.2.2.2.2.2.1)
 have HS27_:=(hb.cell (World.block_lt_of_cell? _ _ (hHeld.2.2.2.2.2.2.2.2.2.2.2.2.2.2.2.2.2.2.2.2.2.2.2.2.2.2.2.1))).trans (hHeld.2.2.2.2.2.2.2.2.2.2.2.2.2.2.2.2.2.2.2.2.2.2.2.2.2.2.2.1)
 have HS28_:=(hb.cell (World.block_lt_of_cell? _ _ (hHeld.2.2.2.2.2.2.2.2.2.2.2.2.2.2.2.2.2.2.2.2.2.2.2.2.2.2.2.2.1))).trans (hHeld.2.2.2.2.2.2.2.2.2.2.2.2.2.2.2.2.2.2.2.2.2.2.2.2.2.2.2.2.1)
 have HS29_:=(hb.cell (World.block_lt_of_cell? _ _ (hHeld.2.2.2.2.2.2.2.2.2.2.2.2.2.2.2.2.2.2.2.2.2.2.2.2.2.2.2.2.2.1))).trans (hHeld.2.2.2.2.2.2.2.2.2.2.2.2.2.2.2.2.2.2.2.2.2.2.2.2.2.2.2.2.2.1)
 have HS30_:=(hb.cell (World.block_lt_of_cell? _ _ (hHeld.2.2.2.2.2.2.2.2.2.2.2.2.2.2.2.2.2.2.2.2.2.2.2.2.2.2.2.2.2.2.1))).trans (hHeld.2.2.2.2.2.2.2.2.2.2.2.2.2.2.2.2.2.2.2.2.2.2.2.2.2.2.2.2.2.2.1)
 have HS31_:=(hb.cell (World.block_lt_of_cell? _ _ (hHeld.2.2.2.2.2.2.2.2.2.2.2.2.2.2.2.2.2.2.2.2.2.2.2.2.2.2.2.2.2.2.2.1))).trans (hHeld.2.2.2.2.2.2.2.2.2.2.2.2.2.2.2.2.2.2.2.2.2.2.2.2.2.2.2.2.2.2.2.1)
 have HS32_:=(hb.cell (World.block_lt_of_cell? _ _ (hHeld.2.2.2.2.2.2.2.2.2.2.2.2.2.2.2.2.2.2.2.2.2.2.2.2.2.2.2.2.2.2.2.2.1))).trans (hHeld.2.2.2.2.2.2.2.2.2.2.2.2.2.2.2.2.2.2.2.2.2.2.2.2.2.2.2.2.2.2.2.2.1)
 have HS33_:=(hb.cell (World.block_lt_of_cell? _ _ (hHeld.2.2.2.2.2.2.2.2.2.2.2.2.2.2.2.2.2.2.2.2.2.2.2.2.2.2.2.2.2.2.2.2.2.1))).trans (hHeld.2.2.2.2.2.2.2.2.2.2.2.2.2.2.2.2.2.2.2.2.2.2.2.2.2.2.2.2.2.2.2.2.2.1)
 have HS34_:=(hb.cell (World.block_lt_of_cell? _ _ (hHeld.2.2.2.2.2.2.2.2.2.2.2.2.2.2.2.2.2.2.2.2.2.2.2.2.2.2.2.2.2.2.2.2.2.2.1))).trans (hHeld.2.2.2.2.2.2.2.2.2.2.2.2.2.2.2.2.2.2.2.2.2.2.2.2.2.2.2.2.2.2.2.2.2.2.1)
 have HS35_:=(hb.cell (World.block_lt_of_cell? _ _ (hHeld.2.2.2.2.2.2.2.2.2.2.2.2.2.2.2.2.2.2.2.2.2.2.2.2.2.2.2.2.2.2.2.2.2.2.2.1))).trans (hHeld.2.2.2.2.2.2.2.2.2.2.2.2.2.2.2.2.2.2.2.2.2.2.2.2.2.2.2.2.2.2.2.2.2.2.2.1)
 have HS36_:=(hb.cell (World.block_lt_of_cell? _ _ (hHeld.2.2.2.2.2.2.2.2.2.2.2.2.2.2.2.2.2.2.2.2.2.2.2.2.2.2.2.2.2.2.2.2.2.2.2.2.1))).trans (hHeld.2.2.2.2.2.2.2.2.2.2.2.2.2.2.2.2.2.2.2.2.2.2.2.2.2.2.2.2.2.2.2.2.2.2.2.2.1)
 have HS37_:=(hb.cell (World.block_lt_of_cell? _ _ (hHeld.2.2.2.2.2.2.2.2.2.2.2.2.2.2.2.2.2.2.2.2.2.2.2.2.2.2.2.2.2.2.2.2.2.2.2.2.2.1))).trans (hHeld.2.2.2.2.2.2.2.2.2.2.2.2.2.2.2.2.2.2.2.2.2.2.2.2.2.2.2.2.2.2.2.2.2.2.2.2.2.1)
 have HS38_:=(hb.cell (World.block_lt_of_cell? _ _ (hHeld.2.2.2.2.2.2.2.2.2.2.2.2.2.2.2.2.2.2.2.2.2.2.2.2.2.2.2.2.2.2.2.2.2.2.2.2.2.2.1))).trans (hHeld.2.2.2.2.2.2.2.2.2.2.2.2.2.2.2.2.2.2.2.2.2.2.2.2.2.2.2.2.2.2.2.2.2.2.2.2.2.2.1)
 have HS39_:=(hb.cell (World.block_lt_of_cell? _ _ (hHeld.2.2.2.2.2.2.2.2.2.2.2.2.2.2.2.2.2.2.2.2.2.2.2.2.2.2.2.2.2.2.2.2.2.2.2.2.2.2.2.1))).trans (hHeld.2.2.2.2.2.2.2.2.2.2.2.2.2.2.2.2.2.2.2.2.2.2.2.2.2.2.2.2.2.2.2.2.2.2.2.2.2.2.2.1)
 have HS40_:=(hb.cell (World.block_lt_of_cell? _ _ (hHeld.2.2.2.2.2.2.2.2.2.2.2.2.2.2.2.2.2.2.2.2.2.2.2.2.2.2.2.2.2.2.2.2.2.2.2.2.2.2.2.2.1))).trans (hHeld.2.2.2.2.2.2.2.2.2.2.2.2.2.2.2.2.2.2.2.2.2.2.2.2.2.2.2.2.2.2.2.2.2.2.2.2.2.2.2.2.1)
 have HS41_:=(hb.cell (World.block_lt_of_cell? _ _ (hHeld.2.2.2.2.2.2.2.2.2.2.2.2.2.2.2.2.2.2.2.2.2.2.2.2.2.2.2.2.2.2.2.2.2.2.2.2.2.2.2.2.2.1))).trans (hHeld.2.2.2.2.2.2.2.2.2.2.2.2.2.2.2.2.2.2.2.2.2.2.2.2.2.2.2.2.2.2.2.2.2.2.2.2.2.2.2.2.2.1)
 have HS42_:=(hb.cell (World.block_lt_of_cell? _ _ (hHeld.2.2.2.2.2.2.2.2.2.2.2.2.2.2.2.2.2.2.2.2.2.2.2.2.2.2.2.2.2.2.2.2.2.2.2.2.2.2.2.2.2.2.1))).trans (hHeld.2.2.2.2.2.2.2.2.2.2.2.2.2.2.2.2.2.2.2.2.2.2.2.2.2.2.2.2.2.2.2.2.2.2.2.2.2.2.2.2.2.2.1)
 have HS43_:=(hb.cell (World.block_lt_of_cell? _ _ (hHeld.2.2.2.2.2.2.2.2.2.2.2.2.2.2.2.2.2.2.2.2.2.2.2.2.2.2.2.2.2.2.2.2.2.2.2.2.2.2.2.2.2.2.2.1))).trans (hHeld.2.2.2.2.2.2.2.2.2.2.2.2.2.2.2.2.2.2.2.2.2.2.2.2.2.2.2.2.2.2.2.2.2.2.2.2.2.2.2.2.2.2.2.1)
 have HS44_:=(hb.cell (World.block_lt_of_cell? _ _ (hHeld.2.2.2.2.2.2.2.2.2.2.2.2.2.2.2.2.2.2.2.2.2.2.2.2.2.2.2.2.2.2.2.2.2.2.2.2.2.2.2.2.2.2.2.2.1))).trans (hHeld.2.2.2.2.2.2.2.2.2.2.2.2.2.2.2.2.2.2.2.2.2.2.2.2.2.2.2.2.2.2.2.2.2.2.2.2.2.2.2.2.2.2.2.2.1)
 have HS45_:=(hb.cell (World.block_lt_of_cell? _ _ (hHeld.2.2.2.2.2.2.2.2.2.2.2.2.2.2.2.2.2.2.2.2.2.2.2.2.2.2.2.2.2.2.2.2.2.2.2.2.2.2.2.2.2.2.2.2.2.1))).trans (hHeld.2.2.2.2.2.2.2.2.2.2.2.2.2.2.2.2.2.2.2.2.2.2.2.2.2.2.2.2.2.2.2.2.2.2.2.2.2.2.2.2.2.2.2.2.2.1)
 have HS46_:=(hb.cell (World.block_lt_of_cell? _ _ (hHeld.2.2.2.2.2.2.2.2.2.2.2.2.2.2.2.2.2.2.2.2.2.2.2.2.2.2.2.2.2.2.2.2.2.2.2.2.2.2.2.2.2.2.2.2.2.2.1))).trans (hHeld.2.2.2.2.2.2.2.2.2.2.2.2.2.2.2.2.2.2.2.2.2.2.2.2.2.2.2.2.2.2.2.2.2.2.2.2.2.2.2.2.2.2.2.2.2.2.1)
 have HS47_:=(hb.cell (World.block_lt_of_cell? _ _ (hHeld.2.2.2.2.2.2.2.2.2.2.2.2.2.2.2.2.2.2.2.2.2.2.2.2.2.2.2.2.2.2.2.2.2.2.2.2.2.2.2.2.2.2.2.2.2.2.2.1))).trans (hHeld.2.2.2.2.2.2.2.2.2.2.2.2.2.2.2.2.2.2.2.2.2.2.2.2.2.2.2.2.2.2.2.2.2.2.2.2.2.2.2.2.2.2.2.2.2.2.2.1)
 have HS48_:=(hb.cell (World.block_lt_of_cell? _ _ (hHeld.2.2.2.2.2.2.2.2.2.2.2.2.2.2.2.2.2.2.2.2.2.2.2.2.2.2.2.2.2.2.2.2.2.2.2.2.2.2.2.2.2.2.2.2.2.2.2.2.1))).trans (hHeld.2.2.2.2.2.2.2.2.2.2.2.2.2.2.2.2.2.2.2.2.2.2.2.2.2.2.2.2.2.2.2.2.2.2.2.2.2.2.2.2.2.2.2.2.2.2.2.2.1)
 have HS49_:=(hb.cell (World.block_lt_of_cell? _ _ (hHeld.2.2.2.2.2.2.2.2.2.2.2.2.2.2.2.2.2.2.2.2.2.2.2.2.2.2.2.2.2.2.2.2.2.2.2.2.2.2.2.2.2.2.2.2.2.2.2.2.2.1))).trans (hHeld.2.2.2.2.2.2.2.2.2.2.2.2.2.2.2.2.2.2.2.2.2.2.2.2.2.2.2.2.2.2.2.2.2.2.2.2.2.2.2.2.2.2.2.2.2.2.2.2.2.1)
 have HS50_:=(hb.cell (World.block_lt_of_cell? _ _ (hHeld.2.2.2.2.2.2.2.2.2.2.2.2.2.2.2.2.2.2.2.2.2.2.2.2.2.2.2.2.2.2.2.2.2.2.2.2.2.2.2.2.2.2.2.2.2.2.2.2.2.2.1))).trans (hHeld.2.2.2.2.2.2.2.2.2.2.2.2.2.2.2.2.2.2.2.2.2.2.2.2.2.2.2.2.2.2.2.2.2.2.2.2.2.2.2.2.2.2.2.2.2.2.2.2.2.2.1)
 have HS51_:=(hb.cell (World.block_lt_of_cell? _ _ (hHeld.2.2.2.2.2.2.2.2.2.2.2.2.2.2.2.2.2.2.2.2.2.2.2.2.2.2.2.2.2.2.2.2.2.2.2.2.2.2.2.2.2.2.2.2.2.2.2.2.2.2.2.1))).trans (hHeld.2.2.2.2.2.2.2.2.2.2.2.2.2.2.2.2.2.2.2.2.2.2.2.2.2.2.2.2.2.2.2.2.2.2.2.2.2.2.2.2.2.2.2.2.2.2.2.2.2.2.2.1)
 have HS52_:=(hb.cell (World.block_lt_of_cell? _ _ (hHeld.2.2.2.2.2.2.2.2.2.2.2.2.2.2.2.2.2.2.2.2.2.2.2.2.2.2.2.2.2.2.2.2.2.2.2.2.2.2.2.2.2.2.2.2.2.2.2.2.2.2.2.2.1))).trans (hHeld.2.2.2.2.2.2.2.2.2.2.2.2.2.2.2.2.2.2.2.2.2.2.2.2.2.2.2.2.2.2.2.2.2.2.2.2.2.2.2.2.2.2.2.2.2.2.2.2.2.2.2.2.1)
 have HS53_:=(hb.cell (World.block_lt_of_cell? _ _ (hHeld.2.2.2.2.2.2.2.2.2.2.2.2.2.2.2.2.2.2.2.2.2.2.2.2.2.2.2.2.2.2.2.2.2.2.2.2.2.2.2.2.2.2.2.2.2.2.2.2.2.2.2.2.2.1))).trans (hHeld.2.2.2.2.2.2.2.2.2.2.2.2.2.2.2.2.2.2.2.2.2.2.2.2.2.2.2.2.2.2.2.2.2.2.2.2.2.2.2.2.2.2.2.2.2.2.2.2.2.2.2.2.2.1)
 have HS54_:=(hb.cell (World.block_lt_of_cell? _ _ (hHeld.2.2.2.2.2.2.2.2.2.2.2.2.2.2.2.2.2.2.2.2.2.2.2.2.2.2.2.2.2.2.2.2.2.2.2.2.2.2.2.2.2.2.2.2.2.2.2.2.2.2.2.2.2.2.1))).trans (hHeld.2.2.2.2.2.2.2.2.2.2.2.2.2.2.2.2.2.2.2.2.2.2.2.2.2.2.2.2.2.2.2.2.2.2.2.2.2.2.2.2.2.2.2.2.2.2.2.2.2.2.2.2.2.2.1)
 have HS55_:=(hb.cell (World.block_lt_of_cell? _ _ (hHeld.2.2.2.2.2.2.2.2.2.2.2.2.2.2.2.2.2.2.2.2.2.2.2.2.2.2.2.2.2.2.2.2.2.2.2.2.2.2.2.2.2.2.2.2.2.2.2.2.2.2.2.2.2.2.2.1))).trans (hHeld.2.2.2.2.2.2.2.2.2.2.2.2.2.2.2.2.2.2.2.2.2.2.2.2.2.2.2.2.2.2.2.2.2.2.2.2.2.2.2.2.2.2.2.2.2.2.2.2.2.2.2.2.2.2.2.1)
 have HS56_:=(hb.cell (World.block_lt_of_cell? _ _ (hHeld.2.2.2.2.2.2.2.2.2.2.2.2.2.2.2.2.2.2.2.2.2.2.2.2.2.2.2.2.2.2.2.2.2.2.2.2.2.2.2.2.2.2.2.2.2.2.2.2.2.2.2.2.2.2.2.2.1))).trans (hHeld.2.2.2.2.2.2.2.2.2.2.2.2.2.2.2.2.2.2.2.2.2.2.2.2.2.2.2.2.2.2.2.2.2.2.2.2.2.2.2.2.2.2.2.2.2.2.2.2.2.2.2.2.2.2.2.2.1)
 have HS57_:=(hb.cell (World.block_lt_of_cell? _ _ (hHeld.2.2.2.2.2.2.2.2.2.2.2.2.2.2.2.2.2.2.2.2.2.2.2.2.2.2.2.2.2.2.2.2.2.2.2.2.2.2.2.2.2.2.2.2.2.2.2.2.2.2.2.2.2.2.2.2.2.1))).trans (hHeld.2.2.2.2.2.2.2.2.2.2.2.2.2.2.2.2.2.2.2.2.2.2.2.2.2.2.2.2.2.2.2.2.2.2.2.2.2.2.2.2.2.2.2.2.2.2.2.2.2.2.2.2.2.2.2.2.2.1)
 have HS58_:=(hb.cell (World.block_lt_of_cell? _ _ (hHeld.2.2.2.2.2.2.2.2.2.2.2.2.2.2.2.2.2.2.2.2.2.2.2.2.2.2.2.2.2.2.2.2.2.2.2.2.2.2.2.2.2.2.2.2.2.2.2.2.2.2.2.2.2.2.2.2.2.2))).trans (hHeld.2.2.2.2.2.2.2.2.2.2.2.2.2.2.2.2.2.2.2.2.2.2.2.2.2.2.2.2.2.2.2.2.2.2.2.2.2.2.2.2.2.2.2.2.2.2.2.2.2.2.2.2.2.2.2.2.2.2)
 refine ⟨_,rfl,?_⟩
 have n0_:=Aside0.mk (Kd.R_below (by (with_reducible repeat (first|apply Kd.R_alloc|apply Kd.R_drewN|apply Kd.R_drew));exact HO301.out) hb)
 have n1_:=Aside0.mk (Kd.R_below (by (with_reducible repeat (first|apply Kd.R_alloc|apply Kd.R_drewN|apply Kd.R_drew));exact HO305.out) hb)
 have n2_:=Aside0.mk (Kd.S_below (by (with_reducible repeat (first|apply Kd.S_alloc|apply Kd.S_drewN|apply Kd.S_drew));exact HO308.out) hb)
 have n3_:=Aside0.mk (Kd.R_below (by (with_reducible repeat (first|apply Kd.R_alloc|apply Kd.R_drewN|apply Kd.R_drew));exact HL312_8.out) hb)
 have n4_:=Aside0.mk (Kd.R_below (by (with_reducible repeat (first|apply Kd.R_alloc|apply Kd.R_drewN|apply Kd.R_drew));exact HL312_9.out) hb)
 have n5_:=Aside0.mk (Kd.R_below (by (with_reducible repeat (first|apply Kd.R_alloc|apply Kd.R_drewN|apply Kd.R_drew));exact HL313_8.out) hb)
 have n6_:=Aside0.mk (Kd.R_below (by (with_reducible repeat (first|apply Kd.R_alloc|apply Kd.R_drewN|apply Kd.R_drew));exact HL313_9.out) hb)
 have n7_:=Aside0.mk (Kd.R_below (by (with_reducible repeat (first|apply Kd.R_alloc|apply Kd.R_drewN|apply Kd.R_drew));exact HL314_8.out) hb)
 have n8_:=Aside0.mk (Kd.R_below (by (with_reducible repeat (first|apply Kd.R_alloc|apply Kd.R_drewN|apply Kd.R_drew));exact HL314_9.out) hb)
 have n9_:=Aside0.mk (Kd.R_below (by (with_reducible repeat (first|apply Kd.R_alloc|apply Kd.R_drewN|apply Kd.R_drew));exact HL316_8.out) hb)
 have n10_:=Aside0.mk (Kd.R_below (by (with_reducible repeat (first|apply Kd.R_alloc|apply Kd.R_drewN|apply Kd.R_drew));exact HL316_9.out) hb)
 have n11_:=Aside0.mk (blk_below (g:=gb281) (o:=.cells #[.string (⟨#[1,120]⟩:ByteArray),.int .u16 99,.int .u32 0,.string (⟨#[]⟩:ByteArray)] 32 (0,0)) (by (with_reducible repeat (first|apply blk_drewN|apply blk_drew|apply blk_alloc));exact BK281.out) hb)
 have n12_:=Aside0.mk (blk_below (g:=gb282) (o:=.cells #[.string (⟨#[1,121]⟩:ByteArray),.int .u16 99,.int .u32 0,.string (⟨#[]⟩:ByteArray)] 32 (0,0)) (by (with_reducible repeat (first|apply blk_drewN|apply blk_drew|apply blk_alloc));exact BK282.out) hb)
 have n13_:=Aside0.mk (blk_below (g:=gb310) (o:=.cells #[.bool t302,.slice Ao34 t303.length co34,.slice (some ad312) t306.length co36] 48 (0,0)) (by (with_reducible repeat (first|apply blk_drewN|apply blk_drew|apply blk_alloc));exact BK310.out) hb)
 have n14_:=Aside0.mk (Kd.C_below (by repeat (first|(with_reducible exact HR312_8.out)|(with_reducible refine Kd.C_alloc ?_ _)|(with_reducible refine Kd.C_drewN ?_ _)|(with_reducible refine Kd.C_drew ?_)|exact HR312_8.out)) hb)
 have n15_:=Aside0.mk (Kd.C_below (by repeat (first|(with_reducible exact HR312_9.out)|(with_reducible refine Kd.C_alloc ?_ _)|(with_reducible refine Kd.C_drewN ?_ _)|(with_reducible refine Kd.C_drew ?_)|exact HR312_9.out)) hb)
 have n16_:=Aside0.mk (Kd.C_below (by repeat (first|(with_reducible exact HR313_8.out)|(with_reducible refine Kd.C_alloc ?_ _)|(with_reducible refine Kd.C_drewN ?_ _)|(with_reducible refine Kd.C_drew ?_)|exact HR313_8.out)) hb)
 have n17_:=Aside0.mk (Kd.C_below (by repeat (first|(with_reducible exact HR313_9.out)|(with_reducible refine Kd.C_alloc ?_ _)|(with_reducible refine Kd.C_drewN ?_ _)|(with_reducible refine Kd.C_drew ?_)|exact HR313_9.out)) hb)
 have n18_:=Aside0.mk (Kd.C_below (by repeat (first|(with_reducible exact HR314_8.out)|(with_reducible refine Kd.C_alloc ?_ _)|(with_reducible refine Kd.C_drewN ?_ _)|(with_reducible refine Kd.C_drew ?_)|exact HR314_8.out)) hb)
 have n19_:=Aside0.mk (Kd.C_below (by repeat (first|(with_reducible exact HR314_9.out)|(with_reducible refine Kd.C_alloc ?_ _)|(with_reducible refine Kd.C_drewN ?_ _)|(with_reducible refine Kd.C_drew ?_)|exact HR314_9.out)) hb)
 have n20_:=Aside0.mk (Kd.C_below (by repeat (first|(with_reducible exact HR316_8.out)|(with_reducible refine Kd.C_alloc ?_ _)|(with_reducible refine Kd.C_drewN ?_ _)|(with_reducible refine Kd.C_drew ?_)|exact HR316_8.out)) hb)
 have n21_:=Aside0.mk (Kd.C_below (by repeat (first|(with_reducible exact HR316_9.out)|(with_reducible refine Kd.C_alloc ?_ _)|(with_reducible refine Kd.C_drewN ?_ _)|(with_reducible refine Kd.C_drew ?_)|exact HR316_9.out)) hb)
 have n22_:=Aside0.mk (below_step (by repeat (first|(with_reducible first|exact HB.out|apply below_alloc|apply pw_below_drewN|apply below_drew1|refine below_set ?_ GE281.out|refine below_set ?_ GE282.out|refine below_set ?_ GE310.out)|exact HB.out)) hb)
 clear HO301
 clear HO305
 clear HO308
 clear HL312_8
 clear HL312_9
 clear HL313_8
 clear HL313_9
 clear HL314_8
 clear HL314_9
 clear HL316_8
 clear HL316_9
 clear BK281
 clear BK282
 clear BK310
 clear HR312_8
 clear HR312_9
 clear HR313_8
 clear HR313_9
 clear HR314_8
 clear HR314_9
 clear HR316_8
 clear HR316_9
 clear HB
 have HO301:=n0_
 have HO305:=n1_
 have HO308:=n2_
 have HL312_8:=n3_
 have HL312_9:=n4_
 have HL313_8:=n5_
 have HL313_9:=n6_
 have HL314_8:=n7_
 have HL314_9:=n8_
 have HL316_8:=n9_
 have HL316_9:=n10_
 have BK281:=n11_
 have BK282:=n12_
 have BK310:=n13_
 have HR312_8:=n14_
 have HR312_9:=n15_
 have HR313_8:=n16_
 have HR313_9:=n17_
 have HR314_8:=n18_
 have HR314_9:=n19_
 have HR316_8:=n20_
 have HR316_9:=n21_
 have HB:=n22_
 clear n0_ n1_ n2_ n3_ n4_ n5_ n6_ n7_ n8_ n9_ n10_ n11_ n12_ n13_ n14_ n15_ n16_ n17_ n18_ n19_ n20_ n21_ n22_
 (try clear hb)
 (try clear hb2)
 (try clear hk)
 (try clear hi)
 refine hK.out _ _ ⟨(blk_cell BK310.out 0).trans rfl,(blk_cell BK310.out 1).trans rfl,(blk_cell BK310.out 2).trans rfl,(blk_cell BK281.out 0).trans rfl,(blk_cell BK281.out 1).trans rfl,(blk_cell BK281.out 2).trans rfl,(blk_cell BK281.out 3).trans rfl,(blk_cell BK282.out 0).trans rfl,(blk_cell BK282.out 1).trans rfl,(blk_cell BK282.out 2).trans rfl,(blk_cell BK282.out 3).trans rfl,HS11_,HS12_,HS13_,HS14_,HS15_,HS16_,HS17_,HS18_,HS19_,HS20_,HS21_,HS22_,HS23_,HS24_,HS25_,HS26_,HS27_,HS28_,HS29_,HS30_,HS31_,HS32_,HS33_,HS34_,HS35_,HS36_,HS37_,HS38_,HS39_,HS40_,HS41_,HS42_,HS43_,HS44_,HS45_,HS46_,HS47_,HS48_,HS49_,HS50_,HS51_,HS52_,HS53_,HS54_,HS55_,HS56_,HS57_,HS58_⟩ (fun hHeld=>?_)
 clear hK K
 refine norm_ (a':=?_) ?_ ?_
 rotate_left
 ·show Act.put _ (some 73) _ = _
  simp only [Act.put,setIfInBounds_toArray,set_cons_zero,set_cons_succ,i64_w,i32_w]
  rfl
 refine one_ (i:=51) (N:=some 74) #[true,true,true,true,true,true,true,true,true,true,true,true,true,true,true,true,true,true,true,true,true,true,true,true,true,true,true,true,true,true,true,true,true,true,true,true,true,true,true,true,true,true,true,true,true,true,true,true,true,true,true,true,false,false,false] rfl rfl (one_of HT_.out (by kernel_rfl)) (by decide) (fun K hK=>?_)
 refine Kd.R_lit_step k32 _ 32 ?hg (N:=74) ?hd (xs:=([(⟨t318,t319,t320,t321⟩:S32)]:List (S32))) (inner:=[.string t318,.int .u16 t319,.int .u32 t320,.string t321]) (ok:=fun _=>True) (okp:=fun _=>True) ?hr ?hp (fun _ hk=>hk) trivial (Below.refl _ _) (Nat.le_refl _) (by simp) ?_;(case hd=>rfl);(case hg=>rfl);(case hr=>first|(go_simp;done)|(go_simp;rfl));(case hp=>exact (Reps.c4 (show Kd.M k32 _ _ _ (⟨t318,t319,t320,t321⟩:S32) [.string t318,.int .u16 t319,.int .u32 t320,.string t321] from (k32_mkM _ _ _ (⟨t318,t319,t320,t321⟩:S32) )) (Reps.none _ _)))
 intro v323 w41 ho42 hb hg_ hnew_
 have HS11_:=(hb.cell (World.block_lt_of_cell? _ _ (hHeld.2.2.2.2.2.2.2.2.2.2.2.1))).trans (hHeld.2.2.2.2.2.2.2.2.2.2.2.1)
 have HS12_:=(hb.cell (World.block_lt_of_cell? _ _ (hHeld.2.2.2.2.2.2.2.2.2.2.2.2.1))).trans (hHeld.2.2.2.2.2.2.2.2.2.2.2.2.1)
 have HS13_:=(hb.cell (World.block_lt_of_cell? _ _ (hHeld.2.2.2.2.2.2.2.2.2.2.2.2.2.1))).trans (hHeld.2.2.2.2.2.2.2.2.2.2.2.2.2.1)
 have HS14_:=(hb.cell (World.block_lt_of_cell? _ _ (hHeld.2.2.2.2.2.2.2.2.2.2.2.2.2.2.1))).trans (hHeld.2.2.2.2.2.2.2.2.2.2.2.2.2.2.1)
 have HS15_:=(hb.cell (World.block_lt_of_cell? _ _ (hHeld.2.2.2.2.2.2.2.2.2.2.2.2.2.2.2.1))).trans (hHeld.2.2.2.2.2.2.2.2.2.2.2.2.2.2.2.1)
 have HS16_:=(hb.cell (World.block_lt_of_cell? _ _ (hHeld.2.2.2.2.2.2.2.2.2.2.2.2.2.2.2.2.1))).trans (hHeld.2.2.2.2.2.2.2.2.2.2.2.2.2.2.2.2.1)
 have HS17_:=(hb.cell (World.block_lt_of_cell? _ _ (hHeld.2.2.2.2.2.2.2.2.2.2.2.2.2.2.2.2.2.1))).trans (hHeld.2.2.2.2.2.2.2.2.2.2.2.2.2.2.2.2.2.1)
 have HS18_:=(hb.cell (World.block_lt_of_cell? _ _ (hHeld.2.2.2.2.2.2.2.2.2.2.2.2.2.2.2.2.2.2.1))).trans (hHeld.2.2.2.2.2.2.2.2.2.2.2.2.2.2.2.2.2.2.1)
 have HS19_:=(hb.cell (World.block_lt_of_cell? _ _ (hHeld.2.2.2.2.2.2.2.2.2.2.2.2.2.2.2.2.2.2.2.1))).trans (hHeld.2.2.2.2.2.2.2.2.2.2.2.2.2.2.2.2.2.2.2.1)
 have HS20_:=(hb.cell (World.block_lt_of_cell? _ _ (hHeld.2.2.2.2.2.2.2.2.2.2.2.2.2.2.2.2.2.2.2.2.1))).trans (hHeld.2.2.2.2.2.2.2.2.2.2.2.2.2.2.2.2.2.2.2.2.1)
 have HS21_:=(hb.cell (World.block_lt_of_cell? _ _ (hHeld.2.2.2.2.2.2.2.2.2.2.2.2.2.2.2.2.2.2.2.2.2.1))).trans (hHeld.2.2.2.2.2.2.2.2.2.2.2.2.2.2.2.2.2.2.2.2.2.1)
 have HS22_:=(hb.cell (World.block_lt_of_cell? _ _ (hHeld.2.2.2.2.2.2.2.2.2.2.2.2.2.2.2.2.2.2.2.2.2.2.1))).trans (hHeld.2.2.2.2.2.2.2.2.2.2.2.2.2.2.2.2.2.2.2.2.2.2.1)
 have HS23_:=(hb.cell (World.block_lt_of_cell? _ _ (hHeld.2.2.2.2.2.2.2.2.2.2.2.2.2.2.2.2.2.2.2.2.2.2.2.1))).trans (hHeld.2.2.2.2.2.2.2.2.2.2.2.2.2.2.2.2.2.2.2.2.2.2.2.1)
 have HS24_:=(hb.cell (World.block_lt_of_cell? _ _ (hHeld.2.2.2.2.2.2.2.2.2.2.2.2.2.2.2.2.2.2.2.2.2.2.2.2.1))).trans (hHeld.2.2.2.2.2.2.2.2.2.2.2.2.2.2.2.2.2.2.2.2.2.2.2.2.1)
 have HS25_:=(hb.cell (World.block_lt_of_cell? _ _ (hHeld.2.2.2.2.2.2.2.2.2.2.2.2.2.2.2.2.2.2.2.2.2.2.2.2.2.1))).trans (hHeld.2.2.2.2.2.2.2.2.2.2.2.2.2.2.2.2.2.2.2.2.2.2.2.2.2.1)
 have HS26_:=(hb.cell (World.block_lt_of_cell? _ _ (hHeld.2.2.2.2.2.2.2.2.2.2.2.2.2.2.2.2.2.2.2.2.2.2.2.2.2.2.1))).trans (hHeld.2.2.2.2.2.2.2.2.2.2.2.2.2.2.2.2.2.2.2.2.2.2.2.2.2.2.1)
 have HS27_:=(hb.cell (World.block_lt_of_cell? _ _ (hHeld.2.2.2.2.2.2.2.2.2.2.2.2.2.2.2.2.2.2.2.2.2.2.2.2.2.2.2.1))).trans (hHeld.2.2.2.2.2.2.2.2.2.2.2.2.2.2.2.2.2.2.2.2.2.2.2.2.2.2.2.1)
 have HS28_:=(hb.cell (World.block_lt_of_cell? _ _ (hHeld.2.2.2.2.2.2.2.2.2.2.2.2.2.2.2.2.2.2.2.2.2.2.2.2.2.2.2.2.1))).trans (hHeld.2.2.2.2.2.2.2.2.2.2.2.2.2.2.2.2.2.2.2.2.2.2.2.2.2.2.2.2.1)
 have HS29_:=(hb.cell (World.block_lt_of_cell? _ _ (hHeld.2.2.2.2.2.2.2.2.2.2.2.2.2.2.2.2.2.2.2.2.2.2.2.2.2.2.2.2.2.1))).trans (hHeld.2.2.2.2.2.2.2.2.2.2.2.2.2.2.2.2.2.2.2.2.2.2.2.2.2.2.2.2.2.1)
 have HS30_:=(hb.cell (World.block_lt_of_cell? _ _ (hHeld.2.2.2.2.2.2.2.2.2.2.2.2.2.2.2.2.2.2.2.2.2.2.2.2.2.2.2.2.2.2.1))).trans (hHeld.2.2.2.2.2.2.2.2.2.2.2.2.2.2.2.2.2.2.2.2.2.2.2.2.2.2.2.2.2.2.1)
 have HS31_:=(hb.cell (World.block_lt_of_cell? _ _ (hHeld.2.2.2.2.2.2.2.2.2.2.2.2.2.2.2.2.2.2.2.2.2.2.2.2.2.2.2.2.2.2.2.1))).trans (hHeld.2.2.2.2.2.2.2.2.2.2.2.2.2.2.2.2.2.2.2.2.2.2.2.2.2.2.2.2.2.2.2.1)
 have HS32_:=(hb.cell (World.block_lt_of_cell? _ _ (hHeld.2.2.2.2.2.2.2.2.2.2.2.2.2.2.2.2.2.2.2.2.2.2.2.2.2.2.2.2.2.2.2.2.1))).trans (hHeld.2.2.2.2.2.2.2.2.2.2.2.2.2.2.2.2.2.2.2.2.2.2.2.2.2.2.2.2.2.2.2.2.1)
 have HS33_:=(hb.cell (World.block_lt_of_cell? _ _ (hHeld.2.2.2.2.2.2.2.2.2.2.2.2.2.2.2.2.2.2.2.2.2.2.2.2.2.2.2.2.2.2.2.2.2.1))).trans (hHeld.2.2.2.2.2.2.2.2.2.2.2.2.2.2.2.2.2.2.2.2.2.2.2.2.2.2.2.2.2.2.2.2.2.1)
 have HS34_:=(hb.cell (World.block_lt_of_cell? _ _ (hHeld.2.2.2.2.2.2.2.2.2.2.2.2.2.2.2.2.2.2.2.2.2.2.2.2.2.2.2.2.2.2.2.2.2.2.1))).trans (hHeld.2.2.2.2.2.2.2.2.2.2.2.2.2.2.2.2.2.2.2.2.2.2.2.2.2.2.2.2.2.2.2.2.2.2.1)
 have HS35_:=(hb.cell (World.block_lt_of_cell? _ _ (hHeld.2.2.2.2.2.2.2.2.2.2.2.2.2.2.2.2.2.2.2.2.2.2.2.2.2.2.2.2.2.2.2.2.2.2.2.1))).trans (hHeld.2.2.2.2.2.2.2.2.2.2.2.2.2.2.2.2.2.2.2.2.2.2.2.2.2.2.2.2.2.2.2.2.2.2.2.1)
 have HS36_:=(hb.cell (World.block_lt_of_cell? _ _ (hHeld.2.2.2.2.2.2.2.2.2.2.2.2.2.2.2.2.2.2.2.2.2.2.2.2.2.2.2.2.2.2.2.2.2.2.2.2.1))).trans (hHeld.2.2.2.2.2.2.2.2.2.2.2.2.2.2.2.2.2.2.2.2.2.2.2.2.2.2.2.2.2.2.2.2.2.2.2.2.1)
 have HS37_:=(hb.cell (World.block_lt_of_cell? _ _ (hHeld.2.2.2.2.2.2.2.2.2.2.2.2.2.2.2.2.2.2.2.2.2.2.2.2.2.2.2.2.2.2.2.2.2.2.2.2.2.1))).trans (hHeld.2.2.2.2.2.2.2.2.2.2.2.2.2.2.2.2.2.2.2.2.2.2.2.2.2.2.2.2.2.2.2.2.2.2.2.2.2.1)
 have HS38_:=(hb.cell (World.block_lt_of_cell? _ _ (hHeld.2.2.2.2.2.2.2.2.2.2.2.2.2.2.2.2.2.2.2.2.2.2.2.2.2.2.2.2.2.2.2.2.2.2.2.2.2.2.1))).trans (hHeld.2.2.2.2.2.2.2.2.2.2.2.2.2.2.2.2.2.2.2.2.2.2.2.2.2.2.2.2.2.2.2.2.2.2.2.2.2.2.1)
 have HS39_:=(hb.cell (World.block_lt_of_cell? _ _ (hHeld.2.2.2.2.2.2.2.2.2.2.2.2.2.2.2.2.2.2.2.2.2.2.2.2.2.2.2.2.2.2.2.2.2.2.2.2.2.2.2.1))).trans (hHeld.2.2.2.2.2.2.2.2.2.2.2.2.2.2.2.2.2.2.2.2.2.2.2.2.2.2.2.2.2.2.2.2.2.2.2.2.2.2.2.1)
 have HS40_:=(hb.cell (World.block_lt_of_cell? _ _ (hHeld.2.2.2.2.2.2.2.2.2.2.2.2.2.2.2.2.2.2.2.2.2.2.2.2.2.2.2.2.2.2.2.2.2.2.2.2.2.2.2.2.1))).trans (hHeld.2.2.2.2.2.2.2.2.2.2.2.2.2.2.2.2.2.2.2.2.2.2.2.2.2.2.2.2.2.2.2.2.2.2.2.2.2.2.2.2.1)
 have HS41_:=(hb.cell (World.block_lt_of_cell? _ _ (hHeld.2.2.2.2.2.2.2.2.2.2.2.2.2.2.2.2.2.2.2.2.2.2.2.2.2.2.2.2.2.2.2.2.2.2.2.2.2.2.2.2.2.1))).trans (hHeld.2.2.2.2.2.2.2.2.2.2.2.2.2.2.2.2.2.2.2.2.2.2.2.2.2.2.2.2.2.2.2.2.2.2.2.2.2.2.2.2.2.1)
 have HS42_:=(hb.cell (World.block_lt_of_cell? _ _ (hHeld.2.2.2.2.2.2.2.2.2.2.2.2.2.2.2.2.2.2.2.2.2.2.2.2.2.2.2.2.2.2.2.2.2.2.2.2.2.2.2.2.2.2.1))).trans (hHeld.2.2.2.2.2.2.2.2.2.2.2.2.2.2.2.2.2.2.2.2.2.2.2.2.2.2.2.2.2.2.2.2.2.2.2.2.2.2.2.2.2.2.1)
 have HS43_:=(hb.cell (World.block_lt_of_cell? _ _ (hHeld.2.2.2.2.2.2.2.2.2.2.2.2.2.2.2.2.2.2.2.2.2.2.2.2.2.2.2.2.2.2.2.2.2.2.2.2.2.2.2.2.2.2.2.1))).trans (hHeld.2.2.2.2.2.2.2.2.2.2.2.2.2.2.2.2.2.2.2.2.2.2.2.2.2.2.2.2.2.2.2.2.2.2.2.2.2.2.2.2.2.2.2.1)
 have HS44_:=(hb.cell (World.block_lt_of_cell? _ _ (hHeld.2.2.2.2.2.2.2.2.2.2.2.2.2.2.2.2.2.2.2.2.2.2.2.2.2.2.2.2.2.2.2.2.2.2.2.2.2.2.2.2.2.2.2.2.1))).trans (hHeld.2.2.2.2.2.2.2.2.2.2.2.2.2.2.2.2.2.2.2.2.2.2.2.2.2.2.2.2.2.2.2.2.2.2.2.2.2.2.2.2.2.2.2.2.1)
 have HS45_:=(hb.cell (World.block_lt_of_cell? _ _ (hHeld.2.2.2.2.2.2.2.2.2.2.2.2.2.2.2.2.2.2.2.2.2.2.2.2.2.2.2.2.2.2.2.2.2.2.2.2.2.2.2.2.2.2.2.2.2.1))).trans (hHeld.2.2.2.2.2.2.2.2.2.2.2.2.2.2.2.2.2.2.2.2.2.2.2.2.2.2.2.2.2.2.2.2.2.2.2.2.2.2.2.2.2.2.2.2.2.1)
 have HS46_:=(hb.cell (World.block_lt_of_cell? _ _ (hHeld.2.2.2.2.2.2.2.2.2.2.2.2.2.2.2.2.2.2.2.2.2.2.2.2.2.2.2.2.2.2.2.2.2.2.2.2.2.2.2.2.2.2.2.2.2.2.1))).trans (hHeld.2.2.2.2.2.2.2.2.2.2.2.2.2.2.2.2.2.2.2.2.2.2.2.2.2.2.2.2.2.2.2.2.2.2.2.2.2.2.2.2.2.2.2.2.2.2.1)
 have HS47_:=(hb.cell (World.block_lt_of_cell? _ _ (hHeld.2.2.2.2.2.2.2.2.2.2.2.2.2.2.2.2.2.2.2.2.2.2.2.2.2.2.2.2.2.2.2.2.2.2.2.2.2.2.2.2.2.2.2.2.2.2.2.1))).trans (hHeld.2.2.2.2.2.2.2.2.2.2.2.2.2.2.2.2.2.2.2.2.2.2.2.2.2.2.2.2.2.2.2.2.2.2.2.2.2.2.2.2.2.2.2.2.2.2.2.1)
 have HS48_:=(hb.cell (World.block_lt_of_cell? _ _ (hHeld.2.2.2.2.2.2.2.2.2.2.2.2.2.2.2.2.2.2.2.2.2.2.2.2.2.2.2.2.2.2.2.2.2.2.2.2.2.2.2.2.2.2.2.2.2.2.2.2.1))).trans (hHeld.2.2.2.2.2.2.2.2.2.2.2.2.2.2.2.2.2.2.2.2.2.2.2.2.2.2.2.2.2.2.2.2.2.2.2.2.2.2.2.2.2.2.2.2.2.2.2.2.1)
 have HS49_:=(hb.cell (World.block_lt_of_cell? _ _ (hHeld.2.2.2.2.2.2.2.2.2.2.2.2.2.2.2.2.2.2.2.2.2.2.2.2.2.2.2.2.2.2.2.2.2.2.2.2.2.2.2.2.2.2.2.2.2.2.2.2.2.1))).trans (hHeld.2.2.2.2.2.2.2.2.2.2.2.2.2.2.2.2.2.2.2.2.2.2.2.2.2.2.2.2.2.2.2.2.2.2.2.2.2.2.2.2.2.2.2.2.2.2.2.2.2.1)
 have HS50_:=(hb.cell (World.block_lt_of_cell? _ _ (hHeld.2.2.2.2.2.2.2.2.2.2.2.2.2.2.2.2.2.2.2.2.2.2.2.2.2.2.2.2.2.2.2.2.2.2.2.2.2.2.2.2.2.2.2.2.2.2.2.2.2.2.1))).trans (hHeld.2.2.2.2.2.2.2.2.2.2.2.2.2.2.2.2.2.2.2.2.2.2.2.2.2.2.2.2.2.2.2.2.2.2.2.2.2.2.2.2.2.2.2.2.2.2.2.2.2.2.1)
 have HS51_:=(hb.cell (World.block_lt_of_cell? _ _ (hHeld.2.2.2.2.2.2.2.2.2.2.2.2.2.2.2.2.2.2.2.2.2.2.2.2.2.2.2.2.2.2.2.2.2.2.2.2.2.2.2.2.2.2.2.2.2.2.2.2.2.2.2.1))).trans (hHeld.2.2.2.2.2.2.2.2.2.2.2.2.2.2.2.2.2.2.2.2.2.2.2.2.2.2.2.2.2.2.2.2.2.2.2.2.2.2.2.2.2.2.2.2.2.2.2.2.2.2.2.1)
 have HS52_:=(hb.cell (World.block_lt_of_cell? _ _ (hHeld.2.2.2.2.2.2.2.2.2.2.2.2.2.2.2.2.2.2.2.2.2.2.2.2.2.2.2.2.2.2.2.2.2.2.2.2.2.2.2.2.2.2.2.2.2.2.2.2.2.2.2.2.1))).trans (hHeld.2.2.2.2.2.2.2.2.2.2.2.2.2.2.2.2.2.2.2.2.2.2.2.2.2.2.2.2.2.2.2.2.2.2.2.2.2.2.2.2.2.2.2.2.2.2.2.2.2.2.2.2.1)
 have HS53_:=(hb.cell (World.block_lt_of_cell? _ _ (hHeld.2.2.2.2.2.2.2.2.2.2.2.2.2.2.2.2.2.2.2.2.2.2.2.2.2.2.2.2.2.2.2.2.2.2.2.2.2.2.2.2.2.2.2.2.2.2.2.2.2.2.2.2.2.1))).trans (hHeld.2.2.2.2.2.2.2.2.2.2.2.2.2.2.2.2.2.2.2.2.2.2.2.2.2.2.2.2.2.2.2.2.2.2.2.2.2.2.2.2.2.2.2.2.2.2.2.2.2.2.2.2.2.1)
 have HS54_:=(hb.cell (World.block_lt_of_cell? _ _ (hHeld.2.2.2.2.2.2.2.2.2.2.2.2.2.2.2.2.2.2.2.2.2.2.2.2.2.2.2.2.2.2.2.2.2.2.2.2.2.2.2.2.2.2.2.2.2.2.2.2.2.2.2.2.2.2.1))).trans (hHeld.2.2.2.2.2.2.2.2.2.2.2.2.2.2.2.2.2.2.2.2.2.2.2.2.2.2.2.2.2.2.2.2.2.2.2.2.2.2.2.2.2.2.2.2.2.2.2.2.2.2.2.2.2.2.1)
 have HS55_:=(hb.cell (World.block_lt_of_cell? _ _ (hHeld.2.2.2.2.2.2.2.2.2.2.2.2.2.2.2.2.2.2.2.2.2.2.2.2.2.2.2.2.2.2.2.2.2.2.2.2.2.2.2.2.2.2.2.2.2.2.2.2.2.2.2.2.2.2.2.1))).trans (hHeld.2.2.2.2.2.2.2.2.2.2.2.2.2.2.2.2.2.2.2.2.2.2.2.2.2.2.2.2.2.2.2.2.2.2.2.2.2.2.2.2.2.2.2.2.2.2.2.2.2.2.2.2.2.2.2.1)
 have HS56_:=(hb.cell (World.block_lt_of_cell? _ _ (hHeld.2.2.2.2.2.2.2.2.2.2.2.2.2.2.2.2.2.2.2.2.2.2.2.2.2.2.2.2.2.2.2.2.2.2.2.2.2.2.2.2.2.2.2.2.2.2.2.2.2.2.2.2.2.2.2.2.1))).trans (hHeld.2.2.2.2.2.2.2.2.2.2.2.2.2.2.2.2.2.2.2.2.2.2.2.2.2.2.2.2.2.2.2.2.2.2.2.2.2.2.2.2.2.2.2.2.2.2.2.2.2.2.2.2.2.2.2.2.1)
 have HS57_:=(hb.cell (World.block_lt_of_cell? _ _ (hHeld.2.2.2.2.2.2.2.2.2.2.2.2.2.2.2.2.2.2.2.2.2.2.2.2.2.2.2.2.2.2.2.2.2.2.2.2.2.2.2.2.2.2.2.2.2.2.2.2.2.2.2.2.2.2.2.2.2.1))).trans (hHeld.2.2.2.2.2.2.2.2.2.2.2.2.2.2.2.2.2.2.2.2.2.2.2.2.2.2.2.2.2.2.2.2.2.2.2.2.2.2.2.2.2.2.2.2.2.2.2.2.2.2.2.2.2.2.2.2.2.1)
 have HS58_:=(hb.cell (World.block_lt_of_cell? _ _ (hHeld.2.2.2.2.2.2.2.2.2.2.2.2.2.2.2.2.2.2.2.2.2.2.2.2.2.2.2.2.2.2.2.2.2.2.2.2.2.2.2.2.2.2.2.2.2.2.2.2.2.2.2.2.2.2.2.2.2.2))).trans (hHeld.2.2.2.2.2.2.2.2.2.2.2.2.2.2.2.2.2.2.2.2.2.2.2.2.2.2.2.2.2.2.2.2.2.2.2.2.2.2.2.2.2.2.2.2.2.2.2.2.2.2.2.2.2.2.2.2.2.2)
 clear hg_ hnew_
 (first|rw [← Ny322.out] at ho42|(simp only [Int.reduceToNat] at ho42;rw [← Ny322.out] at ho42))
 have n0_:=Aside0.mk (Kd.R_elder' (by (with_reducible repeat (first|apply Kd.R_alloc|apply Kd.R_drewN|apply Kd.R_drew));exact HO301.out) (Kd.R_base ho42) hb)
 have n1_:=Aside0.mk (Kd.R_elder' (by (with_reducible repeat (first|apply Kd.R_alloc|apply Kd.R_drewN|apply Kd.R_drew));exact HO305.out) (Kd.R_base ho42) hb)
 have n2_:=Aside0.mk (Kd.S_elder' (by (with_reducible repeat (first|apply Kd.S_alloc|apply Kd.S_drewN|apply Kd.S_drew));exact HO308.out) (Kd.R_base ho42) hb)
 have n3_:=Aside0.mk (Kd.R_elder' (by (with_reducible repeat (first|apply Kd.R_alloc|apply Kd.R_drewN|apply Kd.R_drew));exact HL312_8.out) (Kd.R_base ho42) hb)
 have n4_:=Aside0.mk (Kd.R_elder' (by (with_reducible repeat (first|apply Kd.R_alloc|apply Kd.R_drewN|apply Kd.R_drew));exact HL312_9.out) (Kd.R_base ho42) hb)
 have n5_:=Aside0.mk (Kd.R_elder' (by (with_reducible repeat (first|apply Kd.R_alloc|apply Kd.R_drewN|apply Kd.R_drew));exact HL313_8.out) (Kd.R_base ho42) hb)
 have n6_:=Aside0.mk (Kd.R_elder' (by (with_reducible repeat (first|apply Kd.R_alloc|apply Kd.R_drewN|apply Kd.R_drew));exact HL313_9.out) (Kd.R_base ho42) hb)
 have n7_:=Aside0.mk (Kd.R_elder' (by (with_reducible repeat (first|apply Kd.R_alloc|apply Kd.R_drewN|apply Kd.R_drew));exact HL314_8.out) (Kd.R_base ho42) hb)
 have n8_:=Aside0.mk (Kd.R_elder' (by (with_reducible repeat (first|apply Kd.R_alloc|apply Kd.R_drewN|apply Kd.R_drew));exact HL314_9.out) (Kd.R_base ho42) hb)
 have n9_:=Aside0.mk (Kd.R_elder' (by (with_reducible repeat (first|apply Kd.R_alloc|apply Kd.R_drewN|apply Kd.R_drew));exact HL316_8.out) (Kd.R_base ho42) hb)
 have n10_:=Aside0.mk (Kd.R_elder' (by (with_reducible repeat (first|apply Kd.R_alloc|apply Kd.R_drewN|apply Kd.R_drew));exact HL316_9.out) (Kd.R_base ho42) hb)
 have n11_:=Aside0.mk (Kd.R_lower (Kd.R_newB (Kd.R_newB (Kd.R_new' (Kd.R_new' (Kd.R_new' (Kd.R_new' (Kd.R_new' (Kd.R_new' (Kd.R_new' (Kd.R_new' (Kd.R_new' (Kd.R_new' ho42 (Kd.R_lt (by (with_reducible repeat (first|apply Kd.R_alloc|apply Kd.R_drewN|apply Kd.R_drew));exact HO301.out))) (Kd.R_lt (by (with_reducible repeat (first|apply Kd.R_alloc|apply Kd.R_drewN|apply Kd.R_drew));exact HO305.out))) (Kd.R_lt (by (with_reducible repeat (first|apply Kd.R_alloc|apply Kd.R_drewN|apply Kd.R_drew));exact HL312_8.out))) (Kd.R_lt (by (with_reducible repeat (first|apply Kd.R_alloc|apply Kd.R_drewN|apply Kd.R_drew));exact HL312_9.out))) (Kd.R_lt (by (with_reducible repeat (first|apply Kd.R_alloc|apply Kd.R_drewN|apply Kd.R_drew));exact HL313_8.out))) (Kd.R_lt (by (with_reducible repeat (first|apply Kd.R_alloc|apply Kd.R_drewN|apply Kd.R_drew));exact HL313_9.out))) (Kd.R_lt (by (with_reducible repeat (first|apply Kd.R_alloc|apply Kd.R_drewN|apply Kd.R_drew));exact HL314_8.out))) (Kd.R_lt (by (with_reducible repeat (first|apply Kd.R_alloc|apply Kd.R_drewN|apply Kd.R_drew));exact HL314_9.out))) (Kd.R_lt (by (with_reducible repeat (first|apply Kd.R_alloc|apply Kd.R_drewN|apply Kd.R_drew));exact HL316_8.out))) (Kd.R_lt (by (with_reducible repeat (first|apply Kd.R_alloc|apply Kd.R_drewN|apply Kd.R_drew));exact HL316_9.out))) (g:=gb281) (o:=.cells #[.string (⟨#[1,120]⟩:ByteArray),.int .u16 99,.int .u32 0,.string (⟨#[]⟩:ByteArray)] 32 (0,0)) (by (with_reducible repeat (first|apply blk_drewN|apply blk_drew|apply blk_alloc));exact BK281.out)) (g:=gb282) (o:=.cells #[.string (⟨#[1,121]⟩:ByteArray),.int .u16 99,.int .u32 0,.string (⟨#[]⟩:ByteArray)] 32 (0,0)) (by (with_reducible repeat (first|apply blk_drewN|apply blk_drew|apply blk_alloc));exact BK282.out)) (below_size (by repeat (first|(with_reducible first|exact HB.out|apply below_alloc|apply pw_below_drewN|apply below_drew1|refine below_set ?_ GE281.out|refine below_set ?_ GE282.out|refine below_set ?_ GE310.out)|exact HB.out))))
 have n12_:=Aside0.mk (blk_below (g:=gb281) (o:=.cells #[.string (⟨#[1,120]⟩:ByteArray),.int .u16 99,.int .u32 0,.string (⟨#[]⟩:ByteArray)] 32 (0,0)) (by (with_reducible repeat (first|apply blk_drewN|apply blk_drew|apply blk_alloc));exact BK281.out) hb)
 have n13_:=Aside0.mk (blk_below (g:=gb282) (o:=.cells #[.string (⟨#[1,121]⟩:ByteArray),.int .u16 99,.int .u32 0,.string (⟨#[]⟩:ByteArray)] 32 (0,0)) (by (with_reducible repeat (first|apply blk_drewN|apply blk_drew|apply blk_alloc));exact BK282.out) hb)
 have n14_:=Aside0.mk (blk_below (g:=gb310) (o:=.cells #[.bool t302,.slice Ao34 t303.length co34,.slice (some ad312) t306.length co36] 48 (0,0)) (by (with_reducible repeat (first|apply blk_drewN|apply blk_drew|apply blk_alloc));exact BK310.out) hb)
 have n15_:=Aside0.mk (Kd.C_below (by repeat (first|(with_reducible exact HR312_8.out)|(with_reducible refine Kd.C_alloc ?_ _)|(with_reducible refine Kd.C_drewN ?_ _)|(with_reducible refine Kd.C_drew ?_)|exact HR312_8.out)) hb)
 have n16_:=Aside0.mk (Kd.C_below (by repeat (first|(with_reducible exact HR312_9.out)|(with_reducible refine Kd.C_alloc ?_ _)|(with_reducible refine Kd.C_drewN ?_ _)|(with_reducible refine Kd.C_drew ?_)|exact HR312_9.out)) hb)
 have n17_:=Aside0.mk (Kd.C_below (by repeat (first|(with_reducible exact HR313_8.out)|(with_reducible refine Kd.C_alloc ?_ _)|(with_reducible refine Kd.C_drewN ?_ _)|(with_reducible refine Kd.C_drew ?_)|exact HR313_8.out)) hb)
 have n18_:=Aside0.mk (Kd.C_below (by repeat (first|(with_reducible exact HR313_9.out)|(with_reducible refine Kd.C_alloc ?_ _)|(with_reducible refine Kd.C_drewN ?_ _)|(with_reducible refine Kd.C_drew ?_)|exact HR313_9.out)) hb)
 have n19_:=Aside0.mk (Kd.C_below (by repeat (first|(with_reducible exact HR314_8.out)|(with_reducible refine Kd.C_alloc ?_ _)|(with_reducible refine Kd.C_drewN ?_ _)|(with_reducible refine Kd.C_drew ?_)|exact HR314_8.out)) hb)
 have n20_:=Aside0.mk (Kd.C_below (by repeat (first|(with_reducible exact HR314_9.out)|(with_reducible refine Kd.C_alloc ?_ _)|(with_reducible refine Kd.C_drewN ?_ _)|(with_reducible refine Kd.C_drew ?_)|exact HR314_9.out)) hb)
 have n21_:=Aside0.mk (Kd.C_below (by repeat (first|(with_reducible exact HR316_8.out)|(with_reducible refine Kd.C_alloc ?_ _)|(with_reducible refine Kd.C_drewN ?_ _)|(with_reducible refine Kd.C_drew ?_)|exact HR316_8.out)) hb)
 have n22_:=Aside0.mk (Kd.C_below (by repeat (first|(with_reducible exact HR316_9.out)|(with_reducible refine Kd.C_alloc ?_ _)|(with_reducible refine Kd.C_drewN ?_ _)|(with_reducible refine Kd.C_drew ?_)|exact HR316_9.out)) hb)
 have n23_:=Aside0.mk (below_step (by repeat (first|(with_reducible first|exact HB.out|apply below_alloc|apply pw_below_drewN|apply below_drew1|refine below_set ?_ GE281.out|refine below_set ?_ GE282.out|refine below_set ?_ GE310.out)|exact HB.out)) hb)
 clear HO301
 clear HO305
 clear HO308
 clear HL312_8
 clear HL312_9
 clear HL313_8
 clear HL313_9
 clear HL314_8
 clear HL314_9
 clear HL316_8
 clear HL316_9
 clear BK281
 clear BK282
 clear BK310
 clear HR312_8
 clear HR312_9
 clear HR313_8
 clear HR313_9
 clear HR314_8
 clear HR314_9
 clear HR316_8
 clear HR316_9
 clear HB
 have HO301:=n0_
 have HO305:=n1_
 have HO308:=n2_
 have HL312_8:=n3_
 have HL312_9:=n4_
 have HL313_8:=n5_
 have HL313_9:=n6_
 have HL314_8:=n7_
 have HL314_9:=n8_
 have HL316_8:=n9_
 have HL316_9:=n10_
 have HO324:=n11_
 have BK281:=n12_
 have BK282:=n13_
 have BK310:=n14_
 have HR312_8:=n15_
 have HR312_9:=n16_
 have HR313_8:=n17_
 have HR313_9:=n18_
 have HR314_8:=n19_
 have HR314_9:=n20_
 have HR316_8:=n21_
 have HR316_9:=n22_
 have HB:=n23_
 clear n0_ n1_ n2_ n3_ n4_ n5_ n6_ n7_ n8_ n9_ n10_ n11_ n12_ n13_ n14_ n15_ n16_ n17_ n18_ n19_ n20_ n21_ n22_ n23_
 clear hb ho42
 obtain ⟨Ao43,co43,eo43⟩:=Kd.R_slice HO324.out
 (first|subst eo43|(injection eo43 with f1_ f2_ f3_;have f4_:=f1_.symm;have f5_:=f3_.symm;clear f1_ f2_ f3_;subst f4_;subst f5_))
 refine hK.out _ _ ⟨(blk_cell BK310.out 0).trans rfl,(blk_cell BK310.out 1).trans rfl,(blk_cell BK310.out 2).trans rfl,(blk_cell BK281.out 0).trans rfl,(blk_cell BK281.out 1).trans rfl,(blk_cell BK281.out 2).trans rfl,(blk_cell BK281.out 3).trans rfl,(blk_cell BK282.out 0).trans rfl,(blk_cell BK282.out 1).trans rfl,(blk_cell BK282.out 2).trans rfl,(blk_cell BK282.out 3).trans rfl,HS11_,HS12_,HS13_,HS14_,HS15_,HS16_,HS17_,HS18_,HS19_,HS20_,HS21_,HS22_,HS23_,HS24_,HS25_,HS26_,HS27_,HS28_,HS29_,HS30_,HS31_,HS32_,HS33_,HS34_,HS35_,HS36_,HS37_,HS38_,HS39_,HS40_,HS41_,HS42_,HS43_,HS44_,HS45_,HS46_,HS47_,HS48_,HS49_,HS50_,HS51_,HS52_,HS53_,HS54_,HS55_,HS56_,HS57_,HS58_⟩ (fun hHeld=>?_)
 clear hK K
 refine norm_ (a':=?_) ?_ ?_
 rotate_left
 ·show Act.put _ (some 74) _ = _
  simp only [Act.put,setIfInBounds_toArray,set_cons_zero,set_cons_succ,i64_w,i32_w]
  rfl
 refine one_ (i:=52) (N:=some 75) #[true,true,true,true,true,true,true,true,true,true,true,true,true,true,true,true,true,true,true,true,true,true,true,true,true,true,true,true,true,true,true,true,true,true,true,true,true,true,true,true,true,true,true,true,true,true,true,true,true,true,true,true,true,false,false] rfl rfl (one_of HT_.out (by kernel_rfl)) (by decide) (fun K hK=>?_)
 refine goes_ Tryd.func21 (by kernel_rfl) rfl #[.slice Ao43 y322.length co43] (by rfl) rfl rfl (by (try simp only [List.map_toArray,List.map_cons,List.map_nil]);rfl) ?_
 with_reducible refine (stream_Done.calls k _ _ y322 true _ ?side1 ?side2 A15.out).mono ?_
 (case side1=>repeat (first|exact (Kd.R_reads' HO324.out).2.2|(with_reducible refine Kd.C_alloc ?_ _)|(with_reducible refine Kd.C_drewN ?_ _)|(with_reducible refine Kd.C_drew ?_)))
 (case side2=>exact (Kd.R_reads' HO324.out).2.1)
 rintro e w44 ⟨rfl,hb⟩
 have HS11_:=(hb.cell (World.block_lt_of_cell? _ _ (hHeld.2.2.2.2.2.2.2.2.2.2.2.1))).trans (hHeld.2.2.2.2.2.2.2.2.2.2.2.1)
 have HS12_:=(hb.cell (World.block_lt_of_cell? _ _ (hHeld.2.2.2.2.2.2.2.2.2.2.2.2.1))).trans (hHeld.2.2.2.2.2.2.2.2.2.2.2.2.1)
 have HS13_:=(hb.cell (World.block_lt_of_cell? _ _ (hHeld.2.2.2.2.2.2.2.2.2.2.2.2.2.1))).trans (hHeld.2.2.2.2.2.2.2.2.2.2.2.2.2.1)
 have HS14_:=(hb.cell (World.block_lt_of_cell? _ _ (hHeld.2.2.2.2.2.2.2.2.2.2.2.2.2.2.1))).trans (hHeld.2.2.2.2.2.2.2.2.2.2.2.2.2.2.1)
 have HS15_:=(hb.cell (World.block_lt_of_cell? _ _ (hHeld.2.2.2.2.2.2.2.2.2.2.2.2.2.2.2.1))).trans (hHeld.2.2.2.2.2.2.2.2.2.2.2.2.2.2.2.1)
 have HS16_:=(hb.cell (World.block_lt_of_cell? _ _ (hHeld.2.2.2.2.2.2.2.2.2.2.2.2.2.2.2.2.1))).trans (hHeld.2.2.2.2.2.2.2.2.2.2.2.2.2.2.2.2.1)
 have HS17_:=(hb.cell (World.block_lt_of_cell? _ _ (hHeld.2.2.2.2.2.2.2.2.2.2.2.2.2.2.2.2.2.1))).trans (hHeld.2.2.2.2.2.2.2.2.2.2.2.2.2.2.2.2.2.1)
 have HS18_:=(hb.cell (World.block_lt_of_cell? _ _ (hHeld.2.2.2.2.2.2.2.2.2.2.2.2.2.2.2.2.2.2.1))).trans (hHeld.2.2.2.2.2.2.2.2.2.2.2.2.2.2.2.2.2.2.1)
 have HS19_:=(hb.cell (World.block_lt_of_cell? _ _ (hHeld.2.2.2.2.2.2.2.2.2.2.2.2.2.2.2.2.2.2.2.1))).trans (hHeld.2.2.2.2.2.2.2.2.2.2.2.2.2.2.2.2.2.2.2.1)
 have HS20_:=(hb.cell (World.block_lt_of_cell? _ _ (hHeld.2.2.2.2.2.2.2.2.2.2.2.2.2.2.2.2.2.2.2.2.1))).trans (hHeld.2.2.2.2.2.2.2.2.2.2.2.2.2.2.2.2.2.2.2.2.1)
 have HS21_:=(hb.cell (World.block_lt_of_cell? _ _ (hHeld.2.2.2.2.2.2.2.2.2.2.2.2.2.2.2.2.2.2.2.2.2.1))).trans (hHeld.2.2.2.2.2.2.2.2.2.2.2.2.2.2.2.2.2.2.2.2.2.1)
 have HS22_:=(hb.cell (World.block_lt_of_cell? _ _ (hHeld.2.2.2.2.2.2.2.2.2.2.2.2.2.2.2.2.2.2.2.2.2.2.1))).trans (hHeld.2.2.2.2.2.2.2.2.2.2.2.2.2.2.2.2.2.2.2.2.2.2.1)
 have HS23_:=(hb.cell (World.block_lt_of_cell? _ _ (hHeld.2.2.2.2.2.2.2.2.2.2.2.2.2.2.2.2.2.2.2.2.2.2.2.1))).trans (hHeld.2.2.2.2.2.2.2.2.2.2.2.2.2.2.2.2.2.2.2.2.2.2.2.1)
 have HS24_:=(hb.cell (World.block_lt_of_cell? _ _ (hHeld.2.2.2.2.2.2.2.2.2.2.2.2.2.2.2.2.2.2.2.2.2.2.2.2.1))).trans (hHeld.2.2.2.2.2.2.2.2.2.2.2.2.2.2.2.2.2.2.2.2.2.2.2.2.1)
 have HS25_:=(hb.cell (World.block_lt_of_cell? _ _ (hHeld.2.2.2.2.2.2.2.2.2.2.2.2.2.2.2.2.2.2.2.2.2.2.2.2.2.1))).trans (hHeld.2.2.2.2.2.2.2.2.2.2.2.2.2.2.2.2.2.2.2.2.2.2.2.2.2.1)
 have HS26_:=(hb.cell (World.block_lt_of_cell? _ _ (hHeld.2.2.2.2.2.2.2.2.2.2.2.2.2.2.2.2.2.2.2.2.2.2.2.2.2.2.1))).trans (hHeld.2.2.2.2.2.2.2.2.2.2.2.2.2.2.2.2.2.2.2.2.2.2.2.2.2.2.1)
 have HS27_:=(hb.cell (World.block_lt_of_cell? _ _ (hHeld.2.2.2.2.2.2.2.2.2.2.2.2.2.2.2.2.2.2.2.2.2.2.2.2.2.2.2.1))).trans (hHeld.2.2.2.2.2.2.2.2.2.2.2.2.2.2.2.2.2.2.2.2.2.2.2.2.2.2.2.1)
 have HS28_:=(hb.cell (World.block_lt_of_cell? _ _ (hHeld.2.2.2.2.2.2.2.2.2.2.2.2.2.2.2.2.2.2.2.2.2.2.2.2.2.2.2.2.1))).trans (hHeld.2.2.2.2.2.2.2.2.2.2.2.2.2.2.2.2.2.2.2.2.2.2.2.2.2.2.2.2.1)
 have HS29_:=(hb.cell (World.block_lt_of_cell? _ _ (hHeld.2.2.2.2.2.2.2.2.2.2.2.2.2.2.2.2.2.2.2.2.2.2.2.2.2.2.2.2.2.1))).trans (hHeld.2.2.2.2.2.2.2.2.2.2.2.2.2.2.2.2.2.2.2.2.2.2.2.2.2.2.2.2.2.1)
 have HS30_:=(hb.cell (World.block_lt_of_cell? _ _ (hHeld.2.2.2.2.2.2.2.2.2.2.2.2.2.2.2.2.2.2.2.2.2.2.2.2.2.2.2.2.2.2.1))).trans (hHeld.2.2.2.2.2.2.2.2.2.2.2.2.2.2.2.2.2.2.2.2.2.2.2.2.2.2.2.2.2.2.1)
 have HS31_:=(hb.cell (World.block_lt_of_cell? _ _ (hHeld.2.2.2.2.2.2.2.2.2.2.2.2.2.2.2.2.2.2.2.2.2.2.2.2.2.2.2.2.2.2.2.1))).trans (hHeld.2.2.2.2.2.2.2.2.2.2.2.2.2.2.2.2.2.2.2.2.2.2.2.2.2.2.2.2.2.2.2.1)
 have HS32_:=(hb.cell (World.block_lt_of_cell? _ _ (hHeld.2.2.2.2.2.2.2.2.2.2.2.2.2.2.2.2.2.2.2.2.2.2.2.2.2.2.2.2.2.2.2.2.1))).trans (hHeld.2.2.2.2.2.2.2.2.2.2.2.2.2.2.2.2.2.2.2.2.2.2.2.2.2.2.2.2.2.2.2.2.1)
 have HS33_:=(hb.cell (World.block_lt_of_cell? _ _ (hHeld.2.2.2.2.2.2.2.2.2.2.2.2.2.2.2.2.2.2.2.2.2.2.2.2.2.2.2.2.2.2.2.2.2.1))).trans (hHeld.2.2.2.2.2.2.2.2.2.2.2.2.2.2.2.2.2.2.2.2.2.2.2.2.2.2.2.2.2.2.2.2.2.1)
 have HS34_:=(hb.cell (World.block_lt_of_cell? _ _ (hHeld.2.2.2.2.2.2.2.2.2.2.2.2.2.2.2.2.2.2.2.2.2.2.2.2.2.2.2.2.2.2.2.2.2.2.1))).trans (hHeld.2.2.2.2.2.2.2.2.2.2.2.2.2.2.2.2.2.2.2.2.2.2.2.2.2.2.2.2.2.2.2.2.2.2.1)
 have HS35_:=(hb.cell (World.block_lt_of_cell? _ _ (hHeld.2.2.2.2.2.2.2.2.2.2.2.2.2.2.2.2.2.2.2.2.2.2.2.2.2.2.2.2.2.2.2.2.2.2.2.1))).trans (hHeld.2.2.2.2.2.2.2.2.2.2.2.2.2.2.2.2.2.2.2.2.2.2.2.2.2.2.2.2.2.2.2.2.2.2.2.1)
 have HS36_:=(hb.cell (World.block_lt_of_cell? _ _ (hHeld.2.2.2.2.2.2.2.2.2.2.2.2.2.2.2.2.2.2.2.2.2.2.2.2.2.2.2.2.2.2.2.2.2.2.2.2.1))).trans (hHeld.2.2.2.2.2.2.2.2.2.2.2.2.2.2.2.2.2.2.2.2.2.2.2.2.2.2.2.2.2.2.2.2.2.2.2.2.1)
 have HS37_:=(hb.cell (World.block_lt_of_cell? _ _ (hHeld.2.2.2.2.2.2.2.2.2.2.2.2.2.2.2.2.2.2.2.2.2.2.2.2.2.2.2.2.2.2.2.2.2.2.2.2.2.1))).trans (hHeld.2.2.2.2.2.2.2.2.2.2.2.2.2.2.2.2.2.2.2.2.2.2.2.2.2.2.2.2.2.2.2.2.2.2.2.2.2.1)
 have HS38_:=(hb.cell (World.block_lt_of_cell? _ _ (hHeld.2.2.2.2.2.2.2.2.2.2.2.2.2.2.2.2.2.2.2.2.2.2.2.2.2.2.2.2.2.2.2.2.2.2.2.2.2.2.1))).trans (hHeld.2.2.2.2.2.2.2.2.2.2.2.2.2.2.2.2.2.2.2.2.2.2.2.2.2.2.2.2.2.2.2.2.2.2.2.2.2.2.1)
 have HS39_:=(hb.cell (World.block_lt_of_cell? _ _ (hHeld.2.2.2.2.2.2.2.2.2.2.2.2.2.2.2.2.2.2.2.2.2.2.2.2.2.2.2.2.2.2.2.2.2.2.2.2.2.2.2.1))).trans (hHeld.2.2.2.2.2.2.2.2.2.2.2.2.2.2.2.2.2.2.2.2.2.2.2.2.2.2.2.2.2.2.2.2.2.2.2.2.2.2.2.1)
 have HS40_:=(hb.cell (World.block_lt_of_cell? _ _ (hHeld.2.2.2.2.2.2.2.2.2.2.2.2.2.2.2.2.2.2.2.2.2.2.2.2.2.2.2.2.2.2.2.2.2.2.2.2.2.2.2.2.1))).trans (hHeld.2.2.2.2.2.2.2.2.2.2.2.2.2.2.2.2.2.2.2.2.2.2.2.2.2.2.2.2.2.2.2.2.2.2.2.2.2.2.2.2.1)
 have HS41_:=(hb.cell (World.block_lt_of_cell? _ _ (hHeld.2.2.2.2.2.2.2.2.2.2.2.2.2.2.2.2.2.2.2.2.2.2.2.2.2.2.2.2.2.2.2.2.2.2.2.2.2.2.2.2.2.1))).trans (hHeld.2.2.2.2.2.2.2.2.2.2.2.2.2.2.2.2.2.2.2.2.2.2.2.2.2.2.2.2.2.2.2.2.2.2.2.2.2.2.2.2.2.1)
 have HS42_:=(hb.cell (World.block_lt_of_cell? _ _ (hHeld.2.2.2.2.2.2.2.2.2.2.2.2.2.2.2.2.2.2.2.2.2.2.2.2.2.2.2.2.2.2.2.2.2.2.2.2.2.2.2.2.2.2.1))).trans (hHeld.2.2.2.2.2.2.2.2.2.2.2.2.2.2.2.2.2.2.2.2.2.2.2.2.2.2.2.2.2.2.2.2.2.2.2.2.2.2.2.2.2.2.1)
 have HS43_:=(hb.cell (World.block_lt_of_cell? _ _ (hHeld.2.2.2.2.2.2.2.2.2.2.2.2.2.2.2.2.2.2.2.2.2.2.2.2.2.2.2.2.2.2.2.2.2.2.2.2.2.2.2.2.2.2.2.1))).trans (hHeld.2.2.2.2.2.2.2.2.2.2.2.2.2.2.2.2.2.2.2.2.2.2.2.2.2.2.2.2.2.2.2.2.2.2.2.2.2.2.2.2.2.2.2.1)
 have HS44_:=(hb.cell (World.block_lt_of_cell? _ _ (hHeld.2.2.2.2.2.2.2.2.2.2.2.2.2.2.2.2.2.2.2.2.2.2.2.2.2.2.2.2.2.2.2.2.2.2.2.2.2.2.2.2.2.2.2.2.1))).trans (hHeld.2.2.2.2.2.2.2.2.2.2.2.2.2.2.2.2.2.2.2.2.2.2.2.2.2.2.2.2.2.2.2.2.2.2.2.2.2.2.2.2.2.2.2.2.1)
 have HS45_:=(hb.cell (World.block_lt_of_cell? _ _ (hHeld.2.2.2.2.2.2.2.2.2.2.2.2.2.2.2.2.2.2.2.2.2.2.2.2.2.2.2.2.2.2.2.2.2.2.2.2.2.2.2.2.2.2.2.2.2.1))).trans (hHeld.2.2.2.2.2.2.2.2.2.2.2.2.2.2.2.2.2.2.2.2.2.2.2.2.2.2.2.2.2.2.2.2.2.2.2.2.2.2.2.2.2.2.2.2.2.1)
 have HS46_:=(hb.cell (World.block_lt_of_cell? _ _ (hHeld.2.2.2.2.2.2.2.2.2.2.2.2.2.2.2.2.2.2.2.2.2.2.2.2.2.2.2.2.2.2.2.2.2.2.2.2.2.2.2.2.2.2.2.2.2.2.1))).trans (hHeld.2.2.2.2.2.2.2.2.2.2.2.2.2.2.2.2.2.2.2.2.2.2.2.2.2.2.2.2.2.2.2.2.2.2.2.2.2.2.2.2.2.2.2.2.2.2.1)
 have HS47_:=(hb.cell (World.block_lt_of_cell? _ _ (hHeld.2.2.2.2.2.2.2.2.2.2.2.2.2.2.2.2.2.2.2.2.2.2.2.2.2.2.2.2.2.2.2.2.2.2.2.2.2.2.2.2.2.2.2.2.2.2.2.1))).trans (hHeld.2.2.2.2.2.2.2.2.2.2.2.2.2.2.2.2.2.2.2.2.2.2.2.2.2.2.2.2.2.2.2.2.2.2.2.2.2.2.2.2.2.2.2.2.2.2.2.1)
 have HS48_:=(hb.cell (World.block_lt_of_cell? _ _ (hHeld.2.2.2.2.2.2.2.2.2.2.2.2.2.2.2.2.2.2.2.2.2.2.2.2.2.2.2.2.2.2.2.2.2.2.2.2.2.2.2.2.2.2.2.2.2.2.2.2.1))).trans (hHeld.2.2.2.2.2.2.2.2.2.2.2.2.2.2.2.2.2.2.2.2.2.2.2.2.2.2.2.2.2.2.2.2.2.2.2.2.2.2.2.2.2.2.2.2.2.2.2.2.1)
 have HS49_:=(hb.cell (World.block_lt_of_cell? _ _ (hHeld.2.2.2.2.2.2.2.2.2.2.2.2.2.2.2.2.2.2.2.2.2.2.2.2.2.2.2.2.2.2.2.2.2.2.2.2.2.2.2.2.2.2.2.2.2.2.2.2.2.1))).trans (hHeld.2.2.2.2.2.2.2.2.2.2.2.2.2.2.2.2.2.2.2.2.2.2.2.2.2.2.2.2.2.2.2.2.2.2.2.2.2.2.2.2.2.2.2.2.2.2.2.2.2.1)
 have HS50_:=(hb.cell (World.block_lt_of_cell? _ _ (hHeld.2.2.2.2.2.2.2.2.2.2.2.2.2.2.2.2.2.2.2.2.2.2.2.2.2.2.2.2.2.2.2.2.2.2.2.2.2.2.2.2.2.2.2.2.2.2.2.2.2.2.1))).trans (hHeld.2.2.2.2.2.2.2.2.2.2.2.2.2.2.2.2.2.2.2.2.2.2.2.2.2.2.2.2.2.2.2.2.2.2.2.2.2.2.2.2.2.2.2.2.2.2.2.2.2.2.1)
 have HS51_:=(hb.cell (World.block_lt_of_cell? _ _ (hHeld.2.2.2.2.2.2.2.2.2.2.2.2.2.2.2.2.2.2.2.2.2.2.2.2.2.2.2.2.2.2.2.2.2.2.2.2.2.2.2.2.2.2.2.2.2.2.2.2.2.2.2.1))).trans (hHeld.2.2.2.2.2.2.2.2.2.2.2.2.2.2.2.2.2.2.2.2.2.2.2.2.2.2.2.2.2.2.2.2.2.2.2.2.2.2.2.2.2.2.2.2.2.2.2.2.2.2.2.1)
 have HS52_:=(hb.cell (World.block_lt_of_cell? _ _ (hHeld.2.2.2.2.2.2.2.2.2.2.2.2.2.2.2.2.2.2.2.2.2.2.2.2.2.2.2.2.2.2.2.2.2.2.2.2.2.2.2.2.2.2.2.2.2.2.2.2.2.2.2.2.1))).trans (hHeld.2.2.2.2.2.2.2.2.2.2.2.2.2.2.2.2.2.2.2.2.2.2.2.2.2.2.2.2.2.2.2.2.2.2.2.2.2.2.2.2.2.2.2.2.2.2.2.2.2.2.2.2.1)
 have HS53_:=(hb.cell (World.block_lt_of_cell? _ _ (hHeld.2.2.2.2.2.2.2.2.2.2.2.2.2.2.2.2.2.2.2.2.2.2.2.2.2.2.2.2.2.2.2.2.2.2.2.2.2.2.2.2.2.2.2.2.2.2.2.2.2.2.2.2.2.1))).trans (hHeld.2.2.2.2.2.2.2.2.2.2.2.2.2.2.2.2.2.2.2.2.2.2.2.2.2.2.2.2.2.2.2.2.2.2.2.2.2.2.2.2.2.2.2.2.2.2.2.2.2.2.2.2.2.1)
 have HS54_:=(hb.cell (World.block_lt_of_cell? _ _ (hHeld.2.2.2.2.2.2.2.2.2.2.2.2.2.2.2.2.2.2.2.2.2.2.2.2.2.2.2.2.2.2.2.2.2.2.2.2.2.2.2.2.2.2.2.2.2.2.2.2.2.2.2.2.2.2.1))).trans (hHeld.2.2.2.2.2.2.2.2.2.2.2.2.2.2.2.2.2.2.2.2.2.2.2.2.2.2.2.2.2.2.2.2.2.2.2.2.2.2.2.2.2.2.2.2.2.2.2.2.2.2.2.2.2.2.1)
 have HS55_:=(hb.cell (World.block_lt_of_cell? _ _ (hHeld.2.2.2.2.2.2.2.2.2.2.2.2.2.2.2.2.2.2.2.2.2.2.2.2.2.2.2.2.2.2.2.2.2.2.2.2.2.2.2.2.2.2.2.2.2.2.2.2.2.2.2.2.2.2.2.1))).trans (hHeld.2.2.2.2.2.2.2.2.2.2.2.2.2.2.2.2.2.2.2.2.2.2.2.2.2.2.2.2.2.2.2.2.2.2.2.2.2.2.2.2.2.2.2.2.2.2.2.2.2.2.2.2.2.2.2.1)
 have HS56_:=(hb.cell (World.block_lt_of_cell? _ _ (hHeld.2.2.2.2.2.2.2.2.2.2.2.2.2.2.2.2.2.2.2.2.2.2.2.2.2.2.2.2.2.2.2.2.2.2.2.2.2.2.2.2.2.2.2.2.2.2.2.2.2.2.2.2.2.2.2.2.1))).trans (hHeld.2.2.2.2.2.2.2.2.2.2.2.2.2.2.2.2.2.2.2.2.2.2.2.2.2.2.2.2.2.2.2.2.2.2.2.2.2.2.2.2.2.2.2.2.2.2.2.2.2.2.2.2.2.2.2.2.1)
 have HS57_:=(hb.cell (World.block_lt_of_cell? _ _ (hHeld.2.2.2.2.2.2.2.2.2.2.2.2.2.2.2.2.2.2.2.2.2.2.2.2.2.2.2.2.2.2.2.2.2.2.2.2.2.2.2.2.2.2.2.2.2.2.2.2.2.2.2.2.2.2.2.2.2.1))).trans (hHeld.2.2.2.2.2.2.2.2.2.2.2.2.2.2.2.2.2.2.2.2.2.2.2.2.2.2.2.2.2.2.2.2.2.2.2.2.2.2.2.2.2.2.2.2.2.2.2.2.2.2.2.2.2.2.2.2.2.1)
 have HS58_:=(hb.cell (World.block_lt_of_cell? _ _ (hHeld.2.2.2.2.2.2.2.2.2.2.2.2.2.2.2.2.2.2.2.2.2.2.2.2.2.2.2.2.2.2.2.2.2.2.2.2.2.2.2.2.2.2.2.2.2.2.2.2.2.2.2.2.2.2.2.2.2.2))).trans (hHeld.2.2.2.2.2.2.2.2.2.2.2.2.2.2.2.2.2.2.2.2.2.2.2.2.2.2.2.2.2.2.2.2.2.2.2.2.2.2.2.2.2.2.2.2.2.2.2.2.2.2.2.2.2.2.2.2.2.2)
 refine ⟨_,rfl,?_⟩
 have n0_:=Aside0.mk (Kd.R_below (by (with_reducible repeat (first|apply Kd.R_alloc|apply Kd.R_drewN|apply Kd.R_drew));exact HO301.out) hb)
 have n1_:=Aside0.mk (Kd.R_below (by (with_reducible repeat (first|apply Kd.R_alloc|apply Kd.R_drewN|apply Kd.R_drew));exact HO305.out) hb)
 have n2_:=Aside0.mk (Kd.S_below (by (with_reducible repeat (first|apply Kd.S_alloc|apply Kd.S_drewN|apply Kd.S_drew));exact HO308.out) hb)
 have n3_:=Aside0.mk (Kd.R_below (by (with_reducible repeat (first|apply Kd.R_alloc|apply Kd.R_drewN|apply Kd.R_drew));exact HL312_8.out) hb)
 have n4_:=Aside0.mk (Kd.R_below (by (with_reducible repeat (first|apply Kd.R_alloc|apply Kd.R_drewN|apply Kd.R_drew));exact HL312_9.out) hb)
 have n5_:=Aside0.mk (Kd.R_below (by (with_reducible repeat (first|apply Kd.R_alloc|apply Kd.R_drewN|apply Kd.R_drew));exact HL313_8.out) hb)
 have n6_:=Aside0.mk (Kd.R_below (by (with_reducible repeat (first|apply Kd.R_alloc|apply Kd.R_drewN|apply Kd.R_drew));exact HL313_9.out) hb)
 have n7_:=Aside0.mk (Kd.R_below (by (with_reducible repeat (first|apply Kd.R_alloc|apply Kd.R_drewN|apply Kd.R_drew));exact HL314_8.out) hb)
 have n8_:=Aside0.mk (Kd.R_below (by (with_reducible repeat (first|apply Kd.R_alloc|apply Kd.R_drewN|apply Kd.R_drew));exact HL314_9.out) hb)
 have n9_:=Aside0.mk (Kd.R_below (by (with_reducible repeat (first|apply Kd.R_alloc|apply Kd.R_drewN|apply Kd.R_drew));exact HL316_8.out) hb)
 have n10_:=Aside0.mk (Kd.R_below (by (with_reducible repeat (first|apply Kd.R_alloc|apply Kd.R_drewN|apply Kd.R_drew));exact HL316_9.out) hb)
 have n11_:=Aside0.mk (Kd.R_below (by (with_reducible repeat (first|apply Kd.R_alloc|apply Kd.R_drewN|apply Kd.R_drew));exact HO324.out) hb)
 have n12_:=Aside0.mk (blk_below (g:=gb281) (o:=.cells #[.string (⟨#[1,120]⟩:ByteArray),.int .u16 99,.int .u32 0,.string (⟨#[]⟩:ByteArray)] 32 (0,0)) (by (with_reducible repeat (first|apply blk_drewN|apply blk_drew|apply blk_alloc));exact BK281.out) hb)
 have n13_:=Aside0.mk (blk_below (g:=gb282) (o:=.cells #[.string (⟨#[1,121]⟩:ByteArray),.int .u16 99,.int .u32 0,.string (⟨#[]⟩:ByteArray)] 32 (0,0)) (by (with_reducible repeat (first|apply blk_drewN|apply blk_drew|apply blk_alloc));exact BK282.out) hb)
 have n14_:=Aside0.mk (blk_below (g:=gb310) (o:=.cells #[.bool t302,.slice Ao34 t303.length co34,.slice (some ad312) t306.length co36] 48 (0,0)) (by (with_reducible repeat (first|apply blk_drewN|apply blk_drew|apply blk_alloc));exact BK310.out) hb)
 have n15_:=Aside0.mk (Kd.C_below (by repeat (first|(with_reducible exact HR312_8.out)|(with_reducible refine Kd.C_alloc ?_ _)|(with_reducible refine Kd.C_drewN ?_ _)|(with_reducible refine Kd.C_drew ?_)|exact HR312_8.out)) hb)
 have n16_:=Aside0.mk (Kd.C_below (by repeat (first|(with_reducible exact HR312_9.out)|(with_reducible refine Kd.C_alloc ?_ _)|(with_reducible refine Kd.C_drewN ?_ _)|(with_reducible refine Kd.C_drew ?_)|exact HR312_9.out)) hb)
 have n17_:=Aside0.mk (Kd.C_below (by repeat (first|(with_reducible exact HR313_8.out)|(with_reducible refine Kd.C_alloc ?_ _)|(with_reducible refine Kd.C_drewN ?_ _)|(with_reducible refine Kd.C_drew ?_)|exact HR313_8.out)) hb)
 have n18_:=Aside0.mk (Kd.C_below (by repeat (first|(with_reducible exact HR313_9.out)|(with_reducible refine Kd.C_alloc ?_ _)|(with_reducible refine Kd.C_drewN ?_ _)|(with_reducible refine Kd.C_drew ?_)|exact HR313_9.out)) hb)
 have n19_:=Aside0.mk (Kd.C_below (by repeat (first|(with_reducible exact HR314_8.out)|(with_reducible refine Kd.C_alloc ?_ _)|(with_reducible refine Kd.C_drewN ?_ _)|(with_reducible refine Kd.C_drew ?_)|exact HR314_8.out)) hb)
 have n20_:=Aside0.mk (Kd.C_below (by repeat (first|(with_reducible exact HR314_9.out)|(with_reducible refine Kd.C_alloc ?_ _)|(with_reducible refine Kd.C_drewN ?_ _)|(with_reducible refine Kd.C_drew ?_)|exact HR314_9.out)) hb)
 have n21_:=Aside0.mk (Kd.C_below (by repeat (first|(with_reducible exact HR316_8.out)|(with_reducible refine Kd.C_alloc ?_ _)|(with_reducible refine Kd.C_drewN ?_ _)|(with_reducible refine Kd.C_drew ?_)|exact HR316_8.out)) hb)
 have n22_:=Aside0.mk (Kd.C_below (by repeat (first|(with_reducible exact HR316_9.out)|(with_reducible refine Kd.C_alloc ?_ _)|(with_reducible refine Kd.C_drewN ?_ _)|(with_reducible refine Kd.C_drew ?_)|exact HR316_9.out)) hb)
 have n23_:=Aside0.mk (below_step (by repeat (first|(with_reducible first|exact HB.out|apply below_alloc|apply pw_below_drewN|apply below_drew1|refine below_set ?_ GE281.out|refine below_set ?_ GE282.out|refine below_set ?_ GE310.out)|exact HB.out)) hb)
 clear HO301
 clear HO305
 clear HO308
 clear HL312_8
 clear HL312_9
 clear HL313_8
 clear HL313_9
 clear HL314_8
 clear HL314_9
 clear HL316_8
 clear HL316_9
 clear HO324
 clear BK281
 clear BK282
 clear BK310
 clear HR312_8
 clear HR312_9
 clear HR313_8
 clear HR313_9
 clear HR314_8
 clear HR314_9
 clear HR316_8
 clear HR316_9
 clear HB
 have HO301:=n0_
 have HO305:=n1_
 have HO308:=n2_
 have HL312_8:=n3_
 have HL312_9:=n4_
 have HL313_8:=n5_
 have HL313_9:=n6_
 have HL314_8:=n7_
 have HL314_9:=n8_
 have HL316_8:=n9_
 have HL316_9:=n10_
 have HO324:=n11_
 have BK281:=n12_
 have BK282:=n13_
 have BK310:=n14_
 have HR312_8:=n15_
 have HR312_9:=n16_
 have HR313_8:=n17_
 have HR313_9:=n18_
 have HR314_8:=n19_
 have HR314_9:=n20_
 have HR316_8:=n21_
 have HR316_9:=n22_
 have HB:=n23_
 clear n0_ n1_ n2_ n3_ n4_ n5_ n6_ n7_ n8_ n9_ n10_ n11_ n12_ n13_ n14_ n15_ n16_ n17_ n18_ n19_ n20_ n21_ n22_ n23_
 (try clear hb)
 (try clear hb2)
 (try clear hk)
 (try clear hi)
 refine hK.out _ _ ⟨(blk_cell BK310.out 0).trans rfl,(blk_cell BK310.out 1).trans rfl,(blk_cell BK310.out 2).trans rfl,(blk_cell BK281.out 0).trans rfl,(blk_cell BK281.out 1).trans rfl,(blk_cell BK281.out 2).trans rfl,(blk_cell BK281.out 3).trans rfl,(blk_cell BK282.out 0).trans rfl,(blk_cell BK282.out 1).trans rfl,(blk_cell BK282.out 2).trans rfl,(blk_cell BK282.out 3).trans rfl,HS11_,HS12_,HS13_,HS14_,HS15_,HS16_,HS17_,HS18_,HS19_,HS20_,HS21_,HS22_,HS23_,HS24_,HS25_,HS26_,HS27_,HS28_,HS29_,HS30_,HS31_,HS32_,HS33_,HS34_,HS35_,HS36_,HS37_,HS38_,HS39_,HS40_,HS41_,HS42_,HS43_,HS44_,HS45_,HS46_,HS47_,HS48_,HS49_,HS50_,HS51_,HS52_,HS53_,HS54_,HS55_,HS56_,HS57_,HS58_⟩ (fun hHeld=>?_)
 clear hK K
 refine norm_ (a':=?_) ?_ ?_
 rotate_left
 ·show Act.put _ (some 75) _ = _
  simp only [Act.put,setIfInBounds_toArray,set_cons_zero,set_cons_succ,i64_w,i32_w]
  rfl
 refine pure_ (i:=53) (N:=some 76) (v:=?_) (a':=?_) #[true,true,true,true,true,true,true,true,true,true,true,true,true,true,true,true,true,true,true,true,true,true,true,true,true,true,true,true,true,true,true,true,true,true,true,true,true,true,true,true,true,true,true,true,true,true,true,true,true,true,true,true,true,true,false] rfl rfl (any_of HT_.out (by kernel_rfl)) (fun _ _ _ h=>h) (Or.inl ⟨by rfl,?_⟩) ?_ ?_
 rotate_left
 ·intro w'
  go_simp
  with_reducible rfl
 rotate_left
 ·simp only [Act.put,setIfInBounds_toArray,set_cons_zero,set_cons_succ,i64_w,i32_w]
  rfl
 refine pure_ (i:=54) (N:=some 0) (v:=?_) (a':=?_) #[true,true,true,true,true,true,true,true,true,true,true,true,true,true,true,true,true,true,true,true,true,true,true,true,true,true,true,true,true,true,true,true,true,true,true,true,true,true,true,true,true,true,true,true,true,true,true,true,true,true,true,true,true,true,true] rfl rfl (any_of HT_.out (by kernel_rfl)) (fun _ _ _ h=>h) (Or.inl ⟨by rfl,?_⟩) ?_ ?_
 rotate_left
 ·intro w'
  go_simp
  with_reducible rfl
 rotate_left
 ·simp only [Act.put,setIfInBounds_toArray,set_cons_zero,set_cons_succ,i64_w,i32_w]
  rfl
 refine done_ (done_of HT_.out (by kernel_rfl)) ?_
 try go_wp2
 go_ret
 exact ⟨by first|rfl|(simp [errW_none,errW_some] <;> rfl)|(simp [*,errW_none,errW_some] <;> rfl),by repeat (first|(with_reducible first|exact HB.out|apply below_alloc|apply pw_below_drewN|apply below_drew1|refine below_set ?_ GE281.out|refine below_set ?_ GE282.out|refine below_set ?_ GE310.out)|exact HB.out)⟩
def aw_s (b:UInt8):S32:=⟨⟨#[]⟩,6,0,⟨#[0,0,0,0,0,b,0,0,0,0,0,0,0,0,0,0,0,0,0,0,0,0]⟩⟩
def aw_x (b:UInt8):S32:=⟨⟨#[1,b]⟩,99,0,⟨#[]⟩⟩
def bolterlaw09_awake.f (k:Nat):Option Bool:=some true
theorem bolterlaw09_awake.mono:∀ k,LeO (bolterlaw09_awake.f k) (bolterlaw09_awake.f (k + 1)):=fun _=>LeO.refl _
theorem bolterlaw09_awake.calls (k:Nat) (r:Bool) (w:World) (h:bolterlaw09_awake.f k = some r) :
  Calls Tryd.prog 7 #[] w fun e w'=>e = .returned (.bool r)∧Below w.heap.size w w':=by
 obtain rfl:=Option.some.inj h
 refine bolterlaw09_awake.walk 60 w _ _ _ _ _ _ _ _ _ _ _ _ _ _ _ _ _ _ _ _ [aw_s 3,aw_s 2,aw_x 120,aw_s 3,aw_x 121,aw_s 3] [aw_s 3] false [] [⟨aw_s 2,aw_s 3,[aw_x 120],[aw_x 121]⟩] ⟨(by kernel_rfl:bolterlaw09_awake_1.f 60 3 = some ((aw_s 3).f0,6,0,(aw_s 3).f3))⟩ ⟨(by kernel_rfl:bolterlaw09_awake_1.f 60 2 = some ((aw_s 2).f0,6,0,(aw_s 2).f3))⟩ ⟨(by kernel_rfl:bolterlaw09_awake_1.f 60 3 = some ((aw_s 3).f0,6,0,(aw_s 3).f3))⟩ ⟨(by kernel_rfl:bolterlaw09_awake_1.f 60 3 = some ((aw_s 3).f0,6,0,(aw_s 3).f3))⟩ ⟨rfl⟩ ⟨by kernel_rfl⟩ ?_ ?_ ?_ ?_ ?_ ?_ ?_ ?_ ?_ ?_ ?_ ?_ ?_ ?_ ?_ ?_ ⟨(by kernel_rfl:bolterlaw09_awake_1.f 60 3 = some ((aw_s 3).f0,6,0,(aw_s 3).f3))⟩ ⟨rfl⟩ ⟨by kernel_rfl⟩ <;> kernel_rfl
end Go.Proofs.YtlobjcokopfbkaaDoor.PY
