import Derived.Test.YtlobjcokopfbkaaDoorPYx0
import Derived.Test.YtlobjcokopfbkaaDoorPYx3
import Derived.Test.YtlobjcokopfbkaaDoorPYx4
namespace Go.Proofs.YtlobjcokopfbkaaDoor.PY
open Go.RowKit Go.Proofs.YtlobjcokopfbkaaDoorW.PrintWords Go.Proofs.YtlobjcokopfbkaaDoorW.PrintLast Go.Proofs.YtlobjcokopfbkaaDoorW.PrintMore
attribute [local go_sem] max2_int min2_int max_two min_two max_three min_three max_four min_four   -- for this text's walks alone
set_option linter.unusedVariables false
set_option linter.unusedSimpArgs false
def bolterlaw09_may.l0:Nat→ByteArray→List (S32)→List (S32)→Int→Int→Option (Bool)
 | 0,_,_,_,_,_=>none
 | k + 1,x0,x1,x7,x8,x9=>if x9 < x8 then (if 0≤x9 then (if x9 < (x7.length:Int) then ((message_MayRecord.f k ((rd_T32 x7 x9).f0) ((rd_T32 x7 x9).f1) ((rd_T32 x7 x9).f2) ((rd_T32 x7 x9).f3)).bind fun t384=>(if t384 = true then ((name_Below.f k ((rd_T32 x7 x9).f0) x0).bind fun t385=>(if t385 = true then (if ((rd_T32 x7 x9).f1) = 6 then (if ((rd_T32 x7 x9).f0).toList = x0.toList then (bolterlaw09_may.l0 k x0 x1 x7 x8 (wrap64 (x9 + 1))) else (some false)) else (bolterlaw09_may.l0 k x0 x1 x7 x8 (wrap64 (x9 + 1)))) else (some false))) else (some false))) else (none)) else (none)) else (if (x1.length:Int) > 0 then (if 0 < (x1.length:Int) then (some (((rd_T32 x1 0).f1) == 6)) else (none)) else (some false))
def bolterlaw09_may.f (k:Nat) (a0:ByteArray) (l1:List (S32)):Option (Bool):=bolterlaw09_may.l0 k a0 l1 l1 (l1.length:Int) 0
theorem bolterlaw09_may.mono_l:∀ k,(∀ y0 y1 y2 y3 y4,LeO (bolterlaw09_may.l0 k y0 y1 y2 y3 y4) (bolterlaw09_may.l0 (k + 1) y0 y1 y2 y3 y4))
 | 0=>fun _ _ _ _ _ r h=>by simp [bolterlaw09_may.l0] at h
 | k + 1=>by
  have ih0:=bolterlaw09_may.mono_l k
  ·intro y0 y1 y2 y3 y4
   unfold bolterlaw09_may.l0
   repeat' first
   | (with_reducible exact ih0 _ _ _ _ _)
   | (with_reducible exact message_MayRecord.mono _ _ _ _ _)
   | (with_reducible exact name_Below.mono _ _ _)
   | (with_reducible exact LeO.refl _)
   | (with_reducible exact LeO.none _)
   | (with_reducible refine LeO.ite ?_ ?_)
   | (with_reducible refine LeO.bind ?_ (fun _=>?_))
   | exact ih0 _ _ _ _ _
   | exact message_MayRecord.mono _ _ _ _ _
   | exact name_Below.mono _ _ _
   | exact LeO.none _
   | refine LeO.ite ?_ ?_
   | refine LeO.bind ?_ (fun _=>?_)
theorem bolterlaw09_may.mono:∀ a0 a1 k,LeO (bolterlaw09_may.f k a0 a1) (bolterlaw09_may.f (k + 1) a0 a1):=by
 intro a0 a1 k
 have ih0:=bolterlaw09_may.mono_l k
 unfold bolterlaw09_may.f
 repeat' first
   | (with_reducible exact ih0 _ _ _ _ _)
   | (with_reducible exact message_MayRecord.mono _ _ _ _ _)
   | (with_reducible exact name_Below.mono _ _ _)
   | (with_reducible exact LeO.refl _)
   | (with_reducible exact LeO.none _)
   | (with_reducible refine LeO.ite ?_ ?_)
   | (with_reducible refine LeO.bind ?_ (fun _=>?_))
   | exact ih0 _ _ _ _ _
   | exact message_MayRecord.mono _ _ _ _ _
   | exact name_Below.mono _ _ _
   | exact LeO.none _
   | refine LeO.ite ?_ ?_
   | refine LeO.bind ?_ (fun _=>?_)
set_option maxHeartbeats 8000000 in
set_option maxRecDepth 100000 in
theorem bolterlaw09_may.calls (k:Nat) (a0:ByteArray) (A1:Option Addr) (c1:Nat) (l1:List (S32)) (r:Bool) (w:World) (hr1:Kd.C k32 w A1 l1.length l1) (hc1:l1.length≤c1) (h:bolterlaw09_may.f k a0 l1 = some r) :
  Calls Tryd.prog 18 #[.string a0,.slice A1 l1.length c1] w fun e w'=>e = .returned (.bool r)∧Below w.heap.size w w':=by
 have hu32:=Tryd.underlying32
 have HR1:=Aside0.mk hr1
 have HC1:=Aside0.mk hc1
 clear hr1 hc1
 have HB:=Aside0.mk (Below.refl w.heap.size w)
 have H:(bolterlaw09_may.l0 k a0 l1 l1 (l1.length:Int) 0) = some r:=h
 clear h
 have H':=Aside0.mk H
 clear H
 go_enter Tryd.func18,Tryd.ntmps18
 go_wp2
 go_loopg [9] k (fun kq v9 w'=>∃ (x9_1:Int),v9 = .int .i64 x9_1∧Aside0 (bolterlaw09_may.l0 kq a0 l1 l1 (l1.length:Int) x9_1 = some r)∧Aside0 (kq≤k)∧Aside0 (Below w.heap.size w w'))
 case atStart=>exact ⟨(0),(by first|rfl|(simp;done)|(simp [*];done)),H',⟨Nat.le_refl _⟩,⟨by repeat (first|(with_reducible first|exact HB.out|apply below_alloc|apply pw_below_drewN|apply below_drew1)|exact HB.out)⟩⟩
 case round =>
  clear H'
  try clear c1
  try clear p2
  obtain ⟨x9_1,rfl,HA,HK1,HB⟩:=hrel
  cases gk with
  | zero=>exact absurd HA.out (by simp [bolterlaw09_may.l0])
  | succ k1 =>
   have H:=HA.out
   clear HA
   simp only [bolterlaw09_may.l0] at H
   by_cases c3:x9_1 < (l1.length:Int)
   ·rw [if_pos c3] at H
    have c3b0:decide (x9_1 < (l1.length:Int)) = true:=decide_eq_true c3
    clear c3
    by_cases c4:0≤x9_1
    ·rw [if_pos c4] at H
     have c4b0:decide (0≤x9_1) = true:=decide_eq_true c4
     clear c4
     by_cases c5:x9_1 < (l1.length:Int)
     ·rw [if_pos c5] at H
      have c5b0:decide (x9_1 < (l1.length:Int)) = true:=decide_eq_true c5
      clear c5
      replace H:=Option.bind_eq_some_iff.mp H
      obtain ⟨t384,A60,H⟩:=H
      replace H:(if t384 = true then ((name_Below.f k1 ((rd_T32 l1 x9_1).f0) a0).bind fun t385=>(if t385 = true then (if ((rd_T32 l1 x9_1).f1) = 6 then (if ((rd_T32 l1 x9_1).f0).toList = a0.toList then (bolterlaw09_may.l0 k1 a0 l1 l1 (l1.length:Int) (wrap64 (x9_1 + 1))) else (some false)) else (bolterlaw09_may.l0 k1 a0 l1 l1 (l1.length:Int) (wrap64 (x9_1 + 1)))) else (some false))) else (some false)) = some r:=H
      have A6:=Aside0.mk A60
      clear A60
      by_cases c7:t384 = true
      ·subst c7
       have H1:((name_Below.f k1 ((rd_T32 l1 x9_1).f0) a0).bind fun t385=>(if t385 = true then (if ((rd_T32 l1 x9_1).f1) = 6 then (if ((rd_T32 l1 x9_1).f0).toList = a0.toList then (bolterlaw09_may.l0 k1 a0 l1 l1 (l1.length:Int) (wrap64 (x9_1 + 1))) else (some false)) else (bolterlaw09_may.l0 k1 a0 l1 l1 (l1.length:Int) (wrap64 (x9_1 + 1)))) else (some false))) = some r:=by rw [if_pos rfl] at H;exact H
       clear H
       have H:=H1
       clear H1
       replace H:=Option.bind_eq_some_iff.mp H
       obtain ⟨t385,A80,H⟩:=H
       replace H:(if t385 = true then (if ((rd_T32 l1 x9_1).f1) = 6 then (if ((rd_T32 l1 x9_1).f0).toList = a0.toList then (bolterlaw09_may.l0 k1 a0 l1 l1 (l1.length:Int) (wrap64 (x9_1 + 1))) else (some false)) else (bolterlaw09_may.l0 k1 a0 l1 l1 (l1.length:Int) (wrap64 (x9_1 + 1)))) else (some false)) = some r:=H
       have A8:=Aside0.mk A80
       clear A80
       by_cases c9:t385 = true
       ·subst c9
        have H1:(if ((rd_T32 l1 x9_1).f1) = 6 then (if ((rd_T32 l1 x9_1).f0).toList = a0.toList then (bolterlaw09_may.l0 k1 a0 l1 l1 (l1.length:Int) (wrap64 (x9_1 + 1))) else (some false)) else (bolterlaw09_may.l0 k1 a0 l1 l1 (l1.length:Int) (wrap64 (x9_1 + 1)))) = some r:=by rw [if_pos rfl] at H;exact H
        clear H
        have H:=H1
        clear H1
        by_cases c10:((rd_T32 l1 x9_1).f1) = 6
        ·rw [if_pos c10] at H
         have c10b0:(((rd_T32 l1 x9_1).f1) == 6) = true:=beq_iff_eq.mpr c10
         have c10b1:(((rd_T32 l1 x9_1).f1) != 6) = false:=bne_eq_false_iff_eq.mpr c10
         clear c10
         by_cases c11:((rd_T32 l1 x9_1).f0).toList = a0.toList
         ·rw [if_pos c11] at H
          have c11b0:(((rd_T32 l1 x9_1).f0).toList == a0.toList) = true:=beq_iff_eq.mpr c11
          have c11b1:(((rd_T32 l1 x9_1).f0).toList != a0.toList) = false:=bne_eq_false_iff_eq.mpr c11
          clear c11
          have H':=Aside0.mk H
          clear H
          have p382:0≤(x9_1:Int):=of_decide_eq_true (by first|(with_reducible assumption)|assumption)
          have q382:x9_1 < (l1.length:Int):=of_decide_eq_true (by first|(with_reducible assumption)|assumption)
          obtain ⟨ad382,e382,hx382_0,hx382_1,hx382_2,hx382_3⟩:=at_T32 HR1.out x9_1 p382 q382
          cases e382
          replace hx382_0:=(HB.out.cell (World.block_lt_of_cell? w _ hx382_0)).trans hx382_0
          replace hx382_1:=(HB.out.cell (World.block_lt_of_cell? w _ hx382_1)).trans hx382_1
          replace hx382_2:=(HB.out.cell (World.block_lt_of_cell? w _ hx382_2)).trans hx382_2
          replace hx382_3:=(HB.out.cell (World.block_lt_of_cell? w _ hx382_3)).trans hx382_3
          replace p382:=eq_true p382
          replace q382:=eq_true q382
          go_wp2_with (first|((with_reducible refine gate_dst (N:=6) rfl ?_);refine box_event ?hg (N:=6) ?hd (cs:=#[.string (⟨#[]⟩:ByteArray),.int .u16 0,.int .u32 0,.string (⟨#[]⟩:ByteArray)]) (t:=32) ?hr ?_;(case hd=>rfl);(case hg=>rfl);(case hr=>first|(go_simp;done)|(go_simp;rfl));intro gb383 hg w12 hbox hb;have n0_:=Aside0.mk (below_step (by repeat (first|(with_reducible first|exact HB.out|apply below_alloc|apply pw_below_drewN|apply below_drew1)|exact HB.out)) hb);have n1_:=Aside0.mk (hbox);have n2_:=Aside0.mk ((by rw [hg];exact (below_size (by repeat (first|(with_reducible first|exact HB.out|apply below_alloc|apply pw_below_drewN|apply below_drew1)|exact HB.out))):w.heap.size≤gb383));have n3_:=Aside0.mk ((by rw [hg];exact (below_size (by repeat (first|(with_reducible first|exact HB.out|apply below_alloc|apply pw_below_drewN|apply below_drew1)|exact HB.out))):w.heap.size≤gb383));clear HB;have HB:=n0_;have BK383:=n1_;have GW383:=n2_;have GE383:=n3_;clear n0_ n1_ n2_ n3_;clear hb hbox hg;have hcz13_0:w12.cell? ⟨gb383,0,none⟩ = some (.string (⟨#[]⟩:ByteArray)):=(blk_cell BK383.out 0).trans rfl;have hcz13_1:w12.cell? ⟨gb383,1,none⟩ = some (.int .u16 0):=(blk_cell BK383.out 1).trans rfl;have hcz13_2:w12.cell? ⟨gb383,2,none⟩ = some (.int .u32 0):=(blk_cell BK383.out 2).trans rfl;have hcz13_3:w12.cell? ⟨gb383,3,none⟩ = some (.string (⟨#[]⟩:ByteArray)):=(blk_cell BK383.out 3).trans rfl;have hfz13_0:=blk_frozen BK383.out 0;have hfz13_1:=blk_frozen BK383.out 1;have hfz13_2:=blk_frozen BK383.out 2;have hfz13_3:=blk_frozen BK383.out 3)|((with_reducible refine gate_callee (f:=31) rfl ?_);refine goesL_ (some 14) rfl rfl Tryd.func31 (by kernel_rfl) rfl #[.agg #[.string ((rd_T32 l1 x9_1).f0),.int .u16 ((rd_T32 l1 x9_1).f1),.int .u32 ((rd_T32 l1 x9_1).f2),.string ((rd_T32 l1 x9_1).f3)]] rfl (by (try simp only [List.map_toArray,List.map_cons,List.map_nil]) <;> first|rfl|(simp only [List.length_drop,List.length_take];rfl)) ?_;(with_reducible refine (message_MayRecord.calls k1 ((rd_T32 l1 x9_1).f0) ((rd_T32 l1 x9_1).f1) ((rd_T32 l1 x9_1).f2) ((rd_T32 l1 x9_1).f3) true _ A6.out).mono ?_);rintro e w14 ⟨rfl,hb⟩;refine ⟨_,rfl,?_⟩;have n0_:=Aside0.mk (blk_below (g:=gb383) (o:=.cells #[.string ((rd_T32 l1 x9_1).f0),.int .u16 ((rd_T32 l1 x9_1).f1),.int .u32 ((rd_T32 l1 x9_1).f2),.string ((rd_T32 l1 x9_1).f3)] 32 (0,0)) (by (with_reducible repeat (first|apply blk_drewN|apply blk_drew|apply blk_alloc));refine blk_put (cs:=#[.string ((rd_T32 l1 x9_1).f0),.int .u16 ((rd_T32 l1 x9_1).f1),.int .u32 ((rd_T32 l1 x9_1).f2),.string (⟨#[]⟩:ByteArray)]) ?_ 3 _ rfl;(with_reducible repeat (first|apply blk_drewN|apply blk_drew|apply blk_alloc));refine blk_put (cs:=#[.string ((rd_T32 l1 x9_1).f0),.int .u16 ((rd_T32 l1 x9_1).f1),.int .u32 0,.string (⟨#[]⟩:ByteArray)]) ?_ 2 _ rfl;(with_reducible repeat (first|apply blk_drewN|apply blk_drew|apply blk_alloc));refine blk_put (cs:=#[.string ((rd_T32 l1 x9_1).f0),.int .u16 0,.int .u32 0,.string (⟨#[]⟩:ByteArray)]) ?_ 1 _ rfl;(with_reducible repeat (first|apply blk_drewN|apply blk_drew|apply blk_alloc));refine blk_put (cs:=#[.string (⟨#[]⟩:ByteArray),.int .u16 0,.int .u32 0,.string (⟨#[]⟩:ByteArray)]) ?_ 0 _ rfl;(with_reducible repeat (first|apply blk_drewN|apply blk_drew|apply blk_alloc));exact BK383.out) hb);have n1_:=Aside0.mk (below_step (by repeat (first|(with_reducible first|exact HB.out|apply below_alloc|apply pw_below_drewN|apply below_drew1|refine below_set ?_ GE383.out)|exact HB.out)) hb);clear BK383;clear HB;have BK383:=n0_;have HB:=n1_;clear n0_ n1_;(try clear hb);(try clear hb2);(try clear hk);(try clear hi);have hcz15_0:w14.cell? ⟨gb383,0,none⟩ = some (.string ((rd_T32 l1 x9_1).f0)):=(blk_cell BK383.out 0).trans rfl;have hcz15_1:w14.cell? ⟨gb383,1,none⟩ = some (.int .u16 ((rd_T32 l1 x9_1).f1)):=(blk_cell BK383.out 1).trans rfl;have hcz15_2:w14.cell? ⟨gb383,2,none⟩ = some (.int .u32 ((rd_T32 l1 x9_1).f2)):=(blk_cell BK383.out 2).trans rfl;have hcz15_3:w14.cell? ⟨gb383,3,none⟩ = some (.string ((rd_T32 l1 x9_1).f3)):=(blk_cell BK383.out 3).trans rfl;have hfz15_0:=blk_frozen BK383.out 0;have hfz15_1:=blk_frozen BK383.out 1;have hfz15_2:=blk_frozen BK383.out 2;have hfz15_3:=blk_frozen BK383.out 3)|(go_at_call 32;(with_reducible refine (name_Below.calls k1 ((rd_T32 l1 x9_1).f0) a0 true _ A8.out).mono ?_);rintro e w16 ⟨rfl,hb⟩;have n0_:=Aside0.mk (blk_below (g:=gb383) (o:=.cells #[.string ((rd_T32 l1 x9_1).f0),.int .u16 ((rd_T32 l1 x9_1).f1),.int .u32 ((rd_T32 l1 x9_1).f2),.string ((rd_T32 l1 x9_1).f3)] 32 (0,0)) (by (with_reducible repeat (first|apply blk_drewN|apply blk_drew|apply blk_alloc));exact BK383.out) hb);have n1_:=Aside0.mk (below_step (by repeat (first|(with_reducible first|exact HB.out|apply below_alloc|apply pw_below_drewN|apply below_drew1|refine below_set ?_ GE383.out)|exact HB.out)) hb);clear BK383;clear HB;have BK383:=n0_;have HB:=n1_;clear n0_ n1_;(try clear hb);(try clear hb2);(try clear hk);(try clear hi);have hcz17_0:w16.cell? ⟨gb383,0,none⟩ = some (.string ((rd_T32 l1 x9_1).f0)):=(blk_cell BK383.out 0).trans rfl;have hcz17_1:w16.cell? ⟨gb383,1,none⟩ = some (.int .u16 ((rd_T32 l1 x9_1).f1)):=(blk_cell BK383.out 1).trans rfl;have hcz17_2:w16.cell? ⟨gb383,2,none⟩ = some (.int .u32 ((rd_T32 l1 x9_1).f2)):=(blk_cell BK383.out 2).trans rfl;have hcz17_3:w16.cell? ⟨gb383,3,none⟩ = some (.string ((rd_T32 l1 x9_1).f3)):=(blk_cell BK383.out 3).trans rfl;have hfz17_0:=blk_frozen BK383.out 0;have hfz17_1:=blk_frozen BK383.out 1;have hfz17_2:=blk_frozen BK383.out 2;have hfz17_3:=blk_frozen BK383.out 3))
          go_roundg k1
          case measure=>have:=HK1.out;omega
          case rel=>exact ⟨(wrap64 (x9_1 + 1)),(by first|rfl|(simp;done)|(simp [*];done)),H',⟨by have:=HK1.out;omega⟩,⟨by repeat (first|(with_reducible first|exact HB.out|apply below_alloc|apply pw_below_drewN|apply below_drew1|refine below_set ?_ GE383.out)|exact HB.out)⟩⟩
         ·rw [if_neg c11] at H
          have c11b0:(((rd_T32 l1 x9_1).f0).toList == a0.toList) = false:=beq_eq_false_iff_ne.mpr c11
          have c11b1:(((rd_T32 l1 x9_1).f0).toList != a0.toList) = true:=bne_iff_ne.mpr c11
          obtain rfl:=Option.some.inj H
          have p382:0≤(x9_1:Int):=of_decide_eq_true (by first|(with_reducible assumption)|assumption)
          have q382:x9_1 < (l1.length:Int):=of_decide_eq_true (by first|(with_reducible assumption)|assumption)
          obtain ⟨ad382,e382,hx382_0,hx382_1,hx382_2,hx382_3⟩:=at_T32 HR1.out x9_1 p382 q382
          cases e382
          replace hx382_0:=(HB.out.cell (World.block_lt_of_cell? w _ hx382_0)).trans hx382_0
          replace hx382_1:=(HB.out.cell (World.block_lt_of_cell? w _ hx382_1)).trans hx382_1
          replace hx382_2:=(HB.out.cell (World.block_lt_of_cell? w _ hx382_2)).trans hx382_2
          replace hx382_3:=(HB.out.cell (World.block_lt_of_cell? w _ hx382_3)).trans hx382_3
          replace p382:=eq_true p382
          replace q382:=eq_true q382
          go_wp2_with (first|((with_reducible refine gate_dst (N:=6) rfl ?_);refine box_event ?hg (N:=6) ?hd (cs:=#[.string (⟨#[]⟩:ByteArray),.int .u16 0,.int .u32 0,.string (⟨#[]⟩:ByteArray)]) (t:=32) ?hr ?_;(case hd=>rfl);(case hg=>rfl);(case hr=>first|(go_simp;done)|(go_simp;rfl));intro gb383 hg w18 hbox hb;have n0_:=Aside0.mk (below_step (by repeat (first|(with_reducible first|exact HB.out|apply below_alloc|apply pw_below_drewN|apply below_drew1)|exact HB.out)) hb);have n1_:=Aside0.mk (hbox);have n2_:=Aside0.mk ((by rw [hg];exact (below_size (by repeat (first|(with_reducible first|exact HB.out|apply below_alloc|apply pw_below_drewN|apply below_drew1)|exact HB.out))):w.heap.size≤gb383));have n3_:=Aside0.mk ((by rw [hg];exact (below_size (by repeat (first|(with_reducible first|exact HB.out|apply below_alloc|apply pw_below_drewN|apply below_drew1)|exact HB.out))):w.heap.size≤gb383));clear HB;have HB:=n0_;have BK383:=n1_;have GW383:=n2_;have GE383:=n3_;clear n0_ n1_ n2_ n3_;clear hb hbox hg;have hcz19_0:w18.cell? ⟨gb383,0,none⟩ = some (.string (⟨#[]⟩:ByteArray)):=(blk_cell BK383.out 0).trans rfl;have hcz19_1:w18.cell? ⟨gb383,1,none⟩ = some (.int .u16 0):=(blk_cell BK383.out 1).trans rfl;have hcz19_2:w18.cell? ⟨gb383,2,none⟩ = some (.int .u32 0):=(blk_cell BK383.out 2).trans rfl;have hcz19_3:w18.cell? ⟨gb383,3,none⟩ = some (.string (⟨#[]⟩:ByteArray)):=(blk_cell BK383.out 3).trans rfl;have hfz19_0:=blk_frozen BK383.out 0;have hfz19_1:=blk_frozen BK383.out 1;have hfz19_2:=blk_frozen BK383.out 2;have hfz19_3:=blk_frozen BK383.out 3)|((with_reducible refine gate_callee (f:=31) rfl ?_);refine goesL_ (some 14) rfl rfl Tryd.func31 (by kernel_rfl) rfl #[.agg #[.string ((rd_T32 l1 x9_1).f0),.int .u16 ((rd_T32 l1 x9_1).f1),.int .u32 ((rd_T32 l1 x9_1).f2),.string ((rd_T32 l1 x9_1).f3)]] rfl (by (try simp only [List.map_toArray,List.map_cons,List.map_nil]) <;> first|rfl|(simp only [List.length_drop,List.length_take];rfl)) ?_;(with_reducible refine (message_MayRecord.calls k1 ((rd_T32 l1 x9_1).f0) ((rd_T32 l1 x9_1).f1) ((rd_T32 l1 x9_1).f2) ((rd_T32 l1 x9_1).f3) true _ A6.out).mono ?_);rintro e w20 ⟨rfl,hb⟩;refine ⟨_,rfl,?_⟩;have n0_:=Aside0.mk (blk_below (g:=gb383) (o:=.cells #[.string ((rd_T32 l1 x9_1).f0),.int .u16 ((rd_T32 l1 x9_1).f1),.int .u32 ((rd_T32 l1 x9_1).f2),.string ((rd_T32 l1 x9_1).f3)] 32 (0,0)) (by (with_reducible repeat (first|apply blk_drewN|apply blk_drew|apply blk_alloc));refine blk_put (cs:=#[.string ((rd_T32 l1 x9_1).f0),.int .u16 ((rd_T32 l1 x9_1).f1),.int .u32 ((rd_T32 l1 x9_1).f2),.string (⟨#[]⟩:ByteArray)]) ?_ 3 _ rfl;(with_reducible repeat (first|apply blk_drewN|apply blk_drew|apply blk_alloc));refine blk_put (cs:=#[.string ((rd_T32 l1 x9_1).f0),.int .u16 ((rd_T32 l1 x9_1).f1),.int .u32 0,.string (⟨#[]⟩:ByteArray)]) ?_ 2 _ rfl;(with_reducible repeat (first|apply blk_drewN|apply blk_drew|apply blk_alloc));refine blk_put (cs:=#[.string ((rd_T32 l1 x9_1).f0),.int .u16 0,.int .u32 0,.string (⟨#[]⟩:ByteArray)]) ?_ 1 _ rfl;(with_reducible repeat (first|apply blk_drewN|apply blk_drew|apply blk_alloc));refine blk_put (cs:=#[.string (⟨#[]⟩:ByteArray),.int .u16 0,.int .u32 0,.string (⟨#[]⟩:ByteArray)]) ?_ 0 _ rfl;(with_reducible repeat (first|apply blk_drewN|apply blk_drew|apply blk_alloc));exact BK383.out) hb);have n1_:=Aside0.mk (below_step (by repeat (first|(with_reducible first|exact HB.out|apply below_alloc|apply pw_below_drewN|apply below_drew1|refine below_set ?_ GE383.out)|exact HB.out)) hb);clear BK383;clear HB;have BK383:=n0_;have HB:=n1_;clear n0_ n1_;(try clear hb);(try clear hb2);(try clear hk);(try clear hi);have hcz21_0:w20.cell? ⟨gb383,0,none⟩ = some (.string ((rd_T32 l1 x9_1).f0)):=(blk_cell BK383.out 0).trans rfl;have hcz21_1:w20.cell? ⟨gb383,1,none⟩ = some (.int .u16 ((rd_T32 l1 x9_1).f1)):=(blk_cell BK383.out 1).trans rfl;have hcz21_2:w20.cell? ⟨gb383,2,none⟩ = some (.int .u32 ((rd_T32 l1 x9_1).f2)):=(blk_cell BK383.out 2).trans rfl;have hcz21_3:w20.cell? ⟨gb383,3,none⟩ = some (.string ((rd_T32 l1 x9_1).f3)):=(blk_cell BK383.out 3).trans rfl;have hfz21_0:=blk_frozen BK383.out 0;have hfz21_1:=blk_frozen BK383.out 1;have hfz21_2:=blk_frozen BK383.out 2;have hfz21_3:=blk_frozen BK383.out 3)|(go_at_call 32;(with_reducible refine (name_Below.calls k1 ((rd_T32 l1 x9_1).f0) a0 true _ A8.out).mono ?_);rintro e w22 ⟨rfl,hb⟩;have n0_:=Aside0.mk (blk_below (g:=gb383) (o:=.cells #[.string ((rd_T32 l1 x9_1).f0),.int .u16 ((rd_T32 l1 x9_1).f1),.int .u32 ((rd_T32 l1 x9_1).f2),.string ((rd_T32 l1 x9_1).f3)] 32 (0,0)) (by (with_reducible repeat (first|apply blk_drewN|apply blk_drew|apply blk_alloc));exact BK383.out) hb);have n1_:=Aside0.mk (below_step (by repeat (first|(with_reducible first|exact HB.out|apply below_alloc|apply pw_below_drewN|apply below_drew1|refine below_set ?_ GE383.out)|exact HB.out)) hb);clear BK383;clear HB;have BK383:=n0_;have HB:=n1_;clear n0_ n1_;(try clear hb);(try clear hb2);(try clear hk);(try clear hi);have hcz23_0:w22.cell? ⟨gb383,0,none⟩ = some (.string ((rd_T32 l1 x9_1).f0)):=(blk_cell BK383.out 0).trans rfl;have hcz23_1:w22.cell? ⟨gb383,1,none⟩ = some (.int .u16 ((rd_T32 l1 x9_1).f1)):=(blk_cell BK383.out 1).trans rfl;have hcz23_2:w22.cell? ⟨gb383,2,none⟩ = some (.int .u32 ((rd_T32 l1 x9_1).f2)):=(blk_cell BK383.out 2).trans rfl;have hcz23_3:w22.cell? ⟨gb383,3,none⟩ = some (.string ((rd_T32 l1 x9_1).f3)):=(blk_cell BK383.out 3).trans rfl;have hfz23_0:=blk_frozen BK383.out 0;have hfz23_1:=blk_frozen BK383.out 1;have hfz23_2:=blk_frozen BK383.out 2;have hfz23_3:=blk_frozen BK383.out 3))
          go_ret
          exact ⟨by first|rfl|(simp [errW_none,errW_some] <;> rfl)|(simp [*,errW_none,errW_some] <;> rfl),by repeat (first|(with_reducible first|exact HB.out|apply below_alloc|apply pw_below_drewN|apply below_drew1|refine below_set ?_ GE383.out)|exact HB.out)⟩
        ·rw [if_neg c10] at H
         have c10b0:(((rd_T32 l1 x9_1).f1) == 6) = false:=beq_eq_false_iff_ne.mpr c10
         have c10b1:(((rd_T32 l1 x9_1).f1) != 6) = true:=bne_iff_ne.mpr c10
         have H':=Aside0.mk H
         clear H
         have p382:0≤(x9_1:Int):=of_decide_eq_true (by first|(with_reducible assumption)|assumption)
         have q382:x9_1 < (l1.length:Int):=of_decide_eq_true (by first|(with_reducible assumption)|assumption)
         obtain ⟨ad382,e382,hx382_0,hx382_1,hx382_2,hx382_3⟩:=at_T32 HR1.out x9_1 p382 q382
         cases e382
         replace hx382_0:=(HB.out.cell (World.block_lt_of_cell? w _ hx382_0)).trans hx382_0
         replace hx382_1:=(HB.out.cell (World.block_lt_of_cell? w _ hx382_1)).trans hx382_1
         replace hx382_2:=(HB.out.cell (World.block_lt_of_cell? w _ hx382_2)).trans hx382_2
         replace hx382_3:=(HB.out.cell (World.block_lt_of_cell? w _ hx382_3)).trans hx382_3
         replace p382:=eq_true p382
         replace q382:=eq_true q382
         go_wp2_with (first|((with_reducible refine gate_dst (N:=6) rfl ?_);refine box_event ?hg (N:=6) ?hd (cs:=#[.string (⟨#[]⟩:ByteArray),.int .u16 0,.int .u32 0,.string (⟨#[]⟩:ByteArray)]) (t:=32) ?hr ?_;(case hd=>rfl);(case hg=>rfl);(case hr=>first|(go_simp;done)|(go_simp;rfl));intro gb383 hg w24 hbox hb;have n0_:=Aside0.mk (below_step (by repeat (first|(with_reducible first|exact HB.out|apply below_alloc|apply pw_below_drewN|apply below_drew1)|exact HB.out)) hb);have n1_:=Aside0.mk (hbox);have n2_:=Aside0.mk ((by rw [hg];exact (below_size (by repeat (first|(with_reducible first|exact HB.out|apply below_alloc|apply pw_below_drewN|apply below_drew1)|exact HB.out))):w.heap.size≤gb383));have n3_:=Aside0.mk ((by rw [hg];exact (below_size (by repeat (first|(with_reducible first|exact HB.out|apply below_alloc|apply pw_below_drewN|apply below_drew1)|exact HB.out))):w.heap.size≤gb383));clear HB;have HB:=n0_;have BK383:=n1_;have GW383:=n2_;have GE383:=n3_;clear n0_ n1_ n2_ n3_;clear hb hbox hg;have hcz25_0:w24.cell? ⟨gb383,0,none⟩ = some (.string (⟨#[]⟩:ByteArray)):=(blk_cell BK383.out 0).trans rfl;have hcz25_1:w24.cell? ⟨gb383,1,none⟩ = some (.int .u16 0):=(blk_cell BK383.out 1).trans rfl;have hcz25_2:w24.cell? ⟨gb383,2,none⟩ = some (.int .u32 0):=(blk_cell BK383.out 2).trans rfl;have hcz25_3:w24.cell? ⟨gb383,3,none⟩ = some (.string (⟨#[]⟩:ByteArray)):=(blk_cell BK383.out 3).trans rfl;have hfz25_0:=blk_frozen BK383.out 0;have hfz25_1:=blk_frozen BK383.out 1;have hfz25_2:=blk_frozen BK383.out 2;have hfz25_3:=blk_frozen BK383.out 3)|((with_reducible refine gate_callee (f:=31) rfl ?_);refine goesL_ (some 14) rfl rfl Tryd.func31 (by kernel_rfl) rfl #[.agg #[.string ((rd_T32 l1 x9_1).f0),.int .u16 ((rd_T32 l1 x9_1).f1),.int .u32 ((rd_T32 l1 x9_1).f2),.string ((rd_T32 l1 x9_1).f3)]] rfl (by (try simp only [List.map_toArray,List.map_cons,List.map_nil]) <;> first|rfl|(simp only [List.length_drop,List.length_take];rfl)) ?_;(with_reducible refine (message_MayRecord.calls k1 ((rd_T32 l1 x9_1).f0) ((rd_T32 l1 x9_1).f1) ((rd_T32 l1 x9_1).f2) ((rd_T32 l1 x9_1).f3) true _ A6.out).mono ?_);rintro e w26 ⟨rfl,hb⟩;refine ⟨_,rfl,?_⟩;have n0_:=Aside0.mk (blk_below (g:=gb383) (o:=.cells #[.string ((rd_T32 l1 x9_1).f0),.int .u16 ((rd_T32 l1 x9_1).f1),.int .u32 ((rd_T32 l1 x9_1).f2),.string ((rd_T32 l1 x9_1).f3)] 32 (0,0)) (by (with_reducible repeat (first|apply blk_drewN|apply blk_drew|apply blk_alloc));refine blk_put (cs:=#[.string ((rd_T32 l1 x9_1).f0),.int .u16 ((rd_T32 l1 x9_1).f1),.int .u32 ((rd_T32 l1 x9_1).f2),.string (⟨#[]⟩:ByteArray)]) ?_ 3 _ rfl;(with_reducible repeat (first|apply blk_drewN|apply blk_drew|apply blk_alloc));refine blk_put (cs:=#[.string ((rd_T32 l1 x9_1).f0),.int .u16 ((rd_T32 l1 x9_1).f1),.int .u32 0,.string (⟨#[]⟩:ByteArray)]) ?_ 2 _ rfl;(with_reducible repeat (first|apply blk_drewN|apply blk_drew|apply blk_alloc));refine blk_put (cs:=#[.string ((rd_T32 l1 x9_1).f0),.int .u16 0,.int .u32 0,.string (⟨#[]⟩:ByteArray)]) ?_ 1 _ rfl;(with_reducible repeat (first|apply blk_drewN|apply blk_drew|apply blk_alloc));refine blk_put (cs:=#[.string (⟨#[]⟩:ByteArray),.int .u16 0,.int .u32 0,.string (⟨#[]⟩:ByteArray)]) ?_ 0 _ rfl;(with_reducible repeat (first|apply blk_drewN|apply blk_drew|apply blk_alloc));exact BK383.out) hb);have n1_:=Aside0.mk (below_step (by repeat (first|(with_reducible first|exact HB.out|apply below_alloc|apply pw_below_drewN|apply below_drew1|refine below_set ?_ GE383.out)|exact HB.out)) hb);clear BK383;clear HB;have BK383:=n0_;have HB:=n1_;clear n0_ n1_;(try clear hb);(try clear hb2);(try clear hk);(try clear hi);have hcz27_0:w26.cell? ⟨gb383,0,none⟩ = some (.string ((rd_T32 l1 x9_1).f0)):=(blk_cell BK383.out 0).trans rfl;have hcz27_1:w26.cell? ⟨gb383,1,none⟩ = some (.int .u16 ((rd_T32 l1 x9_1).f1)):=(blk_cell BK383.out 1).trans rfl;have hcz27_2:w26.cell? ⟨gb383,2,none⟩ = some (.int .u32 ((rd_T32 l1 x9_1).f2)):=(blk_cell BK383.out 2).trans rfl;have hcz27_3:w26.cell? ⟨gb383,3,none⟩ = some (.string ((rd_T32 l1 x9_1).f3)):=(blk_cell BK383.out 3).trans rfl;have hfz27_0:=blk_frozen BK383.out 0;have hfz27_1:=blk_frozen BK383.out 1;have hfz27_2:=blk_frozen BK383.out 2;have hfz27_3:=blk_frozen BK383.out 3)|(go_at_call 32;(with_reducible refine (name_Below.calls k1 ((rd_T32 l1 x9_1).f0) a0 true _ A8.out).mono ?_);rintro e w28 ⟨rfl,hb⟩;have n0_:=Aside0.mk (blk_below (g:=gb383) (o:=.cells #[.string ((rd_T32 l1 x9_1).f0),.int .u16 ((rd_T32 l1 x9_1).f1),.int .u32 ((rd_T32 l1 x9_1).f2),.string ((rd_T32 l1 x9_1).f3)] 32 (0,0)) (by (with_reducible repeat (first|apply blk_drewN|apply blk_drew|apply blk_alloc));exact BK383.out) hb);have n1_:=Aside0.mk (below_step (by repeat (first|(with_reducible first|exact HB.out|apply below_alloc|apply pw_below_drewN|apply below_drew1|refine below_set ?_ GE383.out)|exact HB.out)) hb);clear BK383;clear HB;have BK383:=n0_;have HB:=n1_;clear n0_ n1_;(try clear hb);(try clear hb2);(try clear hk);(try clear hi);have hcz29_0:w28.cell? ⟨gb383,0,none⟩ = some (.string ((rd_T32 l1 x9_1).f0)):=(blk_cell BK383.out 0).trans rfl;have hcz29_1:w28.cell? ⟨gb383,1,none⟩ = some (.int .u16 ((rd_T32 l1 x9_1).f1)):=(blk_cell BK383.out 1).trans rfl;have hcz29_2:w28.cell? ⟨gb383,2,none⟩ = some (.int .u32 ((rd_T32 l1 x9_1).f2)):=(blk_cell BK383.out 2).trans rfl;have hcz29_3:w28.cell? ⟨gb383,3,none⟩ = some (.string ((rd_T32 l1 x9_1).f3)):=(blk_cell BK383.out 3).trans rfl;have hfz29_0:=blk_frozen BK383.out 0;have hfz29_1:=blk_frozen BK383.out 1;have hfz29_2:=blk_frozen BK383.out 2;have hfz29_3:=blk_frozen BK383.out 3))
         go_roundg k1
         case measure=>have:=HK1.out;omega
         case rel=>exact ⟨(wrap64 (x9_1 + 1)),(by first|rfl|(simp;done)|(simp [*];done)),H',⟨by have:=HK1.out;omega⟩,⟨by repeat (first|(with_reducible first|exact HB.out|apply below_alloc|apply pw_below_drewN|apply below_drew1|refine below_set ?_ GE383.out)|exact HB.out)⟩⟩
       ·replace c9:=Bool.eq_false_iff.mpr c9
        subst c9
        have H1:(some false) = some r:=by rw [if_neg (show ¬ (false = true) by decide)] at H;exact H
        clear H
        have H:=H1
        clear H1
        obtain rfl:=Option.some.inj H
        have p382:0≤(x9_1:Int):=of_decide_eq_true (by first|(with_reducible assumption)|assumption)
        have q382:x9_1 < (l1.length:Int):=of_decide_eq_true (by first|(with_reducible assumption)|assumption)
        obtain ⟨ad382,e382,hx382_0,hx382_1,hx382_2,hx382_3⟩:=at_T32 HR1.out x9_1 p382 q382
        cases e382
        replace hx382_0:=(HB.out.cell (World.block_lt_of_cell? w _ hx382_0)).trans hx382_0
        replace hx382_1:=(HB.out.cell (World.block_lt_of_cell? w _ hx382_1)).trans hx382_1
        replace hx382_2:=(HB.out.cell (World.block_lt_of_cell? w _ hx382_2)).trans hx382_2
        replace hx382_3:=(HB.out.cell (World.block_lt_of_cell? w _ hx382_3)).trans hx382_3
        replace p382:=eq_true p382
        replace q382:=eq_true q382
        go_wp2_with (first|((with_reducible refine gate_dst (N:=6) rfl ?_);refine box_event ?hg (N:=6) ?hd (cs:=#[.string (⟨#[]⟩:ByteArray),.int .u16 0,.int .u32 0,.string (⟨#[]⟩:ByteArray)]) (t:=32) ?hr ?_;(case hd=>rfl);(case hg=>rfl);(case hr=>first|(go_simp;done)|(go_simp;rfl));intro gb383 hg w30 hbox hb;have n0_:=Aside0.mk (below_step (by repeat (first|(with_reducible first|exact HB.out|apply below_alloc|apply pw_below_drewN|apply below_drew1)|exact HB.out)) hb);have n1_:=Aside0.mk (hbox);have n2_:=Aside0.mk ((by rw [hg];exact (below_size (by repeat (first|(with_reducible first|exact HB.out|apply below_alloc|apply pw_below_drewN|apply below_drew1)|exact HB.out))):w.heap.size≤gb383));have n3_:=Aside0.mk ((by rw [hg];exact (below_size (by repeat (first|(with_reducible first|exact HB.out|apply below_alloc|apply pw_below_drewN|apply below_drew1)|exact HB.out))):w.heap.size≤gb383));clear HB;have HB:=n0_;have BK383:=n1_;have GW383:=n2_;have GE383:=n3_;clear n0_ n1_ n2_ n3_;clear hb hbox hg;have hcz31_0:w30.cell? ⟨gb383,0,none⟩ = some (.string (⟨#[]⟩:ByteArray)):=(blk_cell BK383.out 0).trans rfl;have hcz31_1:w30.cell? ⟨gb383,1,none⟩ = some (.int .u16 0):=(blk_cell BK383.out 1).trans rfl;have hcz31_2:w30.cell? ⟨gb383,2,none⟩ = some (.int .u32 0):=(blk_cell BK383.out 2).trans rfl;have hcz31_3:w30.cell? ⟨gb383,3,none⟩ = some (.string (⟨#[]⟩:ByteArray)):=(blk_cell BK383.out 3).trans rfl;have hfz31_0:=blk_frozen BK383.out 0;have hfz31_1:=blk_frozen BK383.out 1;have hfz31_2:=blk_frozen BK383.out 2;have hfz31_3:=blk_frozen BK383.out 3)|((with_reducible refine gate_callee (f:=31) rfl ?_);refine goesL_ (some 14) rfl rfl Tryd.func31 (by kernel_rfl) rfl #[.agg #[.string ((rd_T32 l1 x9_1).f0),.int .u16 ((rd_T32 l1 x9_1).f1),.int .u32 ((rd_T32 l1 x9_1).f2),.string ((rd_T32 l1 x9_1).f3)]] rfl (by (try simp only [List.map_toArray,List.map_cons,List.map_nil]) <;> first|rfl|(simp only [List.length_drop,List.length_take];rfl)) ?_;(with_reducible refine (message_MayRecord.calls k1 ((rd_T32 l1 x9_1).f0) ((rd_T32 l1 x9_1).f1) ((rd_T32 l1 x9_1).f2) ((rd_T32 l1 x9_1).f3) true _ A6.out).mono ?_);rintro e w32 ⟨rfl,hb⟩;refine ⟨_,rfl,?_⟩;have n0_:=Aside0.mk (blk_below (g:=gb383) (o:=.cells #[.string ((rd_T32 l1 x9_1).f0),.int .u16 ((rd_T32 l1 x9_1).f1),.int .u32 ((rd_T32 l1 x9_1).f2),.string ((rd_T32 l1 x9_1).f3)] 32 (0,0)) (by (with_reducible repeat (first|apply blk_drewN|apply blk_drew|apply blk_alloc));refine blk_put (cs:=#[.string ((rd_T32 l1 x9_1).f0),.int .u16 ((rd_T32 l1 x9_1).f1),.int .u32 ((rd_T32 l1 x9_1).f2),.string (⟨#[]⟩:ByteArray)]) ?_ 3 _ rfl;(with_reducible repeat (first|apply blk_drewN|apply blk_drew|apply blk_alloc));refine blk_put (cs:=#[.string ((rd_T32 l1 x9_1).f0),.int .u16 ((rd_T32 l1 x9_1).f1),.int .u32 0,.string (⟨#[]⟩:ByteArray)]) ?_ 2 _ rfl;(with_reducible repeat (first|apply blk_drewN|apply blk_drew|apply blk_alloc));refine blk_put (cs:=#[.string ((rd_T32 l1 x9_1).f0),.int .u16 0,.int .u32 0,.string (⟨#[]⟩:ByteArray)]) ?_ 1 _ rfl;(with_reducible repeat (first|apply blk_drewN|apply blk_drew|apply blk_alloc));refine blk_put (cs:=#[.string (⟨#[]⟩:ByteArray),.int .u16 0,.int .u32 0,.string (⟨#[]⟩:ByteArray)]) ?_ 0 _ rfl;(with_reducible repeat (first|apply blk_drewN|apply blk_drew|apply blk_alloc));exact BK383.out) hb);have n1_:=Aside0.mk (below_step (by repeat (first|(with_reducible first|exact HB.out|apply below_alloc|apply pw_below_drewN|apply below_drew1|refine below_set ?_ GE383.out)|exact HB.out)) hb);clear BK383;clear HB;have BK383:=n0_;have HB:=n1_;clear n0_ n1_;(try clear hb);(try clear hb2);(try clear hk);(try clear hi);have hcz33_0:w32.cell? ⟨gb383,0,none⟩ = some (.string ((rd_T32 l1 x9_1).f0)):=(blk_cell BK383.out 0).trans rfl;have hcz33_1:w32.cell? ⟨gb383,1,none⟩ = some (.int .u16 ((rd_T32 l1 x9_1).f1)):=(blk_cell BK383.out 1).trans rfl;have hcz33_2:w32.cell? ⟨gb383,2,none⟩ = some (.int .u32 ((rd_T32 l1 x9_1).f2)):=(blk_cell BK383.out 2).trans rfl;have hcz33_3:w32.cell? ⟨gb383,3,none⟩ = some (.string ((rd_T32 l1 x9_1).f3)):=(blk_cell BK383.out 3).trans rfl;have hfz33_0:=blk_frozen BK383.out 0;have hfz33_1:=blk_frozen BK383.out 1;have hfz33_2:=blk_frozen BK383.out 2;have hfz33_3:=blk_frozen BK383.out 3)|(go_at_call 32;(with_reducible refine (name_Below.calls k1 ((rd_T32 l1 x9_1).f0) a0 false _ A8.out).mono ?_);rintro e w34 ⟨rfl,hb⟩;have n0_:=Aside0.mk (blk_below (g:=gb383) (o:=.cells #[.string ((rd_T32 l1 x9_1).f0),.int .u16 ((rd_T32 l1 x9_1).f1),.int .u32 ((rd_T32 l1 x9_1).f2),.string ((rd_T32 l1 x9_1).f3)] 32 (0,0)) (by (with_reducible repeat (first|apply blk_drewN|apply blk_drew|apply blk_alloc));exact BK383.out) hb);have n1_:=Aside0.mk (below_step (by repeat (first|(with_reducible first|exact HB.out|apply below_alloc|apply pw_below_drewN|apply below_drew1|refine below_set ?_ GE383.out)|exact HB.out)) hb);clear BK383;clear HB;have BK383:=n0_;have HB:=n1_;clear n0_ n1_;(try clear hb);(try clear hb2);(try clear hk);(try clear hi)))
        go_ret
        exact ⟨by first|rfl|(simp [errW_none,errW_some] <;> rfl)|(simp [*,errW_none,errW_some] <;> rfl),by repeat (first|(with_reducible first|exact HB.out|apply below_alloc|apply pw_below_drewN|apply below_drew1|refine below_set ?_ GE383.out)|exact HB.out)⟩
      ·replace c7:=Bool.eq_false_iff.mpr c7
       subst c7
       have H1:(some false) = some r:=by rw [if_neg (show ¬ (false = true) by decide)] at H;exact H
       clear H
       have H:=H1
       clear H1
       obtain rfl:=Option.some.inj H
       have p382:0≤(x9_1:Int):=of_decide_eq_true (by first|(with_reducible assumption)|assumption)
       have q382:x9_1 < (l1.length:Int):=of_decide_eq_true (by first|(with_reducible assumption)|assumption)
       obtain ⟨ad382,e382,hx382_0,hx382_1,hx382_2,hx382_3⟩:=at_T32 HR1.out x9_1 p382 q382
       cases e382
       replace hx382_0:=(HB.out.cell (World.block_lt_of_cell? w _ hx382_0)).trans hx382_0
       replace hx382_1:=(HB.out.cell (World.block_lt_of_cell? w _ hx382_1)).trans hx382_1
       replace hx382_2:=(HB.out.cell (World.block_lt_of_cell? w _ hx382_2)).trans hx382_2
       replace hx382_3:=(HB.out.cell (World.block_lt_of_cell? w _ hx382_3)).trans hx382_3
       replace p382:=eq_true p382
       replace q382:=eq_true q382
       go_wp2_with (first|((with_reducible refine gate_dst (N:=6) rfl ?_);refine box_event ?hg (N:=6) ?hd (cs:=#[.string (⟨#[]⟩:ByteArray),.int .u16 0,.int .u32 0,.string (⟨#[]⟩:ByteArray)]) (t:=32) ?hr ?_;(case hd=>rfl);(case hg=>rfl);(case hr=>first|(go_simp;done)|(go_simp;rfl));intro gb383 hg w35 hbox hb;have n0_:=Aside0.mk (below_step (by repeat (first|(with_reducible first|exact HB.out|apply below_alloc|apply pw_below_drewN|apply below_drew1)|exact HB.out)) hb);have n1_:=Aside0.mk (hbox);have n2_:=Aside0.mk ((by rw [hg];exact (below_size (by repeat (first|(with_reducible first|exact HB.out|apply below_alloc|apply pw_below_drewN|apply below_drew1)|exact HB.out))):w.heap.size≤gb383));have n3_:=Aside0.mk ((by rw [hg];exact (below_size (by repeat (first|(with_reducible first|exact HB.out|apply below_alloc|apply pw_below_drewN|apply below_drew1)|exact HB.out))):w.heap.size≤gb383));clear HB;have HB:=n0_;have BK383:=n1_;have GW383:=n2_;have GE383:=n3_;clear n0_ n1_ n2_ n3_;clear hb hbox hg;have hcz36_0:w35.cell? ⟨gb383,0,none⟩ = some (.string (⟨#[]⟩:ByteArray)):=(blk_cell BK383.out 0).trans rfl;have hcz36_1:w35.cell? ⟨gb383,1,none⟩ = some (.int .u16 0):=(blk_cell BK383.out 1).trans rfl;have hcz36_2:w35.cell? ⟨gb383,2,none⟩ = some (.int .u32 0):=(blk_cell BK383.out 2).trans rfl;have hcz36_3:w35.cell? ⟨gb383,3,none⟩ = some (.string (⟨#[]⟩:ByteArray)):=(blk_cell BK383.out 3).trans rfl;have hfz36_0:=blk_frozen BK383.out 0;have hfz36_1:=blk_frozen BK383.out 1;have hfz36_2:=blk_frozen BK383.out 2;have hfz36_3:=blk_frozen BK383.out 3)|((with_reducible refine gate_callee (f:=31) rfl ?_);refine goesL_ (some 14) rfl rfl Tryd.func31 (by kernel_rfl) rfl #[.agg #[.string ((rd_T32 l1 x9_1).f0),.int .u16 ((rd_T32 l1 x9_1).f1),.int .u32 ((rd_T32 l1 x9_1).f2),.string ((rd_T32 l1 x9_1).f3)]] rfl (by (try simp only [List.map_toArray,List.map_cons,List.map_nil]) <;> first|rfl|(simp only [List.length_drop,List.length_take];rfl)) ?_;(with_reducible refine (message_MayRecord.calls k1 ((rd_T32 l1 x9_1).f0) ((rd_T32 l1 x9_1).f1) ((rd_T32 l1 x9_1).f2) ((rd_T32 l1 x9_1).f3) false _ A6.out).mono ?_);rintro e w37 ⟨rfl,hb⟩;refine ⟨_,rfl,?_⟩;have n0_:=Aside0.mk (blk_below (g:=gb383) (o:=.cells #[.string ((rd_T32 l1 x9_1).f0),.int .u16 ((rd_T32 l1 x9_1).f1),.int .u32 ((rd_T32 l1 x9_1).f2),.string ((rd_T32 l1 x9_1).f3)] 32 (0,0)) (by (with_reducible repeat (first|apply blk_drewN|apply blk_drew|apply blk_alloc));refine blk_put (cs:=#[.string ((rd_T32 l1 x9_1).f0),.int .u16 ((rd_T32 l1 x9_1).f1),.int .u32 ((rd_T32 l1 x9_1).f2),.string (⟨#[]⟩:ByteArray)]) ?_ 3 _ rfl;(with_reducible repeat (first|apply blk_drewN|apply blk_drew|apply blk_alloc));refine blk_put (cs:=#[.string ((rd_T32 l1 x9_1).f0),.int .u16 ((rd_T32 l1 x9_1).f1),.int .u32 0,.string (⟨#[]⟩:ByteArray)]) ?_ 2 _ rfl;(with_reducible repeat (first|apply blk_drewN|apply blk_drew|apply blk_alloc));refine blk_put (cs:=#[.string ((rd_T32 l1 x9_1).f0),.int .u16 0,.int .u32 0,.string (⟨#[]⟩:ByteArray)]) ?_ 1 _ rfl;(with_reducible repeat (first|apply blk_drewN|apply blk_drew|apply blk_alloc));refine blk_put (cs:=#[.string (⟨#[]⟩:ByteArray),.int .u16 0,.int .u32 0,.string (⟨#[]⟩:ByteArray)]) ?_ 0 _ rfl;(with_reducible repeat (first|apply blk_drewN|apply blk_drew|apply blk_alloc));exact BK383.out) hb);have n1_:=Aside0.mk (below_step (by repeat (first|(with_reducible first|exact HB.out|apply below_alloc|apply pw_below_drewN|apply below_drew1|refine below_set ?_ GE383.out)|exact HB.out)) hb);clear BK383;clear HB;have BK383:=n0_;have HB:=n1_;clear n0_ n1_;(try clear hb);(try clear hb2);(try clear hk);(try clear hi)))
       go_ret
       exact ⟨by first|rfl|(simp [errW_none,errW_some] <;> rfl)|(simp [*,errW_none,errW_some] <;> rfl),by repeat (first|(with_reducible first|exact HB.out|apply below_alloc|apply pw_below_drewN|apply below_drew1|refine below_set ?_ GE383.out)|exact HB.out)⟩
     ·rw [if_neg c5] at H
      exact absurd H (by simp)
    ·rw [if_neg c4] at H
     exact absurd H (by simp)
   ·rw [if_neg c3] at H
    have c3b0:decide (x9_1 < (l1.length:Int)) = false:=decide_eq_false c3
    clear c3
    by_cases c38:(l1.length:Int) > 0
    ·rw [if_pos c38] at H
     have c38b0:decide (0 < (l1.length:Int)) = true:=decide_eq_true c38
     have c38b1:decide (0 < l1.length) = true:=decide_eq_true (by omega)
     clear c38
     by_cases c39:0 < (l1.length:Int)
     ·rw [if_pos c39] at H
      have c39b0:decide (0 < (l1.length:Int)) = true:=decide_eq_true c39
      have c39b1:decide (0 < l1.length) = true:=decide_eq_true (by omega)
      clear c39
      obtain rfl:=Option.some.inj H
      have p381:0≤(0:Int):=(by omega)
      have q381:0 < (l1.length:Int):=of_decide_eq_true (by first|(with_reducible assumption)|assumption)
      obtain ⟨ad381,e381,hx381_0,hx381_1,hx381_2,hx381_3⟩:=at_T32 HR1.out 0 p381 q381
      cases e381
      have qi381:(0 < l1.length) = True:=eq_true (by omega)
      (try rw [show ((0:Int)).toNat = 0 from rfl] at hx381_0)
      (try rw [show 0 * 4 = 0 from rfl] at hx381_0)
      (try rw [Addr.add_zero'] at hx381_0)
      (try rw [show ((0:Int)).toNat = 0 from rfl] at hx381_1)
      (try rw [show 0 * 4 = 0 from rfl] at hx381_1)
      (try rw [Addr.add_zero'] at hx381_1)
      (try rw [show ((0:Int)).toNat = 0 from rfl] at hx381_2)
      (try rw [show 0 * 4 = 0 from rfl] at hx381_2)
      (try rw [Addr.add_zero'] at hx381_2)
      (try rw [show ((0:Int)).toNat = 0 from rfl] at hx381_3)
      (try rw [show 0 * 4 = 0 from rfl] at hx381_3)
      (try rw [Addr.add_zero'] at hx381_3)
      replace hx381_0:=(HB.out.cell (World.block_lt_of_cell? w _ hx381_0)).trans hx381_0
      replace hx381_1:=(HB.out.cell (World.block_lt_of_cell? w _ hx381_1)).trans hx381_1
      replace hx381_2:=(HB.out.cell (World.block_lt_of_cell? w _ hx381_2)).trans hx381_2
      replace hx381_3:=(HB.out.cell (World.block_lt_of_cell? w _ hx381_3)).trans hx381_3
      replace p381:=eq_true p381
      replace q381:=eq_true q381
      go_wp2
      go_ret
      exact ⟨by first|rfl|(simp [errW_none,errW_some] <;> rfl)|(simp [*,errW_none,errW_some] <;> rfl),by repeat (first|(with_reducible first|exact HB.out|apply below_alloc|apply pw_below_drewN|apply below_drew1)|exact HB.out)⟩
     ·rw [if_neg c39] at H
      exact absurd H (by simp)
    ·rw [if_neg c38] at H
     have c38b0:decide (0 < (l1.length:Int)) = false:=decide_eq_false c38
     have c38b1:decide (0 < l1.length) = false:=decide_eq_false (by omega)
     clear c38
     obtain rfl:=Option.some.inj H
     go_wp2
     go_ret
     exact ⟨by first|rfl|(simp [errW_none,errW_some] <;> rfl)|(simp [*,errW_none,errW_some] <;> rfl),by repeat (first|(with_reducible first|exact HB.out|apply below_alloc|apply pw_below_drewN|apply below_drew1)|exact HB.out)⟩
end Go.Proofs.YtlobjcokopfbkaaDoor.PY
