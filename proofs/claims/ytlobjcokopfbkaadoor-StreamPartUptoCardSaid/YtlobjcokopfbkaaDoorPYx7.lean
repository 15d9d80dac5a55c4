import Derived.Test.YtlobjcokopfbkaaDoorPYx0
namespace Go.Proofs.YtlobjcokopfbkaaDoor.PY
open Go.RowKit Go.Proofs.YtlobjcokopfbkaaDoorW.PrintWords Go.Proofs.YtlobjcokopfbkaaDoorW.PrintLast Go.Proofs.YtlobjcokopfbkaaDoorW.PrintMore
attribute [local go_sem] max2_int min2_int max_two min_two max_three min_three max_four min_four   -- for this text's walks alone
set_option linter.unusedVariables false
set_option linter.unusedSimpArgs false
def stream_run.l0:Nat→List (S32)→List (S32)→Int→Int→Option ((List (S32)) × (List (S32)))
 | 0,_,_,_,_=>none
 | k + 1,x0,x6,x7,x8=>if x8 < x7 then (if 0≤x8 then (if x8 < (x6.length:Int) then (if ((rd_T32 x6 x8).f1) = 6 then (if x8≤(x0.length:Int) then ((some (x0.take (x8:Int).toNat:List (S32))).bind fun y201=>(if ([]:List (S32)).length + y201.length < 3518437208883 then (some ((([]:List (S32)) ++ y201),(x0.drop (x8:Int).toNat))) else (none))) else (none)) else (stream_run.l0 k x0 x6 x7 (wrap64 (x8 + 1)))) else (none)) else (none)) else (if ([]:List (S32)).length + x0.length < 3518437208883 then (some ((([]:List (S32)) ++ x0),([]:List (S32)))) else (none))
def stream_run.f (k:Nat) (l0:List (S32)):Option ((List (S32)) × (List (S32))):=stream_run.l0 k l0 l0 (l0.length:Int) 0
theorem stream_run.mono_l:∀ k,(∀ y0 y1 y2 y3,LeO (stream_run.l0 k y0 y1 y2 y3) (stream_run.l0 (k + 1) y0 y1 y2 y3))
 | 0=>fun _ _ _ _ r h=>by simp [stream_run.l0] at h
 | k + 1=>by
  have ih0:=stream_run.mono_l k
  ·intro y0 y1 y2 y3
   unfold stream_run.l0
   repeat' first
   | (with_reducible exact ih0 _ _ _ _)
   | (with_reducible exact LeO.refl _)
   | (with_reducible exact LeO.none _)
   | (with_reducible refine LeO.ite ?_ ?_)
   | (with_reducible refine LeO.bind ?_ (fun _=>?_))
   | exact ih0 _ _ _ _
   | exact LeO.none _
   | refine LeO.ite ?_ ?_
   | refine LeO.bind ?_ (fun _=>?_)
theorem stream_run.mono:∀ a0 k,LeO (stream_run.f k a0) (stream_run.f (k + 1) a0):=by
 intro a0 k
 have ih0:=stream_run.mono_l k
 unfold stream_run.f
 repeat' first
   | (with_reducible exact ih0 _ _ _ _)
   | (with_reducible exact LeO.refl _)
   | (with_reducible exact LeO.none _)
   | (with_reducible refine LeO.ite ?_ ?_)
   | (with_reducible refine LeO.bind ?_ (fun _=>?_))
   | exact ih0 _ _ _ _
   | exact LeO.none _
   | refine LeO.ite ?_ ?_
   | refine LeO.bind ?_ (fun _=>?_)
def stream_run.T5:Bool × List (List Nat × List Nat):=(true,[([],[]),([],[]),([0,1],[0,1]),([2],[2]),([],[]),([],[]),([4,5],[4,5]),([3,3,0,1,2,3],[3]),([6,7,0,1,2,3,4,5,6,7],[6])])
def stream_run.B5:List Nat:=[0,0,3,7,0,0,48,15,255]
theorem stream_run.tab5:rtab .any (opsOf Tryd.f44 5) = stream_run.T5:=by kernel_rfl
theorem stream_run.bits5:waitsOk stream_run.T5.2 stream_run.B5 = true:=by kernel_rfl
set_option maxHeartbeats 8000000 in
set_option maxRecDepth 100000 in
theorem stream_run.calls (k:Nat) (P0_:Nat→Prop) (A0:Option Addr) (c0:Nat) (l0:List (S32)) (r1:List (S32)) (r2:List (S32)) (w:World) (hs0:Kd.V k32 32 w w.heap.size (fun k_=>P0_ k_) (.slice A0 l0.length c0) l0) (h:stream_run.f k l0 = some (r1,r2)) :
  Calls Tryd.prog 44 #[.slice A0 l0.length c0] w fun e w'=>∃ v0_ v1_:Value,e = .returned (.tuple #[v0_,v1_])∧Kd.R k32 32 w' w.heap.size (fun k_=>(w.heap.size≤k_)) v0_ r1∧Kd.V k32 32 w' w.heap.size (fun k_=>(P0_ k_∨w.heap.size≤k_)∧some k_≠(v0_:Value).ownBlock) v1_ r2∧Below w.heap.size w w':=by
 have hu32:=Tryd.underlying32
 have HO0:=Aside0.mk (show Kd.V k32 32 w w.heap.size (fun k_=>(P0_ k_∨w.heap.size≤k_)) (.slice A0 l0.length c0) l0 from Kd.V_mono hs0 (fun k_ hk=>.inl hk))
 have HB:=Aside0.mk (Below.refl w.heap.size w)
 have H:(stream_run.l0 k l0 l0 (l0.length:Int) 0) = some (r1,r2):=h
 clear h
 have H':=Aside0.mk H
 clear H
 go_enter Tryd.func44,Tryd.ntmps44
 go_wp2
 go_loopg [8] k (fun kq v8 w'=>∃ (x8_1:Int),v8 = .int .i64 x8_1∧Aside0 (stream_run.l0 kq l0 l0 (l0.length:Int) x8_1 = some (r1,r2))∧Aside0 (kq≤k)∧Aside0 (Kd.V k32 32 w' w.heap.size (fun k_=>(P0_ k_∨w.heap.size≤k_)) (.slice A0 l0.length c0) l0)∧Aside0 (Kd.V k32 32 w' w.heap.size (fun k_=>(P0_ k_∨w.heap.size≤k_)) (.slice A0 l0.length c0) l0)∧Aside0 (Below w.heap.size w w'))
 case atStart=>exact ⟨(0),(by first|rfl|(simp;done)|(simp [*];done)),H',⟨Nat.le_refl _⟩,⟨by (with_reducible repeat (first|apply Kd.V_alloc|apply Kd.V_drewN|apply Kd.V_drew));exact HO0.out⟩,⟨by (with_reducible repeat (first|apply Kd.V_alloc|apply Kd.V_drewN|apply Kd.V_drew));exact HO0.out⟩,⟨by repeat (first|(with_reducible first|exact HB.out|apply below_alloc|apply pw_below_drewN|apply below_drew1)|exact HB.out)⟩⟩
 case round =>
  clear H'
  obtain ⟨x8_1,rfl,HA,HK1,HO_0,HO_6,HB⟩:=hrel
  cases gk with
  | zero=>exact absurd HA.out (by simp [stream_run.l0])
  | succ k1 =>
   have H:=HA.out
   clear HA
   simp only [stream_run.l0] at H
   by_cases c2:x8_1 < (l0.length:Int)
   ·rw [if_pos c2] at H
    have c2b0:decide (x8_1 < (l0.length:Int)) = true:=decide_eq_true c2
    clear c2
    by_cases c3:0≤x8_1
    ·rw [if_pos c3] at H
     have c3b0:decide (0≤x8_1) = true:=decide_eq_true c3
     clear c3
     by_cases c4:x8_1 < (l0.length:Int)
     ·rw [if_pos c4] at H
      have c4b0:decide (x8_1 < (l0.length:Int)) = true:=decide_eq_true c4
      clear c4
      by_cases c5:((rd_T32 l0 x8_1).f1) = 6
      ·rw [if_pos c5] at H
       have c5b0:(((rd_T32 l0 x8_1).f1) == 6) = true:=beq_iff_eq.mpr c5
       have c5b1:(((rd_T32 l0 x8_1).f1) != 6) = false:=bne_eq_false_iff_eq.mpr c5
       clear c5
       have c6b0:=eq_true (of_decide_eq_true (by first|(with_reducible assumption)|assumption):0≤x8_1)
       by_cases c7:x8_1≤(l0.length:Int)
       ·rw [if_pos c7] at H
        have c7b0:=eq_true c7
        have c7b1:decide (x8_1≤(l0.length:Int)) = true:=decide_eq_true c7
        clear c7
        obtain ⟨y201,hy201⟩:∃ y_:List (S32),y_ = (l0.take (x8_1:Int).toNat):=⟨_,rfl⟩
        replace H:(if ([]:List (S32)).length + y201.length < 3518437208883 then (some ((([]:List (S32)) ++ y201),(l0.drop (x8_1:Int).toNat))) else (none)) = some (r1,r2):=by first|(rw [hy201];with_reducible exact H)|(have H2_:=(Option.bind_some _ _).symm.trans H;rw [hy201];with_reducible exact H2_)|(have H2_:=(Option.bind_some _ _).symm.trans H;with_reducible exact H2_)|with_reducible exact H|(rw [hy201];exact H)|exact H
        have Ny201:=Aside0.mk hy201
        clear hy201
        by_cases c8:([]:List (S32)).length + y201.length < 3518437208883
        ·rw [if_pos c8] at H
         have LMc8:=Aside0.mk c8
         clear c8
         obtain ⟨y206,hy206⟩:∃ y_:List (S32),y_ = (([]:List (S32)) ++ y201):=⟨_,rfl⟩
         replace H:(some (y206,(l0.drop (x8_1:Int).toNat))) = some (r1,r2):=by first|(rw [hy206];with_reducible exact H)|(have H2_:=(Option.bind_some _ _).symm.trans H;rw [hy206];with_reducible exact H2_)|(have H2_:=(Option.bind_some _ _).symm.trans H;with_reducible exact H2_)|with_reducible exact H|(rw [hy206];exact H)|exact H
         have Ny206:=Aside0.mk hy206
         clear hy206
         have c9b0:=eq_true (of_decide_eq_true (by first|(with_reducible assumption)|assumption):0≤x8_1)
         have c10b0:=eq_true (of_decide_eq_true (by first|(with_reducible assumption)|assumption):x8_1≤(l0.length:Int))
         obtain ⟨y209,hy209⟩:∃ y_:List (S32),y_ = (l0.drop (x8_1:Int).toNat):=⟨_,rfl⟩
         replace H:(some (y206,y209)) = some (r1,r2):=by first|(rw [hy209];with_reducible exact H)|(have H2_:=(Option.bind_some _ _).symm.trans H;rw [hy209];with_reducible exact H2_)|(have H2_:=(Option.bind_some _ _).symm.trans H;with_reducible exact H2_)|with_reducible exact H|(rw [hy209];exact H)|exact H
         have Ny209:=Aside0.mk hy209
         clear hy209
         simp only [Option.some.injEq,Prod.mk.injEq] at H
         obtain ⟨rfl,rfl⟩:=H
         have p199:0≤(x8_1:Int):=of_decide_eq_true (by first|(with_reducible assumption)|assumption)
         have q199:x8_1 < (l0.length:Int):=of_decide_eq_true (by first|(with_reducible assumption)|assumption)
         obtain ⟨ad199,e199,hx199_0,hx199_1,hx199_2,hx199_3⟩:=at_T32 (Kd.V_reads' HO_6.out).2.2 x8_1 p199 q199
         cases e199
         replace p199:=eq_true p199
         replace q199:=eq_true q199
         try go_wp2_with (first|((with_reducible refine gate_dst (N:=5) rfl ?_);refine box_event ?hg (N:=5) ?hd (cs:=#[.string (⟨#[]⟩:ByteArray),.int .u16 0,.int .u32 0,.string (⟨#[]⟩:ByteArray)]) (t:=32) ?hr ?_;(case hd=>rfl);(case hg=>rfl);(case hr=>first|(go_simp;done)|(go_simp;rfl));intro gb200 hg w11 hbox hb;have n0_:=Aside0.mk (Kd.V_below (Kd.V_elderB (by (with_reducible repeat (first|apply Kd.V_alloc|apply Kd.V_drewN|apply Kd.V_drew));exact HO_0.out) gb200 (Nat.le_of_eq hg.symm)) hb);have n1_:=Aside0.mk (Kd.V_below (Kd.V_elderB (by (with_reducible repeat (first|apply Kd.V_alloc|apply Kd.V_drewN|apply Kd.V_drew));exact HO_6.out) gb200 (Nat.le_of_eq hg.symm)) hb);have n2_:=Aside0.mk (below_step (by repeat (first|(with_reducible first|exact HB.out|apply below_alloc|apply pw_below_drewN|apply below_drew1)|exact HB.out)) hb);have n3_:=Aside0.mk (hbox);have n4_:=Aside0.mk ((by rw [hg];exact (below_size (by repeat (first|(with_reducible first|exact HB.out|apply below_alloc|apply pw_below_drewN|apply below_drew1)|exact HB.out))):w.heap.size≤gb200));have n5_:=Aside0.mk ((by rw [hg];exact (below_size (by repeat (first|(with_reducible first|exact HB.out|apply below_alloc|apply pw_below_drewN|apply below_drew1)|exact HB.out))):w.heap.size≤gb200));clear HO_0;clear HO_6;clear HB;have HO_0:=n0_;have HO_6:=n1_;have HB:=n2_;have BK200:=n3_;have GW200:=n4_;have GE200:=n5_;clear n0_ n1_ n2_ n3_ n4_ n5_;clear hb hbox hg;have hcz12_0:w11.cell? ⟨gb200,0,none⟩ = some (.string (⟨#[]⟩:ByteArray)):=(blk_cell BK200.out 0).trans rfl;have hcz12_1:w11.cell? ⟨gb200,1,none⟩ = some (.int .u16 0):=(blk_cell BK200.out 1).trans rfl;have hcz12_2:w11.cell? ⟨gb200,2,none⟩ = some (.int .u32 0):=(blk_cell BK200.out 2).trans rfl;have hcz12_3:w11.cell? ⟨gb200,3,none⟩ = some (.string (⟨#[]⟩:ByteArray)):=(blk_cell BK200.out 3).trans rfl;have hfz12_0:=blk_frozen BK200.out 0;have hfz12_1:=blk_frozen BK200.out 1;have hfz12_2:=blk_frozen BK200.out 2;have hfz12_3:=blk_frozen BK200.out 3))
         have n0_:Aside0 (Kd.V k32 32 ((((w11.setCell ⟨gb200,0,none⟩ (.string ((rd_T32 l0 x8_1).f0))).setCell ⟨gb200,1,none⟩ (.int .u16 ((rd_T32 l0 x8_1).f1))).setCell ⟨gb200,2,none⟩ (.int .u32 ((rd_T32 l0 x8_1).f2))).setCell ⟨gb200,3,none⟩ (.string ((rd_T32 l0 x8_1).f3))) w.heap.size (fun k_=>(P0_ k_∨w.heap.size≤k_)∧k_≠gb200) (.slice (some ad199) l0.length c0) l0):=⟨by (with_reducible repeat (first|apply Kd.V_alloc|apply Kd.V_drewN|apply Kd.V_drew));exact Kd.V_mono (Kd.V_far (p:=⟨gb200,3,none⟩) (Kd.V_far (p:=⟨gb200,2,none⟩) (Kd.V_far (p:=⟨gb200,1,none⟩) (Kd.V_far (p:=⟨gb200,0,none⟩) (Kd.V_mono HO_0.out (fun k_ hk=>(⟨hk,hk.2⟩:_∧k_≠gb200))) (fun _ hk=>hk.2) (.string ((rd_T32 l0 x8_1).f0))) (fun _ hk=>hk.2) (.int .u16 ((rd_T32 l0 x8_1).f1))) (fun _ hk=>hk.2) (.int .u32 ((rd_T32 l0 x8_1).f2))) (fun _ hk=>hk.2) (.string ((rd_T32 l0 x8_1).f3))) (fun _ hk=>⟨hk.1.1,hk.1.2⟩)⟩
         have n1_:Aside0 (Kd.V k32 32 ((((w11.setCell ⟨gb200,0,none⟩ (.string ((rd_T32 l0 x8_1).f0))).setCell ⟨gb200,1,none⟩ (.int .u16 ((rd_T32 l0 x8_1).f1))).setCell ⟨gb200,2,none⟩ (.int .u32 ((rd_T32 l0 x8_1).f2))).setCell ⟨gb200,3,none⟩ (.string ((rd_T32 l0 x8_1).f3))) w.heap.size (fun k_=>(P0_ k_∨w.heap.size≤k_)∧k_≠gb200) (.slice (some ad199) l0.length c0) l0):=⟨by (with_reducible repeat (first|apply Kd.V_alloc|apply Kd.V_drewN|apply Kd.V_drew));exact Kd.V_mono (Kd.V_far (p:=⟨gb200,3,none⟩) (Kd.V_far (p:=⟨gb200,2,none⟩) (Kd.V_far (p:=⟨gb200,1,none⟩) (Kd.V_far (p:=⟨gb200,0,none⟩) (Kd.V_mono HO_6.out (fun k_ hk=>(⟨hk,hk.2⟩:_∧k_≠gb200))) (fun _ hk=>hk.2) (.string ((rd_T32 l0 x8_1).f0))) (fun _ hk=>hk.2) (.int .u16 ((rd_T32 l0 x8_1).f1))) (fun _ hk=>hk.2) (.int .u32 ((rd_T32 l0 x8_1).f2))) (fun _ hk=>hk.2) (.string ((rd_T32 l0 x8_1).f3))) (fun _ hk=>⟨hk.1.1,hk.1.2⟩)⟩
         have n2_:Aside0 (((((w11.setCell ⟨gb200,0,none⟩ (.string ((rd_T32 l0 x8_1).f0))).setCell ⟨gb200,1,none⟩ (.int .u16 ((rd_T32 l0 x8_1).f1))).setCell ⟨gb200,2,none⟩ (.int .u32 ((rd_T32 l0 x8_1).f2))).setCell ⟨gb200,3,none⟩ (.string ((rd_T32 l0 x8_1).f3))).heap[gb200]? = some (.cells #[.string ((rd_T32 l0 x8_1).f0),.int .u16 ((rd_T32 l0 x8_1).f1),.int .u32 ((rd_T32 l0 x8_1).f2),.string ((rd_T32 l0 x8_1).f3)] 32 (0,0))):=⟨by (with_reducible repeat (first|apply blk_drewN|apply blk_drew|apply blk_alloc));refine blk_put (cs:=#[.string ((rd_T32 l0 x8_1).f0),.int .u16 ((rd_T32 l0 x8_1).f1),.int .u32 ((rd_T32 l0 x8_1).f2),.string (⟨#[]⟩:ByteArray)]) ?_ 3 _ rfl;(with_reducible repeat (first|apply blk_drewN|apply blk_drew|apply blk_alloc));refine blk_put (cs:=#[.string ((rd_T32 l0 x8_1).f0),.int .u16 ((rd_T32 l0 x8_1).f1),.int .u32 0,.string (⟨#[]⟩:ByteArray)]) ?_ 2 _ rfl;(with_reducible repeat (first|apply blk_drewN|apply blk_drew|apply blk_alloc));refine blk_put (cs:=#[.string ((rd_T32 l0 x8_1).f0),.int .u16 0,.int .u32 0,.string (⟨#[]⟩:ByteArray)]) ?_ 1 _ rfl;(with_reducible repeat (first|apply blk_drewN|apply blk_drew|apply blk_alloc));refine blk_put (cs:=#[.string (⟨#[]⟩:ByteArray),.int .u16 0,.int .u32 0,.string (⟨#[]⟩:ByteArray)]) ?_ 0 _ rfl;(with_reducible repeat (first|apply blk_drewN|apply blk_drew|apply blk_alloc));exact BK200.out⟩
         have n3_:Aside0 (Below w.heap.size w ((((w11.setCell ⟨gb200,0,none⟩ (.string ((rd_T32 l0 x8_1).f0))).setCell ⟨gb200,1,none⟩ (.int .u16 ((rd_T32 l0 x8_1).f1))).setCell ⟨gb200,2,none⟩ (.int .u32 ((rd_T32 l0 x8_1).f2))).setCell ⟨gb200,3,none⟩ (.string ((rd_T32 l0 x8_1).f3)))):=⟨by repeat (first|(with_reducible first|exact HB.out|apply below_alloc|apply pw_below_drewN|apply below_drew1|refine below_set ?_ GE200.out)|exact HB.out)⟩
         (try clear HO_0)
         (try clear HO_6)
         (try clear BK200)
         (try clear HB)
         generalize ((((w11.setCell ⟨gb200,0,none⟩ (.string ((rd_T32 l0 x8_1).f0))).setCell ⟨gb200,1,none⟩ (.int .u16 ((rd_T32 l0 x8_1).f1))).setCell ⟨gb200,2,none⟩ (.int .u32 ((rd_T32 l0 x8_1).f2))).setCell ⟨gb200,3,none⟩ (.string ((rd_T32 l0 x8_1).f3))) = w13 at n0_ n1_ n2_ n3_ ⊢
         have HO_0:=n0_
         have HO_6:=n1_
         have BK200:=n2_
         have HB:=n3_
         clear n0_ n1_ n2_ n3_
         have n0_:=Aside0.mk (Kd.V_drew HO_0.out)
         have n1_:=Aside0.mk (Kd.V_drew HO_6.out)
         have n2_:=Aside0.mk (blk_drew BK200.out)
         have n3_:=Aside0.mk (below_drew1 HB.out)
         clear HO_0
         clear HO_6
         clear BK200
         clear HB
         have HO_0:=n0_
         have HO_6:=n1_
         have BK200:=n2_
         have HB:=n3_
         clear n0_ n1_ n2_ n3_
         have q15:(x8_1:Int)≤((l0.length:Int):Int):=of_decide_eq_true (by first|(with_reducible assumption)|assumption)
         obtain ⟨i015,hi015,_,hsz15,_⟩:=info_parts info32
         have hroom15:l0.length≤c0:=(Kd.V_reads' HO_0.out).2.1
         have hC15:Kd.F k32 _ _ (some ad199) l0.length l0:=(Kd.V_at (base:=w.heap.size) HO_0.out).2.2
         have hcut15:=cut_to (P:=Tryd.prog) 26 32 .i64 Tryd.underlying26 hi015 (some ad199) l0.length c0 x8_1 (of_decide_eq_true (by first|(with_reducible assumption)|assumption)) q15 hroom15
         have hr15:=Kd.F_take (m:=(x8_1:Int).toNat) hC15 (by omega)
         have hy15:y201.length = (x8_1:Int).toNat:=(by rw [Ny201.out,List.length_take];omega)
         rw [← Ny201.out] at hr15
         rw [← hy15] at hcut15
         have HO205:=Aside0.mk (show Kd.V k32 32 _ w.heap.size _ (.slice (some ad199) y201.length c0) y201 from Kd.V_mk (by omega) hr15)
         have HC205:=Aside0.mk (show y201.length≤c0 from by omega)
         clear hr15 hC15 hroom15 hi015 hsz15
         have KY15:=Aside0.mk hy15
         clear hy15
         replace q15:=eq_true q15
         have q16:(x8_1:Int)≤((l0.length:Int):Int):=of_decide_eq_true (by first|(with_reducible assumption)|assumption)
         obtain ⟨i016,hi016,_,hsz16,_⟩:=info_parts info32
         have hroom16:l0.length≤c0:=(Kd.V_reads' HO_0.out).2.1
         have hC16:Kd.F k32 _ _ (some ad199) l0.length l0:=(Kd.V_at (base:=w.heap.size) HO_0.out).2.2
         have q016:(0:Int)≤(x8_1:Int):=of_decide_eq_true (by first|(with_reducible assumption)|assumption)
         have hcut16:=cut_from (P:=Tryd.prog) 26 32 .i64 Tryd.underlying26 hi016 4 hsz16 (some ad199) l0.length c0 x8_1 q016 q16
         have hr16:=Kd.F_cut (m:=(x8_1:Int).toNat) (c:=c0) hC16 (by omega) hroom16
         obtain ⟨A16,hA16⟩:∃ A_,A_ = (if c0 = (x8_1:Int).toNat then (some ad199) else ((some ad199):Option Addr).map (·.add ((x8_1:Int).toNat * 4))):=⟨_,rfl⟩
         obtain ⟨c16,hc16⟩:∃ c_,c_ = c0 - (x8_1:Int).toNat:=⟨_,rfl⟩
         have hy16:y209.length = l0.length - (x8_1:Int).toNat:=(by rw [Ny209.out,List.length_drop] <;> omega)
         rw [show (l0).drop (x8_1:Int).toNat = y209 from Ny209.out.symm] at hr16
         replace hr16:Kd.F k32 _ _ A16 y209.length y209:=(by rw [hA16];exact hr16)
         rw [← hy16,← hA16,← hc16] at hcut16
         have HO213:=Aside0.mk (show Kd.V k32 32 _ w.heap.size _ (.slice A16 y209.length c16) y209 from Kd.V_mk (by rw [hy16,hc16];exact Nat.sub_le_sub_right hroom16 _) hr16)
         have HC213:=Aside0.mk (show y209.length≤c16 from by rw [hy16,hc16];exact Nat.sub_le_sub_right hroom16 _)
         clear hr16 hC16 hroom16 hi016 hsz16 hc16
         have KY16:=Aside0.mk hy16
         have KA16:=Aside0.mk hA16
         clear hy16 hA16
         replace q16:=eq_true q16
         refine start_ (n:=9) (S:=fun w'=>True) (ds:=[]) #[false,false,false,false,false,false,false,false,false] (by kernel_rfl) rfl rfl trivial (fun hHeld=>?_);refine with_tabW stream_run.tab5 stream_run.bits5 (fun HT_ HW_=>?_)
         generalize w13.drew = w14 at HO_0 HO_6 BK200 HB HO205 HO213 hHeld ⊢
         refine pure_ (i:=0) (N:=some 16) (v:=?_) (a':=?_) #[true,false,false,false,false,false,false,false,false] rfl rfl (any_of HT_.out (by kernel_rfl)) (fun _ _ _ h=>h) (Or.inl ⟨by rfl,?_⟩) ?_ ?_
         rotate_left
         ·intro w'
          go_simp
          with_reducible rfl
         rotate_left
         ·simp only [Act.put,List.setIfInBounds_toArray,List.set_cons_zero,List.set_cons_succ,i64_w,i32_w]
          rfl
         refine pure_ (i:=1) (N:=some 17) (v:=?_) (a':=?_) #[true,true,false,false,false,false,false,false,false] rfl rfl (any_of HT_.out (by kernel_rfl)) (fun _ _ _ h=>h) (Or.inl ⟨by rfl,?_⟩) ?_ ?_
         rotate_left
         ·intro w'
          go_simp
          with_reducible rfl
         rotate_left
         ·simp only [Act.put,List.setIfInBounds_toArray,List.set_cons_zero,List.set_cons_succ,i64_w,i32_w]
          rfl
         refine pure_ (i:=2) (N:=some 18) (v:=?_) (a':=?_) #[true,true,true,false,false,false,false,false,false] rfl rfl (any_of HT_.out (by kernel_rfl)) (fun _ _ _ h=>h) (Or.inl ⟨by rfl,?_⟩) ?_ ?_
         rotate_left
         ·intro w'
          go_simp
          with_reducible rfl
         rotate_left
         ·simp only [Act.put,List.setIfInBounds_toArray,List.set_cons_zero,List.set_cons_succ,i64_w,i32_w]
          rfl
         refine pure_ (i:=4) (N:=some 20) (v:=?_) (a':=?_) #[true,true,true,false,true,false,false,false,false] rfl rfl (any_of HT_.out (by kernel_rfl)) (fun _ _ _ h=>h) (Or.inl ⟨by rfl,?_⟩) ?_ ?_
         rotate_left
         ·intro w'
          go_simp
          with_reducible rfl
         rotate_left
         ·simp only [Act.put,List.setIfInBounds_toArray,List.set_cons_zero,List.set_cons_succ,i64_w,i32_w]
          rfl
         refine pure_ (i:=5) (N:=some 21) (v:=?_) (a':=?_) #[true,true,true,false,true,true,false,false,false] rfl rfl (any_of HT_.out (by kernel_rfl)) (fun _ _ _ h=>h) (Or.inl ⟨by rfl,?_⟩) ?_ ?_
         rotate_left
         ·intro w'
          go_simp
          with_reducible rfl
         rotate_left
         ·simp only [Act.put,List.setIfInBounds_toArray,List.set_cons_zero,List.set_cons_succ,i64_w,i32_w]
          rfl
         refine pure_ (i:=6) (N:=some 22) (v:=?_) (a':=?_) #[true,true,true,false,true,true,true,false,false] rfl rfl (any_of HT_.out (by kernel_rfl)) (fun _ _ _ h=>h) (Or.inl ⟨by rfl,?_⟩) ?_ ?_
         rotate_left
         ·intro w'
          go_simp
          with_reducible rfl
         rotate_left
         ·simp only [Act.put,List.setIfInBounds_toArray,List.set_cons_zero,List.set_cons_succ,i64_w,i32_w]
          rfl
         refine one_ (i:=3) (N:=some 19) #[true,true,true,true,true,true,true,false,false] rfl rfl (one_of HT_.out (by kernel_rfl)) (by decide) (fun K hK=>?_)
         refine Kd.R_append_rows_step k32 (w0:=w) w.heap.size rfl (.const (.slice none 0 0)) (.tmp 18) 26 32 (.agg #[(.string ⟨#[]⟩),(.int .u16 0),(.int .u32 0),(.string ⟨#[]⟩)]) 40 rfl Tryd.underlying26 info32 rfl (by decide) (by omega) (.slice none 0 0) ([]:List (S32)) y201 _ _ _ (fun k_=>(w.heap.size≤k_)∧k_≠gb200) (fun _=>False) rfl rfl ?aO ?aR (fun _ _ h=>h) (fun _ h=>h.elim) ?aF ?aB ?aS ?aL ?_
         (case aR=>repeat (first|exact (Kd.V_reads' HO205.out).2.2|(with_reducible refine Kd.C_alloc ?_ _)|(with_reducible refine Kd.C_drewN ?_ _)|(with_reducible refine Kd.C_drew ?_)))
         (case aB=>exact (by repeat (first|(with_reducible first|exact HB.out|apply below_alloc|apply pw_below_drewN|apply below_drew1|refine below_set ?_ GE200.out)|exact HB.out)))
         (case aF=>exact (fun k_ hk=>⟨(Nat.le_trans (below_size (by repeat (first|(with_reducible first|exact HB.out|apply below_alloc|apply pw_below_drewN|apply below_drew1|refine below_set ?_ GE200.out)|exact HB.out))) hk),Kd.freshB (g:=gb200) (o:=.cells #[.string ((rd_T32 l0 x8_1).f0),.int .u16 ((rd_T32 l0 x8_1).f1),.int .u32 ((rd_T32 l0 x8_1).f2),.string ((rd_T32 l0 x8_1).f3)] 32 (0,0)) (by (with_reducible repeat (first|apply blk_drewN|apply blk_drew|apply blk_alloc));exact BK200.out) k_ hk⟩))
         (case aO=>exact ((Kd.R_nil _ _ _ _ (fun k_=>(w.heap.size≤k_)∧k_≠gb200))))
         (case aS=>exact (below_size (by repeat (first|(with_reducible first|exact HB.out|apply below_alloc|apply pw_below_drewN|apply below_drew1|refine below_set ?_ GE200.out)|exact HB.out))))
         (case aL=>have:=LMc8.out;omega)
         intro v207 w17 ho hb hg hat
         rw [← Ny206.out] at ho
         have n0_:=Aside0.mk (Kd.V_afterv (Kd.V_apart_nil (by (with_reducible repeat (first|apply Kd.V_alloc|apply Kd.V_drewN|apply Kd.V_drew));exact HO_0.out)) hg hat)
         have n1_:=Aside0.mk (Kd.V_afterv (Kd.V_apart_nil (by (with_reducible repeat (first|apply Kd.V_alloc|apply Kd.V_drewN|apply Kd.V_drew));exact HO_6.out)) hg hat)
         have n2_:=Aside0.mk (blk_grown (g:=gb200) (o:=.cells #[.string ((rd_T32 l0 x8_1).f0),.int .u16 ((rd_T32 l0 x8_1).f1),.int .u32 ((rd_T32 l0 x8_1).f2),.string ((rd_T32 l0 x8_1).f3)] 32 (0,0)) (by (with_reducible repeat (first|apply blk_drewN|apply blk_drew|apply blk_alloc));exact BK200.out) hg (by simp [Value.ownBlock]))
         have n3_:=Aside0.mk (Kd.V_afterv (Kd.V_apart_nil (by (with_reducible repeat (first|apply Kd.V_alloc|apply Kd.V_drewN|apply Kd.V_drew));exact HO205.out)) hg hat)
         have n4_:=Aside0.mk (Kd.V_afterv (Kd.V_apart_nil (by (with_reducible repeat (first|apply Kd.V_alloc|apply Kd.V_drewN|apply Kd.V_drew));exact HO213.out)) hg hat)
         have n5_:=Aside0.mk (hb)
         have n6_:=Aside0.mk (ho)
         clear HO_0
         clear HO_6
         clear BK200
         clear HO205
         clear HO213
         clear HB
         have HO_0:=n0_
         have HO_6:=n1_
         have BK200:=n2_
         have HO205:=n3_
         have HO213:=n4_
         have HB:=n5_
         have HO208:=n6_
         clear n0_ n1_ n2_ n3_ n4_ n5_ n6_
         clear ho hb hg hat
         refine hK.out _ _ trivial (fun hHeld=>?_)
         clear hK K
         refine norm_ (a':=?_) ?_ ?_
         rotate_left
         ·show Act.put _ (some 19) _ = _
          simp only [Act.put,List.setIfInBounds_toArray,List.set_cons_zero,List.set_cons_succ,i64_w,i32_w]
          rfl
         refine pure_ (i:=7) (N:=some 2) (v:=?_) (a':=?_) #[true,true,true,true,true,true,true,true,false] rfl rfl (any_of HT_.out (by kernel_rfl)) (fun _ _ _ h=>h) (Or.inl ⟨by rfl,?_⟩) ?_ ?_
         rotate_left
         ·intro w'
          go_simp
          with_reducible rfl
         rotate_left
         ·simp only [Act.put,List.setIfInBounds_toArray,List.set_cons_zero,List.set_cons_succ,i64_w,i32_w]
          rfl
         refine pure_ (i:=8) (N:=some 3) (v:=?_) (a':=?_) #[true,true,true,true,true,true,true,true,true] rfl rfl (any_of HT_.out (by kernel_rfl)) (fun _ _ _ h=>h) (Or.inl ⟨by rfl,?_⟩) ?_ ?_
         rotate_left
         ·intro w'
          go_simp
          with_reducible rfl
         rotate_left
         ·simp only [Act.put,List.setIfInBounds_toArray,List.set_cons_zero,List.set_cons_succ,i64_w,i32_w]
          rfl
         refine done_ (done_of HT_.out (by kernel_rfl)) ?_
         try go_wp2
         go_ret2
         exact ⟨_,_,by first|rfl|(simp [errW_none,errW_some] <;> rfl)|(simp [*,errW_none,errW_some] <;> rfl),by (with_reducible repeat (first|apply Kd.R_alloc|apply Kd.R_drewN|apply Kd.R_drew));exact Kd.R_mono HO208.out (fun _ hk=>hk.1),by (with_reducible repeat (first|apply Kd.V_alloc|apply Kd.V_drewN|apply Kd.V_drew));exact Kd.V_mono HO213.out (fun _ hk=>⟨hk.1.1,hk.2⟩),by repeat (first|(with_reducible first|exact HB.out|apply below_alloc|apply pw_below_drewN|apply below_drew1|refine below_set ?_ GE200.out)|exact HB.out)⟩
        ·rw [if_neg c8] at H
         exact absurd H (by simp)
       ·rw [if_neg c7] at H
        exact absurd H (by simp)
      ·rw [if_neg c5] at H
       have c5b0:(((rd_T32 l0 x8_1).f1) == 6) = false:=beq_eq_false_iff_ne.mpr c5
       have c5b1:(((rd_T32 l0 x8_1).f1) != 6) = true:=bne_iff_ne.mpr c5
       have H':=Aside0.mk H
       clear H
       have p199:0≤(x8_1:Int):=of_decide_eq_true (by first|(with_reducible assumption)|assumption)
       have q199:x8_1 < (l0.length:Int):=of_decide_eq_true (by first|(with_reducible assumption)|assumption)
       obtain ⟨ad199,e199,hx199_0,hx199_1,hx199_2,hx199_3⟩:=at_T32 (Kd.V_reads' HO_6.out).2.2 x8_1 p199 q199
       cases e199
       replace p199:=eq_true p199
       replace q199:=eq_true q199
       go_wp2_with (first|((with_reducible refine gate_dst (N:=5) rfl ?_);refine box_event ?hg (N:=5) ?hd (cs:=#[.string (⟨#[]⟩:ByteArray),.int .u16 0,.int .u32 0,.string (⟨#[]⟩:ByteArray)]) (t:=32) ?hr ?_;(case hd=>rfl);(case hg=>rfl);(case hr=>first|(go_simp;done)|(go_simp;rfl));intro gb200 hg w18 hbox hb;have n0_:=Aside0.mk (Kd.V_below (Kd.V_elderB (by (with_reducible repeat (first|apply Kd.V_alloc|apply Kd.V_drewN|apply Kd.V_drew));exact HO_0.out) gb200 (Nat.le_of_eq hg.symm)) hb);have n1_:=Aside0.mk (Kd.V_below (Kd.V_elderB (by (with_reducible repeat (first|apply Kd.V_alloc|apply Kd.V_drewN|apply Kd.V_drew));exact HO_6.out) gb200 (Nat.le_of_eq hg.symm)) hb);have n2_:=Aside0.mk (below_step (by repeat (first|(with_reducible first|exact HB.out|apply below_alloc|apply pw_below_drewN|apply below_drew1)|exact HB.out)) hb);have n3_:=Aside0.mk (hbox);have n4_:=Aside0.mk ((by rw [hg];exact (below_size (by repeat (first|(with_reducible first|exact HB.out|apply below_alloc|apply pw_below_drewN|apply below_drew1)|exact HB.out))):w.heap.size≤gb200));have n5_:=Aside0.mk ((by rw [hg];exact (below_size (by repeat (first|(with_reducible first|exact HB.out|apply below_alloc|apply pw_below_drewN|apply below_drew1)|exact HB.out))):w.heap.size≤gb200));clear HO_0;clear HO_6;clear HB;have HO_0:=n0_;have HO_6:=n1_;have HB:=n2_;have BK200:=n3_;have GW200:=n4_;have GE200:=n5_;clear n0_ n1_ n2_ n3_ n4_ n5_;clear hb hbox hg;have hcz19_0:w18.cell? ⟨gb200,0,none⟩ = some (.string (⟨#[]⟩:ByteArray)):=(blk_cell BK200.out 0).trans rfl;have hcz19_1:w18.cell? ⟨gb200,1,none⟩ = some (.int .u16 0):=(blk_cell BK200.out 1).trans rfl;have hcz19_2:w18.cell? ⟨gb200,2,none⟩ = some (.int .u32 0):=(blk_cell BK200.out 2).trans rfl;have hcz19_3:w18.cell? ⟨gb200,3,none⟩ = some (.string (⟨#[]⟩:ByteArray)):=(blk_cell BK200.out 3).trans rfl;have hfz19_0:=blk_frozen BK200.out 0;have hfz19_1:=blk_frozen BK200.out 1;have hfz19_2:=blk_frozen BK200.out 2;have hfz19_3:=blk_frozen BK200.out 3))
       go_roundg k1
       case measure=>have:=HK1.out;omega
       case rel=>exact ⟨(wrap64 (x8_1 + 1)),(by first|rfl|(simp;done)|(simp [*];done)),H',⟨by have:=HK1.out;omega⟩,⟨by (with_reducible repeat (first|apply Kd.V_alloc|apply Kd.V_drewN|apply Kd.V_drew));exact Kd.V_mono (Kd.V_far (p:=⟨gb200,3,none⟩) (Kd.V_far (p:=⟨gb200,2,none⟩) (Kd.V_far (p:=⟨gb200,1,none⟩) (Kd.V_far (p:=⟨gb200,0,none⟩) (Kd.V_mono HO_0.out (fun k_ hk=>(⟨hk,hk.2⟩:_∧k_≠gb200))) (fun _ hk=>hk.2) (.string ((rd_T32 l0 x8_1).f0))) (fun _ hk=>hk.2) (.int .u16 ((rd_T32 l0 x8_1).f1))) (fun _ hk=>hk.2) (.int .u32 ((rd_T32 l0 x8_1).f2))) (fun _ hk=>hk.2) (.string ((rd_T32 l0 x8_1).f3))) (fun _ hk=>hk.1.1)⟩,⟨by (with_reducible repeat (first|apply Kd.V_alloc|apply Kd.V_drewN|apply Kd.V_drew));exact Kd.V_mono (Kd.V_far (p:=⟨gb200,3,none⟩) (Kd.V_far (p:=⟨gb200,2,none⟩) (Kd.V_far (p:=⟨gb200,1,none⟩) (Kd.V_far (p:=⟨gb200,0,none⟩) (Kd.V_mono HO_6.out (fun k_ hk=>(⟨hk,hk.2⟩:_∧k_≠gb200))) (fun _ hk=>hk.2) (.string ((rd_T32 l0 x8_1).f0))) (fun _ hk=>hk.2) (.int .u16 ((rd_T32 l0 x8_1).f1))) (fun _ hk=>hk.2) (.int .u32 ((rd_T32 l0 x8_1).f2))) (fun _ hk=>hk.2) (.string ((rd_T32 l0 x8_1).f3))) (fun _ hk=>hk.1.1)⟩,⟨by repeat (first|(with_reducible first|exact HB.out|apply below_alloc|apply pw_below_drewN|apply below_drew1|refine below_set ?_ GE200.out)|exact HB.out)⟩⟩
     ·rw [if_neg c4] at H
      exact absurd H (by simp)
    ·rw [if_neg c3] at H
     exact absurd H (by simp)
   ·rw [if_neg c2] at H
    have c2b0:decide (x8_1 < (l0.length:Int)) = false:=decide_eq_false c2
    clear c2
    by_cases c20:([]:List (S32)).length + l0.length < 3518437208883
    ·rw [if_pos c20] at H
     have LMc20:=Aside0.mk c20
     clear c20
     obtain ⟨y214,hy214⟩:∃ y_:List (S32),y_ = (([]:List (S32)) ++ l0):=⟨_,rfl⟩
     replace H:(some (y214,([]:List (S32)))) = some (r1,r2):=by first|(rw [hy214];with_reducible exact H)|(have H2_:=(Option.bind_some _ _).symm.trans H;rw [hy214];with_reducible exact H2_)|(have H2_:=(Option.bind_some _ _).symm.trans H;with_reducible exact H2_)|with_reducible exact H|(rw [hy214];exact H)|exact H
     have Ny214:=Aside0.mk hy214
     clear hy214
     simp only [Option.some.injEq,Prod.mk.injEq] at H
     obtain ⟨rfl,rfl⟩:=H
     go_wp2_with (first|((with_reducible refine gate_builtin (b:=.append) (xs:=#[.const (.slice none 0 0),.tmp 24]) rfl ?_);at_builtin;refine Kd.R_append_rows k32 (w0:=w) w.heap.size rfl (.const (.slice none 0 0)) (.tmp 24) 26 32 (.agg #[(.string ⟨#[]⟩),(.int .u16 0),(.int .u32 0),(.string ⟨#[]⟩)]) 40 rfl Tryd.underlying26 info32 rfl (by decide) (by omega) (.slice none 0 0) ([]:List (S32)) l0 _ _ _ (fun k_=>(w.heap.size≤k_)) (fun _=>False) rfl rfl ?aO ?aR (fun _ _ h=>h) (fun _ h=>h.elim) ?aF ?aB ?aS ?aL ?_;(case aR=>repeat (first|exact (Kd.V_reads' HO_0.out).2.2|(with_reducible refine Kd.C_alloc ?_ _)|(with_reducible refine Kd.C_drewN ?_ _)|(with_reducible refine Kd.C_drew ?_)));(case aB=>exact (by repeat (first|(with_reducible first|exact HB.out|apply below_alloc|apply pw_below_drewN|apply below_drew1)|exact HB.out)));(case aF=>exact (fun k_ hk=>(Nat.le_trans (below_size (by repeat (first|(with_reducible first|exact HB.out|apply below_alloc|apply pw_below_drewN|apply below_drew1)|exact HB.out))) hk)));(case aO=>exact ((Kd.R_nil _ _ _ _ (fun k_=>(w.heap.size≤k_)))));(case aS=>exact (below_size (by repeat (first|(with_reducible first|exact HB.out|apply below_alloc|apply pw_below_drewN|apply below_drew1)|exact HB.out))));(case aL=>have:=LMc20.out;omega);intro v215 w21 ho hb hg hat;rw [← Ny214.out] at ho;have n0_:=Aside0.mk (Kd.V_afterv (Kd.V_apart_nil (by (with_reducible repeat (first|apply Kd.V_alloc|apply Kd.V_drewN|apply Kd.V_drew));exact HO_0.out)) hg hat);have n1_:=Aside0.mk (Kd.V_afterv (Kd.V_apart_nil (by (with_reducible repeat (first|apply Kd.V_alloc|apply Kd.V_drewN|apply Kd.V_drew));exact HO_6.out)) hg hat);have n2_:=Aside0.mk (hb);have n3_:=Aside0.mk (ho);clear HO_0;clear HO_6;clear HB;have HO_0:=n0_;have HO_6:=n1_;have HB:=n2_;have HO216:=n3_;clear n0_ n1_ n2_ n3_;clear ho hb hg hat))
     go_ret2
     exact ⟨_,_,by first|rfl|(simp [errW_none,errW_some] <;> rfl)|(simp [*,errW_none,errW_some] <;> rfl),by (with_reducible repeat (first|apply Kd.R_alloc|apply Kd.R_drewN|apply Kd.R_drew));exact HO216.out,Kd.V_nil _ _ _ _ _,by repeat (first|(with_reducible first|exact HB.out|apply below_alloc|apply pw_below_drewN|apply below_drew1)|exact HB.out)⟩
    ·rw [if_neg c20] at H
     exact absurd H (by simp)
end Go.Proofs.YtlobjcokopfbkaaDoor.PY
