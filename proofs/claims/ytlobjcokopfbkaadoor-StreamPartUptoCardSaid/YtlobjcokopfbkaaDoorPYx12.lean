import Derived.Test.YtlobjcokopfbkaaDoorPYx0
import Derived.Test.YtlobjcokopfbkaaDoorPYx2
import Derived.Test.YtlobjcokopfbkaaDoorPYx11
namespace Go.Proofs.YtlobjcokopfbkaaDoor.PY
open Go.RowKit Go.Proofs.YtlobjcokopfbkaaDoorW.PrintWords Go.Proofs.YtlobjcokopfbkaaDoorW.PrintLast Go.Proofs.YtlobjcokopfbkaaDoorW.PrintMore
attribute [local go_sem] max2_int min2_int max_two min_two max_three min_three max_four min_four   -- for this text's walks alone
set_option linter.unusedVariables false
set_option linter.unusedSimpArgs false
def bolterlaw05_Record.f (k:Nat) (l0_0:List Int) (a0_1:Int) (a0_2:Int) (l0_3:List Int) (a0_4:ByteArray):Option (ByteArray × Int × Int × ByteArray):=if 0≤(mn (a0_4.size:Int) 30) then (if (mn (a0_4.size:Int) 30)≤(a0_4.size:Int) then ((bolterlaw04_Data.f k (IntKind.u16.wrap (a0_1)) l0_3 (a0_4.extract 0 ((mn (a0_4.size:Int) 30):Int).toNat)).bind fun bt354=>((bolterlaw02_Name.f k l0_0).bind fun t356=>(some (t356,bt354.1,a0_2,bt354.2)))) else (none)) else (none)
theorem bolterlaw05_Record.mono:∀ a0 a1 a2 a3 a4 k,LeO (bolterlaw05_Record.f k a0 a1 a2 a3 a4) (bolterlaw05_Record.f (k + 1) a0 a1 a2 a3 a4):=by
 intro a0 a1 a2 a3 a4 k
 unfold bolterlaw05_Record.f
 repeat' first
   | (with_reducible exact bolterlaw02_Name.mono _ _)
   | (with_reducible exact bolterlaw04_Data.mono _ _ _ _)
   | (with_reducible exact LeO.refl _)
   | (with_reducible exact LeO.none _)
   | (with_reducible refine LeO.ite ?_ ?_)
   | (with_reducible refine LeO.bind ?_ (fun _=>?_))
   | exact bolterlaw02_Name.mono _ _
   | exact bolterlaw04_Data.mono _ _ _ _
   | exact LeO.none _
   | refine LeO.ite ?_ ?_
   | refine LeO.bind ?_ (fun _=>?_)
def bolterlaw05_Record.T1:Bool × List (List Nat × List Nat):=(true,[([],[]),([0],[0]),([1],[1]),([],[]),([3],[3]),([],[]),([5],[5]),([],[]),([7],[7]),([8],[8]),([9],[9]),([6,10],[6,10]),([2,4,11],[2,4,11]),([12],[12]),([13],[13]),([13],[13]),([14,12,0,1,2,3,4,5,6,7,8,9,10,11,12,13,14],[14]),([15,16,0,1,2,3,4,5,6,7,8,9,10,11,12,13,14,15,16],[15])])
def bolterlaw05_Record.B1:List Nat:=[0,1,3,0,8,0,32,0,128,384,896,2016,4095,8191,16383,16383,32767,131071]
theorem bolterlaw05_Record.tab1:rtab .any (opsOf Tryd.f23 1) = bolterlaw05_Record.T1:=by kernel_rfl
theorem bolterlaw05_Record.bits1:waitsOk bolterlaw05_Record.T1.2 bolterlaw05_Record.B1 = true:=by kernel_rfl
def bolterlaw05_Record.T2:Bool × List (List Nat × List Nat):=(true,[([],[]),([0],[0]),([1],[1]),([],[]),([],[]),([4],[4]),([],[]),([2,3,5,6],[2,3,5,6]),([7,2,0,1,2,3,4,5,6,7],[7])])
def bolterlaw05_Record.B2:List Nat:=[0,1,3,0,0,16,0,127,255]
theorem bolterlaw05_Record.tab2:rtab .any (opsOf Tryd.f23 2) = bolterlaw05_Record.T2:=by kernel_rfl
theorem bolterlaw05_Record.bits2:waitsOk bolterlaw05_Record.T2.2 bolterlaw05_Record.B2 = true:=by kernel_rfl
set_option maxHeartbeats 8000000 in
set_option maxRecDepth 100000 in
theorem bolterlaw05_Record.calls (k:Nat) (A0_0:Option Addr) (c0_0:Nat) (l0_0:List Int) (a0_1:Int) (a0_2:Int) (A0_3:Option Addr) (c0_3:Nat) (l0_3:List Int) (a0_4:ByteArray) (r1:ByteArray) (r2:Int) (r3:Int) (r4:ByteArray) (w:World) (hr0_0:Kd.C (Kd.int .u8) w A0_0 l0_0.length l0_0) (hc0_0:l0_0.length≤c0_0) (hr0_3:Kd.C (Kd.int .u8) w A0_3 l0_3.length l0_3) (hc0_3:l0_3.length≤c0_3) (h:bolterlaw05_Record.f k l0_0 a0_1 a0_2 l0_3 a0_4 = some (r1,r2,r3,r4)) :
  Calls Tryd.prog 23 #[.agg #[.slice A0_0 l0_0.length c0_0,.int .u8 a0_1,.int .u32 a0_2,.slice A0_3 l0_3.length c0_3,.string a0_4]] w fun e w'=>e = .returned (.agg #[.string r1,.int .u16 r2,.int .u32 r3,.string r4])∧Below w.heap.size w w':=by
 have hu45:=Tryd.underlying45
 have hu32:=Tryd.underlying32
 have HR0_0:=Aside0.mk hr0_0
 have HC0_0:=Aside0.mk hc0_0
 clear hr0_0 hc0_0
 have HR0_3:=Aside0.mk hr0_3
 have HC0_3:=Aside0.mk hc0_3
 clear hr0_3 hc0_3
 have HB:=Aside0.mk (Below.refl w.heap.size w)
 have H:(if 0≤(mn (a0_4.size:Int) 30) then (if (mn (a0_4.size:Int) 30)≤(a0_4.size:Int) then ((bolterlaw04_Data.f k (IntKind.u16.wrap (a0_1)) l0_3 (a0_4.extract 0 ((mn (a0_4.size:Int) 30):Int).toNat)).bind fun bt354=>((bolterlaw02_Name.f k l0_0).bind fun t356=>(some (t356,bt354.1,a0_2,bt354.2)))) else (none)) else (none)) = some (r1,r2,r3,r4):=h
 clear h
 obtain ⟨ji2,hji2⟩:∃ j_:Int,(mn (a0_4.size:Int) 30) = j_:=⟨_,rfl⟩
 replace H:(if 0≤(ji2) then (if (ji2)≤(a0_4.size:Int) then ((bolterlaw04_Data.f k (IntKind.u16.wrap (a0_1)) l0_3 (a0_4.extract 0 ((ji2):Int).toNat)).bind fun bt354=>((bolterlaw02_Name.f k l0_0).bind fun t356=>(some (t356,bt354.1,a0_2,bt354.2)))) else (none)) else (none)) = some (r1,r2,r3,r4):=by first|(rw [hji2] at H;exact H)|(simp only [hji2] at H ⊢;exact H)
 (try (have hji2h:ji2≤30:=by (rw [← hji2];unfold mn;(repeat' split) <;> omega)))
 (try (have hji2g:ji2≤64:=by omega))
 (try (have hji2l:0≤ji2:=by (rw [← hji2];unfold mn;(repeat' split) <;> omega)))
 (try (have hji2m:0≤ji2:=by omega))
 (try (have hji2n:(if 30 < a0_4.size then (30:Int) else (a0_4.size:Int)) = ji2:=by (rw [← hji2];unfold mn;(repeat' split) <;> omega)))
 have hji2_:(if 30 < (a0_4.size:Int) then 30 else (a0_4.size:Int)) = ji2:=hji2
 by_cases c3:0≤(ji2)
 ·rw [if_pos c3] at H
  have c3b0:=eq_true c3
  have c3b1:decide (0≤(ji2)) = true:=decide_eq_true c3
  clear c3
  by_cases c4:(ji2)≤(a0_4.size:Int)
  ·rw [if_pos c4] at H
   have c4b0:=eq_true c4
   have c4b1:decide ((ji2)≤(a0_4.size:Int)) = true:=decide_eq_true c4
   clear c4
   replace H:=Option.bind_eq_some_iff.mp H
   obtain ⟨⟨t354,t355⟩,A50,H⟩:=H
   replace H:((bolterlaw02_Name.f k l0_0).bind fun t356=>(some (t356,t354,a0_2,t355))) = some (r1,r2,r3,r4):=H
   have A5:=Aside0.mk A50
   clear A50
   replace H:=Option.bind_eq_some_iff.mp H
   obtain ⟨t356,A60,H⟩:=H
   replace H:(some (t356,t354,a0_2,t355)) = some (r1,r2,r3,r4):=H
   have A6:=Aside0.mk A60
   clear A60
   simp only [Option.some.injEq,Prod.mk.injEq] at H
   obtain ⟨rfl,rfl,rfl,rfl⟩:=H
   go_enter Tryd.func23,Tryd.ntmps23
   try go_wp2_with (first|((with_reducible refine gate_dst (N:=1) rfl ?_);refine box_event ?hg (N:=1) ?hd (cs:=#[.slice A0_0 l0_0.length c0_0,.int .u8 a0_1,.int .u32 a0_2,.slice A0_3 l0_3.length c0_3,.string a0_4]) (t:=45) ?hr ?_;(case hd=>rfl);(case hg=>rfl);(case hr=>first|(go_simp;done)|(go_simp;rfl));intro gb352 hg w7 hbox hb;have n0_:=Aside0.mk (below_step (by repeat (first|(with_reducible first|exact HB.out|apply below_alloc|apply pw_below_drewN|apply below_drew1)|exact HB.out)) hb);have n1_:=Aside0.mk (hbox);have n2_:=Aside0.mk ((by rw [hg];exact (below_size (by repeat (first|(with_reducible first|exact HB.out|apply below_alloc|apply pw_below_drewN|apply below_drew1)|exact HB.out))):w.heap.size≤gb352));have n3_:=Aside0.mk ((by rw [hg];exact (below_size (by repeat (first|(with_reducible first|exact HB.out|apply below_alloc|apply pw_below_drewN|apply below_drew1)|exact HB.out))):w.heap.size≤gb352));clear HB;have HB:=n0_;have BK352:=n1_;have GW352:=n2_;have GE352:=n3_;clear n0_ n1_ n2_ n3_;clear hb hbox hg)|((with_reducible refine gate_dst (N:=2) rfl ?_);refine box_event ?hg (N:=2) ?hd (cs:=#[.string (⟨#[]⟩:ByteArray),.int .u16 0,.int .u32 0,.string (⟨#[]⟩:ByteArray)]) (t:=32) ?hr ?_;(case hd=>rfl);(case hg=>rfl);(case hr=>first|(go_simp;done)|(go_simp;rfl));intro gb353 hg w8 hbox hb;have n0_:=Aside0.mk (blk_below (g:=gb352) (o:=.cells #[.slice A0_0 l0_0.length c0_0,.int .u8 a0_1,.int .u32 a0_2,.slice A0_3 l0_3.length c0_3,.string a0_4] 45 (0,0)) (by (with_reducible repeat (first|apply blk_drewN|apply blk_drew|apply blk_alloc));exact BK352.out) hb);have n1_:=Aside0.mk (below_step (by repeat (first|(with_reducible first|exact HB.out|apply below_alloc|apply pw_below_drewN|apply below_drew1|refine below_set ?_ GE352.out)|exact HB.out)) hb);have n2_:=Aside0.mk (hbox);have n3_:=Aside0.mk ((by rw [hg];exact (below_size (by repeat (first|(with_reducible first|exact HB.out|apply below_alloc|apply pw_below_drewN|apply below_drew1|refine below_set ?_ GE352.out)|exact HB.out))):w.heap.size≤gb353));have n4_:=Aside0.mk ((by rw [hg];exact (below_size (by repeat (first|(with_reducible first|exact HB.out|apply below_alloc|apply pw_below_drewN|apply below_drew1|refine below_set ?_ GE352.out)|exact HB.out))):w.heap.size≤gb353));have n5_:=Aside0.mk ((by rw [hg];exact Nat.ne_of_lt (blk_lt (g:=gb352) (o:=.cells #[.slice A0_0 l0_0.length c0_0,.int .u8 a0_1,.int .u32 a0_2,.slice A0_3 l0_3.length c0_3,.string a0_4] 45 (0,0)) (by (with_reducible repeat (first|apply blk_drewN|apply blk_drew|apply blk_alloc));exact BK352.out)):gb352≠gb353));have n6_:=Aside0.mk ((by rw [hg];exact Nat.ne_of_gt (blk_lt (g:=gb352) (o:=.cells #[.slice A0_0 l0_0.length c0_0,.int .u8 a0_1,.int .u32 a0_2,.slice A0_3 l0_3.length c0_3,.string a0_4] 45 (0,0)) (by (with_reducible repeat (first|apply blk_drewN|apply blk_drew|apply blk_alloc));exact BK352.out)):gb353≠gb352));clear BK352;clear HB;have BK352:=n0_;have HB:=n1_;have BK353:=n2_;have GW353:=n3_;have GE353:=n4_;have NB352_353:=n5_;have NB353_352:=n6_;clear n0_ n1_ n2_ n3_ n4_ n5_ n6_;clear hb hbox hg))
   have n0_:=Aside0.mk (blk_drew BK352.out)
   have n1_:=Aside0.mk (blk_drew BK353.out)
   have n2_:=Aside0.mk (below_drew1 HB.out)
   clear BK352
   clear BK353
   clear HB
   have BK352:=n0_
   have BK353:=n1_
   have HB:=n2_
   clear n0_ n1_ n2_
   refine start_ (n:=18) (S:=fun w'=>w'.cell? ⟨gb352,0,none⟩ = some (.slice A0_0 l0_0.length c0_0)∧w'.cell? ⟨gb352,1,none⟩ = some (.int .u8 a0_1)∧w'.cell? ⟨gb352,2,none⟩ = some (.int .u32 a0_2)∧w'.cell? ⟨gb352,3,none⟩ = some (.slice A0_3 l0_3.length c0_3)∧w'.cell? ⟨gb352,4,none⟩ = some (.string a0_4)) (ds:=[]) #[false,false,false,false,false,false,false,false,false,false,false,false,false,false,false,false,false,false] (by kernel_rfl) rfl rfl ⟨(blk_cell BK352.out 0).trans rfl,(blk_cell BK352.out 1).trans rfl,(blk_cell BK352.out 2).trans rfl,(blk_cell BK352.out 3).trans rfl,(blk_cell BK352.out 4).trans rfl⟩ (fun hHeld=>?_);refine with_tabW bolterlaw05_Record.tab1 bolterlaw05_Record.bits1 (fun HT_ HW_=>?_)
   generalize w8.drew = w9 at BK352 BK353 HB hHeld ⊢
   refine pure_ (i:=0) (N:=some 6) (v:=?_) (a':=?_) #[true,false,false,false,false,false,false,false,false,false,false,false,false,false,false,false,false,false] rfl rfl (any_of HT_.out (by kernel_rfl)) (fun _ _ _ h=>h) (Or.inl ⟨by rfl,?_⟩) ?_ ?_
   rotate_left
   ·intro w'
    go_simp
    with_reducible rfl
   rotate_left
   ·simp only [Act.put,List.setIfInBounds_toArray,List.set_cons_zero,List.set_cons_succ,i64_w,i32_w]
    rfl
   refine pure_ (i:=3) (N:=some 9) (v:=?_) (a':=?_) #[true,false,false,true,false,false,false,false,false,false,false,false,false,false,false,false,false,false] rfl rfl (any_of HT_.out (by kernel_rfl)) (fun _ _ _ h=>h) (Or.inl ⟨by rfl,?_⟩) ?_ ?_
   rotate_left
   ·intro w'
    go_simp
    with_reducible rfl
   rotate_left
   ·simp only [Act.put,List.setIfInBounds_toArray,List.set_cons_zero,List.set_cons_succ,i64_w,i32_w]
    rfl
   refine pure_ (i:=5) (N:=some 11) (v:=?_) (a':=?_) #[true,false,false,true,false,true,false,false,false,false,false,false,false,false,false,false,false,false] rfl rfl (any_of HT_.out (by kernel_rfl)) (fun _ _ _ h=>h) (Or.inl ⟨by rfl,?_⟩) ?_ ?_
   rotate_left
   ·intro w'
    go_simp
    with_reducible rfl
   rotate_left
   ·simp only [Act.put,List.setIfInBounds_toArray,List.set_cons_zero,List.set_cons_succ,i64_w,i32_w]
    rfl
   refine pure_ (i:=7) (N:=some 13) (v:=?_) (a':=?_) #[true,false,false,true,false,true,false,true,false,false,false,false,false,false,false,false,false,false] rfl rfl (any_of HT_.out (by kernel_rfl)) (fun _ _ _ h=>h) (Or.inl ⟨by rfl,?_⟩) ?_ ?_
   rotate_left
   ·intro w'
    go_simp
    with_reducible rfl
   rotate_left
   ·simp only [Act.put,List.setIfInBounds_toArray,List.set_cons_zero,List.set_cons_succ,i64_w,i32_w]
    rfl
   refine take_ (i:=1) (N:=some 7) (v:=?_) (a':=?_) #[true,true,false,true,false,true,false,true,false,false,false,false,false,false,false,false,false,false] rfl rfl (take_ofW HT_.out HW_.out (by kernel_rfl)) (fun _ _ _ h=>h) (Or.inl ⟨by rfl,?_⟩) hHeld ?_ ?_
   rotate_left
   ·rintro w' ⟨s0,s1,s2,s3,s4⟩
    go_simp
    with_reducible rfl
   rotate_left
   ·simp only [Act.put,List.setIfInBounds_toArray,List.set_cons_zero,List.set_cons_succ,i64_w,i32_w]
    rfl
   refine pure_ (i:=2) (N:=some 8) (v:=?_) (a':=?_) #[true,true,true,true,false,true,false,true,false,false,false,false,false,false,false,false,false,false] rfl rfl (any_of HT_.out (by kernel_rfl)) (fun _ _ _ h=>h) (Or.inl ⟨by rfl,?_⟩) ?_ ?_
   rotate_left
   ·intro w'
    go_simp
    with_reducible rfl
   rotate_left
   ·simp only [Act.put,List.setIfInBounds_toArray,List.set_cons_zero,List.set_cons_succ,i64_w,i32_w]
    rfl
   refine take_ (i:=4) (N:=some 10) (v:=?_) (a':=?_) #[true,true,true,true,true,true,false,true,false,false,false,false,false,false,false,false,false,false] rfl rfl (take_ofW HT_.out HW_.out (by kernel_rfl)) (fun _ _ _ h=>h) (Or.inl ⟨by rfl,?_⟩) hHeld ?_ ?_
   rotate_left
   ·rintro w' ⟨s0,s1,s2,s3,s4⟩
    go_simp
    with_reducible rfl
   rotate_left
   ·simp only [Act.put,List.setIfInBounds_toArray,List.set_cons_zero,List.set_cons_succ,i64_w,i32_w]
    rfl
   refine take_ (i:=6) (N:=some 12) (v:=?_) (a':=?_) #[true,true,true,true,true,true,true,true,false,false,false,false,false,false,false,false,false,false] rfl rfl (take_ofW HT_.out HW_.out (by kernel_rfl)) (fun _ _ _ h=>h) (Or.inl ⟨by rfl,?_⟩) hHeld ?_ ?_
   rotate_left
   ·rintro w' ⟨s0,s1,s2,s3,s4⟩
    go_simp
    with_reducible rfl
   rotate_left
   ·simp only [Act.put,List.setIfInBounds_toArray,List.set_cons_zero,List.set_cons_succ,i64_w,i32_w]
    rfl
   refine take_ (i:=8) (N:=some 14) (v:=?_) (a':=?_) #[true,true,true,true,true,true,true,true,true,false,false,false,false,false,false,false,false,false] rfl rfl (take_ofW HT_.out HW_.out (by kernel_rfl)) (fun _ _ _ h=>h) (Or.inl ⟨by rfl,?_⟩) hHeld ?_ ?_
   rotate_left
   ·rintro w' ⟨s0,s1,s2,s3,s4⟩
    go_simp
    with_reducible rfl
   rotate_left
   ·simp only [Act.put,List.setIfInBounds_toArray,List.set_cons_zero,List.set_cons_succ,i64_w,i32_w]
    rfl
   refine pure_ (i:=9) (N:=some 15) (v:=?_) (a':=?_) #[true,true,true,true,true,true,true,true,true,true,false,false,false,false,false,false,false,false] rfl rfl (any_of HT_.out (by kernel_rfl)) (fun _ _ _ h=>h) (Or.inl ⟨by rfl,?_⟩) ?_ ?_
   rotate_left
   ·intro w'
    go_simp
    with_reducible rfl
   rotate_left
   ·simp only [Act.put,List.setIfInBounds_toArray,List.set_cons_zero,List.set_cons_succ,i64_w,i32_w]
    rfl
   refine pure_ (i:=10) (N:=some 16) (v:=?_) (a':=?_) #[true,true,true,true,true,true,true,true,true,true,true,false,false,false,false,false,false,false] rfl rfl (any_of HT_.out (by kernel_rfl)) (fun _ _ _ h=>h) (Or.inl ⟨by rfl,?_⟩) ?_ ?_
   rotate_left
   ·intro w'
    go_simp
    with_reducible rfl
   rotate_left
   ·simp only [Act.put,List.setIfInBounds_toArray,List.set_cons_zero,List.set_cons_succ,i64_w,i32_w]
    rfl
   refine pure_ (i:=11) (N:=some 17) (v:=?_) (a':=?_) #[true,true,true,true,true,true,true,true,true,true,true,true,false,false,false,false,false,false] rfl rfl (any_of HT_.out (by kernel_rfl)) (fun _ _ _ h=>h) (Or.inl ⟨by rfl,?_⟩) ?_ ?_
   rotate_left
   ·intro w'
    go_simp
    with_reducible rfl
   rotate_left
   ·simp only [Act.put,List.setIfInBounds_toArray,List.set_cons_zero,List.set_cons_succ,i64_w,i32_w]
    rfl
   refine one_ (i:=12) (N:=some 18) #[true,true,true,true,true,true,true,true,true,true,true,true,true,false,false,false,false,false] rfl rfl (one_of HT_.out (by kernel_rfl)) (by decide) (fun K hK=>?_)
   refine goes_ Tryd.func38 (by kernel_rfl) rfl #[.int .u16 (IntKind.u16.wrap (a0_1)),.slice A0_3 l0_3.length c0_3,.string (a0_4.extract 0 ((ji2):Int).toNat)] (by rfl) rfl rfl (by (try simp only [List.map_toArray,List.map_cons,List.map_nil]);first|done|(simp only [hji2];rfl)|rfl|(simp only [List.length_drop,List.length_take];rfl)) ?_
   with_reducible refine (bolterlaw04_Data.calls k (IntKind.u16.wrap (a0_1)) _ _ l0_3 (a0_4.extract 0 ((ji2):Int).toNat) t354 t355 _ ?side1 ?side2 A5.out).mono ?_
   (case side1=>repeat (first|exact (Kd.C_below HR0_3.out HB.out)|(with_reducible refine Kd.C_alloc ?_ _)|(with_reducible refine Kd.C_drewN ?_ _)|(with_reducible refine Kd.C_drew ?_)))
   (case side2=>exact HC0_3.out)
   rintro e w10 ⟨rfl,hb⟩
   refine ⟨_,rfl,?_⟩
   have n0_:=Aside0.mk (blk_below (g:=gb352) (o:=.cells #[.slice A0_0 l0_0.length c0_0,.int .u8 a0_1,.int .u32 a0_2,.slice A0_3 l0_3.length c0_3,.string a0_4] 45 (0,0)) (by (with_reducible repeat (first|apply blk_drewN|apply blk_drew|apply blk_alloc));exact BK352.out) hb)
   have n1_:=Aside0.mk (blk_below (g:=gb353) (o:=.cells #[.string (⟨#[]⟩:ByteArray),.int .u16 0,.int .u32 0,.string (⟨#[]⟩:ByteArray)] 32 (0,0)) (by (with_reducible repeat (first|apply blk_drewN|apply blk_drew|apply blk_alloc));exact BK353.out) hb)
   have n2_:=Aside0.mk (below_step (by repeat (first|(with_reducible first|exact HB.out|apply below_alloc|apply pw_below_drewN|apply below_drew1|refine below_set ?_ GE352.out|refine below_set ?_ GE353.out)|exact HB.out)) hb)
   clear BK352
   clear BK353
   clear HB
   have BK352:=n0_
   have BK353:=n1_
   have HB:=n2_
   clear n0_ n1_ n2_
   (try clear hb)
   (try clear hb2)
   (try clear hk)
   (try clear hi)
   refine hK.out _ _ ⟨(blk_cell BK352.out 0).trans rfl,(blk_cell BK352.out 1).trans rfl,(blk_cell BK352.out 2).trans rfl,(blk_cell BK352.out 3).trans rfl,(blk_cell BK352.out 4).trans rfl⟩ (fun hHeld=>?_)
   clear hK K
   refine norm_ (a':=?_) ?_ ?_
   rotate_left
   ·show Act.put _ (some 18) _ = _
    simp only [Act.put,List.setIfInBounds_toArray,List.set_cons_zero,List.set_cons_succ,i64_w,i32_w]
    rfl
   refine pure_ (i:=13) (N:=some 5) (v:=?_) (a':=?_) #[true,true,true,true,true,true,true,true,true,true,true,true,true,true,false,false,false,false] rfl rfl (any_of HT_.out (by kernel_rfl)) (fun _ _ _ h=>h) (Or.inl ⟨by rfl,?_⟩) ?_ ?_
   rotate_left
   ·intro w'
    go_simp
    with_reducible rfl
   rotate_left
   ·simp only [Act.put,List.setIfInBounds_toArray,List.set_cons_zero,List.set_cons_succ,i64_w,i32_w]
    rfl
   refine pure_ (i:=14) (N:=some 19) (v:=?_) (a':=?_) #[true,true,true,true,true,true,true,true,true,true,true,true,true,true,true,false,false,false] rfl rfl (any_of HT_.out (by kernel_rfl)) (fun _ _ _ h=>h) (Or.inl ⟨by rfl,?_⟩) ?_ ?_
   rotate_left
   ·intro w'
    go_simp
    with_reducible rfl
   rotate_left
   ·simp only [Act.put,List.setIfInBounds_toArray,List.set_cons_zero,List.set_cons_succ,i64_w,i32_w]
    rfl
   refine pure_ (i:=15) (N:=some 20) (v:=?_) (a':=?_) #[true,true,true,true,true,true,true,true,true,true,true,true,true,true,true,true,false,false] rfl rfl (any_of HT_.out (by kernel_rfl)) (fun _ _ _ h=>h) (Or.inl ⟨by rfl,?_⟩) ?_ ?_
   rotate_left
   ·intro w'
    go_simp
    with_reducible rfl
   rotate_left
   ·simp only [Act.put,List.setIfInBounds_toArray,List.set_cons_zero,List.set_cons_succ,i64_w,i32_w]
    rfl
   refine pure_ (i:=16) (N:=some 3) (v:=?_) (a':=?_) #[true,true,true,true,true,true,true,true,true,true,true,true,true,true,true,true,true,false] rfl rfl (any_of HT_.out (by kernel_rfl)) (fun _ _ _ h=>h) (Or.inl ⟨by rfl,?_⟩) ?_ ?_
   rotate_left
   ·intro w'
    go_simp
    with_reducible rfl
   rotate_left
   ·simp only [Act.put,List.setIfInBounds_toArray,List.set_cons_zero,List.set_cons_succ,i64_w,i32_w]
    rfl
   refine pure_ (i:=17) (N:=some 4) (v:=?_) (a':=?_) #[true,true,true,true,true,true,true,true,true,true,true,true,true,true,true,true,true,true] rfl rfl (any_of HT_.out (by kernel_rfl)) (fun _ _ _ h=>h) (Or.inl ⟨by rfl,?_⟩) ?_ ?_
   rotate_left
   ·intro w'
    go_simp
    with_reducible rfl
   rotate_left
   ·simp only [Act.put,List.setIfInBounds_toArray,List.set_cons_zero,List.set_cons_succ,i64_w,i32_w]
    rfl
   refine done_ (done_of HT_.out (by kernel_rfl)) ?_
   try go_wp2
   have n0_:=Aside0.mk (blk_drew BK352.out)
   have n1_:=Aside0.mk (blk_drew BK353.out)
   have n2_:=Aside0.mk (below_drew1 HB.out)
   clear BK352
   clear BK353
   clear HB
   have BK352:=n0_
   have BK353:=n1_
   have HB:=n2_
   clear n0_ n1_ n2_
   refine start_ (n:=9) (S:=fun w'=>w'.cell? ⟨gb352,0,none⟩ = some (.slice A0_0 l0_0.length c0_0)∧w'.cell? ⟨gb352,1,none⟩ = some (.int .u8 a0_1)∧w'.cell? ⟨gb352,2,none⟩ = some (.int .u32 a0_2)∧w'.cell? ⟨gb352,3,none⟩ = some (.slice A0_3 l0_3.length c0_3)∧w'.cell? ⟨gb352,4,none⟩ = some (.string a0_4)) (ds:=[]) #[false,false,false,false,false,false,false,false,false] (by kernel_rfl) rfl rfl ⟨(blk_cell BK352.out 0).trans rfl,(blk_cell BK352.out 1).trans rfl,(blk_cell BK352.out 2).trans rfl,(blk_cell BK352.out 3).trans rfl,(blk_cell BK352.out 4).trans rfl⟩ (fun hHeld=>?_);refine with_tabW bolterlaw05_Record.tab2 bolterlaw05_Record.bits2 (fun HT_ HW_=>?_)
   generalize w10.drew = w11 at BK352 BK353 HB hHeld ⊢
   refine pure_ (i:=0) (N:=some 21) (v:=?_) (a':=?_) #[true,false,false,false,false,false,false,false,false] rfl rfl (any_of HT_.out (by kernel_rfl)) (fun _ _ _ h=>h) (Or.inl ⟨by rfl,?_⟩) ?_ ?_
   rotate_left
   ·intro w'
    go_simp
    with_reducible rfl
   rotate_left
   ·simp only [Act.put,List.setIfInBounds_toArray,List.set_cons_zero,List.set_cons_succ,i64_w,i32_w]
    rfl
   refine pure_ (i:=3) (N:=some 24) (v:=?_) (a':=?_) #[true,false,false,true,false,false,false,false,false] rfl rfl (any_of HT_.out (by kernel_rfl)) (fun _ _ _ h=>h) (Or.inl ⟨by rfl,?_⟩) ?_ ?_
   rotate_left
   ·intro w'
    go_simp
    with_reducible rfl
   rotate_left
   ·simp only [Act.put,List.setIfInBounds_toArray,List.set_cons_zero,List.set_cons_succ,i64_w,i32_w]
    rfl
   refine pure_ (i:=4) (N:=some 25) (v:=?_) (a':=?_) #[true,false,false,true,true,false,false,false,false] rfl rfl (any_of HT_.out (by kernel_rfl)) (fun _ _ _ h=>h) (Or.inl ⟨by rfl,?_⟩) ?_ ?_
   rotate_left
   ·intro w'
    go_simp
    with_reducible rfl
   rotate_left
   ·simp only [Act.put,List.setIfInBounds_toArray,List.set_cons_zero,List.set_cons_succ,i64_w,i32_w]
    rfl
   refine pure_ (i:=6) (N:=some 27) (v:=?_) (a':=?_) #[true,false,false,true,true,false,true,false,false] rfl rfl (any_of HT_.out (by kernel_rfl)) (fun _ _ _ h=>h) (Or.inl ⟨by rfl,?_⟩) ?_ ?_
   rotate_left
   ·intro w'
    go_simp
    with_reducible rfl
   rotate_left
   ·simp only [Act.put,List.setIfInBounds_toArray,List.set_cons_zero,List.set_cons_succ,i64_w,i32_w]
    rfl
   refine take_ (i:=1) (N:=some 22) (v:=?_) (a':=?_) #[true,true,false,true,true,false,true,false,false] rfl rfl (take_ofW HT_.out HW_.out (by kernel_rfl)) (fun _ _ _ h=>h) (Or.inl ⟨by rfl,?_⟩) hHeld ?_ ?_
   rotate_left
   ·rintro w' ⟨s0,s1,s2,s3,s4⟩
    go_simp
    with_reducible rfl
   rotate_left
   ·simp only [Act.put,List.setIfInBounds_toArray,List.set_cons_zero,List.set_cons_succ,i64_w,i32_w]
    rfl
   refine take_ (i:=5) (N:=some 26) (v:=?_) (a':=?_) #[true,true,false,true,true,true,true,false,false] rfl rfl (take_ofW HT_.out HW_.out (by kernel_rfl)) (fun _ _ _ h=>h) (Or.inl ⟨by rfl,?_⟩) hHeld ?_ ?_
   rotate_left
   ·rintro w' ⟨s0,s1,s2,s3,s4⟩
    go_simp
    with_reducible rfl
   rotate_left
   ·simp only [Act.put,List.setIfInBounds_toArray,List.set_cons_zero,List.set_cons_succ,i64_w,i32_w]
    rfl
   refine one_ (i:=2) (N:=some 23) #[true,true,true,true,true,true,true,false,false] rfl rfl (one_of HT_.out (by kernel_rfl)) (by decide) (fun K hK=>?_)
   refine goes_ Tryd.func22 (by kernel_rfl) rfl #[.slice A0_0 l0_0.length c0_0] (by rfl) rfl rfl (by (try simp only [List.map_toArray,List.map_cons,List.map_nil]) <;> first|rfl|(simp only [List.length_drop,List.length_take];rfl)) ?_
   with_reducible refine (bolterlaw02_Name.calls k _ _ l0_0 t356 _ ?side1 ?side2 A6.out).mono ?_
   (case side1=>repeat (first|exact (Kd.C_below HR0_0.out HB.out)|(with_reducible refine Kd.C_alloc ?_ _)|(with_reducible refine Kd.C_drewN ?_ _)|(with_reducible refine Kd.C_drew ?_)))
   (case side2=>exact HC0_0.out)
   rintro e w12 ⟨rfl,hb⟩
   refine ⟨_,rfl,?_⟩
   have n0_:=Aside0.mk (blk_below (g:=gb352) (o:=.cells #[.slice A0_0 l0_0.length c0_0,.int .u8 a0_1,.int .u32 a0_2,.slice A0_3 l0_3.length c0_3,.string a0_4] 45 (0,0)) (by (with_reducible repeat (first|apply blk_drewN|apply blk_drew|apply blk_alloc));exact BK352.out) hb)
   have n1_:=Aside0.mk (blk_below (g:=gb353) (o:=.cells #[.string (⟨#[]⟩:ByteArray),.int .u16 0,.int .u32 0,.string (⟨#[]⟩:ByteArray)] 32 (0,0)) (by (with_reducible repeat (first|apply blk_drewN|apply blk_drew|apply blk_alloc));exact BK353.out) hb)
   have n2_:=Aside0.mk (below_step (by repeat (first|(with_reducible first|exact HB.out|apply below_alloc|apply pw_below_drewN|apply below_drew1|refine below_set ?_ GE352.out|refine below_set ?_ GE353.out)|exact HB.out)) hb)
   clear BK352
   clear BK353
   clear HB
   have BK352:=n0_
   have BK353:=n1_
   have HB:=n2_
   clear n0_ n1_ n2_
   (try clear hb)
   (try clear hb2)
   (try clear hk)
   (try clear hi)
   refine hK.out _ _ ⟨(blk_cell BK352.out 0).trans rfl,(blk_cell BK352.out 1).trans rfl,(blk_cell BK352.out 2).trans rfl,(blk_cell BK352.out 3).trans rfl,(blk_cell BK352.out 4).trans rfl⟩ (fun hHeld=>?_)
   clear hK K
   refine norm_ (a':=?_) ?_ ?_
   rotate_left
   ·show Act.put _ (some 23) _ = _
    simp only [Act.put,List.setIfInBounds_toArray,List.set_cons_zero,List.set_cons_succ,i64_w,i32_w]
    rfl
   refine pure_ (i:=7) (N:=some 28) (v:=?_) (a':=?_) #[true,true,true,true,true,true,true,true,false] rfl rfl (any_of HT_.out (by kernel_rfl)) (fun _ _ _ h=>h) (Or.inl ⟨by rfl,?_⟩) ?_ ?_
   rotate_left
   ·intro w'
    go_simp
    with_reducible rfl
   rotate_left
   ·simp only [Act.put,List.setIfInBounds_toArray,List.set_cons_zero,List.set_cons_succ,i64_w,i32_w]
    rfl
   refine one_ (i:=8) (N:=none) #[true,true,true,true,true,true,true,true,true] rfl rfl (one_of HT_.out (by kernel_rfl)) (by decide) (fun K hK=>?_)
   have hs13:w12.cell? ⟨gb353,0,none⟩ = some (.string (⟨#[]⟩:ByteArray)):=(blk_cell BK353.out 0).trans rfl
   have hfs13:=blk_frozen BK353.out 0
   have hns13_0:=NB352_353.out
   have hms13_0:=NB353_352.out
   have hs14:w12.cell? ⟨gb353,1,none⟩ = some (.int .u16 0):=(blk_cell BK353.out 1).trans rfl
   have hfs14:=blk_frozen BK353.out 1
   have hns14_0:=NB352_353.out
   have hms14_0:=NB353_352.out
   have hs15:w12.cell? ⟨gb353,2,none⟩ = some (.int .u32 0):=(blk_cell BK353.out 2).trans rfl
   have hfs15:=blk_frozen BK353.out 2
   have hns15_0:=NB352_353.out
   have hms15_0:=NB353_352.out
   have hs16:w12.cell? ⟨gb353,3,none⟩ = some (.string (⟨#[]⟩:ByteArray)):=(blk_cell BK353.out 3).trans rfl
   have hfs16:=blk_frozen BK353.out 3
   have hns16_0:=NB352_353.out
   have hms16_0:=NB353_352.out
   refine skip_ (w1:=?_) (by rfl) rfl ?_ ?_
   rotate_left
   ·go_simp
    rfl
   refine hK.out _ _ ⟨((cell_far (p:=⟨gb353,_,none⟩) NB352_353.out _).trans (((cell_far (p:=⟨gb353,_,none⟩) NB352_353.out _).trans (((cell_far (p:=⟨gb353,_,none⟩) NB352_353.out _).trans (((cell_far (p:=⟨gb353,_,none⟩) NB352_353.out _).trans (hHeld.1)))))))),((cell_far (p:=⟨gb353,_,none⟩) NB352_353.out _).trans (((cell_far (p:=⟨gb353,_,none⟩) NB352_353.out _).trans (((cell_far (p:=⟨gb353,_,none⟩) NB352_353.out _).trans (((cell_far (p:=⟨gb353,_,none⟩) NB352_353.out _).trans (hHeld.2.1)))))))),((cell_far (p:=⟨gb353,_,none⟩) NB352_353.out _).trans (((cell_far (p:=⟨gb353,_,none⟩) NB352_353.out _).trans (((cell_far (p:=⟨gb353,_,none⟩) NB352_353.out _).trans (((cell_far (p:=⟨gb353,_,none⟩) NB352_353.out _).trans (hHeld.2.2.1)))))))),((cell_far (p:=⟨gb353,_,none⟩) NB352_353.out _).trans (((cell_far (p:=⟨gb353,_,none⟩) NB352_353.out _).trans (((cell_far (p:=⟨gb353,_,none⟩) NB352_353.out _).trans (((cell_far (p:=⟨gb353,_,none⟩) NB352_353.out _).trans (hHeld.2.2.2.1)))))))),((cell_far (p:=⟨gb353,_,none⟩) NB352_353.out _).trans (((cell_far (p:=⟨gb353,_,none⟩) NB352_353.out _).trans (((cell_far (p:=⟨gb353,_,none⟩) NB352_353.out _).trans (((cell_far (p:=⟨gb353,_,none⟩) NB352_353.out _).trans (hHeld.2.2.2.2))))))))⟩ (fun hHeld=>?_)
   clear hK K
   refine done_ (done_of HT_.out (by kernel_rfl)) ?_
   try go_wp2
   refine bodyPost_ret (results_cell_row rfl _ _ gb353 32 #[.string t356,.int .u16 t354,.int .u32 a0_2,.string t355] (0,0) _ rfl (by (with_reducible repeat (first|apply blk_drewN|apply blk_drew|apply blk_alloc));refine blk_put (cs:=#[.string t356,.int .u16 t354,.int .u32 a0_2,.string (⟨#[]⟩:ByteArray)]) ?_ 3 _ rfl;(with_reducible repeat (first|apply blk_drewN|apply blk_drew|apply blk_alloc));refine blk_put (cs:=#[.string t356,.int .u16 t354,.int .u32 0,.string (⟨#[]⟩:ByteArray)]) ?_ 2 _ rfl;(with_reducible repeat (first|apply blk_drewN|apply blk_drew|apply blk_alloc));refine blk_put (cs:=#[.string t356,.int .u16 0,.int .u32 0,.string (⟨#[]⟩:ByteArray)]) ?_ 1 _ rfl;(with_reducible repeat (first|apply blk_drewN|apply blk_drew|apply blk_alloc));refine blk_put (cs:=#[.string (⟨#[]⟩:ByteArray),.int .u16 0,.int .u32 0,.string (⟨#[]⟩:ByteArray)]) ?_ 0 _ rfl;(with_reducible repeat (first|apply blk_drewN|apply blk_drew|apply blk_alloc));exact BK353.out) Tryd.underlying32 rfl (by kernel_rfl)) rfl ?_
   exact ⟨by first|rfl|(simp [errW_none,errW_some] <;> rfl)|(simp only [← hji2];first|rfl|(simp [errW_none,errW_some] <;> rfl))|(simp [*,errW_none,errW_some] <;> rfl),by repeat (first|(with_reducible first|exact HB.out|apply below_alloc|apply pw_below_drewN|apply below_drew1|refine below_set ?_ GE352.out|refine below_set ?_ GE353.out)|exact HB.out)⟩
  ·rw [if_neg c4] at H
   exact absurd H (by simp)
 ·rw [if_neg c3] at H
  exact absurd H (by simp)
def name_Join.f (k:Nat) (a0:ByteArray) (a1:ByteArray):Option (ByteArray × Bool):=(name_May.f k a0).bind fun t357=>(if t357 = true then ((name_May.f k a1).bind fun t358=>(if t358 = true then (if (wrap64 ((a0.size:Int) + (a1.size:Int))) > 254 then (some ((⟨#[]⟩:ByteArray),false)) else (if a0.size + a1.size≤9223372036854775807 then (some (a0 ++ a1,true)) else (none))) else (some ((⟨#[]⟩:ByteArray),false)))) else (some ((⟨#[]⟩:ByteArray),false)))
theorem name_Join.mono:∀ a0 a1 k,LeO (name_Join.f k a0 a1) (name_Join.f (k + 1) a0 a1):=by
 intro a0 a1 k
 unfold name_Join.f
 repeat' first
   | (with_reducible exact name_May.mono _ _)
   | (with_reducible exact LeO.refl _)
   | (with_reducible exact LeO.none _)
   | (with_reducible refine LeO.ite ?_ ?_)
   | (with_reducible refine LeO.bind ?_ (fun _=>?_))
   | exact name_May.mono _ _
   | exact LeO.none _
   | refine LeO.ite ?_ ?_
   | refine LeO.bind ?_ (fun _=>?_)
set_option maxHeartbeats 8000000 in
set_option maxRecDepth 100000 in
theorem name_Join.calls (k:Nat) (a0:ByteArray) (a1:ByteArray) (r1:ByteArray) (r2:Bool) (w:World) (h:name_Join.f k a0 a1 = some (r1,r2)) :
  Calls Tryd.prog 24 #[.string a0,.string a1] w fun e w'=>e = .returned (.tuple #[.string r1,.bool r2])∧Below w.heap.size w w':=by
 have HB:=Aside0.mk (Below.refl w.heap.size w)
 have H:((name_May.f k a0).bind fun t357=>(if t357 = true then ((name_May.f k a1).bind fun t358=>(if t358 = true then (if (wrap64 ((a0.size:Int) + (a1.size:Int))) > 254 then (some ((⟨#[]⟩:ByteArray),false)) else (if a0.size + a1.size≤9223372036854775807 then (some (a0 ++ a1,true)) else (none))) else (some ((⟨#[]⟩:ByteArray),false)))) else (some ((⟨#[]⟩:ByteArray),false)))) = some (r1,r2):=h
 clear h
 replace H:=Option.bind_eq_some_iff.mp H
 obtain ⟨t357,A30,H⟩:=H
 replace H:(if t357 = true then ((name_May.f k a1).bind fun t358=>(if t358 = true then (if (wrap64 ((a0.size:Int) + (a1.size:Int))) > 254 then (some ((⟨#[]⟩:ByteArray),false)) else (if a0.size + a1.size≤9223372036854775807 then (some (a0 ++ a1,true)) else (none))) else (some ((⟨#[]⟩:ByteArray),false)))) else (some ((⟨#[]⟩:ByteArray),false))) = some (r1,r2):=H
 have A3:=Aside0.mk A30
 clear A30
 by_cases c4:t357 = true
 ·subst c4
  have H1:((name_May.f k a1).bind fun t358=>(if t358 = true then (if (wrap64 ((a0.size:Int) + (a1.size:Int))) > 254 then (some ((⟨#[]⟩:ByteArray),false)) else (if a0.size + a1.size≤9223372036854775807 then (some (a0 ++ a1,true)) else (none))) else (some ((⟨#[]⟩:ByteArray),false)))) = some (r1,r2):=by rw [if_pos rfl] at H;exact H
  clear H
  have H:=H1
  clear H1
  replace H:=Option.bind_eq_some_iff.mp H
  obtain ⟨t358,A50,H⟩:=H
  replace H:(if t358 = true then (if (wrap64 ((a0.size:Int) + (a1.size:Int))) > 254 then (some ((⟨#[]⟩:ByteArray),false)) else (if a0.size + a1.size≤9223372036854775807 then (some (a0 ++ a1,true)) else (none))) else (some ((⟨#[]⟩:ByteArray),false))) = some (r1,r2):=H
  have A5:=Aside0.mk A50
  clear A50
  by_cases c6:t358 = true
  ·subst c6
   have H1:(if (wrap64 ((a0.size:Int) + (a1.size:Int))) > 254 then (some ((⟨#[]⟩:ByteArray),false)) else (if a0.size + a1.size≤9223372036854775807 then (some (a0 ++ a1,true)) else (none))) = some (r1,r2):=by rw [if_pos rfl] at H;exact H
   clear H
   have H:=H1
   clear H1
   by_cases c7:(wrap64 ((a0.size:Int) + (a1.size:Int))) > 254
   ·rw [if_pos c7] at H
    have c7b0:decide (254 < (wrap64 ((a0.size:Int) + (a1.size:Int)))) = true:=decide_eq_true c7
    (try (have c7b1:decide (254 < (IntKind.i64.wrap ((a0.size:Int) + (a1.size:Int)))) = true:=by simp only [i64_w];exact (decide_eq_true c7)))
    clear c7
    simp only [Option.some.injEq,Prod.mk.injEq] at H
    obtain ⟨rfl,rfl⟩:=H
    go_enter Tryd.func24,Tryd.ntmps24
    go_wp2_with (first|((with_reducible refine gate_callee (f:=33) rfl ?_);refine goesL_ (some 7) rfl rfl Tryd.func33 (by kernel_rfl) rfl #[.string a0] rfl (by (try simp only [List.map_toArray,List.map_cons,List.map_nil]) <;> first|rfl|(simp only [List.length_drop,List.length_take];rfl)) ?_;(with_reducible refine (name_May.calls k a0 true _ A3.out).mono ?_);rintro e w8 ⟨rfl,hb⟩;refine ⟨_,rfl,?_⟩;have n0_:=Aside0.mk (below_step (by repeat (first|(with_reducible first|exact HB.out|apply below_alloc|apply pw_below_drewN|apply below_drew1)|exact HB.out)) hb);clear HB;have HB:=n0_;clear n0_;(try clear hb);(try clear hb2);(try clear hk);(try clear hi))|(go_at_call 33;(with_reducible refine (name_May.calls k a1 true _ A5.out).mono ?_);rintro e w9 ⟨rfl,hb⟩;have n0_:=Aside0.mk (below_step (by repeat (first|(with_reducible first|exact HB.out|apply below_alloc|apply pw_below_drewN|apply below_drew1)|exact HB.out)) hb);clear HB;have HB:=n0_;clear n0_;(try clear hb);(try clear hb2);(try clear hk);(try clear hi)))
    go_ret2
    exact ⟨by first|rfl|(simp [errW_none,errW_some] <;> rfl)|(simp [*,errW_none,errW_some] <;> rfl),by repeat (first|(with_reducible first|exact HB.out|apply below_alloc|apply pw_below_drewN|apply below_drew1)|exact HB.out)⟩
   ·rw [if_neg c7] at H
    have c7b0:decide (254 < (wrap64 ((a0.size:Int) + (a1.size:Int)))) = false:=decide_eq_false c7
    (try (have c7b1:decide (254 < (IntKind.i64.wrap ((a0.size:Int) + (a1.size:Int)))) = false:=by simp only [i64_w];exact (decide_eq_false c7)))
    clear c7
    by_cases c10:a0.size + a1.size≤9223372036854775807
    ·rw [if_pos c10] at H
     have c10b0:=eq_true c10
     have c10b1:decide (a0.size + a1.size≤9223372036854775807) = true:=decide_eq_true c10
     try have c10b2:(9223372036854775807 < a0.size + a1.size) = False:=eq_false (Nat.not_lt.2 c10)
     have c7b3:¬ ((254:Int) < (a0.size:Int) + (a1.size:Int)):=by have h:=of_decide_eq_false c7b0;unfold wrap64 at h;omega
     have c7b4:decide ((254:Int) < (a0.size:Int) + (a1.size:Int)) = false:=decide_eq_false c7b3
     simp only [Option.some.injEq,Prod.mk.injEq] at H
     obtain ⟨rfl,rfl⟩:=H
     go_enter Tryd.func24,Tryd.ntmps24
     go_wp2_with (first|((with_reducible refine gate_callee (f:=33) rfl ?_);refine goesL_ (some 7) rfl rfl Tryd.func33 (by kernel_rfl) rfl #[.string a0] rfl (by (try simp only [List.map_toArray,List.map_cons,List.map_nil]) <;> first|rfl|(simp only [List.length_drop,List.length_take];rfl)) ?_;(with_reducible refine (name_May.calls k a0 true _ A3.out).mono ?_);rintro e w11 ⟨rfl,hb⟩;refine ⟨_,rfl,?_⟩;have n0_:=Aside0.mk (below_step (by repeat (first|(with_reducible first|exact HB.out|apply below_alloc|apply pw_below_drewN|apply below_drew1)|exact HB.out)) hb);clear HB;have HB:=n0_;clear n0_;(try clear hb);(try clear hb2);(try clear hk);(try clear hi))|(go_at_call 33;(with_reducible refine (name_May.calls k a1 true _ A5.out).mono ?_);rintro e w12 ⟨rfl,hb⟩;have n0_:=Aside0.mk (below_step (by repeat (first|(with_reducible first|exact HB.out|apply below_alloc|apply pw_below_drewN|apply below_drew1)|exact HB.out)) hb);clear HB;have HB:=n0_;clear n0_;(try clear hb);(try clear hb2);(try clear hk);(try clear hi)))
     go_ret2
     exact ⟨by first|rfl|(simp [errW_none,errW_some] <;> rfl)|(simp [*,errW_none,errW_some] <;> rfl),by repeat (first|(with_reducible first|exact HB.out|apply below_alloc|apply pw_below_drewN|apply below_drew1)|exact HB.out)⟩
    ·rw [if_neg c10] at H
     exact absurd H (by simp)
  ·replace c6:=Bool.eq_false_iff.mpr c6
   subst c6
   have H1:(some ((⟨#[]⟩:ByteArray),false)) = some (r1,r2):=by rw [if_neg (show ¬ (false = true) by decide)] at H;exact H
   clear H
   have H:=H1
   clear H1
   simp only [Option.some.injEq,Prod.mk.injEq] at H
   obtain ⟨rfl,rfl⟩:=H
   go_enter Tryd.func24,Tryd.ntmps24
   go_wp2_with (first|((with_reducible refine gate_callee (f:=33) rfl ?_);refine goesL_ (some 7) rfl rfl Tryd.func33 (by kernel_rfl) rfl #[.string a0] rfl (by (try simp only [List.map_toArray,List.map_cons,List.map_nil]) <;> first|rfl|(simp only [List.length_drop,List.length_take];rfl)) ?_;(with_reducible refine (name_May.calls k a0 true _ A3.out).mono ?_);rintro e w13 ⟨rfl,hb⟩;refine ⟨_,rfl,?_⟩;have n0_:=Aside0.mk (below_step (by repeat (first|(with_reducible first|exact HB.out|apply below_alloc|apply pw_below_drewN|apply below_drew1)|exact HB.out)) hb);clear HB;have HB:=n0_;clear n0_;(try clear hb);(try clear hb2);(try clear hk);(try clear hi))|(go_at_call 33;(with_reducible refine (name_May.calls k a1 false _ A5.out).mono ?_);rintro e w14 ⟨rfl,hb⟩;have n0_:=Aside0.mk (below_step (by repeat (first|(with_reducible first|exact HB.out|apply below_alloc|apply pw_below_drewN|apply below_drew1)|exact HB.out)) hb);clear HB;have HB:=n0_;clear n0_;(try clear hb);(try clear hb2);(try clear hk);(try clear hi)))
   go_ret2
   exact ⟨by first|rfl|(simp [errW_none,errW_some] <;> rfl)|(simp [*,errW_none,errW_some] <;> rfl),by repeat (first|(with_reducible first|exact HB.out|apply below_alloc|apply pw_below_drewN|apply below_drew1)|exact HB.out)⟩
 ·replace c4:=Bool.eq_false_iff.mpr c4
  subst c4
  have H1:(some ((⟨#[]⟩:ByteArray),false)) = some (r1,r2):=by rw [if_neg (show ¬ (false = true) by decide)] at H;exact H
  clear H
  have H:=H1
  clear H1
  simp only [Option.some.injEq,Prod.mk.injEq] at H
  obtain ⟨rfl,rfl⟩:=H
  go_enter Tryd.func24,Tryd.ntmps24
  go_wp2_with (first|((with_reducible refine gate_callee (f:=33) rfl ?_);refine goesL_ (some 7) rfl rfl Tryd.func33 (by kernel_rfl) rfl #[.string a0] rfl (by (try simp only [List.map_toArray,List.map_cons,List.map_nil]) <;> first|rfl|(simp only [List.length_drop,List.length_take];rfl)) ?_;(with_reducible refine (name_May.calls k a0 false _ A3.out).mono ?_);rintro e w15 ⟨rfl,hb⟩;refine ⟨_,rfl,?_⟩;have n0_:=Aside0.mk (below_step (by repeat (first|(with_reducible first|exact HB.out|apply below_alloc|apply pw_below_drewN|apply below_drew1)|exact HB.out)) hb);clear HB;have HB:=n0_;clear n0_;(try clear hb);(try clear hb2);(try clear hk);(try clear hi)))
  go_ret2
  exact ⟨by first|rfl|(simp [errW_none,errW_some] <;> rfl)|(simp [*,errW_none,errW_some] <;> rfl),by repeat (first|(with_reducible first|exact HB.out|apply below_alloc|apply pw_below_drewN|apply below_drew1)|exact HB.out)⟩
end Go.Proofs.YtlobjcokopfbkaaDoor.PY
