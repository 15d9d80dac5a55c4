import Derived.Test.YtlobjcokopfbkaaDoorPYx0
import Derived.Test.YtlobjcokopfbkaaDoorPYx1
import Derived.Test.YtlobjcokopfbkaaDoorPYx4
namespace Go.Proofs.YtlobjcokopfbkaaDoor.PY
open Go.RowKit Go.Proofs.YtlobjcokopfbkaaDoorW.PrintWords Go.Proofs.YtlobjcokopfbkaaDoorW.PrintLast Go.Proofs.YtlobjcokopfbkaaDoorW.PrintMore
attribute [local go_sem] max2_int min2_int max_two min_two max_three min_three max_four min_four   -- for this text's walks alone
set_option linter.unusedVariables false
set_option linter.unusedSimpArgs false
attribute [local go_sem high] eqA32
mutual
def stream_Full.j0:Nat→List (S32)→Int→Bool→Option ((List (S32)) × Option Int)
 | 0,_,_,_=>none
 | k + 1,x1,x6,x29=>if x29 = true then (some (([]:List (S32)),some 4)) else (if 1≤x6 then (if x6≤(x1.length:Int) then ((some ((x1.take (x6:Int).toNat).drop 1:List (S32))).bind fun y162=>(stream_Full.l0 k x1 x6 y162 (y162.length:Int) 0)) else (none)) else (none))
def stream_Full.l0:Nat→List (S32)→Int→List (S32)→Int→Int→Option ((List (S32)) × Option Int)
 | 0,_,_,_,_,_=>none
 | k + 1,x1,x6,x33,x34,x35=>if x35 < x34 then (if 0≤x35 then (if x35 < (x33.length:Int) then (if ((rd_T32 x33 x35).f1) = 6 then (some (([]:List (S32)),some 4)) else (stream_Full.l0 k x1 x6 x33 x34 (wrap64 (x35 + 1)))) else (none)) else (none)) else (if 0≤x6 then (if x6≤(x1.length:Int) then ((some (x1.take (x6:Int).toNat:List (S32))).bind fun y168=>(if ([]:List (S32)).length + y168.length < 3518437208883 then (some ((([]:List (S32)) ++ y168),none)) else (none))) else (none)) else (none))
end
def stream_Full.f (k:Nat) (a0:ByteArray) (l1:List (S32)):Option ((List (S32)) × Option Int):=(stream_right.f k a0 l1).bind fun t159=>(if t159 = true then (if (wrap64 ((l1.length:Int) - 1)) < 1 then (stream_Full.j0 k l1 (wrap64 ((l1.length:Int) - 1)) true) else (if 0≤(wrap64 ((l1.length:Int) - 1)) then (if (wrap64 ((l1.length:Int) - 1)) < (l1.length:Int) then (if 0 < (l1.length:Int) then (stream_Full.j0 k l1 (wrap64 ((l1.length:Int) - 1)) (!((((rd_T32 l1 (wrap64 ((l1.length:Int) - 1))).f0).toList) == (((rd_T32 l1 0).f0).toList)) || (!(((rd_T32 l1 (wrap64 ((l1.length:Int) - 1))).f1) == ((rd_T32 l1 0).f1)) || (!(((rd_T32 l1 (wrap64 ((l1.length:Int) - 1))).f2) == ((rd_T32 l1 0).f2)) || (!((((rd_T32 l1 (wrap64 ((l1.length:Int) - 1))).f3).toList) == (((rd_T32 l1 0).f3).toList))))))) else (none)) else (none)) else (none))) else (stream_Full.j0 k l1 (wrap64 ((l1.length:Int) - 1)) true))
theorem stream_Full.mono_l:∀ k,(∀ y0 y1 y2,LeO (stream_Full.j0 k y0 y1 y2) (stream_Full.j0 (k + 1) y0 y1 y2))∧(∀ y0 y1 y2 y3 y4,LeO (stream_Full.l0 k y0 y1 y2 y3 y4) (stream_Full.l0 (k + 1) y0 y1 y2 y3 y4))
 | 0=>⟨fun _ _ _ r h=>by simp [stream_Full.j0] at h,fun _ _ _ _ _ r h=>by simp [stream_Full.l0] at h⟩
 | k + 1=>by
  obtain ⟨ih0,ih1⟩:=stream_Full.mono_l k
  refine ⟨?_,?_⟩
  ·intro y0 y1 y2
   unfold stream_Full.j0
   repeat' first
   | (with_reducible exact ih0 _ _ _)
   | (with_reducible exact ih1 _ _ _ _ _)
   | (with_reducible exact stream_right.mono _ _ _)
   | (with_reducible exact LeO.refl _)
   | (with_reducible exact LeO.none _)
   | (with_reducible refine LeO.ite ?_ ?_)
   | (with_reducible refine LeO.bind ?_ (fun _=>?_))
   | exact ih0 _ _ _
   | exact ih1 _ _ _ _ _
   | exact stream_right.mono _ _ _
   | exact LeO.none _
   | refine LeO.ite ?_ ?_
   | refine LeO.bind ?_ (fun _=>?_)
  ·intro y0 y1 y2 y3 y4
   unfold stream_Full.l0
   repeat' first
   | (with_reducible exact ih0 _ _ _)
   | (with_reducible exact ih1 _ _ _ _ _)
   | (with_reducible exact stream_right.mono _ _ _)
   | (with_reducible exact LeO.refl _)
   | (with_reducible exact LeO.none _)
   | (with_reducible refine LeO.ite ?_ ?_)
   | (with_reducible refine LeO.bind ?_ (fun _=>?_))
   | exact ih0 _ _ _
   | exact ih1 _ _ _ _ _
   | exact stream_right.mono _ _ _
   | exact LeO.none _
   | refine LeO.ite ?_ ?_
   | refine LeO.bind ?_ (fun _=>?_)
theorem stream_Full.mono:∀ a0 a1 k,LeO (stream_Full.f k a0 a1) (stream_Full.f (k + 1) a0 a1):=by
 intro a0 a1 k
 obtain ⟨ih0,ih1⟩:=stream_Full.mono_l k
 unfold stream_Full.f
 repeat' first
   | (with_reducible exact ih0 _ _ _)
   | (with_reducible exact ih1 _ _ _ _ _)
   | (with_reducible exact stream_right.mono _ _ _)
   | (with_reducible exact LeO.refl _)
   | (with_reducible exact LeO.none _)
   | (with_reducible refine LeO.ite ?_ ?_)
   | (with_reducible refine LeO.bind ?_ (fun _=>?_))
   | exact ih0 _ _ _
   | exact ih1 _ _ _ _ _
   | exact stream_right.mono _ _ _
   | exact LeO.none _
   | refine LeO.ite ?_ ?_
   | refine LeO.bind ?_ (fun _=>?_)
def stream_Full.T2:Bool × List (List Nat × List Nat):=(true,[([],[]),([],[]),([0,1],[0,1]),([2],[2]),([3,2],[3]),([4],[4]),([5,4],[4,5]),([4,6],[4,6]),([7,4],[7]),([8],[8]),([8],[8]),([9,10,8],[8,9,10]),([11,8],[8,11]),([8],[8]),([13,8],[8,13]),([14,8],[8,14]),([12,15,8],[8,12,15]),([8,16],[8,16])])
def stream_Full.B2:List Nat:=[0,0,3,7,15,31,63,127,255,511,511,2047,4095,511,8703,25087,65535,131071]
theorem stream_Full.tab2:rtab .any (opsOf Tryd.f11 2) = stream_Full.T2:=by kernel_rfl
theorem stream_Full.bits2:waitsOk stream_Full.T2.2 stream_Full.B2 = true:=by kernel_rfl
set_option maxHeartbeats 8000000 in
set_option maxRecDepth 100000 in
theorem stream_Full.calls (k:Nat) (a0:ByteArray) (A1:Option Addr) (c1:Nat) (l1:List (S32)) (r1:List (S32)) (r2:Option Int) (w:World) (hr1:Kd.C k32 w A1 l1.length l1) (hc1:l1.length≤c1) (h:stream_Full.f k a0 l1 = some (r1,r2)) :
  Calls Tryd.prog 11 #[.string a0,.slice A1 l1.length c1] w fun e w'=>∃ v0_:Value,e = .returned (.tuple #[v0_,errW r2])∧Kd.R k32 32 w' w.heap.size (fun _=>True) v0_ r1∧Below w.heap.size w w':=by
 have hu32:=Tryd.underlying32
 have hu35:=Tryd.underlying35
 have hu39:=Tryd.underlying39
 have HR1:=Aside0.mk hr1
 have HC1:=Aside0.mk hc1
 clear hr1 hc1
 have HB:=Aside0.mk (Below.refl w.heap.size w)
 have H:((stream_right.f k a0 l1).bind fun t159=>(if t159 = true then (if (wrap64 ((l1.length:Int) - 1)) < 1 then (stream_Full.j0 k l1 (wrap64 ((l1.length:Int) - 1)) true) else (if 0≤(wrap64 ((l1.length:Int) - 1)) then (if (wrap64 ((l1.length:Int) - 1)) < (l1.length:Int) then (if 0 < (l1.length:Int) then (stream_Full.j0 k l1 (wrap64 ((l1.length:Int) - 1)) (!((((rd_T32 l1 (wrap64 ((l1.length:Int) - 1))).f0).toList) == (((rd_T32 l1 0).f0).toList)) || (!(((rd_T32 l1 (wrap64 ((l1.length:Int) - 1))).f1) == ((rd_T32 l1 0).f1)) || (!(((rd_T32 l1 (wrap64 ((l1.length:Int) - 1))).f2) == ((rd_T32 l1 0).f2)) || (!((((rd_T32 l1 (wrap64 ((l1.length:Int) - 1))).f3).toList) == (((rd_T32 l1 0).f3).toList))))))) else (none)) else (none)) else (none))) else (stream_Full.j0 k l1 (wrap64 ((l1.length:Int) - 1)) true))) = some (r1,r2):=h
 clear h
 have HC3:=Aside0.mk H
 clear H
 go_enter Tryd.func11,Tryd.ntmps11
 go_upto_region 2 with (fail)
 go_cut [29] (fun v29 wc=>∃ (kq:Nat) (x29_2:Bool),v29 = .bool x29_2∧Aside0 (stream_Full.j0 kq l1 (wrap64 ((l1.length:Int) - 1)) x29_2 = some (r1,r2))∧Aside0 (kq≤k)∧Aside0 (Below w.heap.size w wc))
 case first =>
  have H:=HC3.out
  clear HC3
  replace H:=Option.bind_eq_some_iff.mp H
  obtain ⟨t159,A40,H⟩:=H
  replace H:(if t159 = true then (if (wrap64 ((l1.length:Int) - 1)) < 1 then (stream_Full.j0 k l1 (wrap64 ((l1.length:Int) - 1)) true) else (if 0≤(wrap64 ((l1.length:Int) - 1)) then (if (wrap64 ((l1.length:Int) - 1)) < (l1.length:Int) then (if 0 < (l1.length:Int) then (stream_Full.j0 k l1 (wrap64 ((l1.length:Int) - 1)) (!((((rd_T32 l1 (wrap64 ((l1.length:Int) - 1))).f0).toList) == (((rd_T32 l1 0).f0).toList)) || (!(((rd_T32 l1 (wrap64 ((l1.length:Int) - 1))).f1) == ((rd_T32 l1 0).f1)) || (!(((rd_T32 l1 (wrap64 ((l1.length:Int) - 1))).f2) == ((rd_T32 l1 0).f2)) || (!((((rd_T32 l1 (wrap64 ((l1.length:Int) - 1))).f3).toList) == (((rd_T32 l1 0).f3).toList))))))) else (none)) else (none)) else (none))) else (stream_Full.j0 k l1 (wrap64 ((l1.length:Int) - 1)) true)) = some (r1,r2):=H
  have A4:=Aside0.mk A40
  clear A40
  by_cases c5:t159 = true
  ·subst c5
   have H1:(if (wrap64 ((l1.length:Int) - 1)) < 1 then (stream_Full.j0 k l1 (wrap64 ((l1.length:Int) - 1)) true) else (if 0≤(wrap64 ((l1.length:Int) - 1)) then (if (wrap64 ((l1.length:Int) - 1)) < (l1.length:Int) then (if 0 < (l1.length:Int) then (stream_Full.j0 k l1 (wrap64 ((l1.length:Int) - 1)) (!((((rd_T32 l1 (wrap64 ((l1.length:Int) - 1))).f0).toList) == (((rd_T32 l1 0).f0).toList)) || (!(((rd_T32 l1 (wrap64 ((l1.length:Int) - 1))).f1) == ((rd_T32 l1 0).f1)) || (!(((rd_T32 l1 (wrap64 ((l1.length:Int) - 1))).f2) == ((rd_T32 l1 0).f2)) || (!((((rd_T32 l1 (wrap64 ((l1.length:Int) - 1))).f3).toList) == (((rd_T32 l1 0).f3).toList))))))) else (none)) else (none)) else (none))) = some (r1,r2):=by rw [if_pos rfl] at H;exact H
   clear H
   have H:=H1
   clear H1
   by_cases c6:(wrap64 ((l1.length:Int) - 1)) < 1
   ·rw [if_pos c6] at H
    have c6b0:decide ((wrap64 ((l1.length:Int) - 1)) < 1) = true:=decide_eq_true c6
    (try (have c6b1:decide ((IntKind.i64.wrap ((l1.length:Int) - 1)) < 1) = true:=by simp only [i64_w];exact (decide_eq_true c6)))
    clear c6
    (first|rw [c6b0]|(simp only [i64_w,i32_w];rw [c6b0])|skip)
    have H':=Aside0.mk H
    clear H
    try go_wp2
    have n0_:=Aside0.mk (below_drew1 HB.out)
    clear HB
    have HB:=n0_
    clear n0_
    refine start_ (n:=18) (S:=fun w'=>True) (ds:=[]) #[false,false,false,false,false,false,false,false,false,false,false,false,false,false,false,false,false,false] (by kernel_rfl) rfl rfl trivial (fun hHeld=>?_);refine with_tabW stream_Full.tab2 stream_Full.bits2 (fun HT_ HW_=>?_)
    generalize w.drew = w7 at HB hHeld ⊢
    refine pure_ (i:=0) (N:=some 12) (v:=?_) (a':=?_) #[true,false,false,false,false,false,false,false,false,false,false,false,false,false,false,false,false,false] rfl rfl (any_of HT_.out (by kernel_rfl)) (fun _ _ _ h=>h) (Or.inl ⟨by rfl,?_⟩) ?_ ?_
    rotate_left
    ·intro w'
     go_simp
     with_reducible rfl
    rotate_left
    ·simp only [Act.put,List.setIfInBounds_toArray,List.set_cons_zero,List.set_cons_succ,i64_w,i32_w]
     rfl
    refine pure_ (i:=1) (N:=some 13) (v:=?_) (a':=?_) #[true,true,false,false,false,false,false,false,false,false,false,false,false,false,false,false,false,false] rfl rfl (any_of HT_.out (by kernel_rfl)) (fun _ _ _ h=>h) (Or.inl ⟨by rfl,?_⟩) ?_ ?_
    rotate_left
    ·intro w'
     go_simp
     with_reducible rfl
    rotate_left
    ·simp only [Act.put,List.setIfInBounds_toArray,List.set_cons_zero,List.set_cons_succ,i64_w,i32_w]
     rfl
    refine one_ (i:=2) (N:=some 14) #[true,true,true,false,false,false,false,false,false,false,false,false,false,false,false,false,false,false] rfl rfl (one_of HT_.out (by kernel_rfl)) (by decide) (fun K hK=>?_)
    refine goes_ Tryd.func26 (by kernel_rfl) rfl #[.string a0,.slice A1 l1.length c1] (by rfl) rfl rfl (by (try simp only [List.map_toArray,List.map_cons,List.map_nil]) <;> first|rfl|(simp only [List.length_drop,List.length_take];rfl)) ?_
    with_reducible refine (stream_right.calls k a0 _ _ l1 true _ ?side1 ?side2 A4.out).mono ?_
    (case side1=>repeat (first|exact (Kd.C_below HR1.out HB.out)|(with_reducible refine Kd.C_alloc ?_ _)|(with_reducible refine Kd.C_drewN ?_ _)|(with_reducible refine Kd.C_drew ?_)))
    (case side2=>exact HC1.out)
    rintro e w8 ⟨rfl,hb⟩
    refine ⟨_,rfl,?_⟩
    have n0_:=Aside0.mk (below_step (by repeat (first|(with_reducible first|exact HB.out|apply below_alloc|apply pw_below_drewN|apply below_drew1)|exact HB.out)) hb)
    clear HB
    have HB:=n0_
    clear n0_
    (try clear hb)
    (try clear hb2)
    (try clear hk)
    (try clear hi)
    refine hK.out _ _ trivial (fun hHeld=>?_)
    clear hK K
    refine norm_ (a':=?_) ?_ ?_
    rotate_left
    ·show Act.put _ (some 14) _ = _
     simp only [Act.put,List.setIfInBounds_toArray,List.set_cons_zero,List.set_cons_succ,i64_w,i32_w]
     rfl
    refine pure_ (i:=3) (N:=some 15) (v:=?_) (a':=?_) #[true,true,true,true,false,false,false,false,false,false,false,false,false,false,false,false,false,false] rfl rfl (any_of HT_.out (by kernel_rfl)) (fun _ _ _ h=>h) (Or.inl ⟨by rfl,?_⟩) ?_ ?_
    rotate_left
    ·intro w'
     go_simp
     with_reducible rfl
    rotate_left
    ·simp only [Act.put,List.setIfInBounds_toArray,List.set_cons_zero,List.set_cons_succ,i64_w,i32_w]
     rfl
    refine pure_ (i:=4) (N:=some 16) (v:=?_) (a':=?_) #[true,true,true,true,true,false,false,false,false,false,false,false,false,false,false,false,false,false] rfl rfl (any_of HT_.out (by kernel_rfl)) (fun _ _ _ h=>h) (Or.inl ⟨by rfl,?_⟩) ?_ ?_
    rotate_left
    ·intro w'
     go_simp
     with_reducible rfl
    rotate_left
    ·simp only [Act.put,List.setIfInBounds_toArray,List.set_cons_zero,List.set_cons_succ,i64_w,i32_w]
     rfl
    refine pure_ (i:=5) (N:=some 17) (v:=?_) (a':=?_) #[true,true,true,true,true,true,false,false,false,false,false,false,false,false,false,false,false,false] rfl rfl (any_of HT_.out (by kernel_rfl)) (fun _ _ _ h=>h) (Or.inl ⟨by rfl,?_⟩) ?_ ?_
    rotate_left
    ·intro w'
     go_simp
     with_reducible rfl
    rotate_left
    ·simp only [Act.put,List.setIfInBounds_toArray,List.set_cons_zero,List.set_cons_succ,i64_w,i32_w]
     rfl
    refine pure_ (i:=6) (N:=some 18) (v:=?_) (a':=?_) #[true,true,true,true,true,true,true,false,false,false,false,false,false,false,false,false,false,false] rfl rfl (any_of HT_.out (by kernel_rfl)) (fun _ _ _ h=>h) (Or.inl ⟨by rfl,?_⟩) ?_ ?_
    rotate_left
    ·intro w'
     go_simp
     with_reducible rfl
    rotate_left
    ·simp only [Act.put,List.setIfInBounds_toArray,List.set_cons_zero,List.set_cons_succ,i64_w,i32_w]
     rfl
    refine pure_ (i:=7) (N:=some 19) (v:=?_) (a':=?_) #[true,true,true,true,true,true,true,true,false,false,false,false,false,false,false,false,false,false] rfl rfl (any_of HT_.out (by kernel_rfl)) (fun _ _ _ h=>h) (Or.inl ⟨by rfl,?_⟩) ?_ ?_
    rotate_left
    ·intro w'
     go_simp
     with_reducible rfl
    rotate_left
    ·simp only [Act.put,List.setIfInBounds_toArray,List.set_cons_zero,List.set_cons_succ,i64_w,i32_w]
     rfl
    refine pure_ (i:=8) (N:=some 20) (v:=?_) (a':=?_) #[true,true,true,true,true,true,true,true,true,false,false,false,false,false,false,false,false,false] rfl rfl (any_of HT_.out (by kernel_rfl)) (fun _ _ _ h=>h) (Or.inl ⟨by rfl,?_⟩) ?_ ?_
    rotate_left
    ·intro w'
     go_simp
     with_reducible rfl
    rotate_left
    ·simp only [Act.put,List.setIfInBounds_toArray,List.set_cons_zero,List.set_cons_succ,i64_w,i32_w]
     rfl
    refine pure_ (i:=9) (N:=some 21) (v:=undef) (a':=?_) #[true,true,true,true,true,true,true,true,true,true,false,false,false,false,false,false,false,false] rfl rfl (any_of HT_.out (by kernel_rfl)) (fun _ _ _ h=>h) (Or.inr ⟨by rfl,rfl⟩) ?_ ?_
    rotate_left
    ·simp only [Act.put,List.setIfInBounds_toArray,List.set_cons_zero,List.set_cons_succ,i64_w,i32_w]
     rfl
    refine pure_ (i:=10) (N:=some 22) (v:=undef) (a':=?_) #[true,true,true,true,true,true,true,true,true,true,true,false,false,false,false,false,false,false] rfl rfl (any_of HT_.out (by kernel_rfl)) (fun _ _ _ h=>h) (Or.inr ⟨by rfl,rfl⟩) ?_ ?_
    rotate_left
    ·simp only [Act.put,List.setIfInBounds_toArray,List.set_cons_zero,List.set_cons_succ,i64_w,i32_w]
     rfl
    refine pure_ (i:=11) (N:=some 23) (v:=undef) (a':=?_) #[true,true,true,true,true,true,true,true,true,true,true,true,false,false,false,false,false,false] rfl rfl (any_of HT_.out (by kernel_rfl)) (fun _ _ _ h=>h) (Or.inr ⟨by rfl,rfl⟩) ?_ ?_
    rotate_left
    ·simp only [Act.put,List.setIfInBounds_toArray,List.set_cons_zero,List.set_cons_succ,i64_w,i32_w]
     rfl
    refine pure_ (i:=12) (N:=some 24) (v:=undef) (a':=?_) #[true,true,true,true,true,true,true,true,true,true,true,true,true,false,false,false,false,false] rfl rfl (any_of HT_.out (by kernel_rfl)) (fun _ _ _ h=>h) (Or.inr ⟨by rfl,rfl⟩) ?_ ?_
    rotate_left
    ·simp only [Act.put,List.setIfInBounds_toArray,List.set_cons_zero,List.set_cons_succ,i64_w,i32_w]
     rfl
    refine pure_ (i:=13) (N:=some 25) (v:=undef) (a':=?_) #[true,true,true,true,true,true,true,true,true,true,true,true,true,true,false,false,false,false] rfl rfl (any_of HT_.out (by kernel_rfl)) (fun _ _ _ h=>h) (Or.inr ⟨by rfl,rfl⟩) ?_ ?_
    rotate_left
    ·simp only [Act.put,List.setIfInBounds_toArray,List.set_cons_zero,List.set_cons_succ,i64_w,i32_w]
     rfl
    refine pure_ (i:=14) (N:=some 26) (v:=undef) (a':=?_) #[true,true,true,true,true,true,true,true,true,true,true,true,true,true,true,false,false,false] rfl rfl (any_of HT_.out (by kernel_rfl)) (fun _ _ _ h=>h) (Or.inr ⟨by rfl,rfl⟩) ?_ ?_
    rotate_left
    ·simp only [Act.put,List.setIfInBounds_toArray,List.set_cons_zero,List.set_cons_succ,i64_w,i32_w]
     rfl
    refine pure_ (i:=15) (N:=some 27) (v:=undef) (a':=?_) #[true,true,true,true,true,true,true,true,true,true,true,true,true,true,true,true,false,false] rfl rfl (any_of HT_.out (by kernel_rfl)) (fun _ _ _ h=>h) (Or.inr ⟨by rfl,rfl⟩) ?_ ?_
    rotate_left
    ·simp only [Act.put,List.setIfInBounds_toArray,List.set_cons_zero,List.set_cons_succ,i64_w,i32_w]
     rfl
    refine pure_ (i:=16) (N:=some 28) (v:=undef) (a':=?_) #[true,true,true,true,true,true,true,true,true,true,true,true,true,true,true,true,true,false] rfl rfl (any_of HT_.out (by kernel_rfl)) (fun _ _ _ h=>h) (Or.inr ⟨by rfl,rfl⟩) ?_ ?_
    rotate_left
    ·simp only [Act.put,List.setIfInBounds_toArray,List.set_cons_zero,List.set_cons_succ,i64_w,i32_w]
     rfl
    refine pure_ (i:=17) (N:=some 29) (v:=?_) (a':=?_) #[true,true,true,true,true,true,true,true,true,true,true,true,true,true,true,true,true,true] rfl rfl (any_of HT_.out (by kernel_rfl)) (fun _ _ _ h=>h) (Or.inl ⟨by rfl,?_⟩) ?_ ?_
    rotate_left
    ·intro w'
     go_simp
     with_reducible rfl
    rotate_left
    ·simp only [Act.put,List.setIfInBounds_toArray,List.set_cons_zero,List.set_cons_succ,i64_w,i32_w]
     rfl
    refine done_ (done_of HT_.out (by kernel_rfl)) ?_
    try go_wp2
    go_meet
    case rel=>exact ⟨_,(true),(by first|rfl|(simp;done)|(simp [*];done)),H',⟨by first|omega|exact Nat.le_refl _⟩,⟨by repeat (first|(with_reducible first|exact HB.out|apply below_alloc|apply pw_below_drewN|apply below_drew1)|exact HB.out)⟩⟩
   ·rw [if_neg c6] at H
    have c6b0:decide ((wrap64 ((l1.length:Int) - 1)) < 1) = false:=decide_eq_false c6
    (try (have c6b1:decide ((IntKind.i64.wrap ((l1.length:Int) - 1)) < 1) = false:=by simp only [i64_w];exact (decide_eq_false c6)))
    clear c6
    (first|rw [c6b0]|(simp only [i64_w,i32_w];rw [c6b0])|skip)
    obtain ⟨ji9,hji9⟩:∃ j_:Int,(wrap64 ((l1.length:Int) - 1)) = j_:=⟨_,rfl⟩
    replace H:(if 0≤(ji9) then (if (ji9) < (l1.length:Int) then (if 0 < (l1.length:Int) then (stream_Full.j0 k l1 ji9 (!((((rd_T32 l1 (ji9)).f0).toList) == (((rd_T32 l1 0).f0).toList)) || (!(((rd_T32 l1 (ji9)).f1) == ((rd_T32 l1 0).f1)) || (!(((rd_T32 l1 (ji9)).f2) == ((rd_T32 l1 0).f2)) || (!((((rd_T32 l1 (ji9)).f3).toList) == (((rd_T32 l1 0).f3).toList))))))) else (none)) else (none)) else (none)) = some (r1,r2):=by first|(rw [hji9] at H;exact H)|(simp only [hji9] at H ⊢;exact H)
    (try rw [hji9] at c6b0)
    (try rw [hji9] at A4)
    have hji9w:(IntKind.i64.wrap ((l1.length:Int) - 1)) = ji9:=(i64_w _).trans hji9
    by_cases c10:0≤(ji9)
    ·rw [if_pos c10] at H
     have c10b0:decide (0≤(ji9)) = true:=decide_eq_true c10
     clear c10
     by_cases c11:(ji9) < (l1.length:Int)
     ·rw [if_pos c11] at H
      have c11b0:decide ((ji9) < (l1.length:Int)) = true:=decide_eq_true c11
      clear c11
      by_cases c12:0 < (l1.length:Int)
      ·rw [if_pos c12] at H
       have c12b0:decide (0 < (l1.length:Int)) = true:=decide_eq_true c12
       have c12b1:decide (0 < l1.length) = true:=decide_eq_true (by omega)
       clear c12
       have H':=Aside0.mk H
       clear H
       try go_wp2
       have n0_:=Aside0.mk (below_drew1 HB.out)
       clear HB
       have HB:=n0_
       clear n0_
       have p160:0≤((ji9):Int):=of_decide_eq_true (by first|(with_reducible assumption)|assumption)
       have q160:(ji9) < (l1.length:Int):=of_decide_eq_true (by first|(with_reducible assumption)|assumption)
       obtain ⟨ad160,e160,hx160_0,hx160_1,hx160_2,hx160_3⟩:=at_T32 HR1.out (ji9) p160 q160
       have hw160_3:=hx160_3
       have hw160_2:=hx160_2
       have hw160_1:=hx160_1
       have hw160_0:=hx160_0
       cases e160
       replace hx160_0:=(HB.out.cell (World.block_lt_of_cell? w _ hx160_0)).trans hx160_0
       replace hx160_1:=(HB.out.cell (World.block_lt_of_cell? w _ hx160_1)).trans hx160_1
       replace hx160_2:=(HB.out.cell (World.block_lt_of_cell? w _ hx160_2)).trans hx160_2
       replace hx160_3:=(HB.out.cell (World.block_lt_of_cell? w _ hx160_3)).trans hx160_3
       replace p160:=eq_true p160
       replace q160:=eq_true q160
       have p161:0≤(0:Int):=(by omega)
       have q161:0 < (l1.length:Int):=of_decide_eq_true (by first|(with_reducible assumption)|assumption)
       obtain ⟨ad161,e161,hx161_0,hx161_1,hx161_2,hx161_3⟩:=at_T32 HR1.out 0 p161 q161
       have hw161_3:=hx161_3
       (try rw [show ((0:Int)).toNat = 0 from rfl] at hw161_3)
       (try rw [show 0 * 4 = 0 from rfl] at hw161_3)
       (try rw [Addr.add_zero'] at hw161_3)
       have hw161_2:=hx161_2
       (try rw [show ((0:Int)).toNat = 0 from rfl] at hw161_2)
       (try rw [show 0 * 4 = 0 from rfl] at hw161_2)
       (try rw [Addr.add_zero'] at hw161_2)
       have hw161_1:=hx161_1
       (try rw [show ((0:Int)).toNat = 0 from rfl] at hw161_1)
       (try rw [show 0 * 4 = 0 from rfl] at hw161_1)
       (try rw [Addr.add_zero'] at hw161_1)
       have hw161_0:=hx161_0
       (try rw [show ((0:Int)).toNat = 0 from rfl] at hw161_0)
       (try rw [show 0 * 4 = 0 from rfl] at hw161_0)
       (try rw [Addr.add_zero'] at hw161_0)
       obtain rfl:ad160 = ad161:=(by injection e161)
       have qi161:(0 < l1.length) = True:=eq_true (by omega)
       (try rw [show ((0:Int)).toNat = 0 from rfl] at hx161_0)
       (try rw [show 0 * 4 = 0 from rfl] at hx161_0)
       (try rw [Addr.add_zero'] at hx161_0)
       (try rw [show ((0:Int)).toNat = 0 from rfl] at hx161_1)
       (try rw [show 0 * 4 = 0 from rfl] at hx161_1)
       (try rw [Addr.add_zero'] at hx161_1)
       (try rw [show ((0:Int)).toNat = 0 from rfl] at hx161_2)
       (try rw [show 0 * 4 = 0 from rfl] at hx161_2)
       (try rw [Addr.add_zero'] at hx161_2)
       (try rw [show ((0:Int)).toNat = 0 from rfl] at hx161_3)
       (try rw [show 0 * 4 = 0 from rfl] at hx161_3)
       (try rw [Addr.add_zero'] at hx161_3)
       replace hx161_0:=(HB.out.cell (World.block_lt_of_cell? w _ hx161_0)).trans hx161_0
       replace hx161_1:=(HB.out.cell (World.block_lt_of_cell? w _ hx161_1)).trans hx161_1
       replace hx161_2:=(HB.out.cell (World.block_lt_of_cell? w _ hx161_2)).trans hx161_2
       replace hx161_3:=(HB.out.cell (World.block_lt_of_cell? w _ hx161_3)).trans hx161_3
       replace p161:=eq_true p161
       replace q161:=eq_true q161
       refine start_ (n:=18) (S:=fun w'=>w'.cell? (ad160.add (((ji9)).toNat * 4)) = some (.string ((rd_T32 l1 (ji9)).f0))∧w'.cell? ⟨(ad160.add (((ji9)).toNat * 4)).block,(ad160.add (((ji9)).toNat * 4)).off + 1,none⟩ = some (.int .u16 ((rd_T32 l1 (ji9)).f1))∧w'.cell? ⟨(ad160.add (((ji9)).toNat * 4)).block,(ad160.add (((ji9)).toNat * 4)).off + 2,none⟩ = some (.int .u32 ((rd_T32 l1 (ji9)).f2))∧w'.cell? ⟨(ad160.add (((ji9)).toNat * 4)).block,(ad160.add (((ji9)).toNat * 4)).off + 3,none⟩ = some (.string ((rd_T32 l1 (ji9)).f3))∧w'.cell? ad160 = some (.string ((rd_T32 l1 0).f0))∧w'.cell? ⟨ad160.block,ad160.off + 1,none⟩ = some (.int .u16 ((rd_T32 l1 0).f1))∧w'.cell? ⟨ad160.block,ad160.off + 2,none⟩ = some (.int .u32 ((rd_T32 l1 0).f2))∧w'.cell? ⟨ad160.block,ad160.off + 3,none⟩ = some (.string ((rd_T32 l1 0).f3))) (ds:=[]) #[false,false,false,false,false,false,false,false,false,false,false,false,false,false,false,false,false,false] (by kernel_rfl) rfl rfl ⟨((HB.out.cell (World.block_lt_of_cell? w _ hw160_0)).trans hw160_0),((HB.out.cell (World.block_lt_of_cell? w _ hw160_1)).trans hw160_1),((HB.out.cell (World.block_lt_of_cell? w _ hw160_2)).trans hw160_2),((HB.out.cell (World.block_lt_of_cell? w _ hw160_3)).trans hw160_3),((HB.out.cell (World.block_lt_of_cell? w _ hw161_0)).trans hw161_0),((HB.out.cell (World.block_lt_of_cell? w _ hw161_1)).trans hw161_1),((HB.out.cell (World.block_lt_of_cell? w _ hw161_2)).trans hw161_2),((HB.out.cell (World.block_lt_of_cell? w _ hw161_3)).trans hw161_3)⟩ (fun hHeld=>?_);refine with_tabW stream_Full.tab2 stream_Full.bits2 (fun HT_ HW_=>?_)
       generalize w.drew = w13 at HB hx160_0 hx160_1 hx160_2 hx160_3 hx161_0 hx161_1 hx161_2 hx161_3 hHeld ⊢
       refine pure_ (i:=0) (N:=some 12) (v:=?_) (a':=?_) #[true,false,false,false,false,false,false,false,false,false,false,false,false,false,false,false,false,false] rfl rfl (any_of HT_.out (by kernel_rfl)) (fun _ _ _ h=>h) (Or.inl ⟨by rfl,?_⟩) ?_ ?_
       rotate_left
       ·intro w'
        go_simp
        with_reducible rfl
       rotate_left
       ·simp only [Act.put,List.setIfInBounds_toArray,List.set_cons_zero,List.set_cons_succ,i64_w,i32_w]
        rfl
       refine pure_ (i:=1) (N:=some 13) (v:=?_) (a':=?_) #[true,true,false,false,false,false,false,false,false,false,false,false,false,false,false,false,false,false] rfl rfl (any_of HT_.out (by kernel_rfl)) (fun _ _ _ h=>h) (Or.inl ⟨by rfl,?_⟩) ?_ ?_
       rotate_left
       ·intro w'
        go_simp
        with_reducible rfl
       rotate_left
       ·simp only [Act.put,List.setIfInBounds_toArray,List.set_cons_zero,List.set_cons_succ,i64_w,i32_w]
        rfl
       refine one_ (i:=2) (N:=some 14) #[true,true,true,false,false,false,false,false,false,false,false,false,false,false,false,false,false,false] rfl rfl (one_of HT_.out (by kernel_rfl)) (by decide) (fun K hK=>?_)
       refine goes_ Tryd.func26 (by kernel_rfl) rfl #[.string a0,.slice (some ad160) l1.length c1] (by rfl) rfl rfl (by (try simp only [List.map_toArray,List.map_cons,List.map_nil]) <;> first|rfl|(simp only [List.length_drop,List.length_take];rfl)) ?_
       with_reducible refine (stream_right.calls k a0 _ _ l1 true _ ?side1 ?side2 A4.out).mono ?_
       (case side1=>repeat (first|exact (Kd.C_below HR1.out HB.out)|(with_reducible refine Kd.C_alloc ?_ _)|(with_reducible refine Kd.C_drewN ?_ _)|(with_reducible refine Kd.C_drew ?_)))
       (case side2=>exact HC1.out)
       rintro e w14 ⟨rfl,hb⟩
       refine ⟨_,rfl,?_⟩
       have n0_:=Aside0.mk (below_step (by repeat (first|(with_reducible first|exact HB.out|apply below_alloc|apply pw_below_drewN|apply below_drew1)|exact HB.out)) hb)
       clear HB
       have HB:=n0_
       clear n0_
       (try clear hb)
       (try clear hb2)
       (try clear hk)
       (try clear hi)
       refine hK.out _ _ ⟨((HB.out.cell (World.block_lt_of_cell? w _ hw160_0)).trans hw160_0),((HB.out.cell (World.block_lt_of_cell? w _ hw160_1)).trans hw160_1),((HB.out.cell (World.block_lt_of_cell? w _ hw160_2)).trans hw160_2),((HB.out.cell (World.block_lt_of_cell? w _ hw160_3)).trans hw160_3),((HB.out.cell (World.block_lt_of_cell? w _ hw161_0)).trans hw161_0),((HB.out.cell (World.block_lt_of_cell? w _ hw161_1)).trans hw161_1),((HB.out.cell (World.block_lt_of_cell? w _ hw161_2)).trans hw161_2),((HB.out.cell (World.block_lt_of_cell? w _ hw161_3)).trans hw161_3)⟩ (fun hHeld=>?_)
       clear hK K
       refine norm_ (a':=?_) ?_ ?_
       rotate_left
       ·show Act.put _ (some 14) _ = _
        simp only [Act.put,List.setIfInBounds_toArray,List.set_cons_zero,List.set_cons_succ,i64_w,i32_w]
        rfl
       refine pure_ (i:=3) (N:=some 15) (v:=?_) (a':=?_) #[true,true,true,true,false,false,false,false,false,false,false,false,false,false,false,false,false,false] rfl rfl (any_of HT_.out (by kernel_rfl)) (fun _ _ _ h=>h) (Or.inl ⟨by rfl,?_⟩) ?_ ?_
       rotate_left
       ·intro w'
        go_simp
        with_reducible rfl
       rotate_left
       ·simp only [Act.put,List.setIfInBounds_toArray,List.set_cons_zero,List.set_cons_succ,i64_w,i32_w]
        rfl
       refine pure_ (i:=4) (N:=some 16) (v:=?_) (a':=?_) #[true,true,true,true,true,false,false,false,false,false,false,false,false,false,false,false,false,false] rfl rfl (any_of HT_.out (by kernel_rfl)) (fun _ _ _ h=>h) (Or.inl ⟨by rfl,?_⟩) ?_ ?_
       rotate_left
       ·intro w'
        go_simp
        with_reducible rfl
       rotate_left
       ·simp only [Act.put,List.setIfInBounds_toArray,List.set_cons_zero,List.set_cons_succ,i64_w,i32_w]
        rfl
       refine pure_ (i:=5) (N:=some 17) (v:=?_) (a':=?_) #[true,true,true,true,true,true,false,false,false,false,false,false,false,false,false,false,false,false] rfl rfl (any_of HT_.out (by kernel_rfl)) (fun _ _ _ h=>h) (Or.inl ⟨by rfl,?_⟩) ?_ ?_
       rotate_left
       ·intro w'
        go_simp
        with_reducible rfl
       rotate_left
       ·simp only [Act.put,List.setIfInBounds_toArray,List.set_cons_zero,List.set_cons_succ,i64_w,i32_w]
        rfl
       refine pure_ (i:=6) (N:=some 18) (v:=?_) (a':=?_) #[true,true,true,true,true,true,true,false,false,false,false,false,false,false,false,false,false,false] rfl rfl (any_of HT_.out (by kernel_rfl)) (fun _ _ _ h=>h) (Or.inl ⟨by rfl,?_⟩) ?_ ?_
       rotate_left
       ·intro w'
        go_simp
        with_reducible rfl
       rotate_left
       ·simp only [Act.put,List.setIfInBounds_toArray,List.set_cons_zero,List.set_cons_succ,i64_w,i32_w]
        rfl
       refine pure_ (i:=7) (N:=some 19) (v:=?_) (a':=?_) #[true,true,true,true,true,true,true,true,false,false,false,false,false,false,false,false,false,false] rfl rfl (any_of HT_.out (by kernel_rfl)) (fun _ _ _ h=>h) (Or.inl ⟨by rfl,?_⟩) ?_ ?_
       rotate_left
       ·intro w'
        go_simp
        with_reducible rfl
       rotate_left
       ·simp only [Act.put,List.setIfInBounds_toArray,List.set_cons_zero,List.set_cons_succ,i64_w,i32_w]
        rfl
       refine pure_ (i:=8) (N:=some 20) (v:=?_) (a':=?_) #[true,true,true,true,true,true,true,true,true,false,false,false,false,false,false,false,false,false] rfl rfl (any_of HT_.out (by kernel_rfl)) (fun _ _ _ h=>h) (Or.inl ⟨by rfl,?_⟩) ?_ ?_
       rotate_left
       ·intro w'
        go_simp
        with_reducible rfl
       rotate_left
       ·simp only [Act.put,List.setIfInBounds_toArray,List.set_cons_zero,List.set_cons_succ,i64_w,i32_w]
        rfl
       refine pure_ (i:=9) (N:=some 21) (v:=?_) (a':=?_) #[true,true,true,true,true,true,true,true,true,true,false,false,false,false,false,false,false,false] rfl rfl (any_of HT_.out (by kernel_rfl)) (fun _ _ _ h=>h) (Or.inl ⟨by rfl,?_⟩) ?_ ?_
       rotate_left
       ·intro w'
        go_simp
        with_reducible rfl
       rotate_left
       ·simp only [Act.put,List.setIfInBounds_toArray,List.set_cons_zero,List.set_cons_succ,i64_w,i32_w]
        rfl
       refine pure_ (i:=10) (N:=some 22) (v:=?_) (a':=?_) #[true,true,true,true,true,true,true,true,true,true,true,false,false,false,false,false,false,false] rfl rfl (any_of HT_.out (by kernel_rfl)) (fun _ _ _ h=>h) (Or.inl ⟨by rfl,?_⟩) ?_ ?_
       rotate_left
       ·intro w'
        go_simp
        with_reducible rfl
       rotate_left
       ·simp only [Act.put,List.setIfInBounds_toArray,List.set_cons_zero,List.set_cons_succ,i64_w,i32_w]
        rfl
       refine pure_ (i:=11) (N:=some 23) (v:=?_) (a':=?_) #[true,true,true,true,true,true,true,true,true,true,true,true,false,false,false,false,false,false] rfl rfl (any_of HT_.out (by kernel_rfl)) (fun _ _ _ h=>h) (Or.inl ⟨by rfl,?_⟩) ?_ ?_
       rotate_left
       ·intro w'
        go_simp
        with_reducible rfl
       rotate_left
       ·simp only [Act.put,List.setIfInBounds_toArray,List.set_cons_zero,List.set_cons_succ,i64_w,i32_w]
        rfl
       refine pure_ (i:=13) (N:=some 25) (v:=?_) (a':=?_) #[true,true,true,true,true,true,true,true,true,true,true,true,false,true,false,false,false,false] rfl rfl (any_of HT_.out (by kernel_rfl)) (fun _ _ _ h=>h) (Or.inl ⟨by rfl,?_⟩) ?_ ?_
       rotate_left
       ·intro w'
        go_simp
        with_reducible rfl
       rotate_left
       ·simp only [Act.put,List.setIfInBounds_toArray,List.set_cons_zero,List.set_cons_succ,i64_w,i32_w]
        rfl
       refine pure_ (i:=14) (N:=some 26) (v:=?_) (a':=?_) #[true,true,true,true,true,true,true,true,true,true,true,true,false,true,true,false,false,false] rfl rfl (any_of HT_.out (by kernel_rfl)) (fun _ _ _ h=>h) (Or.inl ⟨by rfl,?_⟩) ?_ ?_
       rotate_left
       ·intro w'
        go_simp
        with_reducible rfl
       rotate_left
       ·simp only [Act.put,List.setIfInBounds_toArray,List.set_cons_zero,List.set_cons_succ,i64_w,i32_w]
        rfl
       refine take_ (i:=12) (N:=some 24) (v:=?_) (a':=?_) #[true,true,true,true,true,true,true,true,true,true,true,true,true,true,true,false,false,false] rfl rfl (take_ofW HT_.out HW_.out (by kernel_rfl)) (fun _ _ _ h=>h) (Or.inl ⟨by rfl,?_⟩) hHeld ?_ ?_
       rotate_left
       ·rintro w' ⟨s0,s1,s2,s3,s4,s5,s6,s7⟩
        go_simp
        with_reducible rfl
       rotate_left
       ·simp only [Act.put,List.setIfInBounds_toArray,List.set_cons_zero,List.set_cons_succ,i64_w,i32_w]
        rfl
       refine take_ (i:=15) (N:=some 27) (v:=?_) (a':=?_) #[true,true,true,true,true,true,true,true,true,true,true,true,true,true,true,true,false,false] rfl rfl (take_ofW HT_.out HW_.out (by kernel_rfl)) (fun _ _ _ h=>h) (Or.inl ⟨by rfl,?_⟩) hHeld ?_ ?_
       rotate_left
       ·rintro w' ⟨s0,s1,s2,s3,s4,s5,s6,s7⟩
        go_simp
        with_reducible rfl
       rotate_left
       ·simp only [Act.put,List.setIfInBounds_toArray,List.set_cons_zero,List.set_cons_succ,i64_w,i32_w]
        rfl
       refine pure_ (i:=16) (N:=some 28) (v:=?_) (a':=?_) #[true,true,true,true,true,true,true,true,true,true,true,true,true,true,true,true,true,false] rfl rfl (any_of HT_.out (by kernel_rfl)) (fun _ _ _ h=>h) (Or.inl ⟨by rfl,?_⟩) ?_ ?_
       rotate_left
       ·intro w'
        go_simp
        with_reducible rfl
       rotate_left
       ·simp only [Act.put,List.setIfInBounds_toArray,List.set_cons_zero,List.set_cons_succ,i64_w,i32_w]
        rfl
       refine pure_ (i:=17) (N:=some 29) (v:=?_) (a':=?_) #[true,true,true,true,true,true,true,true,true,true,true,true,true,true,true,true,true,true] rfl rfl (any_of HT_.out (by kernel_rfl)) (fun _ _ _ h=>h) (Or.inl ⟨by rfl,?_⟩) ?_ ?_
       rotate_left
       ·intro w'
        go_simp
        with_reducible rfl
       rotate_left
       ·simp only [Act.put,List.setIfInBounds_toArray,List.set_cons_zero,List.set_cons_succ,i64_w,i32_w]
        rfl
       refine done_ (done_of HT_.out (by kernel_rfl)) ?_
       try go_wp2
       (try rw [← hji9])
       go_meet
       case rel=>exact ⟨_,((!((((rd_T32 l1 (ji9)).f0).toList) == (((rd_T32 l1 0).f0).toList)) || (!(((rd_T32 l1 (ji9)).f1) == ((rd_T32 l1 0).f1)) || (!(((rd_T32 l1 (ji9)).f2) == ((rd_T32 l1 0).f2)) || (!((((rd_T32 l1 (ji9)).f3).toList) == (((rd_T32 l1 0).f3).toList))))))),(by first|rfl|(simp;done)|(simp only [← hji9] <;> (first|rfl|simp))|(simp [*];done)),(by first|exact H'|(rw [hji9];exact H')),⟨by first|omega|exact Nat.le_refl _⟩,⟨by repeat (first|(with_reducible first|exact HB.out|apply below_alloc|apply pw_below_drewN|apply below_drew1)|exact HB.out)⟩⟩
      ·rw [if_neg c12] at H
       exact absurd H (by simp)
     ·rw [if_neg c11] at H
      exact absurd H (by simp)
    ·rw [if_neg c10] at H
     exact absurd H (by simp)
  ·replace c5:=Bool.eq_false_iff.mpr c5
   subst c5
   have H1:(stream_Full.j0 k l1 (wrap64 ((l1.length:Int) - 1)) true) = some (r1,r2):=by rw [if_neg (show ¬ (false = true) by decide)] at H;exact H
   clear H
   have H:=H1
   clear H1
   have H':=Aside0.mk H
   clear H
   try go_wp2
   have n0_:=Aside0.mk (below_drew1 HB.out)
   clear HB
   have HB:=n0_
   clear n0_
   refine start_ (n:=18) (S:=fun w'=>True) (ds:=[]) #[false,false,false,false,false,false,false,false,false,false,false,false,false,false,false,false,false,false] (by kernel_rfl) rfl rfl trivial (fun hHeld=>?_);refine with_tabW stream_Full.tab2 stream_Full.bits2 (fun HT_ HW_=>?_)
   generalize w.drew = w15 at HB hHeld ⊢
   refine pure_ (i:=0) (N:=some 12) (v:=?_) (a':=?_) #[true,false,false,false,false,false,false,false,false,false,false,false,false,false,false,false,false,false] rfl rfl (any_of HT_.out (by kernel_rfl)) (fun _ _ _ h=>h) (Or.inl ⟨by rfl,?_⟩) ?_ ?_
   rotate_left
   ·intro w'
    go_simp
    with_reducible rfl
   rotate_left
   ·simp only [Act.put,List.setIfInBounds_toArray,List.set_cons_zero,List.set_cons_succ,i64_w,i32_w]
    rfl
   refine pure_ (i:=1) (N:=some 13) (v:=?_) (a':=?_) #[true,true,false,false,false,false,false,false,false,false,false,false,false,false,false,false,false,false] rfl rfl (any_of HT_.out (by kernel_rfl)) (fun _ _ _ h=>h) (Or.inl ⟨by rfl,?_⟩) ?_ ?_
   rotate_left
   ·intro w'
    go_simp
    with_reducible rfl
   rotate_left
   ·simp only [Act.put,List.setIfInBounds_toArray,List.set_cons_zero,List.set_cons_succ,i64_w,i32_w]
    rfl
   refine one_ (i:=2) (N:=some 14) #[true,true,true,false,false,false,false,false,false,false,false,false,false,false,false,false,false,false] rfl rfl (one_of HT_.out (by kernel_rfl)) (by decide) (fun K hK=>?_)
   refine goes_ Tryd.func26 (by kernel_rfl) rfl #[.string a0,.slice A1 l1.length c1] (by rfl) rfl rfl (by (try simp only [List.map_toArray,List.map_cons,List.map_nil]) <;> first|rfl|(simp only [List.length_drop,List.length_take];rfl)) ?_
   with_reducible refine (stream_right.calls k a0 _ _ l1 false _ ?side1 ?side2 A4.out).mono ?_
   (case side1=>repeat (first|exact (Kd.C_below HR1.out HB.out)|(with_reducible refine Kd.C_alloc ?_ _)|(with_reducible refine Kd.C_drewN ?_ _)|(with_reducible refine Kd.C_drew ?_)))
   (case side2=>exact HC1.out)
   rintro e w16 ⟨rfl,hb⟩
   refine ⟨_,rfl,?_⟩
   have n0_:=Aside0.mk (below_step (by repeat (first|(with_reducible first|exact HB.out|apply below_alloc|apply pw_below_drewN|apply below_drew1)|exact HB.out)) hb)
   clear HB
   have HB:=n0_
   clear n0_
   (try clear hb)
   (try clear hb2)
   (try clear hk)
   (try clear hi)
   refine hK.out _ _ trivial (fun hHeld=>?_)
   clear hK K
   refine norm_ (a':=?_) ?_ ?_
   rotate_left
   ·show Act.put _ (some 14) _ = _
    simp only [Act.put,List.setIfInBounds_toArray,List.set_cons_zero,List.set_cons_succ,i64_w,i32_w]
    rfl
   refine pure_ (i:=3) (N:=some 15) (v:=?_) (a':=?_) #[true,true,true,true,false,false,false,false,false,false,false,false,false,false,false,false,false,false] rfl rfl (any_of HT_.out (by kernel_rfl)) (fun _ _ _ h=>h) (Or.inl ⟨by rfl,?_⟩) ?_ ?_
   rotate_left
   ·intro w'
    go_simp
    with_reducible rfl
   rotate_left
   ·simp only [Act.put,List.setIfInBounds_toArray,List.set_cons_zero,List.set_cons_succ,i64_w,i32_w]
    rfl
   refine pure_ (i:=4) (N:=some 16) (v:=?_) (a':=?_) #[true,true,true,true,true,false,false,false,false,false,false,false,false,false,false,false,false,false] rfl rfl (any_of HT_.out (by kernel_rfl)) (fun _ _ _ h=>h) (Or.inl ⟨by rfl,?_⟩) ?_ ?_
   rotate_left
   ·intro w'
    go_simp
    with_reducible rfl
   rotate_left
   ·simp only [Act.put,List.setIfInBounds_toArray,List.set_cons_zero,List.set_cons_succ,i64_w,i32_w]
    rfl
   refine pure_ (i:=5) (N:=some 17) (v:=undef) (a':=?_) #[true,true,true,true,true,true,false,false,false,false,false,false,false,false,false,false,false,false] rfl rfl (any_of HT_.out (by kernel_rfl)) (fun _ _ _ h=>h) (Or.inr ⟨by rfl,rfl⟩) ?_ ?_
   rotate_left
   ·simp only [Act.put,List.setIfInBounds_toArray,List.set_cons_zero,List.set_cons_succ,i64_w,i32_w]
    rfl
   refine pure_ (i:=6) (N:=some 18) (v:=undef) (a':=?_) #[true,true,true,true,true,true,true,false,false,false,false,false,false,false,false,false,false,false] rfl rfl (any_of HT_.out (by kernel_rfl)) (fun _ _ _ h=>h) (Or.inr ⟨by rfl,rfl⟩) ?_ ?_
   rotate_left
   ·simp only [Act.put,List.setIfInBounds_toArray,List.set_cons_zero,List.set_cons_succ,i64_w,i32_w]
    rfl
   refine pure_ (i:=7) (N:=some 19) (v:=?_) (a':=?_) #[true,true,true,true,true,true,true,true,false,false,false,false,false,false,false,false,false,false] rfl rfl (any_of HT_.out (by kernel_rfl)) (fun _ _ _ h=>h) (Or.inl ⟨by rfl,?_⟩) ?_ ?_
   rotate_left
   ·intro w'
    go_simp
    with_reducible rfl
   rotate_left
   ·simp only [Act.put,List.setIfInBounds_toArray,List.set_cons_zero,List.set_cons_succ,i64_w,i32_w]
    rfl
   refine pure_ (i:=8) (N:=some 20) (v:=?_) (a':=?_) #[true,true,true,true,true,true,true,true,true,false,false,false,false,false,false,false,false,false] rfl rfl (any_of HT_.out (by kernel_rfl)) (fun _ _ _ h=>h) (Or.inl ⟨by rfl,?_⟩) ?_ ?_
   rotate_left
   ·intro w'
    go_simp
    with_reducible rfl
   rotate_left
   ·simp only [Act.put,List.setIfInBounds_toArray,List.set_cons_zero,List.set_cons_succ,i64_w,i32_w]
    rfl
   refine pure_ (i:=9) (N:=some 21) (v:=undef) (a':=?_) #[true,true,true,true,true,true,true,true,true,true,false,false,false,false,false,false,false,false] rfl rfl (any_of HT_.out (by kernel_rfl)) (fun _ _ _ h=>h) (Or.inr ⟨by rfl,rfl⟩) ?_ ?_
   rotate_left
   ·simp only [Act.put,List.setIfInBounds_toArray,List.set_cons_zero,List.set_cons_succ,i64_w,i32_w]
    rfl
   refine pure_ (i:=10) (N:=some 22) (v:=undef) (a':=?_) #[true,true,true,true,true,true,true,true,true,true,true,false,false,false,false,false,false,false] rfl rfl (any_of HT_.out (by kernel_rfl)) (fun _ _ _ h=>h) (Or.inr ⟨by rfl,rfl⟩) ?_ ?_
   rotate_left
   ·simp only [Act.put,List.setIfInBounds_toArray,List.set_cons_zero,List.set_cons_succ,i64_w,i32_w]
    rfl
   refine pure_ (i:=11) (N:=some 23) (v:=undef) (a':=?_) #[true,true,true,true,true,true,true,true,true,true,true,true,false,false,false,false,false,false] rfl rfl (any_of HT_.out (by kernel_rfl)) (fun _ _ _ h=>h) (Or.inr ⟨by rfl,rfl⟩) ?_ ?_
   rotate_left
   ·simp only [Act.put,List.setIfInBounds_toArray,List.set_cons_zero,List.set_cons_succ,i64_w,i32_w]
    rfl
   refine pure_ (i:=12) (N:=some 24) (v:=undef) (a':=?_) #[true,true,true,true,true,true,true,true,true,true,true,true,true,false,false,false,false,false] rfl rfl (any_of HT_.out (by kernel_rfl)) (fun _ _ _ h=>h) (Or.inr ⟨by rfl,rfl⟩) ?_ ?_
   rotate_left
   ·simp only [Act.put,List.setIfInBounds_toArray,List.set_cons_zero,List.set_cons_succ,i64_w,i32_w]
    rfl
   refine pure_ (i:=13) (N:=some 25) (v:=undef) (a':=?_) #[true,true,true,true,true,true,true,true,true,true,true,true,true,true,false,false,false,false] rfl rfl (any_of HT_.out (by kernel_rfl)) (fun _ _ _ h=>h) (Or.inr ⟨by rfl,rfl⟩) ?_ ?_
   rotate_left
   ·simp only [Act.put,List.setIfInBounds_toArray,List.set_cons_zero,List.set_cons_succ,i64_w,i32_w]
    rfl
   refine pure_ (i:=14) (N:=some 26) (v:=undef) (a':=?_) #[true,true,true,true,true,true,true,true,true,true,true,true,true,true,true,false,false,false] rfl rfl (any_of HT_.out (by kernel_rfl)) (fun _ _ _ h=>h) (Or.inr ⟨by rfl,rfl⟩) ?_ ?_
   rotate_left
   ·simp only [Act.put,List.setIfInBounds_toArray,List.set_cons_zero,List.set_cons_succ,i64_w,i32_w]
    rfl
   refine pure_ (i:=15) (N:=some 27) (v:=undef) (a':=?_) #[true,true,true,true,true,true,true,true,true,true,true,true,true,true,true,true,false,false] rfl rfl (any_of HT_.out (by kernel_rfl)) (fun _ _ _ h=>h) (Or.inr ⟨by rfl,rfl⟩) ?_ ?_
   rotate_left
   ·simp only [Act.put,List.setIfInBounds_toArray,List.set_cons_zero,List.set_cons_succ,i64_w,i32_w]
    rfl
   refine pure_ (i:=16) (N:=some 28) (v:=undef) (a':=?_) #[true,true,true,true,true,true,true,true,true,true,true,true,true,true,true,true,true,false] rfl rfl (any_of HT_.out (by kernel_rfl)) (fun _ _ _ h=>h) (Or.inr ⟨by rfl,rfl⟩) ?_ ?_
   rotate_left
   ·simp only [Act.put,List.setIfInBounds_toArray,List.set_cons_zero,List.set_cons_succ,i64_w,i32_w]
    rfl
   refine pure_ (i:=17) (N:=some 29) (v:=?_) (a':=?_) #[true,true,true,true,true,true,true,true,true,true,true,true,true,true,true,true,true,true] rfl rfl (any_of HT_.out (by kernel_rfl)) (fun _ _ _ h=>h) (Or.inl ⟨by rfl,?_⟩) ?_ ?_
   rotate_left
   ·intro w'
    go_simp
    with_reducible rfl
   rotate_left
   ·simp only [Act.put,List.setIfInBounds_toArray,List.set_cons_zero,List.set_cons_succ,i64_w,i32_w]
    rfl
   refine done_ (done_of HT_.out (by kernel_rfl)) ?_
   try go_wp2
   go_meet
   case rel=>exact ⟨_,(true),(by first|rfl|(simp;done)|(simp [*];done)),H',⟨by first|omega|exact Nat.le_refl _⟩,⟨by repeat (first|(with_reducible first|exact HB.out|apply below_alloc|apply pw_below_drewN|apply below_drew1)|exact HB.out)⟩⟩
 case rest =>
  clear HC3
  try clear c1
  try clear p1
  try clear q1
  try clear hx1
  try clear qi1
  try clear c2
  try clear p2
  try clear c5
  try clear c6
  try clear c6b0
  try clear c6b1
  try clear p6
  try clear c10
  try clear c10b0
  try clear c11
  try clear c11b0
  try clear c12
  try clear c12b0
  try clear c12b1
  try clear p16
  try clear q16
  try clear hx16
  try clear qi16
  try clear hx160_0
  try clear hx160_1
  try clear hx160_2
  try clear hx160_3
  try clear hx161_0
  try clear hx161_1
  try clear hx161_2
  try clear hx161_3
  try clear p160
  try clear p161
  try clear q160
  try clear q161
  obtain ⟨kq,x29_2,rfl,HA,HJ2,HB⟩:=hcut
  cases kq with
  | zero=>exact absurd HA.out (by simp [stream_Full.j0])
  | succ kj2 =>
   have H:=HA.out
   clear HA
   simp only [stream_Full.j0] at H
   by_cases c17:x29_2 = true
   ·subst c17
    have H1:(some (([]:List (S32)),some 4)) = some (r1,r2):=by rw [if_pos rfl] at H;exact H
    clear H
    have H:=H1
    clear H1
    simp only [Option.some.injEq,Prod.mk.injEq] at H
    obtain ⟨rfl,rfl⟩:=H
    go_wp2
    go_ret2
    exact ⟨_,by first|rfl|(simp [errW_none,errW_some] <;> rfl)|(simp [*,errW_none,errW_some] <;> rfl),by first|exact Kd.R_nil _ _ _ _ _|exact Kd.N_nil _ _ _ _ _|exact Kd.V_nil _ _ _ _ _|exact Kd.Q_nil _ _ _ _ _|exact Kd.S_nil _ _ _ _ _,by repeat (first|(with_reducible first|exact HB.out|apply below_alloc|apply pw_below_drewN|apply below_drew1)|exact HB.out)⟩
   ·replace c17:=Bool.eq_false_iff.mpr c17
    subst c17
    have H1:(if 1≤(wrap64 ((l1.length:Int) - 1)) then (if (wrap64 ((l1.length:Int) - 1))≤(l1.length:Int) then ((some ((l1.take ((wrap64 ((l1.length:Int) - 1)):Int).toNat).drop 1:List (S32))).bind fun y162=>(stream_Full.l0 kj2 l1 (wrap64 ((l1.length:Int) - 1)) y162 (y162.length:Int) 0)) else (none)) else (none)) = some (r1,r2):=by rw [if_neg (show ¬ (false = true) by decide)] at H;exact H
    clear H
    have H:=H1
    clear H1
    by_cases c18:1≤(wrap64 ((l1.length:Int) - 1))
    ·rw [if_pos c18] at H
     have c18b0:=eq_true c18
     have c18b1:decide (1≤(wrap64 ((l1.length:Int) - 1))) = true:=decide_eq_true c18
     clear c18
     by_cases c19:(wrap64 ((l1.length:Int) - 1))≤(l1.length:Int)
     ·rw [if_pos c19] at H
      have c19b0:=eq_true c19
      have c19b1:decide ((wrap64 ((l1.length:Int) - 1))≤(l1.length:Int)) = true:=decide_eq_true c19
      clear c19
      obtain ⟨y162,hy162⟩:∃ y_:List (S32),y_ = ((l1.take ((wrap64 ((l1.length:Int) - 1)):Int).toNat).drop 1):=⟨_,rfl⟩
      replace H:(stream_Full.l0 kj2 l1 (wrap64 ((l1.length:Int) - 1)) y162 (y162.length:Int) 0) = some (r1,r2):=by first|(rw [hy162];with_reducible exact H)|(have H2_:=(Option.bind_some _ _).symm.trans H;rw [hy162];with_reducible exact H2_)|(have H2_:=(Option.bind_some _ _).symm.trans H;with_reducible exact H2_)|with_reducible exact H|(rw [hy162];exact H)|exact H
      have Ny162:=Aside0.mk hy162
      clear hy162
      have H':=Aside0.mk H
      clear H
      have q20:((wrap64 ((l1.length:Int) - 1)):Int)≤((l1.length:Int):Int):=of_decide_eq_true (by first|(with_reducible assumption)|assumption)
      obtain ⟨i020,hi020,_,hsz20,_⟩:=info_parts info32
      have hroom20:l1.length≤c1:=HC1.out
      have hC20:Kd.C k32 _ A1 l1.length l1:=HR1.out
      have ql20:(1:Int)≤((wrap64 ((l1.length:Int) - 1)):Int):=of_decide_eq_true (by first|(with_reducible assumption)|assumption)
      have hcut20:=cut_mid (P:=Tryd.prog) 26 32 .i64 .i64 Tryd.underlying26 hi020 4 hsz20 A1 l1.length c1 1 (wrap64 ((l1.length:Int) - 1)) (by omega) ql20 q20 hroom20
      have hr20:=Kd.C_mid (lo:=(1:Int).toNat) (hi:=((wrap64 ((l1.length:Int) - 1)):Int).toNat) (c:=c1) hC20 (by omega) (by omega) hroom20
      obtain ⟨A20,hA20⟩:∃ A_,A_ = (if c1 = (1:Int).toNat then A1 else (A1:Option Addr).map (·.add ((1:Int).toNat * 4))):=⟨_,rfl⟩
      obtain ⟨c20,hc20⟩:∃ c_,c_ = c1 - (1:Int).toNat:=⟨_,rfl⟩
      have hy20:y162.length = ((wrap64 ((l1.length:Int) - 1)):Int).toNat - (1:Int).toNat:=(by rw [Ny162.out,List.length_drop,List.length_take] <;> omega)
      rw [show ((l1).take ((wrap64 ((l1.length:Int) - 1)):Int).toNat).drop (1:Int).toNat = y162 from Ny162.out.symm] at hr20
      replace hr20:Kd.C k32 _ A20 y162.length y162:=(by rw [hA20];exact hr20)
      rw [← hy20,← hA20,← hc20] at hcut20
      have HR165:=Aside0.mk hr20
      have HC165:=Aside0.mk (show y162.length≤c20 from by rw [hy20,hc20];exact Nat.sub_le_sub_right (Nat.le_trans (by omega) hroom20) _)
      clear hr20 hC20 hroom20 hi020 hsz20 hc20
      have KY20:=Aside0.mk hy20
      have KA20:=Aside0.mk hA20
      clear hy20 hA20
      replace q20:=eq_true q20
      go_wp2
      go_loopg [35] kj2 (fun kq v35 w'=>∃ (x35_2:Int),v35 = .int .i64 x35_2∧Aside0 (stream_Full.l0 kq l1 (wrap64 ((l1.length:Int) - 1)) y162 (y162.length:Int) x35_2 = some (r1,r2))∧Aside0 (kq≤kj2)∧Aside0 (Below w.heap.size w w'))
      case atStart=>exact ⟨(0),(by first|rfl|(simp;done)|(simp [*];done)),H',⟨Nat.le_refl _⟩,⟨by repeat (first|(with_reducible first|exact HB.out|apply below_alloc|apply pw_below_drewN|apply below_drew1)|exact HB.out)⟩⟩
      case round =>
       clear H'
       try clear c1
       try clear p1
       try clear q1
       try clear hx1
       try clear qi1
       try clear c2
       try clear p2
       try clear q2
       try clear c5
       try clear c6
       try clear c6b0
       try clear c6b1
       try clear p6
       try clear c10
       try clear c10b0
       try clear c11
       try clear c11b0
       try clear c12
       try clear c12b0
       try clear c12b1
       try clear p16
       try clear q16
       try clear hx16
       try clear qi16
       try clear c17
       try clear c18
       try clear c18b0
       try clear c18b1
       try clear c19
       try clear c19b0
       try clear c19b1
       try clear c20
       try clear q20
       try clear hx160_0
       try clear hx160_1
       try clear hx160_2
       try clear hx160_3
       try clear hx161_0
       try clear hx161_1
       try clear hx161_2
       try clear hx161_3
       try clear p1
       try clear p16
       try clear p160
       try clear p161
       try clear p2
       try clear p6
       try clear q1
       try clear q16
       try clear q160
       try clear q161
       try clear q20
       obtain ⟨x35_2,rfl,HA,HK2,HB⟩:=hrel
       cases gk with
       | zero=>exact absurd HA.out (by simp [stream_Full.l0])
       | succ k2 =>
        have H:=HA.out
        clear HA
        simp only [stream_Full.l0] at H
        by_cases c21:x35_2 < (y162.length:Int)
        ·rw [if_pos c21] at H
         have c21b0:decide (x35_2 < (y162.length:Int)) = true:=decide_eq_true c21
         clear c21
         by_cases c22:0≤x35_2
         ·rw [if_pos c22] at H
          have c22b0:decide (0≤x35_2) = true:=decide_eq_true c22
          clear c22
          by_cases c23:x35_2 < (y162.length:Int)
          ·rw [if_pos c23] at H
           have c23b0:decide (x35_2 < (y162.length:Int)) = true:=decide_eq_true c23
           clear c23
           by_cases c24:((rd_T32 y162 x35_2).f1) = 6
           ·rw [if_pos c24] at H
            have c24b0:(((rd_T32 y162 x35_2).f1) == 6) = true:=beq_iff_eq.mpr c24
            have c24b1:(((rd_T32 y162 x35_2).f1) != 6) = false:=bne_eq_false_iff_eq.mpr c24
            clear c24
            simp only [Option.some.injEq,Prod.mk.injEq] at H
            obtain ⟨rfl,rfl⟩:=H
            have p166:0≤(x35_2:Int):=of_decide_eq_true (by first|(with_reducible assumption)|assumption)
            have q166:x35_2 < (y162.length:Int):=of_decide_eq_true (by first|(with_reducible assumption)|assumption)
            obtain ⟨ad166,e166,hx166_0,hx166_1,hx166_2,hx166_3⟩:=at_T32 HR165.out x35_2 p166 q166
            cases e166
            replace hx166_0:=(HB.out.cell (World.block_lt_of_cell? w _ hx166_0)).trans hx166_0
            replace hx166_1:=(HB.out.cell (World.block_lt_of_cell? w _ hx166_1)).trans hx166_1
            replace hx166_2:=(HB.out.cell (World.block_lt_of_cell? w _ hx166_2)).trans hx166_2
            replace hx166_3:=(HB.out.cell (World.block_lt_of_cell? w _ hx166_3)).trans hx166_3
            replace p166:=eq_true p166
            replace q166:=eq_true q166
            go_wp2_with (first|((with_reducible refine gate_dst (N:=8) rfl ?_);refine box_event ?hg (N:=8) ?hd (cs:=#[.string (⟨#[]⟩:ByteArray),.int .u16 0,.int .u32 0,.string (⟨#[]⟩:ByteArray)]) (t:=32) ?hr ?_;(case hd=>rfl);(case hg=>rfl);(case hr=>first|(go_simp;done)|(go_simp;rfl));intro gb167 hg w25 hbox hb;have n0_:=Aside0.mk (below_step (by repeat (first|(with_reducible first|exact HB.out|apply below_alloc|apply pw_below_drewN|apply below_drew1)|exact HB.out)) hb);have n1_:=Aside0.mk (hbox);have n2_:=Aside0.mk ((by rw [hg];exact (below_size (by repeat (first|(with_reducible first|exact HB.out|apply below_alloc|apply pw_below_drewN|apply below_drew1)|exact HB.out))):w.heap.size≤gb167));have n3_:=Aside0.mk ((by rw [hg];exact (below_size (by repeat (first|(with_reducible first|exact HB.out|apply below_alloc|apply pw_below_drewN|apply below_drew1)|exact HB.out))):w.heap.size≤gb167));clear HB;have HB:=n0_;have BK167:=n1_;have GW167:=n2_;have GE167:=n3_;clear n0_ n1_ n2_ n3_;clear hb hbox hg;have hcz26_0:w25.cell? ⟨gb167,0,none⟩ = some (.string (⟨#[]⟩:ByteArray)):=(blk_cell BK167.out 0).trans rfl;have hcz26_1:w25.cell? ⟨gb167,1,none⟩ = some (.int .u16 0):=(blk_cell BK167.out 1).trans rfl;have hcz26_2:w25.cell? ⟨gb167,2,none⟩ = some (.int .u32 0):=(blk_cell BK167.out 2).trans rfl;have hcz26_3:w25.cell? ⟨gb167,3,none⟩ = some (.string (⟨#[]⟩:ByteArray)):=(blk_cell BK167.out 3).trans rfl;have hfz26_0:=blk_frozen BK167.out 0;have hfz26_1:=blk_frozen BK167.out 1;have hfz26_2:=blk_frozen BK167.out 2;have hfz26_3:=blk_frozen BK167.out 3))
            go_ret2
            exact ⟨_,by first|rfl|(simp [errW_none,errW_some] <;> rfl)|(simp [*,errW_none,errW_some] <;> rfl),by first|exact Kd.R_nil _ _ _ _ _|exact Kd.N_nil _ _ _ _ _|exact Kd.V_nil _ _ _ _ _|exact Kd.Q_nil _ _ _ _ _|exact Kd.S_nil _ _ _ _ _,by repeat (first|(with_reducible first|exact HB.out|apply below_alloc|apply pw_below_drewN|apply below_drew1|refine below_set ?_ GE167.out)|exact HB.out)⟩
           ·rw [if_neg c24] at H
            have c24b0:(((rd_T32 y162 x35_2).f1) == 6) = false:=beq_eq_false_iff_ne.mpr c24
            have c24b1:(((rd_T32 y162 x35_2).f1) != 6) = true:=bne_iff_ne.mpr c24
            have H':=Aside0.mk H
            clear H
            have p166:0≤(x35_2:Int):=of_decide_eq_true (by first|(with_reducible assumption)|assumption)
            have q166:x35_2 < (y162.length:Int):=of_decide_eq_true (by first|(with_reducible assumption)|assumption)
            obtain ⟨ad166,e166,hx166_0,hx166_1,hx166_2,hx166_3⟩:=at_T32 HR165.out x35_2 p166 q166
            cases e166
            replace hx166_0:=(HB.out.cell (World.block_lt_of_cell? w _ hx166_0)).trans hx166_0
            replace hx166_1:=(HB.out.cell (World.block_lt_of_cell? w _ hx166_1)).trans hx166_1
            replace hx166_2:=(HB.out.cell (World.block_lt_of_cell? w _ hx166_2)).trans hx166_2
            replace hx166_3:=(HB.out.cell (World.block_lt_of_cell? w _ hx166_3)).trans hx166_3
            replace p166:=eq_true p166
            replace q166:=eq_true q166
            go_wp2_with (first|((with_reducible refine gate_dst (N:=8) rfl ?_);refine box_event ?hg (N:=8) ?hd (cs:=#[.string (⟨#[]⟩:ByteArray),.int .u16 0,.int .u32 0,.string (⟨#[]⟩:ByteArray)]) (t:=32) ?hr ?_;(case hd=>rfl);(case hg=>rfl);(case hr=>first|(go_simp;done)|(go_simp;rfl));intro gb167 hg w27 hbox hb;have n0_:=Aside0.mk (below_step (by repeat (first|(with_reducible first|exact HB.out|apply below_alloc|apply pw_below_drewN|apply below_drew1)|exact HB.out)) hb);have n1_:=Aside0.mk (hbox);have n2_:=Aside0.mk ((by rw [hg];exact (below_size (by repeat (first|(with_reducible first|exact HB.out|apply below_alloc|apply pw_below_drewN|apply below_drew1)|exact HB.out))):w.heap.size≤gb167));have n3_:=Aside0.mk ((by rw [hg];exact (below_size (by repeat (first|(with_reducible first|exact HB.out|apply below_alloc|apply pw_below_drewN|apply below_drew1)|exact HB.out))):w.heap.size≤gb167));clear HB;have HB:=n0_;have BK167:=n1_;have GW167:=n2_;have GE167:=n3_;clear n0_ n1_ n2_ n3_;clear hb hbox hg;have hcz28_0:w27.cell? ⟨gb167,0,none⟩ = some (.string (⟨#[]⟩:ByteArray)):=(blk_cell BK167.out 0).trans rfl;have hcz28_1:w27.cell? ⟨gb167,1,none⟩ = some (.int .u16 0):=(blk_cell BK167.out 1).trans rfl;have hcz28_2:w27.cell? ⟨gb167,2,none⟩ = some (.int .u32 0):=(blk_cell BK167.out 2).trans rfl;have hcz28_3:w27.cell? ⟨gb167,3,none⟩ = some (.string (⟨#[]⟩:ByteArray)):=(blk_cell BK167.out 3).trans rfl;have hfz28_0:=blk_frozen BK167.out 0;have hfz28_1:=blk_frozen BK167.out 1;have hfz28_2:=blk_frozen BK167.out 2;have hfz28_3:=blk_frozen BK167.out 3))
            go_roundg k2
            case measure=>have:=HJ2.out;have:=HK2.out;omega
            case rel=>exact ⟨(wrap64 (x35_2 + 1)),(by first|rfl|(simp;done)|(simp [*];done)),H',⟨by have:=HJ2.out;have:=HK2.out;omega⟩,⟨by repeat (first|(with_reducible first|exact HB.out|apply below_alloc|apply pw_below_drewN|apply below_drew1|refine below_set ?_ GE167.out)|exact HB.out)⟩⟩
          ·rw [if_neg c23] at H
           exact absurd H (by simp)
         ·rw [if_neg c22] at H
          exact absurd H (by simp)
        ·rw [if_neg c21] at H
         have c21b0:decide (x35_2 < (y162.length:Int)) = false:=decide_eq_false c21
         clear c21
         obtain ⟨ji29,hji29⟩:∃ j_:Int,(wrap64 ((l1.length:Int) - 1)) = j_:=⟨_,rfl⟩
         replace H:(if 0≤(ji29) then (if (ji29)≤(l1.length:Int) then ((some (l1.take ((ji29):Int).toNat:List (S32))).bind fun y168=>(if ([]:List (S32)).length + y168.length < 3518437208883 then (some ((([]:List (S32)) ++ y168),none)) else (none))) else (none)) else (none)) = some (r1,r2):=by first|(rw [hji29] at H;exact H)|(simp only [hji29] at H ⊢;exact H)
         (try rw [hji29] at c18b0)
         (try rw [hji29] at c18b1)
         (try rw [hji29] at c19b0)
         (try rw [hji29] at c19b1)
         have hji29w:(IntKind.i64.wrap ((l1.length:Int) - 1)) = ji29:=(i64_w _).trans hji29
         by_cases c30:0≤(ji29)
         ·rw [if_pos c30] at H
          have c30b0:=eq_true c30
          have c30b1:decide (0≤(ji29)) = true:=decide_eq_true c30
          clear c30
          by_cases c31:(ji29)≤(l1.length:Int)
          ·rw [if_pos c31] at H
           have c31b0:=eq_true c31
           have c31b1:decide ((ji29)≤(l1.length:Int)) = true:=decide_eq_true c31
           clear c31
           obtain ⟨y168,hy168⟩:∃ y_:List (S32),y_ = (l1.take ((ji29):Int).toNat):=⟨_,rfl⟩
           replace H:(if ([]:List (S32)).length + y168.length < 3518437208883 then (some ((([]:List (S32)) ++ y168),none)) else (none)) = some (r1,r2):=by first|(rw [hy168];with_reducible exact H)|(have H2_:=(Option.bind_some _ _).symm.trans H;rw [hy168];with_reducible exact H2_)|(have H2_:=(Option.bind_some _ _).symm.trans H;with_reducible exact H2_)|with_reducible exact H|(rw [hy168];exact H)|exact H
           have Ny168:=Aside0.mk hy168
           clear hy168
           by_cases c32:([]:List (S32)).length + y168.length < 3518437208883
           ·rw [if_pos c32] at H
            have LMc32:=Aside0.mk c32
            clear c32
            obtain ⟨y172,hy172⟩:∃ y_:List (S32),y_ = (([]:List (S32)) ++ y168):=⟨_,rfl⟩
            replace H:(some (y172,none)) = some (r1,r2):=by first|(rw [hy172];with_reducible exact H)|(have H2_:=(Option.bind_some _ _).symm.trans H;rw [hy172];with_reducible exact H2_)|(have H2_:=(Option.bind_some _ _).symm.trans H;with_reducible exact H2_)|with_reducible exact H|(rw [hy172];exact H)|exact H
            have Ny172:=Aside0.mk hy172
            clear hy172
            simp only [Option.some.injEq,Prod.mk.injEq] at H
            obtain ⟨rfl,rfl⟩:=H
            have q33:((ji29):Int)≤((l1.length:Int):Int):=of_decide_eq_true (by first|(with_reducible assumption)|assumption)
            obtain ⟨i033,hi033,_,hsz33,_⟩:=info_parts info32
            have hroom33:l1.length≤c1:=HC1.out
            have hC33:Kd.C k32 _ A1 l1.length l1:=HR1.out
            have hcut33:=cut_to (P:=Tryd.prog) 26 32 .i64 Tryd.underlying26 hi033 A1 l1.length c1 (ji29) (of_decide_eq_true (by first|(with_reducible assumption)|assumption)) q33 hroom33
            have hr33:=Kd.C_take (m:=((ji29):Int).toNat) hC33 (by omega)
            have hy33:y168.length = ((ji29):Int).toNat:=(by rw [Ny168.out,List.length_take];omega)
            rw [← Ny168.out] at hr33
            rw [← hy33] at hcut33
            have HR171:=Aside0.mk hr33
            have HC171:=Aside0.mk (show y168.length≤c1 from by omega)
            clear hr33 hC33 hroom33 hi033 hsz33
            have KY33:=Aside0.mk hy33
            clear hy33
            replace q33:=eq_true q33
            go_wp2_with (first|((with_reducible refine gate_builtin (b:=.append) (xs:=#[.const (.slice none 0 0),.tmp 46]) rfl ?_);at_builtin;refine Kd.R_append_rows k32 (w0:=w) w.heap.size rfl (.const (.slice none 0 0)) (.tmp 46) 26 32 (.agg #[(.string ⟨#[]⟩),(.int .u16 0),(.int .u32 0),(.string ⟨#[]⟩)]) 40 rfl Tryd.underlying26 info32 rfl (by decide) (by omega) (.slice none 0 0) ([]:List (S32)) y168 _ _ _ (fun _=>True) (fun _=>False) rfl rfl ?aO ?aR (fun _ _ h=>h) (fun _ h=>h.elim) ?aF ?aB ?aS ?aL ?_;(case aR=>repeat (first|exact (Kd.C_below HR171.out HB.out)|(with_reducible refine Kd.C_alloc ?_ _)|(with_reducible refine Kd.C_drewN ?_ _)|(with_reducible refine Kd.C_drew ?_)));(case aB=>exact (by repeat (first|(with_reducible first|exact HB.out|apply below_alloc|apply pw_below_drewN|apply below_drew1)|exact HB.out)));(case aF=>exact (fun _ _=>trivial));(case aO=>exact ((Kd.R_nil _ _ _ _ (fun _=>True))));(case aS=>exact (below_size (by repeat (first|(with_reducible first|exact HB.out|apply below_alloc|apply pw_below_drewN|apply below_drew1)|exact HB.out))));(case aL=>have:=LMc32.out;omega);intro v173 w34 ho hb hg hat;rw [← Ny172.out] at ho;have n0_:=Aside0.mk (hb);have n1_:=Aside0.mk (ho);clear HB;have HB:=n0_;have HO174:=n1_;clear n0_ n1_;clear ho hb hg hat))
            go_ret2
            exact ⟨_,by first|rfl|(simp [errW_none,errW_some] <;> rfl)|(simp only [← hji29];first|rfl|(simp [errW_none,errW_some] <;> rfl))|(simp [*,errW_none,errW_some] <;> rfl),by (with_reducible repeat (first|apply Kd.R_alloc|apply Kd.R_drewN|apply Kd.R_drew));exact HO174.out,by repeat (first|(with_reducible first|exact HB.out|apply below_alloc|apply pw_below_drewN|apply below_drew1)|exact HB.out)⟩
           ·rw [if_neg c32] at H
            exact absurd H (by simp)
          ·rw [if_neg c31] at H
           exact absurd H (by simp)
         ·rw [if_neg c30] at H
          exact absurd H (by simp)
     ·rw [if_neg c19] at H
      exact absurd H (by simp)
    ·rw [if_neg c18] at H
     exact absurd H (by simp)
end Go.Proofs.YtlobjcokopfbkaaDoor.PY
