import Derived.Test.YtlobjcokopfbkaaDoorPYx0
import Derived.Test.YtlobjcokopfbkaaDoorPYx1
import Derived.Test.YtlobjcokopfbkaaDoorPYx13
namespace Go.Proofs.YtlobjcokopfbkaaDoor.PY
open Go.RowKit Go.Proofs.YtlobjcokopfbkaaDoorW.PrintWords Go.Proofs.YtlobjcokopfbkaaDoorW.PrintLast Go.Proofs.YtlobjcokopfbkaaDoorW.PrintMore
attribute [local go_sem] max2_int min2_int max_two min_two max_three min_three max_four min_four   -- for this text's walks alone
set_option linter.unusedVariables false
set_option linter.unusedSimpArgs false
attribute [local go_sem high] eqA32
mutual
def bolterlaw09_full.j0:Nat→List (S32)→Int→Bool→Option (Bool)
 | 0,_,_,_=>none
 | k + 1,x1,x5,x28=>if x28 = true then (some false) else (if 1≤(wrap64 (x5 - 1)) then (if (wrap64 (x5 - 1))≤(x1.length:Int) then ((some ((x1.take ((wrap64 (x5 - 1)):Int).toNat).drop 1:List (S32))).bind fun y389=>(bolterlaw09_full.l0 k y389 (y389.length:Int) 0)) else (none)) else (none))
def bolterlaw09_full.l0:Nat→List (S32)→Int→Int→Option (Bool)
 | 0,_,_,_=>none
 | k + 1,x32,x33,x34=>if x34 < x33 then (if 0≤x34 then (if x34 < (x32.length:Int) then (if ((rd_T32 x32 x34).f1) = 6 then (some false) else (bolterlaw09_full.l0 k x32 x33 (wrap64 (x34 + 1)))) else (none)) else (none)) else (some true)
end
def bolterlaw09_full.f (k:Nat) (a0:ByteArray) (l1:List (S32)):Option (Bool):=(bolterlaw09_may.f k a0 l1).bind fun t386=>(if t386 = true then (if (l1.length:Int) < 2 then (bolterlaw09_full.j0 k l1 (l1.length:Int) true) else (if 0≤(wrap64 ((l1.length:Int) - 1)) then (if (wrap64 ((l1.length:Int) - 1)) < (l1.length:Int) then (if 0 < (l1.length:Int) then (bolterlaw09_full.j0 k l1 (l1.length:Int) (!((((rd_T32 l1 (wrap64 ((l1.length:Int) - 1))).f0).toList) == (((rd_T32 l1 0).f0).toList)) || (!(((rd_T32 l1 (wrap64 ((l1.length:Int) - 1))).f1) == ((rd_T32 l1 0).f1)) || (!(((rd_T32 l1 (wrap64 ((l1.length:Int) - 1))).f2) == ((rd_T32 l1 0).f2)) || (!((((rd_T32 l1 (wrap64 ((l1.length:Int) - 1))).f3).toList) == (((rd_T32 l1 0).f3).toList))))))) else (none)) else (none)) else (none))) else (bolterlaw09_full.j0 k l1 (l1.length:Int) true))
theorem bolterlaw09_full.mono_l:∀ k,(∀ y0 y1 y2,LeO (bolterlaw09_full.j0 k y0 y1 y2) (bolterlaw09_full.j0 (k + 1) y0 y1 y2))∧(∀ y0 y1 y2,LeO (bolterlaw09_full.l0 k y0 y1 y2) (bolterlaw09_full.l0 (k + 1) y0 y1 y2))
 | 0=>⟨fun _ _ _ r h=>by simp [bolterlaw09_full.j0] at h,fun _ _ _ r h=>by simp [bolterlaw09_full.l0] at h⟩
 | k + 1=>by
  obtain ⟨ih0,ih1⟩:=bolterlaw09_full.mono_l k
  refine ⟨?_,?_⟩
  ·intro y0 y1 y2
   unfold bolterlaw09_full.j0
   repeat' first
   | (with_reducible exact ih0 _ _ _)
   | (with_reducible exact ih1 _ _ _)
   | (with_reducible exact bolterlaw09_may.mono _ _ _)
   | (with_reducible exact LeO.refl _)
   | (with_reducible exact LeO.none _)
   | (with_reducible refine LeO.ite ?_ ?_)
   | (with_reducible refine LeO.bind ?_ (fun _=>?_))
   | exact ih0 _ _ _
   | exact ih1 _ _ _
   | exact bolterlaw09_may.mono _ _ _
   | exact LeO.none _
   | refine LeO.ite ?_ ?_
   | refine LeO.bind ?_ (fun _=>?_)
  ·intro y0 y1 y2
   unfold bolterlaw09_full.l0
   repeat' first
   | (with_reducible exact ih0 _ _ _)
   | (with_reducible exact ih1 _ _ _)
   | (with_reducible exact bolterlaw09_may.mono _ _ _)
   | (with_reducible exact LeO.refl _)
   | (with_reducible exact LeO.none _)
   | (with_reducible refine LeO.ite ?_ ?_)
   | (with_reducible refine LeO.bind ?_ (fun _=>?_))
   | exact ih0 _ _ _
   | exact ih1 _ _ _
   | exact bolterlaw09_may.mono _ _ _
   | exact LeO.none _
   | refine LeO.ite ?_ ?_
   | refine LeO.bind ?_ (fun _=>?_)
theorem bolterlaw09_full.mono:∀ a0 a1 k,LeO (bolterlaw09_full.f k a0 a1) (bolterlaw09_full.f (k + 1) a0 a1):=by
 intro a0 a1 k
 obtain ⟨ih0,ih1⟩:=bolterlaw09_full.mono_l k
 unfold bolterlaw09_full.f
 repeat' first
   | (with_reducible exact ih0 _ _ _)
   | (with_reducible exact ih1 _ _ _)
   | (with_reducible exact bolterlaw09_may.mono _ _ _)
   | (with_reducible exact LeO.refl _)
   | (with_reducible exact LeO.none _)
   | (with_reducible refine LeO.ite ?_ ?_)
   | (with_reducible refine LeO.bind ?_ (fun _=>?_))
   | exact ih0 _ _ _
   | exact ih1 _ _ _
   | exact bolterlaw09_may.mono _ _ _
   | exact LeO.none _
   | refine LeO.ite ?_ ?_
   | refine LeO.bind ?_ (fun _=>?_)
def bolterlaw09_full.T2:Bool × List (List Nat × List Nat):=(true,[([],[]),([],[]),([0,1],[0,1]),([2],[2]),([3,2],[3]),([4],[4]),([5,4],[4,5]),([4,6],[4,6]),([7,4],[7]),([8],[8]),([8],[8]),([10,8],[8,10]),([9,11,8],[8,9,11]),([12,8],[8,12]),([8],[8]),([14,8],[8,14]),([15,8],[8,15]),([13,16,8],[8,13,16]),([8,17],[8,17])])
def bolterlaw09_full.B2:List Nat:=[0,0,3,7,15,31,63,127,255,511,511,1535,4095,8191,511,16895,49663,131071,262143]
theorem bolterlaw09_full.tab2:rtab .any (opsOf Tryd.f12 2) = bolterlaw09_full.T2:=by kernel_rfl
theorem bolterlaw09_full.bits2:waitsOk bolterlaw09_full.T2.2 bolterlaw09_full.B2 = true:=by kernel_rfl
set_option maxHeartbeats 8000000 in
set_option maxRecDepth 100000 in
theorem bolterlaw09_full.calls (k:Nat) (a0:ByteArray) (A1:Option Addr) (c1:Nat) (l1:List (S32)) (r:Bool) (w:World) (hr1:Kd.C k32 w A1 l1.length l1) (hc1:l1.length≤c1) (h:bolterlaw09_full.f k a0 l1 = some r) :
  Calls Tryd.prog 12 #[.string a0,.slice A1 l1.length c1] w fun e w'=>e = .returned (.bool r)∧Below w.heap.size w w':=by
 have hu32:=Tryd.underlying32
 have HR1:=Aside0.mk hr1
 have HC1:=Aside0.mk hc1
 clear hr1 hc1
 have HB:=Aside0.mk (Below.refl w.heap.size w)
 have H:((bolterlaw09_may.f k a0 l1).bind fun t386=>(if t386 = true then (if (l1.length:Int) < 2 then (bolterlaw09_full.j0 k l1 (l1.length:Int) true) else (if 0≤(wrap64 ((l1.length:Int) - 1)) then (if (wrap64 ((l1.length:Int) - 1)) < (l1.length:Int) then (if 0 < (l1.length:Int) then (bolterlaw09_full.j0 k l1 (l1.length:Int) (!((((rd_T32 l1 (wrap64 ((l1.length:Int) - 1))).f0).toList) == (((rd_T32 l1 0).f0).toList)) || (!(((rd_T32 l1 (wrap64 ((l1.length:Int) - 1))).f1) == ((rd_T32 l1 0).f1)) || (!(((rd_T32 l1 (wrap64 ((l1.length:Int) - 1))).f2) == ((rd_T32 l1 0).f2)) || (!((((rd_T32 l1 (wrap64 ((l1.length:Int) - 1))).f3).toList) == (((rd_T32 l1 0).f3).toList))))))) else (none)) else (none)) else (none))) else (bolterlaw09_full.j0 k l1 (l1.length:Int) true))) = some r:=h
 clear h
 have HC3:=Aside0.mk H
 clear H
 go_enter Tryd.func12,Tryd.ntmps12
 go_upto_region 2 with (fail)
 go_cut [28] (fun v28 wc=>∃ (kq:Nat) (x28_2:Bool),v28 = .bool x28_2∧Aside0 (bolterlaw09_full.j0 kq l1 (l1.length:Int) x28_2 = some r)∧Aside0 (kq≤k)∧Aside0 (Below w.heap.size w wc))
 case first =>
  have H:=HC3.out
  clear HC3
  replace H:=Option.bind_eq_some_iff.mp H
  obtain ⟨t386,A40,H⟩:=H
  replace H:(if t386 = true then (if (l1.length:Int) < 2 then (bolterlaw09_full.j0 k l1 (l1.length:Int) true) else (if 0≤(wrap64 ((l1.length:Int) - 1)) then (if (wrap64 ((l1.length:Int) - 1)) < (l1.length:Int) then (if 0 < (l1.length:Int) then (bolterlaw09_full.j0 k l1 (l1.length:Int) (!((((rd_T32 l1 (wrap64 ((l1.length:Int) - 1))).f0).toList) == (((rd_T32 l1 0).f0).toList)) || (!(((rd_T32 l1 (wrap64 ((l1.length:Int) - 1))).f1) == ((rd_T32 l1 0).f1)) || (!(((rd_T32 l1 (wrap64 ((l1.length:Int) - 1))).f2) == ((rd_T32 l1 0).f2)) || (!((((rd_T32 l1 (wrap64 ((l1.length:Int) - 1))).f3).toList) == (((rd_T32 l1 0).f3).toList))))))) else (none)) else (none)) else (none))) else (bolterlaw09_full.j0 k l1 (l1.length:Int) true)) = some r:=H
  have A4:=Aside0.mk A40
  clear A40
  by_cases c5:t386 = true
  ·subst c5
   have H1:(if (l1.length:Int) < 2 then (bolterlaw09_full.j0 k l1 (l1.length:Int) true) else (if 0≤(wrap64 ((l1.length:Int) - 1)) then (if (wrap64 ((l1.length:Int) - 1)) < (l1.length:Int) then (if 0 < (l1.length:Int) then (bolterlaw09_full.j0 k l1 (l1.length:Int) (!((((rd_T32 l1 (wrap64 ((l1.length:Int) - 1))).f0).toList) == (((rd_T32 l1 0).f0).toList)) || (!(((rd_T32 l1 (wrap64 ((l1.length:Int) - 1))).f1) == ((rd_T32 l1 0).f1)) || (!(((rd_T32 l1 (wrap64 ((l1.length:Int) - 1))).f2) == ((rd_T32 l1 0).f2)) || (!((((rd_T32 l1 (wrap64 ((l1.length:Int) - 1))).f3).toList) == (((rd_T32 l1 0).f3).toList))))))) else (none)) else (none)) else (none))) = some r:=by rw [if_pos rfl] at H;exact H
   clear H
   have H:=H1
   clear H1
   by_cases c6:(l1.length:Int) < 2
   ·rw [if_pos c6] at H
    have c6b0:decide ((l1.length:Int) < 2) = true:=decide_eq_true c6
    have c6b1:decide (l1.length < 2) = true:=decide_eq_true (by omega)
    clear c6
    (first|rw [c6b0]|(simp only [i64_w,i32_w];rw [c6b0])|skip)
    have H':=Aside0.mk H
    clear H
    try go_wp2
    have n0_:=Aside0.mk (below_drew1 HB.out)
    clear HB
    have HB:=n0_
    clear n0_
    refine start_ (n:=19) (S:=fun w'=>True) (ds:=[]) #[false,false,false,false,false,false,false,false,false,false,false,false,false,false,false,false,false,false,false] (by kernel_rfl) rfl rfl trivial (fun hHeld=>?_);refine with_tabW bolterlaw09_full.tab2 bolterlaw09_full.bits2 (fun HT_ HW_=>?_)
    generalize w.drew = w7 at HB hHeld ⊢
    refine pure_ (i:=0) (N:=some 10) (v:=?_) (a':=?_) #[true,false,false,false,false,false,false,false,false,false,false,false,false,false,false,false,false,false,false] rfl rfl (any_of HT_.out (by kernel_rfl)) (fun _ _ _ h=>h) (Or.inl ⟨by rfl,?_⟩) ?_ ?_
    rotate_left
    ·intro w'
     go_simp
     with_reducible rfl
    rotate_left
    ·simp only [Act.put,List.setIfInBounds_toArray,List.set_cons_zero,List.set_cons_succ,i64_w,i32_w]
     rfl
    refine pure_ (i:=1) (N:=some 11) (v:=?_) (a':=?_) #[true,true,false,false,false,false,false,false,false,false,false,false,false,false,false,false,false,false,false] rfl rfl (any_of HT_.out (by kernel_rfl)) (fun _ _ _ h=>h) (Or.inl ⟨by rfl,?_⟩) ?_ ?_
    rotate_left
    ·intro w'
     go_simp
     with_reducible rfl
    rotate_left
    ·simp only [Act.put,List.setIfInBounds_toArray,List.set_cons_zero,List.set_cons_succ,i64_w,i32_w]
     rfl
    refine one_ (i:=2) (N:=some 12) #[true,true,true,false,false,false,false,false,false,false,false,false,false,false,false,false,false,false,false] rfl rfl (one_of HT_.out (by kernel_rfl)) (by decide) (fun K hK=>?_)
    refine goes_ Tryd.func18 (by kernel_rfl) rfl #[.string a0,.slice A1 l1.length c1] (by rfl) rfl rfl (by (try simp only [List.map_toArray,List.map_cons,List.map_nil]) <;> first|rfl|(simp only [List.length_drop,List.length_take];rfl)) ?_
    with_reducible refine (bolterlaw09_may.calls k a0 _ _ l1 true _ ?side1 ?side2 A4.out).mono ?_
    (case side1=>repeat (first|exact (Kd.C_below HR1.out HB.out)|(with_reducible refine Kd.C_alloc ?_ _)|(with_reducible refine Kd.C_drewN ?_ _)|(with_reducible refine Kd.C_drew ?_)))
    (case side2=>exact HC1.out)
    rintro e w8 ⟨rfl,hb⟩
    refine ⟨_,rfl,?_⟩
    have n0_:=Aside0.mk (below_step (by repeat (first|(with_reducible first|exact HB.out|apply below_alloc|apply pw_below_drewN|apply below_drew1)|exact HB.out)) hb)
    clear HB
    have HB:=n0_
    clear n0_
    (try clear hb)
    (try clear hb2)
    (try clear hk)
    (try clear hi)
    refine hK.out _ _ trivial (fun hHeld=>?_)
    clear hK K
    refine norm_ (a':=?_) ?_ ?_
    rotate_left
    ·show Act.put _ (some 12) _ = _
     simp only [Act.put,List.setIfInBounds_toArray,List.set_cons_zero,List.set_cons_succ,i64_w,i32_w]
     rfl
    refine pure_ (i:=3) (N:=some 13) (v:=?_) (a':=?_) #[true,true,true,true,false,false,false,false,false,false,false,false,false,false,false,false,false,false,false] rfl rfl (any_of HT_.out (by kernel_rfl)) (fun _ _ _ h=>h) (Or.inl ⟨by rfl,?_⟩) ?_ ?_
    rotate_left
    ·intro w'
     go_simp
     with_reducible rfl
    rotate_left
    ·simp only [Act.put,List.setIfInBounds_toArray,List.set_cons_zero,List.set_cons_succ,i64_w,i32_w]
     rfl
    refine pure_ (i:=4) (N:=some 14) (v:=?_) (a':=?_) #[true,true,true,true,true,false,false,false,false,false,false,false,false,false,false,false,false,false,false] rfl rfl (any_of HT_.out (by kernel_rfl)) (fun _ _ _ h=>h) (Or.inl ⟨by rfl,?_⟩) ?_ ?_
    rotate_left
    ·intro w'
     go_simp
     with_reducible rfl
    rotate_left
    ·simp only [Act.put,List.setIfInBounds_toArray,List.set_cons_zero,List.set_cons_succ,i64_w,i32_w]
     rfl
    refine pure_ (i:=5) (N:=some 15) (v:=?_) (a':=?_) #[true,true,true,true,true,true,false,false,false,false,false,false,false,false,false,false,false,false,false] rfl rfl (any_of HT_.out (by kernel_rfl)) (fun _ _ _ h=>h) (Or.inl ⟨by rfl,?_⟩) ?_ ?_
    rotate_left
    ·intro w'
     go_simp
     with_reducible rfl
    rotate_left
    ·simp only [Act.put,List.setIfInBounds_toArray,List.set_cons_zero,List.set_cons_succ,i64_w,i32_w]
     rfl
    refine pure_ (i:=6) (N:=some 16) (v:=?_) (a':=?_) #[true,true,true,true,true,true,true,false,false,false,false,false,false,false,false,false,false,false,false] rfl rfl (any_of HT_.out (by kernel_rfl)) (fun _ _ _ h=>h) (Or.inl ⟨by rfl,?_⟩) ?_ ?_
    rotate_left
    ·intro w'
     go_simp
     with_reducible rfl
    rotate_left
    ·simp only [Act.put,List.setIfInBounds_toArray,List.set_cons_zero,List.set_cons_succ,i64_w,i32_w]
     rfl
    refine pure_ (i:=7) (N:=some 17) (v:=?_) (a':=?_) #[true,true,true,true,true,true,true,true,false,false,false,false,false,false,false,false,false,false,false] rfl rfl (any_of HT_.out (by kernel_rfl)) (fun _ _ _ h=>h) (Or.inl ⟨by rfl,?_⟩) ?_ ?_
    rotate_left
    ·intro w'
     go_simp
     with_reducible rfl
    rotate_left
    ·simp only [Act.put,List.setIfInBounds_toArray,List.set_cons_zero,List.set_cons_succ,i64_w,i32_w]
     rfl
    refine pure_ (i:=8) (N:=some 18) (v:=?_) (a':=?_) #[true,true,true,true,true,true,true,true,true,false,false,false,false,false,false,false,false,false,false] rfl rfl (any_of HT_.out (by kernel_rfl)) (fun _ _ _ h=>h) (Or.inl ⟨by rfl,?_⟩) ?_ ?_
    rotate_left
    ·intro w'
     go_simp
     with_reducible rfl
    rotate_left
    ·simp only [Act.put,List.setIfInBounds_toArray,List.set_cons_zero,List.set_cons_succ,i64_w,i32_w]
     rfl
    refine pure_ (i:=9) (N:=some 19) (v:=undef) (a':=?_) #[true,true,true,true,true,true,true,true,true,true,false,false,false,false,false,false,false,false,false] rfl rfl (any_of HT_.out (by kernel_rfl)) (fun _ _ _ h=>h) (Or.inr ⟨by rfl,rfl⟩) ?_ ?_
    rotate_left
    ·simp only [Act.put,List.setIfInBounds_toArray,List.set_cons_zero,List.set_cons_succ,i64_w,i32_w]
     rfl
    refine pure_ (i:=10) (N:=some 20) (v:=undef) (a':=?_) #[true,true,true,true,true,true,true,true,true,true,true,false,false,false,false,false,false,false,false] rfl rfl (any_of HT_.out (by kernel_rfl)) (fun _ _ _ h=>h) (Or.inr ⟨by rfl,rfl⟩) ?_ ?_
    rotate_left
    ·simp only [Act.put,List.setIfInBounds_toArray,List.set_cons_zero,List.set_cons_succ,i64_w,i32_w]
     rfl
    refine pure_ (i:=11) (N:=some 21) (v:=undef) (a':=?_) #[true,true,true,true,true,true,true,true,true,true,true,true,false,false,false,false,false,false,false] rfl rfl (any_of HT_.out (by kernel_rfl)) (fun _ _ _ h=>h) (Or.inr ⟨by rfl,rfl⟩) ?_ ?_
    rotate_left
    ·simp only [Act.put,List.setIfInBounds_toArray,List.set_cons_zero,List.set_cons_succ,i64_w,i32_w]
     rfl
    refine pure_ (i:=12) (N:=some 22) (v:=undef) (a':=?_) #[true,true,true,true,true,true,true,true,true,true,true,true,true,false,false,false,false,false,false] rfl rfl (any_of HT_.out (by kernel_rfl)) (fun _ _ _ h=>h) (Or.inr ⟨by rfl,rfl⟩) ?_ ?_
    rotate_left
    ·simp only [Act.put,List.setIfInBounds_toArray,List.set_cons_zero,List.set_cons_succ,i64_w,i32_w]
     rfl
    refine pure_ (i:=13) (N:=some 23) (v:=undef) (a':=?_) #[true,true,true,true,true,true,true,true,true,true,true,true,true,true,false,false,false,false,false] rfl rfl (any_of HT_.out (by kernel_rfl)) (fun _ _ _ h=>h) (Or.inr ⟨by rfl,rfl⟩) ?_ ?_
    rotate_left
    ·simp only [Act.put,List.setIfInBounds_toArray,List.set_cons_zero,List.set_cons_succ,i64_w,i32_w]
     rfl
    refine pure_ (i:=14) (N:=some 24) (v:=undef) (a':=?_) #[true,true,true,true,true,true,true,true,true,true,true,true,true,true,true,false,false,false,false] rfl rfl (any_of HT_.out (by kernel_rfl)) (fun _ _ _ h=>h) (Or.inr ⟨by rfl,rfl⟩) ?_ ?_
    rotate_left
    ·simp only [Act.put,List.setIfInBounds_toArray,List.set_cons_zero,List.set_cons_succ,i64_w,i32_w]
     rfl
    refine pure_ (i:=15) (N:=some 25) (v:=undef) (a':=?_) #[true,true,true,true,true,true,true,true,true,true,true,true,true,true,true,true,false,false,false] rfl rfl (any_of HT_.out (by kernel_rfl)) (fun _ _ _ h=>h) (Or.inr ⟨by rfl,rfl⟩) ?_ ?_
    rotate_left
    ·simp only [Act.put,List.setIfInBounds_toArray,List.set_cons_zero,List.set_cons_succ,i64_w,i32_w]
     rfl
    refine pure_ (i:=16) (N:=some 26) (v:=undef) (a':=?_) #[true,true,true,true,true,true,true,true,true,true,true,true,true,true,true,true,true,false,false] rfl rfl (any_of HT_.out (by kernel_rfl)) (fun _ _ _ h=>h) (Or.inr ⟨by rfl,rfl⟩) ?_ ?_
    rotate_left
    ·simp only [Act.put,List.setIfInBounds_toArray,List.set_cons_zero,List.set_cons_succ,i64_w,i32_w]
     rfl
    refine pure_ (i:=17) (N:=some 27) (v:=undef) (a':=?_) #[true,true,true,true,true,true,true,true,true,true,true,true,true,true,true,true,true,true,false] rfl rfl (any_of HT_.out (by kernel_rfl)) (fun _ _ _ h=>h) (Or.inr ⟨by rfl,rfl⟩) ?_ ?_
    rotate_left
    ·simp only [Act.put,List.setIfInBounds_toArray,List.set_cons_zero,List.set_cons_succ,i64_w,i32_w]
     rfl
    refine pure_ (i:=18) (N:=some 28) (v:=?_) (a':=?_) #[true,true,true,true,true,true,true,true,true,true,true,true,true,true,true,true,true,true,true] rfl rfl (any_of HT_.out (by kernel_rfl)) (fun _ _ _ h=>h) (Or.inl ⟨by rfl,?_⟩) ?_ ?_
    rotate_left
    ·intro w'
     go_simp
     with_reducible rfl
    rotate_left
    ·simp only [Act.put,List.setIfInBounds_toArray,List.set_cons_zero,List.set_cons_succ,i64_w,i32_w]
     rfl
    refine done_ (done_of HT_.out (by kernel_rfl)) ?_
    try go_wp2
    go_meet
    case rel=>exact ⟨_,(true),(by first|rfl|(simp;done)|(simp [*];done)),H',⟨by first|omega|exact Nat.le_refl _⟩,⟨by repeat (first|(with_reducible first|exact HB.out|apply below_alloc|apply pw_below_drewN|apply below_drew1)|exact HB.out)⟩⟩
   ·rw [if_neg c6] at H
    have c6b0:decide ((l1.length:Int) < 2) = false:=decide_eq_false c6
    have c6b1:decide (l1.length < 2) = false:=decide_eq_false (by omega)
    clear c6
    (first|rw [c6b0]|(simp only [i64_w,i32_w];rw [c6b0])|skip)
    obtain ⟨ji9,hji9⟩:∃ j_:Int,(wrap64 ((l1.length:Int) - 1)) = j_:=⟨_,rfl⟩
    replace H:(if 0≤(ji9) then (if (ji9) < (l1.length:Int) then (if 0 < (l1.length:Int) then (bolterlaw09_full.j0 k l1 (l1.length:Int) (!((((rd_T32 l1 (ji9)).f0).toList) == (((rd_T32 l1 0).f0).toList)) || (!(((rd_T32 l1 (ji9)).f1) == ((rd_T32 l1 0).f1)) || (!(((rd_T32 l1 (ji9)).f2) == ((rd_T32 l1 0).f2)) || (!((((rd_T32 l1 (ji9)).f3).toList) == (((rd_T32 l1 0).f3).toList))))))) else (none)) else (none)) else (none)) = some r:=by first|(rw [hji9] at H;exact H)|(simp only [hji9] at H ⊢;exact H)
    (try rw [hji9] at A4)
    have hji9w:(IntKind.i64.wrap ((l1.length:Int) - 1)) = ji9:=(i64_w _).trans hji9
    by_cases c10:0≤(ji9)
    ·rw [if_pos c10] at H
     have c10b0:decide (0≤(ji9)) = true:=decide_eq_true c10
     clear c10
     by_cases c11:(ji9) < (l1.length:Int)
     ·rw [if_pos c11] at H
      have c11b0:decide ((ji9) < (l1.length:Int)) = true:=decide_eq_true c11
      clear c11
      by_cases c12:0 < (l1.length:Int)
      ·rw [if_pos c12] at H
       have c12b0:decide (0 < (l1.length:Int)) = true:=decide_eq_true c12
       have c12b1:decide (0 < l1.length) = true:=decide_eq_true (by omega)
       clear c12
       have H':=Aside0.mk H
       clear H
       try go_wp2
       have n0_:=Aside0.mk (below_drew1 HB.out)
       clear HB
       have HB:=n0_
       clear n0_
       have p387:0≤((ji9):Int):=of_decide_eq_true (by first|(with_reducible assumption)|assumption)
       have q387:(ji9) < (l1.length:Int):=of_decide_eq_true (by first|(with_reducible assumption)|assumption)
       obtain ⟨ad387,e387,hx387_0,hx387_1,hx387_2,hx387_3⟩:=at_T32 HR1.out (ji9) p387 q387
       have hw387_3:=hx387_3
       have hw387_2:=hx387_2
       have hw387_1:=hx387_1
       have hw387_0:=hx387_0
       cases e387
       replace hx387_0:=(HB.out.cell (World.block_lt_of_cell? w _ hx387_0)).trans hx387_0
       replace hx387_1:=(HB.out.cell (World.block_lt_of_cell? w _ hx387_1)).trans hx387_1
       replace hx387_2:=(HB.out.cell (World.block_lt_of_cell? w _ hx387_2)).trans hx387_2
       replace hx387_3:=(HB.out.cell (World.block_lt_of_cell? w _ hx387_3)).trans hx387_3
       replace p387:=eq_true p387
       replace q387:=eq_true q387
       have p388:0≤(0:Int):=(by omega)
       have q388:0 < (l1.length:Int):=of_decide_eq_true (by first|(with_reducible assumption)|assumption)
       obtain ⟨ad388,e388,hx388_0,hx388_1,hx388_2,hx388_3⟩:=at_T32 HR1.out 0 p388 q388
       have hw388_3:=hx388_3
       (try rw [show ((0:Int)).toNat = 0 from rfl] at hw388_3)
       (try rw [show 0 * 4 = 0 from rfl] at hw388_3)
       (try rw [Addr.add_zero'] at hw388_3)
       have hw388_2:=hx388_2
       (try rw [show ((0:Int)).toNat = 0 from rfl] at hw388_2)
       (try rw [show 0 * 4 = 0 from rfl] at hw388_2)
       (try rw [Addr.add_zero'] at hw388_2)
       have hw388_1:=hx388_1
       (try rw [show ((0:Int)).toNat = 0 from rfl] at hw388_1)
       (try rw [show 0 * 4 = 0 from rfl] at hw388_1)
       (try rw [Addr.add_zero'] at hw388_1)
       have hw388_0:=hx388_0
       (try rw [show ((0:Int)).toNat = 0 from rfl] at hw388_0)
       (try rw [show 0 * 4 = 0 from rfl] at hw388_0)
       (try rw [Addr.add_zero'] at hw388_0)
       obtain rfl:ad387 = ad388:=(by injection e388)
       have qi388:(0 < l1.length) = True:=eq_true (by omega)
       (try rw [show ((0:Int)).toNat = 0 from rfl] at hx388_0)
       (try rw [show 0 * 4 = 0 from rfl] at hx388_0)
       (try rw [Addr.add_zero'] at hx388_0)
       (try rw [show ((0:Int)).toNat = 0 from rfl] at hx388_1)
       (try rw [show 0 * 4 = 0 from rfl] at hx388_1)
       (try rw [Addr.add_zero'] at hx388_1)
       (try rw [show ((0:Int)).toNat = 0 from rfl] at hx388_2)
       (try rw [show 0 * 4 = 0 from rfl] at hx388_2)
       (try rw [Addr.add_zero'] at hx388_2)
       (try rw [show ((0:Int)).toNat = 0 from rfl] at hx388_3)
       (try rw [show 0 * 4 = 0 from rfl] at hx388_3)
       (try rw [Addr.add_zero'] at hx388_3)
       replace hx388_0:=(HB.out.cell (World.block_lt_of_cell? w _ hx388_0)).trans hx388_0
       replace hx388_1:=(HB.out.cell (World.block_lt_of_cell? w _ hx388_1)).trans hx388_1
       replace hx388_2:=(HB.out.cell (World.block_lt_of_cell? w _ hx388_2)).trans hx388_2
       replace hx388_3:=(HB.out.cell (World.block_lt_of_cell? w _ hx388_3)).trans hx388_3
       replace p388:=eq_true p388
       replace q388:=eq_true q388
       refine start_ (n:=19) (S:=fun w'=>w'.cell? (ad387.add (((ji9)).toNat * 4)) = some (.string ((rd_T32 l1 (ji9)).f0))∧w'.cell? ⟨(ad387.add (((ji9)).toNat * 4)).block,(ad387.add (((ji9)).toNat * 4)).off + 1,none⟩ = some (.int .u16 ((rd_T32 l1 (ji9)).f1))∧w'.cell? ⟨(ad387.add (((ji9)).toNat * 4)).block,(ad387.add (((ji9)).toNat * 4)).off + 2,none⟩ = some (.int .u32 ((rd_T32 l1 (ji9)).f2))∧w'.cell? ⟨(ad387.add (((ji9)).toNat * 4)).block,(ad387.add (((ji9)).toNat * 4)).off + 3,none⟩ = some (.string ((rd_T32 l1 (ji9)).f3))∧w'.cell? ad387 = some (.string ((rd_T32 l1 0).f0))∧w'.cell? ⟨ad387.block,ad387.off + 1,none⟩ = some (.int .u16 ((rd_T32 l1 0).f1))∧w'.cell? ⟨ad387.block,ad387.off + 2,none⟩ = some (.int .u32 ((rd_T32 l1 0).f2))∧w'.cell? ⟨ad387.block,ad387.off + 3,none⟩ = some (.string ((rd_T32 l1 0).f3))) (ds:=[]) #[false,false,false,false,false,false,false,false,false,false,false,false,false,false,false,false,false,false,false] (by kernel_rfl) rfl rfl ⟨((HB.out.cell (World.block_lt_of_cell? w _ hw387_0)).trans hw387_0),((HB.out.cell (World.block_lt_of_cell? w _ hw387_1)).trans hw387_1),((HB.out.cell (World.block_lt_of_cell? w _ hw387_2)).trans hw387_2),((HB.out.cell (World.block_lt_of_cell? w _ hw387_3)).trans hw387_3),((HB.out.cell (World.block_lt_of_cell? w _ hw388_0)).trans hw388_0),((HB.out.cell (World.block_lt_of_cell? w _ hw388_1)).trans hw388_1),((HB.out.cell (World.block_lt_of_cell? w _ hw388_2)).trans hw388_2),((HB.out.cell (World.block_lt_of_cell? w _ hw388_3)).trans hw388_3)⟩ (fun hHeld=>?_);refine with_tabW bolterlaw09_full.tab2 bolterlaw09_full.bits2 (fun HT_ HW_=>?_)
       generalize w.drew = w13 at HB hx387_0 hx387_1 hx387_2 hx387_3 hx388_0 hx388_1 hx388_2 hx388_3 hHeld ⊢
       refine pure_ (i:=0) (N:=some 10) (v:=?_) (a':=?_) #[true,false,false,false,false,false,false,false,false,false,false,false,false,false,false,false,false,false,false] rfl rfl (any_of HT_.out (by kernel_rfl)) (fun _ _ _ h=>h) (Or.inl ⟨by rfl,?_⟩) ?_ ?_
       rotate_left
       ·intro w'
        go_simp
        with_reducible rfl
       rotate_left
       ·simp only [Act.put,List.setIfInBounds_toArray,List.set_cons_zero,List.set_cons_succ,i64_w,i32_w]
        rfl
       refine pure_ (i:=1) (N:=some 11) (v:=?_) (a':=?_) #[true,true,false,false,false,false,false,false,false,false,false,false,false,false,false,false,false,false,false] rfl rfl (any_of HT_.out (by kernel_rfl)) (fun _ _ _ h=>h) (Or.inl ⟨by rfl,?_⟩) ?_ ?_
       rotate_left
       ·intro w'
        go_simp
        with_reducible rfl
       rotate_left
       ·simp only [Act.put,List.setIfInBounds_toArray,List.set_cons_zero,List.set_cons_succ,i64_w,i32_w]
        rfl
       refine one_ (i:=2) (N:=some 12) #[true,true,true,false,false,false,false,false,false,false,false,false,false,false,false,false,false,false,false] rfl rfl (one_of HT_.out (by kernel_rfl)) (by decide) (fun K hK=>?_)
       refine goes_ Tryd.func18 (by kernel_rfl) rfl #[.string a0,.slice (some ad387) l1.length c1] (by rfl) rfl rfl (by (try simp only [List.map_toArray,List.map_cons,List.map_nil]) <;> first|rfl|(simp only [List.length_drop,List.length_take];rfl)) ?_
       with_reducible refine (bolterlaw09_may.calls k a0 _ _ l1 true _ ?side1 ?side2 A4.out).mono ?_
       (case side1=>repeat (first|exact (Kd.C_below HR1.out HB.out)|(with_reducible refine Kd.C_alloc ?_ _)|(with_reducible refine Kd.C_drewN ?_ _)|(with_reducible refine Kd.C_drew ?_)))
       (case side2=>exact HC1.out)
       rintro e w14 ⟨rfl,hb⟩
       refine ⟨_,rfl,?_⟩
       have n0_:=Aside0.mk (below_step (by repeat (first|(with_reducible first|exact HB.out|apply below_alloc|apply pw_below_drewN|apply below_drew1)|exact HB.out)) hb)
       clear HB
       have HB:=n0_
       clear n0_
       (try clear hb)
       (try clear hb2)
       (try clear hk)
       (try clear hi)
       refine hK.out _ _ ⟨((HB.out.cell (World.block_lt_of_cell? w _ hw387_0)).trans hw387_0),((HB.out.cell (World.block_lt_of_cell? w _ hw387_1)).trans hw387_1),((HB.out.cell (World.block_lt_of_cell? w _ hw387_2)).trans hw387_2),((HB.out.cell (World.block_lt_of_cell? w _ hw387_3)).trans hw387_3),((HB.out.cell (World.block_lt_of_cell? w _ hw388_0)).trans hw388_0),((HB.out.cell (World.block_lt_of_cell? w _ hw388_1)).trans hw388_1),((HB.out.cell (World.block_lt_of_cell? w _ hw388_2)).trans hw388_2),((HB.out.cell (World.block_lt_of_cell? w _ hw388_3)).trans hw388_3)⟩ (fun hHeld=>?_)
       clear hK K
       refine norm_ (a':=?_) ?_ ?_
       rotate_left
       ·show Act.put _ (some 12) _ = _
        simp only [Act.put,List.setIfInBounds_toArray,List.set_cons_zero,List.set_cons_succ,i64_w,i32_w]
        rfl
       refine pure_ (i:=3) (N:=some 13) (v:=?_) (a':=?_) #[true,true,true,true,false,false,false,false,false,false,false,false,false,false,false,false,false,false,false] rfl rfl (any_of HT_.out (by kernel_rfl)) (fun _ _ _ h=>h) (Or.inl ⟨by rfl,?_⟩) ?_ ?_
       rotate_left
       ·intro w'
        go_simp
        with_reducible rfl
       rotate_left
       ·simp only [Act.put,List.setIfInBounds_toArray,List.set_cons_zero,List.set_cons_succ,i64_w,i32_w]
        rfl
       refine pure_ (i:=4) (N:=some 14) (v:=?_) (a':=?_) #[true,true,true,true,true,false,false,false,false,false,false,false,false,false,false,false,false,false,false] rfl rfl (any_of HT_.out (by kernel_rfl)) (fun _ _ _ h=>h) (Or.inl ⟨by rfl,?_⟩) ?_ ?_
       rotate_left
       ·intro w'
        go_simp
        with_reducible rfl
       rotate_left
       ·simp only [Act.put,List.setIfInBounds_toArray,List.set_cons_zero,List.set_cons_succ,i64_w,i32_w]
        rfl
       refine pure_ (i:=5) (N:=some 15) (v:=?_) (a':=?_) #[true,true,true,true,true,true,false,false,false,false,false,false,false,false,false,false,false,false,false] rfl rfl (any_of HT_.out (by kernel_rfl)) (fun _ _ _ h=>h) (Or.inl ⟨by rfl,?_⟩) ?_ ?_
       rotate_left
       ·intro w'
        go_simp
        with_reducible rfl
       rotate_left
       ·simp only [Act.put,List.setIfInBounds_toArray,List.set_cons_zero,List.set_cons_succ,i64_w,i32_w]
        rfl
       refine pure_ (i:=6) (N:=some 16) (v:=?_) (a':=?_) #[true,true,true,true,true,true,true,false,false,false,false,false,false,false,false,false,false,false,false] rfl rfl (any_of HT_.out (by kernel_rfl)) (fun _ _ _ h=>h) (Or.inl ⟨by rfl,?_⟩) ?_ ?_
       rotate_left
       ·intro w'
        go_simp
        with_reducible rfl
       rotate_left
       ·simp only [Act.put,List.setIfInBounds_toArray,List.set_cons_zero,List.set_cons_succ,i64_w,i32_w]
        rfl
       refine pure_ (i:=7) (N:=some 17) (v:=?_) (a':=?_) #[true,true,true,true,true,true,true,true,false,false,false,false,false,false,false,false,false,false,false] rfl rfl (any_of HT_.out (by kernel_rfl)) (fun _ _ _ h=>h) (Or.inl ⟨by rfl,?_⟩) ?_ ?_
       rotate_left
       ·intro w'
        go_simp
        with_reducible rfl
       rotate_left
       ·simp only [Act.put,List.setIfInBounds_toArray,List.set_cons_zero,List.set_cons_succ,i64_w,i32_w]
        rfl
       refine pure_ (i:=8) (N:=some 18) (v:=?_) (a':=?_) #[true,true,true,true,true,true,true,true,true,false,false,false,false,false,false,false,false,false,false] rfl rfl (any_of HT_.out (by kernel_rfl)) (fun _ _ _ h=>h) (Or.inl ⟨by rfl,?_⟩) ?_ ?_
       rotate_left
       ·intro w'
        go_simp
        with_reducible rfl
       rotate_left
       ·simp only [Act.put,List.setIfInBounds_toArray,List.set_cons_zero,List.set_cons_succ,i64_w,i32_w]
        rfl
       refine pure_ (i:=9) (N:=some 19) (v:=?_) (a':=?_) #[true,true,true,true,true,true,true,true,true,true,false,false,false,false,false,false,false,false,false] rfl rfl (any_of HT_.out (by kernel_rfl)) (fun _ _ _ h=>h) (Or.inl ⟨by rfl,?_⟩) ?_ ?_
       rotate_left
       ·intro w'
        go_simp
        with_reducible rfl
       rotate_left
       ·simp only [Act.put,List.setIfInBounds_toArray,List.set_cons_zero,List.set_cons_succ,i64_w,i32_w]
        rfl
       refine pure_ (i:=10) (N:=some 20) (v:=?_) (a':=?_) #[true,true,true,true,true,true,true,true,true,true,true,false,false,false,false,false,false,false,false] rfl rfl (any_of HT_.out (by kernel_rfl)) (fun _ _ _ h=>h) (Or.inl ⟨by rfl,?_⟩) ?_ ?_
       rotate_left
       ·intro w'
        go_simp
        with_reducible rfl
       rotate_left
       ·simp only [Act.put,List.setIfInBounds_toArray,List.set_cons_zero,List.set_cons_succ,i64_w,i32_w]
        rfl
       refine pure_ (i:=11) (N:=some 21) (v:=?_) (a':=?_) #[true,true,true,true,true,true,true,true,true,true,true,true,false,false,false,false,false,false,false] rfl rfl (any_of HT_.out (by kernel_rfl)) (fun _ _ _ h=>h) (Or.inl ⟨by rfl,?_⟩) ?_ ?_
       rotate_left
       ·intro w'
        go_simp
        with_reducible rfl
       rotate_left
       ·simp only [Act.put,List.setIfInBounds_toArray,List.set_cons_zero,List.set_cons_succ,i64_w,i32_w]
        rfl
       refine pure_ (i:=12) (N:=some 22) (v:=?_) (a':=?_) #[true,true,true,true,true,true,true,true,true,true,true,true,true,false,false,false,false,false,false] rfl rfl (any_of HT_.out (by kernel_rfl)) (fun _ _ _ h=>h) (Or.inl ⟨by rfl,?_⟩) ?_ ?_
       rotate_left
       ·intro w'
        go_simp
        with_reducible rfl
       rotate_left
       ·simp only [Act.put,List.setIfInBounds_toArray,List.set_cons_zero,List.set_cons_succ,i64_w,i32_w]
        rfl
       refine pure_ (i:=14) (N:=some 24) (v:=?_) (a':=?_) #[true,true,true,true,true,true,true,true,true,true,true,true,true,false,true,false,false,false,false] rfl rfl (any_of HT_.out (by kernel_rfl)) (fun _ _ _ h=>h) (Or.inl ⟨by rfl,?_⟩) ?_ ?_
       rotate_left
       ·intro w'
        go_simp
        with_reducible rfl
       rotate_left
       ·simp only [Act.put,List.setIfInBounds_toArray,List.set_cons_zero,List.set_cons_succ,i64_w,i32_w]
        rfl
       refine pure_ (i:=15) (N:=some 25) (v:=?_) (a':=?_) #[true,true,true,true,true,true,true,true,true,true,true,true,true,false,true,true,false,false,false] rfl rfl (any_of HT_.out (by kernel_rfl)) (fun _ _ _ h=>h) (Or.inl ⟨by rfl,?_⟩) ?_ ?_
       rotate_left
       ·intro w'
        go_simp
        with_reducible rfl
       rotate_left
       ·simp only [Act.put,List.setIfInBounds_toArray,List.set_cons_zero,List.set_cons_succ,i64_w,i32_w]
        rfl
       refine take_ (i:=13) (N:=some 23) (v:=?_) (a':=?_) #[true,true,true,true,true,true,true,true,true,true,true,true,true,true,true,true,false,false,false] rfl rfl (take_ofW HT_.out HW_.out (by kernel_rfl)) (fun _ _ _ h=>h) (Or.inl ⟨by rfl,?_⟩) hHeld ?_ ?_
       rotate_left
       ·rintro w' ⟨s0,s1,s2,s3,s4,s5,s6,s7⟩
        go_simp
        with_reducible rfl
       rotate_left
       ·simp only [Act.put,List.setIfInBounds_toArray,List.set_cons_zero,List.set_cons_succ,i64_w,i32_w]
        rfl
       refine take_ (i:=16) (N:=some 26) (v:=?_) (a':=?_) #[true,true,true,true,true,true,true,true,true,true,true,true,true,true,true,true,true,false,false] rfl rfl (take_ofW HT_.out HW_.out (by kernel_rfl)) (fun _ _ _ h=>h) (Or.inl ⟨by rfl,?_⟩) hHeld ?_ ?_
       rotate_left
       ·rintro w' ⟨s0,s1,s2,s3,s4,s5,s6,s7⟩
        go_simp
        with_reducible rfl
       rotate_left
       ·simp only [Act.put,List.setIfInBounds_toArray,List.set_cons_zero,List.set_cons_succ,i64_w,i32_w]
        rfl
       refine pure_ (i:=17) (N:=some 27) (v:=?_) (a':=?_) #[true,true,true,true,true,true,true,true,true,true,true,true,true,true,true,true,true,true,false] rfl rfl (any_of HT_.out (by kernel_rfl)) (fun _ _ _ h=>h) (Or.inl ⟨by rfl,?_⟩) ?_ ?_
       rotate_left
       ·intro w'
        go_simp
        with_reducible rfl
       rotate_left
       ·simp only [Act.put,List.setIfInBounds_toArray,List.set_cons_zero,List.set_cons_succ,i64_w,i32_w]
        rfl
       refine pure_ (i:=18) (N:=some 28) (v:=?_) (a':=?_) #[true,true,true,true,true,true,true,true,true,true,true,true,true,true,true,true,true,true,true] rfl rfl (any_of HT_.out (by kernel_rfl)) (fun _ _ _ h=>h) (Or.inl ⟨by rfl,?_⟩) ?_ ?_
       rotate_left
       ·intro w'
        go_simp
        with_reducible rfl
       rotate_left
       ·simp only [Act.put,List.setIfInBounds_toArray,List.set_cons_zero,List.set_cons_succ,i64_w,i32_w]
        rfl
       refine done_ (done_of HT_.out (by kernel_rfl)) ?_
       try go_wp2
       go_meet
       case rel=>exact ⟨_,((!((((rd_T32 l1 (ji9)).f0).toList) == (((rd_T32 l1 0).f0).toList)) || (!(((rd_T32 l1 (ji9)).f1) == ((rd_T32 l1 0).f1)) || (!(((rd_T32 l1 (ji9)).f2) == ((rd_T32 l1 0).f2)) || (!((((rd_T32 l1 (ji9)).f3).toList) == (((rd_T32 l1 0).f3).toList))))))),(by first|rfl|(simp;done)|(simp only [← hji9] <;> (first|rfl|simp))|(simp [*];done)),H',⟨by first|omega|exact Nat.le_refl _⟩,⟨by repeat (first|(with_reducible first|exact HB.out|apply below_alloc|apply pw_below_drewN|apply below_drew1)|exact HB.out)⟩⟩
      ·rw [if_neg c12] at H
       exact absurd H (by simp)
     ·rw [if_neg c11] at H
      exact absurd H (by simp)
    ·rw [if_neg c10] at H
     exact absurd H (by simp)
  ·replace c5:=Bool.eq_false_iff.mpr c5
   subst c5
   have H1:(bolterlaw09_full.j0 k l1 (l1.length:Int) true) = some r:=by rw [if_neg (show ¬ (false = true) by decide)] at H;exact H
   clear H
   have H:=H1
   clear H1
   have H':=Aside0.mk H
   clear H
   try go_wp2
   have n0_:=Aside0.mk (below_drew1 HB.out)
   clear HB
   have HB:=n0_
   clear n0_
   refine start_ (n:=19) (S:=fun w'=>True) (ds:=[]) #[false,false,false,false,false,false,false,false,false,false,false,false,false,false,false,false,false,false,false] (by kernel_rfl) rfl rfl trivial (fun hHeld=>?_);refine with_tabW bolterlaw09_full.tab2 bolterlaw09_full.bits2 (fun HT_ HW_=>?_)
   generalize w.drew = w15 at HB hHeld ⊢
   refine pure_ (i:=0) (N:=some 10) (v:=?_) (a':=?_) #[true,false,false,false,false,false,false,false,false,false,false,false,false,false,false,false,false,false,false] rfl rfl (any_of HT_.out (by kernel_rfl)) (fun _ _ _ h=>h) (Or.inl ⟨by rfl,?_⟩) ?_ ?_
   rotate_left
   ·intro w'
    go_simp
    with_reducible rfl
   rotate_left
   ·simp only [Act.put,List.setIfInBounds_toArray,List.set_cons_zero,List.set_cons_succ,i64_w,i32_w]
    rfl
   refine pure_ (i:=1) (N:=some 11) (v:=?_) (a':=?_) #[true,true,false,false,false,false,false,false,false,false,false,false,false,false,false,false,false,false,false] rfl rfl (any_of HT_.out (by kernel_rfl)) (fun _ _ _ h=>h) (Or.inl ⟨by rfl,?_⟩) ?_ ?_
   rotate_left
   ·intro w'
    go_simp
    with_reducible rfl
   rotate_left
   ·simp only [Act.put,List.setIfInBounds_toArray,List.set_cons_zero,List.set_cons_succ,i64_w,i32_w]
    rfl
   refine one_ (i:=2) (N:=some 12) #[true,true,true,false,false,false,false,false,false,false,false,false,false,false,false,false,false,false,false] rfl rfl (one_of HT_.out (by kernel_rfl)) (by decide) (fun K hK=>?_)
   refine goes_ Tryd.func18 (by kernel_rfl) rfl #[.string a0,.slice A1 l1.length c1] (by rfl) rfl rfl (by (try simp only [List.map_toArray,List.map_cons,List.map_nil]) <;> first|rfl|(simp only [List.length_drop,List.length_take];rfl)) ?_
   with_reducible refine (bolterlaw09_may.calls k a0 _ _ l1 false _ ?side1 ?side2 A4.out).mono ?_
   (case side1=>repeat (first|exact (Kd.C_below HR1.out HB.out)|(with_reducible refine Kd.C_alloc ?_ _)|(with_reducible refine Kd.C_drewN ?_ _)|(with_reducible refine Kd.C_drew ?_)))
   (case side2=>exact HC1.out)
   rintro e w16 ⟨rfl,hb⟩
   refine ⟨_,rfl,?_⟩
   have n0_:=Aside0.mk (below_step (by repeat (first|(with_reducible first|exact HB.out|apply below_alloc|apply pw_below_drewN|apply below_drew1)|exact HB.out)) hb)
   clear HB
   have HB:=n0_
   clear n0_
   (try clear hb)
   (try clear hb2)
   (try clear hk)
   (try clear hi)
   refine hK.out _ _ trivial (fun hHeld=>?_)
   clear hK K
   refine norm_ (a':=?_) ?_ ?_
   rotate_left
   ·show Act.put _ (some 12) _ = _
    simp only [Act.put,List.setIfInBounds_toArray,List.set_cons_zero,List.set_cons_succ,i64_w,i32_w]
    rfl
   refine pure_ (i:=3) (N:=some 13) (v:=?_) (a':=?_) #[true,true,true,true,false,false,false,false,false,false,false,false,false,false,false,false,false,false,false] rfl rfl (any_of HT_.out (by kernel_rfl)) (fun _ _ _ h=>h) (Or.inl ⟨by rfl,?_⟩) ?_ ?_
   rotate_left
   ·intro w'
    go_simp
    with_reducible rfl
   rotate_left
   ·simp only [Act.put,List.setIfInBounds_toArray,List.set_cons_zero,List.set_cons_succ,i64_w,i32_w]
    rfl
   refine pure_ (i:=4) (N:=some 14) (v:=?_) (a':=?_) #[true,true,true,true,true,false,false,false,false,false,false,false,false,false,false,false,false,false,false] rfl rfl (any_of HT_.out (by kernel_rfl)) (fun _ _ _ h=>h) (Or.inl ⟨by rfl,?_⟩) ?_ ?_
   rotate_left
   ·intro w'
    go_simp
    with_reducible rfl
   rotate_left
   ·simp only [Act.put,List.setIfInBounds_toArray,List.set_cons_zero,List.set_cons_succ,i64_w,i32_w]
    rfl
   refine pure_ (i:=5) (N:=some 15) (v:=undef) (a':=?_) #[true,true,true,true,true,true,false,false,false,false,false,false,false,false,false,false,false,false,false] rfl rfl (any_of HT_.out (by kernel_rfl)) (fun _ _ _ h=>h) (Or.inr ⟨by rfl,rfl⟩) ?_ ?_
   rotate_left
   ·simp only [Act.put,List.setIfInBounds_toArray,List.set_cons_zero,List.set_cons_succ,i64_w,i32_w]
    rfl
   refine pure_ (i:=6) (N:=some 16) (v:=undef) (a':=?_) #[true,true,true,true,true,true,true,false,false,false,false,false,false,false,false,false,false,false,false] rfl rfl (any_of HT_.out (by kernel_rfl)) (fun _ _ _ h=>h) (Or.inr ⟨by rfl,rfl⟩) ?_ ?_
   rotate_left
   ·simp only [Act.put,List.setIfInBounds_toArray,List.set_cons_zero,List.set_cons_succ,i64_w,i32_w]
    rfl
   refine pure_ (i:=7) (N:=some 17) (v:=?_) (a':=?_) #[true,true,true,true,true,true,true,true,false,false,false,false,false,false,false,false,false,false,false] rfl rfl (any_of HT_.out (by kernel_rfl)) (fun _ _ _ h=>h) (Or.inl ⟨by rfl,?_⟩) ?_ ?_
   rotate_left
   ·intro w'
    go_simp
    with_reducible rfl
   rotate_left
   ·simp only [Act.put,List.setIfInBounds_toArray,List.set_cons_zero,List.set_cons_succ,i64_w,i32_w]
    rfl
   refine pure_ (i:=8) (N:=some 18) (v:=?_) (a':=?_) #[true,true,true,true,true,true,true,true,true,false,false,false,false,false,false,false,false,false,false] rfl rfl (any_of HT_.out (by kernel_rfl)) (fun _ _ _ h=>h) (Or.inl ⟨by rfl,?_⟩) ?_ ?_
   rotate_left
   ·intro w'
    go_simp
    with_reducible rfl
   rotate_left
   ·simp only [Act.put,List.setIfInBounds_toArray,List.set_cons_zero,List.set_cons_succ,i64_w,i32_w]
    rfl
   refine pure_ (i:=9) (N:=some 19) (v:=undef) (a':=?_) #[true,true,true,true,true,true,true,true,true,true,false,false,false,false,false,false,false,false,false] rfl rfl (any_of HT_.out (by kernel_rfl)) (fun _ _ _ h=>h) (Or.inr ⟨by rfl,rfl⟩) ?_ ?_
   rotate_left
   ·simp only [Act.put,List.setIfInBounds_toArray,List.set_cons_zero,List.set_cons_succ,i64_w,i32_w]
    rfl
   refine pure_ (i:=10) (N:=some 20) (v:=undef) (a':=?_) #[true,true,true,true,true,true,true,true,true,true,true,false,false,false,false,false,false,false,false] rfl rfl (any_of HT_.out (by kernel_rfl)) (fun _ _ _ h=>h) (Or.inr ⟨by rfl,rfl⟩) ?_ ?_
   rotate_left
   ·simp only [Act.put,List.setIfInBounds_toArray,List.set_cons_zero,List.set_cons_succ,i64_w,i32_w]
    rfl
   refine pure_ (i:=11) (N:=some 21) (v:=undef) (a':=?_) #[true,true,true,true,true,true,true,true,true,true,true,true,false,false,false,false,false,false,false] rfl rfl (any_of HT_.out (by kernel_rfl)) (fun _ _ _ h=>h) (Or.inr ⟨by rfl,rfl⟩) ?_ ?_
   rotate_left
   ·simp only [Act.put,List.setIfInBounds_toArray,List.set_cons_zero,List.set_cons_succ,i64_w,i32_w]
    rfl
   refine pure_ (i:=12) (N:=some 22) (v:=undef) (a':=?_) #[true,true,true,true,true,true,true,true,true,true,true,true,true,false,false,false,false,false,false] rfl rfl (any_of HT_.out (by kernel_rfl)) (fun _ _ _ h=>h) (Or.inr ⟨by rfl,rfl⟩) ?_ ?_
   rotate_left
   ·simp only [Act.put,List.setIfInBounds_toArray,List.set_cons_zero,List.set_cons_succ,i64_w,i32_w]
    rfl
   refine pure_ (i:=13) (N:=some 23) (v:=undef) (a':=?_) #[true,true,true,true,true,true,true,true,true,true,true,true,true,true,false,false,false,false,false] rfl rfl (any_of HT_.out (by kernel_rfl)) (fun _ _ _ h=>h) (Or.inr ⟨by rfl,rfl⟩) ?_ ?_
   rotate_left
   ·simp only [Act.put,List.setIfInBounds_toArray,List.set_cons_zero,List.set_cons_succ,i64_w,i32_w]
    rfl
   refine pure_ (i:=14) (N:=some 24) (v:=undef) (a':=?_) #[true,true,true,true,true,true,true,true,true,true,true,true,true,true,true,false,false,false,false] rfl rfl (any_of HT_.out (by kernel_rfl)) (fun _ _ _ h=>h) (Or.inr ⟨by rfl,rfl⟩) ?_ ?_
   rotate_left
   ·simp only [Act.put,List.setIfInBounds_toArray,List.set_cons_zero,List.set_cons_succ,i64_w,i32_w]
    rfl
   refine pure_ (i:=15) (N:=some 25) (v:=undef) (a':=?_) #[true,true,true,true,true,true,true,true,true,true,true,true,true,true,true,true,false,false,false] rfl rfl (any_of HT_.out (by kernel_rfl)) (fun _ _ _ h=>h) (Or.inr ⟨by rfl,rfl⟩) ?_ ?_
   rotate_left
   ·simp only [Act.put,List.setIfInBounds_toArray,List.set_cons_zero,List.set_cons_succ,i64_w,i32_w]
    rfl
   refine pure_ (i:=16) (N:=some 26) (v:=undef) (a':=?_) #[true,true,true,true,true,true,true,true,true,true,true,true,true,true,true,true,true,false,false] rfl rfl (any_of HT_.out (by kernel_rfl)) (fun _ _ _ h=>h) (Or.inr ⟨by rfl,rfl⟩) ?_ ?_
   rotate_left
   ·simp only [Act.put,List.setIfInBounds_toArray,List.set_cons_zero,List.set_cons_succ,i64_w,i32_w]
    rfl
   refine pure_ (i:=17) (N:=some 27) (v:=undef) (a':=?_) #[true,true,true,true,true,true,true,true,true,true,true,true,true,true,true,true,true,true,false] rfl rfl (any_of HT_.out (by kernel_rfl)) (fun _ _ _ h=>h) (Or.inr ⟨by rfl,rfl⟩) ?_ ?_
   rotate_left
   ·simp only [Act.put,List.setIfInBounds_toArray,List.set_cons_zero,List.set_cons_succ,i64_w,i32_w]
    rfl
   refine pure_ (i:=18) (N:=some 28) (v:=?_) (a':=?_) #[true,true,true,true,true,true,true,true,true,true,true,true,true,true,true,true,true,true,true] rfl rfl (any_of HT_.out (by kernel_rfl)) (fun _ _ _ h=>h) (Or.inl ⟨by rfl,?_⟩) ?_ ?_
   rotate_left
   ·intro w'
    go_simp
    with_reducible rfl
   rotate_left
   ·simp only [Act.put,List.setIfInBounds_toArray,List.set_cons_zero,List.set_cons_succ,i64_w,i32_w]
    rfl
   refine done_ (done_of HT_.out (by kernel_rfl)) ?_
   try go_wp2
   go_meet
   case rel=>exact ⟨_,(true),(by first|rfl|(simp;done)|(simp [*];done)),H',⟨by first|omega|exact Nat.le_refl _⟩,⟨by repeat (first|(with_reducible first|exact HB.out|apply below_alloc|apply pw_below_drewN|apply below_drew1)|exact HB.out)⟩⟩
 case rest =>
  clear HC3
  try clear c1
  try clear p2
  try clear p3
  try clear q3
  try clear hx3
  try clear qi3
  try clear c5
  try clear c6
  try clear c6b0
  try clear c6b1
  try clear p6
  try clear c10
  try clear c10b0
  try clear c11
  try clear c11b0
  try clear c12
  try clear c12b0
  try clear c12b1
  try clear hx387_0
  try clear hx387_1
  try clear hx387_2
  try clear hx387_3
  try clear hx388_0
  try clear hx388_1
  try clear hx388_2
  try clear hx388_3
  try clear p387
  try clear p388
  try clear q387
  try clear q388
  obtain ⟨kq,x28_2,rfl,HA,HJ2,HB⟩:=hcut
  cases kq with
  | zero=>exact absurd HA.out (by simp [bolterlaw09_full.j0])
  | succ kj2 =>
   have H:=HA.out
   clear HA
   simp only [bolterlaw09_full.j0] at H
   by_cases c17:x28_2 = true
   ·subst c17
    have H1:(some false) = some r:=by rw [if_pos rfl] at H;exact H
    clear H
    have H:=H1
    clear H1
    obtain rfl:=Option.some.inj H
    go_wp2
    go_ret
    exact ⟨by first|rfl|(simp [errW_none,errW_some] <;> rfl)|(simp [*,errW_none,errW_some] <;> rfl),by repeat (first|(with_reducible first|exact HB.out|apply below_alloc|apply pw_below_drewN|apply below_drew1)|exact HB.out)⟩
   ·replace c17:=Bool.eq_false_iff.mpr c17
    subst c17
    have H1:(if 1≤(wrap64 ((l1.length:Int) - 1)) then (if (wrap64 ((l1.length:Int) - 1))≤(l1.length:Int) then ((some ((l1.take ((wrap64 ((l1.length:Int) - 1)):Int).toNat).drop 1:List (S32))).bind fun y389=>(bolterlaw09_full.l0 kj2 y389 (y389.length:Int) 0)) else (none)) else (none)) = some r:=by rw [if_neg (show ¬ (false = true) by decide)] at H;exact H
    clear H
    have H:=H1
    clear H1
    by_cases c18:1≤(wrap64 ((l1.length:Int) - 1))
    ·rw [if_pos c18] at H
     have c18b0:=eq_true c18
     have c18b1:decide (1≤(wrap64 ((l1.length:Int) - 1))) = true:=decide_eq_true c18
     clear c18
     by_cases c19:(wrap64 ((l1.length:Int) - 1))≤(l1.length:Int)
     ·rw [if_pos c19] at H
      have c19b0:=eq_true c19
      have c19b1:decide ((wrap64 ((l1.length:Int) - 1))≤(l1.length:Int)) = true:=decide_eq_true c19
      clear c19
      obtain ⟨y389,hy389⟩:∃ y_:List (S32),y_ = ((l1.take ((wrap64 ((l1.length:Int) - 1)):Int).toNat).drop 1):=⟨_,rfl⟩
      replace H:(bolterlaw09_full.l0 kj2 y389 (y389.length:Int) 0) = some r:=by first|(rw [hy389];with_reducible exact H)|(have H2_:=(Option.bind_some _ _).symm.trans H;rw [hy389];with_reducible exact H2_)|(have H2_:=(Option.bind_some _ _).symm.trans H;with_reducible exact H2_)|with_reducible exact H|(rw [hy389];exact H)|exact H
      have Ny389:=Aside0.mk hy389
      clear hy389
      have H':=Aside0.mk H
      clear H
      have q20:((wrap64 ((l1.length:Int) - 1)):Int)≤((l1.length:Int):Int):=of_decide_eq_true (by first|(with_reducible assumption)|assumption)
      obtain ⟨i020,hi020,_,hsz20,_⟩:=info_parts info32
      have hroom20:l1.length≤c1:=HC1.out
      have hC20:Kd.C k32 _ A1 l1.length l1:=HR1.out
      have ql20:(1:Int)≤((wrap64 ((l1.length:Int) - 1)):Int):=of_decide_eq_true (by first|(with_reducible assumption)|assumption)
      have hcut20:=cut_mid (P:=Tryd.prog) 26 32 .i64 .i64 Tryd.underlying26 hi020 4 hsz20 A1 l1.length c1 1 (wrap64 ((l1.length:Int) - 1)) (by omega) ql20 q20 hroom20
      have hr20:=Kd.C_mid (lo:=(1:Int).toNat) (hi:=((wrap64 ((l1.length:Int) - 1)):Int).toNat) (c:=c1) hC20 (by omega) (by omega) hroom20
      obtain ⟨A20,hA20⟩:∃ A_,A_ = (if c1 = (1:Int).toNat then A1 else (A1:Option Addr).map (·.add ((1:Int).toNat * 4))):=⟨_,rfl⟩
      obtain ⟨c20,hc20⟩:∃ c_,c_ = c1 - (1:Int).toNat:=⟨_,rfl⟩
      have hy20:y389.length = ((wrap64 ((l1.length:Int) - 1)):Int).toNat - (1:Int).toNat:=(by rw [Ny389.out,List.length_drop,List.length_take] <;> omega)
      rw [show ((l1).take ((wrap64 ((l1.length:Int) - 1)):Int).toNat).drop (1:Int).toNat = y389 from Ny389.out.symm] at hr20
      replace hr20:Kd.C k32 _ A20 y389.length y389:=(by rw [hA20];exact hr20)
      rw [← hy20,← hA20,← hc20] at hcut20
      have HR392:=Aside0.mk hr20
      have HC392:=Aside0.mk (show y389.length≤c20 from by rw [hy20,hc20];exact Nat.sub_le_sub_right (Nat.le_trans (by omega) hroom20) _)
      clear hr20 hC20 hroom20 hi020 hsz20 hc20
      have KY20:=Aside0.mk hy20
      have KA20:=Aside0.mk hA20
      clear hy20 hA20
      replace q20:=eq_true q20
      go_wp2
      go_loopg [34] kj2 (fun kq v34 w'=>∃ (x34_2:Int),v34 = .int .i64 x34_2∧Aside0 (bolterlaw09_full.l0 kq y389 (y389.length:Int) x34_2 = some r)∧Aside0 (kq≤kj2)∧Aside0 (Below w.heap.size w w'))
      case atStart=>exact ⟨(0),(by first|rfl|(simp;done)|(simp [*];done)),H',⟨Nat.le_refl _⟩,⟨by repeat (first|(with_reducible first|exact HB.out|apply below_alloc|apply pw_below_drewN|apply below_drew1)|exact HB.out)⟩⟩
      case round =>
       clear H'
       try clear c1
       try clear c2
       try clear p2
       try clear q2
       try clear p3
       try clear q3
       try clear hx3
       try clear qi3
       try clear c5
       try clear c6
       try clear c6b0
       try clear c6b1
       try clear p6
       try clear c10
       try clear c10b0
       try clear c11
       try clear c11b0
       try clear c12
       try clear c12b0
       try clear c12b1
       try clear c17
       try clear c18
       try clear c18b0
       try clear c18b1
       try clear c19
       try clear c19b0
       try clear c19b1
       try clear c20
       try clear q20
       try clear hx387_0
       try clear hx387_1
       try clear hx387_2
       try clear hx387_3
       try clear hx388_0
       try clear hx388_1
       try clear hx388_2
       try clear hx388_3
       try clear p2
       try clear p3
       try clear p387
       try clear p388
       try clear p6
       try clear q20
       try clear q3
       try clear q387
       try clear q388
       obtain ⟨x34_2,rfl,HA,HK2,HB⟩:=hrel
       cases gk with
       | zero=>exact absurd HA.out (by simp [bolterlaw09_full.l0])
       | succ k2 =>
        have H:=HA.out
        clear HA
        simp only [bolterlaw09_full.l0] at H
        by_cases c21:x34_2 < (y389.length:Int)
        ·rw [if_pos c21] at H
         have c21b0:decide (x34_2 < (y389.length:Int)) = true:=decide_eq_true c21
         clear c21
         by_cases c22:0≤x34_2
         ·rw [if_pos c22] at H
          have c22b0:decide (0≤x34_2) = true:=decide_eq_true c22
          clear c22
          by_cases c23:x34_2 < (y389.length:Int)
          ·rw [if_pos c23] at H
           have c23b0:decide (x34_2 < (y389.length:Int)) = true:=decide_eq_true c23
           clear c23
           by_cases c24:((rd_T32 y389 x34_2).f1) = 6
           ·rw [if_pos c24] at H
            have c24b0:(((rd_T32 y389 x34_2).f1) == 6) = true:=beq_iff_eq.mpr c24
            have c24b1:(((rd_T32 y389 x34_2).f1) != 6) = false:=bne_eq_false_iff_eq.mpr c24
            clear c24
            obtain rfl:=Option.some.inj H
            have p393:0≤(x34_2:Int):=of_decide_eq_true (by first|(with_reducible assumption)|assumption)
            have q393:x34_2 < (y389.length:Int):=of_decide_eq_true (by first|(with_reducible assumption)|assumption)
            obtain ⟨ad393,e393,hx393_0,hx393_1,hx393_2,hx393_3⟩:=at_T32 HR392.out x34_2 p393 q393
            cases e393
            replace hx393_0:=(HB.out.cell (World.block_lt_of_cell? w _ hx393_0)).trans hx393_0
            replace hx393_1:=(HB.out.cell (World.block_lt_of_cell? w _ hx393_1)).trans hx393_1
            replace hx393_2:=(HB.out.cell (World.block_lt_of_cell? w _ hx393_2)).trans hx393_2
            replace hx393_3:=(HB.out.cell (World.block_lt_of_cell? w _ hx393_3)).trans hx393_3
            replace p393:=eq_true p393
            replace q393:=eq_true q393
            go_wp2_with (fail)
            go_ret
            exact ⟨by first|rfl|(simp [errW_none,errW_some] <;> rfl)|(simp [*,errW_none,errW_some] <;> rfl),by repeat (first|(with_reducible first|exact HB.out|apply below_alloc|apply pw_below_drewN|apply below_drew1|refine below_set ?_ GE394.out)|exact HB.out)⟩
           ·rw [if_neg c24] at H
            have c24b0:(((rd_T32 y389 x34_2).f1) == 6) = false:=beq_eq_false_iff_ne.mpr c24
            have c24b1:(((rd_T32 y389 x34_2).f1) != 6) = true:=bne_iff_ne.mpr c24
            have H':=Aside0.mk H
            clear H
            have p393:0≤(x34_2:Int):=of_decide_eq_true (by first|(with_reducible assumption)|assumption)
            have q393:x34_2 < (y389.length:Int):=of_decide_eq_true (by first|(with_reducible assumption)|assumption)
            obtain ⟨ad393,e393,hx393_0,hx393_1,hx393_2,hx393_3⟩:=at_T32 HR392.out x34_2 p393 q393
            cases e393
            replace hx393_0:=(HB.out.cell (World.block_lt_of_cell? w _ hx393_0)).trans hx393_0
            replace hx393_1:=(HB.out.cell (World.block_lt_of_cell? w _ hx393_1)).trans hx393_1
            replace hx393_2:=(HB.out.cell (World.block_lt_of_cell? w _ hx393_2)).trans hx393_2
            replace hx393_3:=(HB.out.cell (World.block_lt_of_cell? w _ hx393_3)).trans hx393_3
            replace p393:=eq_true p393
            replace q393:=eq_true q393
            go_wp2_with (fail)
            go_roundg k2
            case measure=>have:=HJ2.out;have:=HK2.out;omega
            case rel=>exact ⟨(wrap64 (x34_2 + 1)),(by first|rfl|(simp;done)|(simp [*];done)),H',⟨by have:=HJ2.out;have:=HK2.out;omega⟩,⟨by repeat (first|(with_reducible first|exact HB.out|apply below_alloc|apply pw_below_drewN|apply below_drew1|refine below_set ?_ GE394.out)|exact HB.out)⟩⟩
          ·rw [if_neg c23] at H
           exact absurd H (by simp)
         ·rw [if_neg c22] at H
          exact absurd H (by simp)
        ·rw [if_neg c21] at H
         have c21b0:decide (x34_2 < (y389.length:Int)) = false:=decide_eq_false c21
         clear c21
         obtain rfl:=Option.some.inj H
         go_wp2
         go_ret
         exact ⟨by first|rfl|(simp [errW_none,errW_some] <;> rfl)|(simp [*,errW_none,errW_some] <;> rfl),by repeat (first|(with_reducible first|exact HB.out|apply below_alloc|apply pw_below_drewN|apply below_drew1)|exact HB.out)⟩
     ·rw [if_neg c19] at H
      exact absurd H (by simp)
    ·rw [if_neg c18] at H
     exact absurd H (by simp)
end Go.Proofs.YtlobjcokopfbkaaDoor.PY
