import Derived.Test.YtlobjcokopfbkaaDoorPYx0
import Derived.Test.YtlobjcokopfbkaaDoorPYx1
import Derived.Test.YtlobjcokopfbkaaDoorPYx13
namespace Go.Proofs.YtlobjcokopfbkaaDoor.PY
open Go.RowKit Go.Proofs.YtlobjcokopfbkaaDoorW.PrintWords Go.Proofs.YtlobjcokopfbkaaDoorW.PrintLast Go.Proofs.YtlobjcokopfbkaaDoorW.PrintMore
attribute [local go_sem] max2_int min2_int max_two min_two max_three min_three max_four min_four   -- for this text's walks alone
set_option linter.unusedVariables false
set_option linter.unusedSimpArgs false
attribute [local go_sem high] eqA32
mutual
def bolterlaw09_full.j0:Nat→List (S32)→Int→Bool→Option (Bool)
 | 0,_,_,_=>none
 | k + 1,x1,x5,x28=>if x28 = true then (some false) else (if 1≤(wrap64 (x5 - 1)) then (if (wrap64 (x5 - 1))≤(x1.length:Int) then ((some ((x1.take ((wrap64 (x5 - 1)):Int).toNat).drop 1:List (S32))).bind fun y389=>(bolterlaw09_full.l0 k y389 (y389.length:Int) 0)) else (none)) else (none))
def bolterlaw09_full.l0:Nat→List (S32)→Int→Int→Option (Bool)
 | 0,_,_,_=>none
 | k + 1,x32,x33,x34=>if x34 < x33 then (if 0≤x34 then (if x34 < (x32.length:Int) then (if ((rd_T32 x32 x34).f1) = 6 then (some false) else (bolterlaw09_full.l0 k x32 x33 (wrap64 (x34 + 1)))) else (none)) else (none)) else (some true)
end
def bolterlaw09_full.f (k:Nat) (a0:ByteArray) (l1:List (S32)):Option (Bool):=(bolterlaw09_may.f k a0 l1).bind fun t386=>(if t386 = true then (if (l1.length:Int) < 2 then (bolterlaw09_full.j0 k l1 (l1.length:Int) true) else (if 0≤(wrap64 ((l1.length:Int) - 1)) then (if (wrap64 ((l1.length:Int) - 1)) < (l1.length:Int) then (if 0 < (l1.length:Int) then (bolterlaw09_full.j0 k l1 (l1.length:Int) (!((((rd_T32 l1 (wrap64 ((l1.length:Int) - 1))).f0).toList) == (((rd_T32 l1 0).f0).toList)) || (!(((rd_T32 l1 (wrap64 ((l1.length:Int) - 1))).f1) == ((rd_T32 l1 0).f1)) || (!(((rd_T32 l1 (wrap64 ((l1.length:Int) - 1))).f2) == ((rd_T32 l1 0).f2)) || (!((((rd_T32 l1 (wrap64 ((l1.length:Int) - 1))).f3).toList) == (((rd_T32 l1 0).f3).toList))))))) else (none)) else (none)) else (none))) else (bolterlaw09_full.j0 k l1 (l1.length:Int) true))
theorem bolterlaw09_full.mono_l:∀ k,(∀ y0 y1 y2,LeO (bolterlaw09_full.j0 k y0 y1 y2) (bolterlaw09_full.j0 (k + 1) y0 y1 y2))∧(∀ y0 y1 y2,LeO (bolterlaw09_full.l0 k y0 y1 y2) (bolterlaw09_full.l0 (k + 1) y0 y1 y2))
 | 0=>⟨fun _ _ _ r h=>by simp [bolterlaw09_full.j0] at h,fun _ _ _ r h=>by simp [bolterlaw09_full.l0] at h⟩
 | k + 1=>by
  obtain ⟨ih0,ih1⟩:=bolterlaw09_full.mono_l k
  refine ⟨?_,?_⟩
  ·intro y0 y1 y2
   unfold bolterlaw09_full.j0
   repeat' first
   | (with_reducible exact ih0 _ _ _)
   | (with_reducible exact ih1 _ _ _)
   | (with_reducible exact bolterlaw09_may.mono _ _ _)
   | (with_reducible exact LeO.refl _)
   | (with_reducible exact LeO.none _)
   | (with_reducible refine LeO.ite ?_ ?_)
   | (with_reducible refine LeO.bind ?_ (fun _=>?_))
   | exact ih0 _ _ _
   | exact ih1 _ _ _
   | exact bolterlaw09_may.mono _ _ _
   | exact LeO.none _
   | refine LeO.ite ?_ ?_
   | refine LeO.bind ?_ (fun _=>?_)
  ·intro y0 y1 y2
   unfold bolterlaw09_full.l0
   repeat' first
   | (with_reducible exact ih0 _ _ _)
   | (with_reducible exact ih1 _ _ _)
   | (with_reducible exact bolterlaw09_may.mono _ _ _)
   | (with_reducible exact LeO.refl _)
   | (with_reducible exact LeO.none _)
   | (with_reducible refine LeO.ite ?_ ?_)
   | (with_reducible refine LeO.bind ?_ (fun _=>?_))
   | exact ih0 _ _ _
   | exact ih1 _ _ _
   | exact bolterlaw09_may.mono _ _ _
   | exact LeO.none _
   | refine LeO.ite ?_ ?_
   | refine LeO.bind ?_ (fun _=>?_)
theorem bolterlaw09_full.mono:∀ a0 a1 k,LeO (bolterlaw09_full.f k a0 a1) (bolterlaw09_full.f (k + 1) a0 a1):=by
 intro a0 a1 k
 obtain ⟨ih0,ih1⟩:=bolterlaw09_full.mono_l k
 unfold bolterlaw09_full.f
 repeat' first
   | (with_reducible exact ih0 _ _ _)
   | (with_reducible exact ih1 _ _ _)
   | (with_reducible exact bolterlaw09_may.mono _ _ _)
   | (with_reducible exact LeO.refl _)
   | (with_reducible exact LeO.none _)
   | (with_reducible refine LeO.ite ?_ ?_)
   | (with_reducible refine LeO.bind ?_ (fun _=>?_))
   | exact ih0 _ _ _
   | exact ih1 _ _ _
   | exact bolterlaw09_may.mono _ _ _
   | exact LeO.none _
   | refine LeO.ite ?_ ?_
   | refine LeO.bind ?_ (fun _=>?_)
def bolterlaw09_full.B2:List Nat:=[0,0,3,7,15,31,63,127,255,511,511,1535,4095,8191,511,16895,49663,131071,262143]
end Go.Proofs.YtlobjcokopfbkaaDoor.PY
