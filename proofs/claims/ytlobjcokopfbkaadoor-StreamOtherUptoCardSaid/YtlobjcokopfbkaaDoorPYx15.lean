import Derived.Test.YtlobjcokopfbkaaDoorPYx0
import Derived.Test.YtlobjcokopfbkaaDoorPYx1
import Derived.Test.YtlobjcokopfbkaaDoorPYx6
namespace Go.Proofs.YtlobjcokopfbkaaDoor.PY
open Go.RowKit Go.Proofs.YtlobjcokopfbkaaDoorW.PrintWords Go.Proofs.YtlobjcokopfbkaaDoorW.PrintLast Go.Proofs.YtlobjcokopfbkaaDoorW.PrintMore
attribute [local go_sem] max2_int min2_int max_two min_two max_three min_three max_four min_four   -- for this text's walks alone
set_option linter.unusedVariables false
set_option linter.unusedSimpArgs false
attribute [local go_sem high] eqA32
def bolterlaw05_SameRecords.l0:Nat→List (S32)→List (S32)→Int→Int→Option (Bool)
 | 0,_,_,_,_=>none
 | k + 1,x0,x1,x12,x13=>if x13 < x12 then (if 0≤x13 then (if x13 < (x0.length:Int) then (if x13 < (x1.length:Int) then (if (!((((rd_T32 x0 x13).f0).toList) == (((rd_T32 x1 x13).f0).toList)) || (!(((rd_T32 x0 x13).f1) == ((rd_T32 x1 x13).f1)) || (!(((rd_T32 x0 x13).f2) == ((rd_T32 x1 x13).f2)) || (!((((rd_T32 x0 x13).f3).toList) == (((rd_T32 x1 x13).f3).toList)))))) = true then (some false) else (bolterlaw05_SameRecords.l0 k x0 x1 x12 (wrap64 (x13 + 1)))) else (none)) else (none)) else (none)) else (some true)
def bolterlaw05_SameRecords.f (k:Nat) (l0:List (S32)) (l1:List (S32)):Option (Bool):=if (l0.length:Int) = (l1.length:Int) then (bolterlaw05_SameRecords.l0 k l0 l1 (l0.length:Int) 0) else (some false)
theorem bolterlaw05_SameRecords.mono_l:∀ k,(∀ y0 y1 y2 y3,LeO (bolterlaw05_SameRecords.l0 k y0 y1 y2 y3) (bolterlaw05_SameRecords.l0 (k + 1) y0 y1 y2 y3))
 | 0=>fun _ _ _ _ r h=>by simp [bolterlaw05_SameRecords.l0] at h
 | k + 1=>by
  have ih0:=bolterlaw05_SameRecords.mono_l k
  ·intro y0 y1 y2 y3
   unfold bolterlaw05_SameRecords.l0
   repeat' first
   | (with_reducible exact ih0 _ _ _ _)
   | (with_reducible exact LeO.refl _)
   | (with_reducible exact LeO.none _)
   | (with_reducible refine LeO.ite ?_ ?_)
   | (with_reducible refine LeO.bind ?_ (fun _=>?_))
   | exact ih0 _ _ _ _
   | exact LeO.none _
   | refine LeO.ite ?_ ?_
   | refine LeO.bind ?_ (fun _=>?_)
theorem bolterlaw05_SameRecords.mono:∀ a0 a1 k,LeO (bolterlaw05_SameRecords.f k a0 a1) (bolterlaw05_SameRecords.f (k + 1) a0 a1):=by
 intro a0 a1 k
 have ih0:=bolterlaw05_SameRecords.mono_l k
 unfold bolterlaw05_SameRecords.f
 repeat' first
   | (with_reducible exact ih0 _ _ _ _)
   | (with_reducible exact LeO.refl _)
   | (with_reducible exact LeO.none _)
   | (with_reducible refine LeO.ite ?_ ?_)
   | (with_reducible refine LeO.bind ?_ (fun _=>?_))
   | exact ih0 _ _ _ _
   | exact LeO.none _
   | refine LeO.ite ?_ ?_
   | refine LeO.bind ?_ (fun _=>?_)
def bolterlaw09_serial.f (k:Nat) (a0_0:ByteArray) (a0_1:Int) (a0_2:Int) (a0_3:ByteArray):Option (Int):=(soa_Of.f k a0_0 a0_1 a0_2 a0_3).bind fun bt434=>(some bt434.2.2.1)
theorem bolterlaw09_serial.mono:∀ a0 a1 a2 a3 k,LeO (bolterlaw09_serial.f k a0 a1 a2 a3) (bolterlaw09_serial.f (k + 1) a0 a1 a2 a3):=by
 intro a0 a1 a2 a3 k
 unfold bolterlaw09_serial.f
 repeat' first
   | (with_reducible exact soa_Of.mono _ _ _ _ _)
   | (with_reducible exact LeO.refl _)
   | (with_reducible exact LeO.none _)
   | (with_reducible refine LeO.ite ?_ ?_)
   | (with_reducible refine LeO.bind ?_ (fun _=>?_))
   | exact soa_Of.mono _ _ _ _ _
   | exact LeO.none _
   | refine LeO.ite ?_ ?_
   | refine LeO.bind ?_ (fun _=>?_)
end Go.Proofs.YtlobjcokopfbkaaDoor.PY
