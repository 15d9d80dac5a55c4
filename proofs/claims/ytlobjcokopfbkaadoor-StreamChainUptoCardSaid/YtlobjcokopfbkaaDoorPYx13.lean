import Derived.Test.YtlobjcokopfbkaaDoorPYx0
import Derived.Test.YtlobjcokopfbkaaDoorPYx3
import Derived.Test.YtlobjcokopfbkaaDoorPYx4
namespace Go.Proofs.YtlobjcokopfbkaaDoor.PY
open Go.RowKit Go.Proofs.YtlobjcokopfbkaaDoorW.PrintWords Go.Proofs.YtlobjcokopfbkaaDoorW.PrintLast Go.Proofs.YtlobjcokopfbkaaDoorW.PrintMore
attribute [local go_sem] max2_int min2_int max_two min_two max_three min_three max_four min_four   -- for this text's walks alone
set_option linter.unusedVariables false
set_option linter.unusedSimpArgs false
def bolterlaw09_may.l0:Nat→ByteArray→List (S32)→List (S32)→Int→Int→Option (Bool)
 | 0,_,_,_,_,_=>none
 | k + 1,x0,x1,x7,x8,x9=>if x9 < x8 then (if 0≤x9 then (if x9 < (x7.length:Int) then ((message_MayRecord.f k ((rd_T32 x7 x9).f0) ((rd_T32 x7 x9).f1) ((rd_T32 x7 x9).f2) ((rd_T32 x7 x9).f3)).bind fun t384=>(if t384 = true then ((name_Below.f k ((rd_T32 x7 x9).f0) x0).bind fun t385=>(if t385 = true then (if ((rd_T32 x7 x9).f1) = 6 then (if ((rd_T32 x7 x9).f0).toList = x0.toList then (bolterlaw09_may.l0 k x0 x1 x7 x8 (wrap64 (x9 + 1))) else (some false)) else (bolterlaw09_may.l0 k x0 x1 x7 x8 (wrap64 (x9 + 1)))) else (some false))) else (some false))) else (none)) else (none)) else (if (x1.length:Int) > 0 then (if 0 < (x1.length:Int) then (some (((rd_T32 x1 0).f1) == 6)) else (none)) else (some false))
def bolterlaw09_may.f (k:Nat) (a0:ByteArray) (l1:List (S32)):Option (Bool):=bolterlaw09_may.l0 k a0 l1 l1 (l1.length:Int) 0
theorem bolterlaw09_may.mono_l:∀ k,(∀ y0 y1 y2 y3 y4,LeO (bolterlaw09_may.l0 k y0 y1 y2 y3 y4) (bolterlaw09_may.l0 (k + 1) y0 y1 y2 y3 y4))
 | 0=>fun _ _ _ _ _ r h=>by simp [bolterlaw09_may.l0] at h
 | k + 1=>by
  have ih0:=bolterlaw09_may.mono_l k
  ·intro y0 y1 y2 y3 y4
   unfold bolterlaw09_may.l0
   repeat' first
   | (with_reducible exact ih0 _ _ _ _ _)
   | (with_reducible exact message_MayRecord.mono _ _ _ _ _)
   | (with_reducible exact name_Below.mono _ _ _)
   | (with_reducible exact LeO.refl _)
   | (with_reducible exact LeO.none _)
   | (with_reducible refine LeO.ite ?_ ?_)
   | (with_reducible refine LeO.bind ?_ (fun _=>?_))
   | exact ih0 _ _ _ _ _
   | exact message_MayRecord.mono _ _ _ _ _
   | exact name_Below.mono _ _ _
   | exact LeO.none _
   | refine LeO.ite ?_ ?_
   | refine LeO.bind ?_ (fun _=>?_)
theorem bolterlaw09_may.mono:∀ a0 a1 k,LeO (bolterlaw09_may.f k a0 a1) (bolterlaw09_may.f (k + 1) a0 a1):=by
 intro a0 a1 k
 have ih0:=bolterlaw09_may.mono_l k
 unfold bolterlaw09_may.f
 repeat' first
   | (with_reducible exact ih0 _ _ _ _ _)
   | (with_reducible exact message_MayRecord.mono _ _ _ _ _)
   | (with_reducible exact name_Below.mono _ _ _)
   | (with_reducible exact LeO.refl _)
   | (with_reducible exact LeO.none _)
   | (with_reducible refine LeO.ite ?_ ?_)
   | (with_reducible refine LeO.bind ?_ (fun _=>?_))
   | exact ih0 _ _ _ _ _
   | exact message_MayRecord.mono _ _ _ _ _
   | exact name_Below.mono _ _ _
   | exact LeO.none _
   | refine LeO.ite ?_ ?_
   | refine LeO.bind ?_ (fun _=>?_)
end Go.Proofs.YtlobjcokopfbkaaDoor.PY
