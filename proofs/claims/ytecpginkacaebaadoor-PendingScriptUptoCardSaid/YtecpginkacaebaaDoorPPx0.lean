-- written by a program of this session out of the loaded program (its tools: wip/tools)
import Derived.Test.YtecpginkacaebaaDoorProg
import Derived.Below
import Derived.Deep.Draws
import Derived.Deep.AppendLies
import Derived.Maps.AppendAt
import Derived.OwnWalk
import Derived.Laws.BytesArg
import Derived.Laws.MakeOwn
import Derived.Laws.OwnMore
import Derived.Deep.OwnRows
import Derived.Tactics
import Derived.Lib.ConvBytes
import Derived.Laws.Slices
import Derived.WalkKit
import Derived.KernelRfl
import Derived.RowKit3
import Derived.Deep.LoopGhost
import Derived.Deep.QuietTactic
import Derived.BigQuiet
import Derived.WideLaws
import Derived.Deep.DeepCutAuto
import Derived.Deep.CutBlock
import Derived.Deep.RegionHeld3
import Derived.Laws.Rows
import Derived.Lib.AppendStr
import Derived.ArgAppend
import Derived.Laws.IdiomCopy
import Derived.OrdersHeld
import Derived.Laws.BitsLemmas
import Derived.RowKit
import Derived.Lib.SlBytesConst
import Derived.Test.YtecpginkacaebaaDoorHandW
import Derived.Test.YtecpginkacaebaaDoorBld
import Derived.Test.YtecpginkacaebaaDoorHeap
import Derived.Test.YtecpginkacaebaaDoorBase
import Derived.Test.YtecpginkacaebaaDoorNamP
import Derived.Test.YtecpginkacaebaaDoorWWords
import Derived.Test.YtecpginkacaebaaDoorWLast
import Derived.Test.YtecpginkacaebaaDoorWTab
import Derived.Test.YtecpginkacaebaaDoorWFour
import Derived.Test.YtecpginkacaebaaDoorWQPut
import Derived.Test.YtecpginkacaebaaDoorWApart
import Derived.Test.YtecpginkacaebaaDoorWArr
import Derived.Test.YtecpginkacaebaaDoorWZeros
import Derived.Test.YtecpginkacaebaaDoorWFoot
import Derived.Test.YtecpginkacaebaaDoorWKept
import Derived.Test.YtecpginkacaebaaDoorWShare
import Derived.Test.YtecpginkacaebaaDoorWN
import Derived.Test.YtecpginkacaebaaDoorWFootNe
import Derived.Test.YtecpginkacaebaaDoorWAt
import Derived.Test.YtecpginkacaebaaDoorWEqStruct
import Derived.Test.YtecpginkacaebaaDoorWRepsOne
import Derived.Test.YtecpginkacaebaaDoorWInv
import Derived.Test.YtecpginkacaebaaDoorWInvWords
import Derived.Test.YtecpginkacaebaaDoorWGuard
import Derived.Test.YtecpginkacaebaaDoorWNEv
import Derived.Test.YtecpginkacaebaaDoorWMore
namespace Go.Proofs.YtecpginkacaebaaDoor.PP
open Go.RowKit Go.Proofs.YtecpginkacaebaaDoorW.PrintWords Go.Proofs.YtecpginkacaebaaDoorW.PrintLast Go.Proofs.YtecpginkacaebaaDoorW.PrintMore
attribute [local go_sem] max2_int min2_int max_two min_two max_three min_three max_four min_four   -- for this text's walks alone
set_option linter.unusedVariables false
set_option linter.unusedSimpArgs false



def errW : Option Int → Value
  | none => .nilIface
  | some c => .iface 0 (.int .i64 c)
theorem errW_none : errW none = .nilIface := rfl
theorem errW_some (c : Int) : errW (some c) = .iface 0 (.int .i64 c) := rfl

theorem info9 : (Tryd.prog.info? 9).map (fun i => (i.zero, i.size, i.bytes)) = some (some (.string ⟨#[]⟩), 1, 16) := by kernel_rfl
-- the values' own types

end Go.Proofs.YtecpginkacaebaaDoor.PP
