-- written by a program of this session out of the loaded program (its tools: wip/tools)
import Derived.Test.YtecpginkacaebaaProg
import Derived.Below
import Derived.Deep.Draws
import Derived.Deep.AppendLies
import Derived.Maps.AppendAt
import Derived.OwnWalk
import Derived.Laws.BytesArg
import Derived.Laws.MakeOwn
import Derived.Laws.OwnMore
import Derived.Deep.OwnRows
import Derived.Tactics
import Derived.Lib.ConvBytes
import Derived.Laws.Slices
import Derived.WalkKit
import Derived.KernelRfl
import Derived.RowKit3
import Derived.Deep.LoopGhost
import Derived.Deep.QuietTactic
import Derived.BigQuiet
import Derived.WideLaws
import Derived.Deep.DeepCutAuto
import Derived.Deep.CutBlock
import Derived.Deep.RegionHeld3
import Derived.Laws.Rows
import Derived.Lib.AppendStr
import Derived.ArgAppend
import Derived.Laws.IdiomCopy
import Derived.OrdersHeld
import Derived.Laws.BitsLemmas
import Derived.RowKit
import Derived.Lib.SlBytesConst
import Derived.Test.YtecpginkacaebaaHandW
import Derived.Test.YtecpginkacaebaaBld
import Derived.Test.YtecpginkacaebaaHeap
import Derived.Test.YtecpginkacaebaaBase
import Derived.Test.YtecpginkacaebaaNamP
import Derived.Test.YtecpginkacaebaaWWords
import Derived.Test.YtecpginkacaebaaWLast
import Derived.Test.YtecpginkacaebaaWTab
import Derived.Test.YtecpginkacaebaaWFour
import Derived.Test.YtecpginkacaebaaWQPut
import Derived.Test.YtecpginkacaebaaWApart
import Derived.Test.YtecpginkacaebaaWArr
import Derived.Test.YtecpginkacaebaaWZeros
import Derived.Test.YtecpginkacaebaaWFoot
import Derived.Test.YtecpginkacaebaaWKept
import Derived.Test.YtecpginkacaebaaWShare
import Derived.Test.YtecpginkacaebaaWN
import Derived.Test.YtecpginkacaebaaWFootNe
import Derived.Test.YtecpginkacaebaaWAt
import Derived.Test.YtecpginkacaebaaWEqStruct
import Derived.Test.YtecpginkacaebaaWRepsOne
import Derived.Test.YtecpginkacaebaaWInv
import Derived.Test.YtecpginkacaebaaWInvWords
import Derived.Test.YtecpginkacaebaaWGuard
import Derived.Test.YtecpginkacaebaaWNEv
import Derived.Test.YtecpginkacaebaaWMore
namespace Go.Proofs.Ytecpginkacaebaa.PP
open Go.RowKit Go.Proofs.YtecpginkacaebaaW.PrintWords Go.Proofs.YtecpginkacaebaaW.PrintLast Go.Proofs.YtecpginkacaebaaW.PrintMore
attribute [local go_sem] max2_int min2_int max_two min_two max_three min_three max_four min_four   -- for this text's walks alone
set_option linter.unusedVariables false
set_option linter.unusedSimpArgs false



def errW : Option Int → Value
  | none => .nilIface
  | some c => .iface 0 (.int .i64 c)
theorem errW_none : errW none = .nilIface := rfl
theorem errW_some (c : Int) : errW (some c) = .iface 0 (.int .i64 c) := rfl

theorem info9 : (Try.prog.info? 9).map (fun i => (i.zero, i.size, i.bytes)) = some (some (.string ⟨#[]⟩), 1, 16) := by kernel_rfl
-- the values' own types

end Go.Proofs.Ytecpginkacaebaa.PP
