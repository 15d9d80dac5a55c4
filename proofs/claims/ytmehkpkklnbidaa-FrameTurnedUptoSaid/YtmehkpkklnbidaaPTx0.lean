-- written by a program of this session out of the loaded program (its tools: wip/tools)
import Derived.Test.YtmehkpkklnbidaaProg
import Derived.Below
import Derived.Deep.Draws
import Derived.Deep.AppendLies
import Derived.Maps.AppendAt
import Derived.OwnWalk
import Derived.Laws.BytesArg
import Derived.Laws.MakeOwn
import Derived.Laws.OwnMore
import Derived.Deep.OwnRows
import Derived.Tactics
import Derived.Lib.ConvBytes
import Derived.Laws.Slices
import Derived.WalkKit
import Derived.KernelRfl
import Derived.RowKit3
import Derived.Deep.LoopGhost
import Derived.Deep.QuietTactic
import Derived.BigQuiet
import Derived.WideLaws
import Derived.Deep.DeepCutAuto
import Derived.Deep.CutBlock
import Derived.Deep.RegionHeld3
import Derived.Laws.Rows
import Derived.Lib.AppendStr
import Derived.ArgAppend
import Derived.Laws.IdiomCopy
import Derived.OrdersHeld
import Derived.Laws.BitsLemmas
import Derived.RowKit
import Derived.Lib.SlBytesConst
import Derived.Test.YtmehkpkklnbidaaHandW
import Derived.Test.YtmehkpkklnbidaaWWords
import Derived.Test.YtmehkpkklnbidaaWLast
import Derived.Test.YtmehkpkklnbidaaWTab
import Derived.Test.YtmehkpkklnbidaaWFour
import Derived.Test.YtmehkpkklnbidaaWQPut
import Derived.Test.YtmehkpkklnbidaaWApart
import Derived.Test.YtmehkpkklnbidaaWArr
import Derived.Test.YtmehkpkklnbidaaWZeros
import Derived.Test.YtmehkpkklnbidaaWFoot
import Derived.Test.YtmehkpkklnbidaaWKept
import Derived.Test.YtmehkpkklnbidaaWShare
import Derived.Test.YtmehkpkklnbidaaWN
import Derived.Test.YtmehkpkklnbidaaWFootNe
import Derived.Test.YtmehkpkklnbidaaWAt
import Derived.Test.YtmehkpkklnbidaaWEqStruct
import Derived.Test.YtmehkpkklnbidaaWRepsOne
import Derived.Test.YtmehkpkklnbidaaWInv
import Derived.Test.YtmehkpkklnbidaaWInvWords
import Derived.Test.YtmehkpkklnbidaaWGuard
import Derived.Test.YtmehkpkklnbidaaWNEv
import Derived.Test.YtmehkpkklnbidaaWMore
namespace Go.Proofs.Ytmehkpkklnbidaa.PT
open Go.RowKit Go.Proofs.YtmehkpkklnbidaaW.PrintWords Go.Proofs.YtmehkpkklnbidaaW.PrintLast Go.Proofs.YtmehkpkklnbidaaW.PrintMore
attribute [local go_sem] max2_int min2_int max_two min_two max_three min_three max_four min_four   -- for this text's walks alone
set_option linter.unusedVariables false
set_option linter.unusedSimpArgs false



def errW : Option Int → Value
  | none => .nilIface
  | some c => .iface 0 (.int .i64 c)
theorem errW_none : errW none = .nilIface := rfl
theorem errW_some (c : Int) : errW (some c) = .iface 0 (.int .i64 c) := rfl

theorem info5 : (Try.prog.info? 5).map (fun i => (i.zero, i.size, i.bytes)) = some (some (.int .u8 0), 1, 1) := by kernel_rfl
theorem info23 : (Try.prog.info? 23).map (fun i => (i.zero, i.size, i.bytes)) = some (some (.int .u16 0), 1, 2) := by kernel_rfl
-- the values' own types

end Go.Proofs.Ytmehkpkklnbidaa.PT
