-- written by a program of this session out of the loaded program (its tools: wip/tools)
import Derived.Test.YtciipbdhibkkcaaProg
import Derived.Below
import Derived.Deep.Draws
import Derived.Deep.AppendLies
import Derived.Maps.AppendAt
import Derived.OwnWalk
import Derived.Laws.BytesArg
import Derived.Laws.MakeOwn
import Derived.Laws.OwnMore
import Derived.Deep.OwnRows
import Derived.Tactics
import Derived.Lib.ConvBytes
import Derived.Laws.Slices
import Derived.WalkKit
import Derived.KernelRfl
import Derived.RowKit3
import Derived.Deep.LoopGhost
import Derived.Deep.QuietTactic
import Derived.BigQuiet
import Derived.WideLaws
import Derived.Deep.DeepCutAuto
import Derived.Deep.CutBlock
import Derived.Deep.RegionHeld3
import Derived.Laws.Rows
import Derived.Lib.AppendStr
import Derived.ArgAppend
import Derived.Laws.IdiomCopy
import Derived.OrdersHeld
import Derived.Laws.BitsLemmas
import Derived.RowKit
import Derived.Lib.SlBytesConst
import Derived.Test.YtciipbdhibkkcaaHandW
import Derived.Test.YtciipbdhibkkcaaWWords
import Derived.Test.YtciipbdhibkkcaaWLast
import Derived.Test.YtciipbdhibkkcaaWTab
import Derived.Test.YtciipbdhibkkcaaWFour
import Derived.Test.YtciipbdhibkkcaaWQPut
import Derived.Test.YtciipbdhibkkcaaWApart
import Derived.Test.YtciipbdhibkkcaaWArr
import Derived.Test.YtciipbdhibkkcaaWZeros
import Derived.Test.YtciipbdhibkkcaaWFoot
import Derived.Test.YtciipbdhibkkcaaWKept
import Derived.Test.YtciipbdhibkkcaaWShare
import Derived.Test.YtciipbdhibkkcaaWN
import Derived.Test.YtciipbdhibkkcaaWFootNe
import Derived.Test.YtciipbdhibkkcaaWAt
import Derived.Test.YtciipbdhibkkcaaWEqStruct
import Derived.Test.YtciipbdhibkkcaaWRepsOne
import Derived.Test.YtciipbdhibkkcaaWInv
import Derived.Test.YtciipbdhibkkcaaWInvWords
import Derived.Test.YtciipbdhibkkcaaWGuard
import Derived.Test.YtciipbdhibkkcaaWNEv
import Derived.Test.YtciipbdhibkkcaaWMore
namespace Go.Proofs.Ytciipbdhibkkcaa.PO
open Go.RowKit Go.Proofs.YtciipbdhibkkcaaW.PrintWords Go.Proofs.YtciipbdhibkkcaaW.PrintLast Go.Proofs.YtciipbdhibkkcaaW.PrintMore
attribute [local go_sem] max2_int min2_int max_two min_two max_three min_three max_four min_four   -- for this text's walks alone
set_option linter.unusedVariables false
set_option linter.unusedSimpArgs false



def errW : Option Int → Value
  | none => .nilIface
  | some c => .iface 0 (.int .i64 c)
theorem errW_none : errW none = .nilIface := rfl
theorem errW_some (c : Int) : errW (some c) = .iface 0 (.int .i64 c) := rfl

theorem info4 : (Try.prog.info? 4).map (fun i => (i.zero, i.size, i.bytes)) = some (some (.bool false), 1, 1) := by kernel_rfl
theorem info5 : (Try.prog.info? 5).map (fun i => (i.zero, i.size, i.bytes)) = some (some (.int .u8 0), 1, 1) := by kernel_rfl
theorem info23 : (Try.prog.info? 23).map (fun i => (i.zero, i.size, i.bytes)) = some (some (.int .u16 0), 1, 2) := by kernel_rfl
-- the values' own types

end Go.Proofs.Ytciipbdhibkkcaa.PO
