-- written by a program of this session out of the loaded program (its tools: wip/tools)
import Derived.Test.YtpjdemddflnleaaProg
import Derived.Below
import Derived.Deep.Draws
import Derived.Deep.AppendLies
import Derived.Maps.AppendAt
import Derived.OwnWalk
import Derived.Laws.BytesArg
import Derived.Laws.MakeOwn
import Derived.Laws.OwnMore
import Derived.Deep.OwnRows
import Derived.Tactics
import Derived.Lib.ConvBytes
import Derived.Laws.Slices
import Derived.WalkKit
import Derived.KernelRfl
import Derived.RowKit3
import Derived.Deep.LoopGhost
import Derived.Deep.QuietTactic
import Derived.BigQuiet
import Derived.WideLaws
import Derived.Deep.DeepCutAuto
import Derived.Deep.CutBlock
import Derived.Deep.RegionHeld3
import Derived.Laws.Rows
import Derived.Lib.AppendStr
import Derived.ArgAppend
import Derived.Laws.IdiomCopy
import Derived.OrdersHeld
import Derived.Laws.BitsLemmas
import Derived.RowKit
import Derived.Lib.SlBytesConst
import Derived.Test.YtpjdemddflnleaaHandW
import Derived.Test.YtpjdemddflnleaaBld
import Derived.Test.YtpjdemddflnleaaHeap
import Derived.Test.YtpjdemddflnleaaBase
import Derived.Test.YtpjdemddflnleaaNamP
import Derived.Test.YtpjdemddflnleaaWWords
import Derived.Test.YtpjdemddflnleaaWLast
import Derived.Test.YtpjdemddflnleaaWTab
import Derived.Test.YtpjdemddflnleaaWFour
import Derived.Test.YtpjdemddflnleaaWQPut
import Derived.Test.YtpjdemddflnleaaWApart
import Derived.Test.YtpjdemddflnleaaWArr
import Derived.Test.YtpjdemddflnleaaWZeros
import Derived.Test.YtpjdemddflnleaaWFoot
import Derived.Test.YtpjdemddflnleaaWKept
import Derived.Test.YtpjdemddflnleaaWShare
import Derived.Test.YtpjdemddflnleaaWN
import Derived.Test.YtpjdemddflnleaaWFootNe
import Derived.Test.YtpjdemddflnleaaWAt
import Derived.Test.YtpjdemddflnleaaWEqStruct
import Derived.Test.YtpjdemddflnleaaWRepsOne
import Derived.Test.YtpjdemddflnleaaWInv
import Derived.Test.YtpjdemddflnleaaWInvWords
import Derived.Test.YtpjdemddflnleaaWGuard
import Derived.Test.YtpjdemddflnleaaWNEv
import Derived.Test.YtpjdemddflnleaaWMore
namespace Go.Proofs.Ytpjdemddflnleaa.PB
open Go.RowKit Go.Proofs.YtpjdemddflnleaaW.PrintWords Go.Proofs.YtpjdemddflnleaaW.PrintLast Go.Proofs.YtpjdemddflnleaaW.PrintMore
attribute [local go_sem] max2_int min2_int max_two min_two max_three min_three max_four min_four   -- for this text's walks alone
set_option linter.unusedVariables false
set_option linter.unusedSimpArgs false



def errW : Option Int → Value
  | none => .nilIface
  | some c => .iface 0 (.int .i64 c)
theorem errW_none : errW none = .nilIface := rfl
theorem errW_some (c : Int) : errW (some c) = .iface 0 (.int .i64 c) := rfl

theorem info5 : (Try.prog.info? 5).map (fun i => (i.zero, i.size, i.bytes)) = some (some (.int .u8 0), 1, 1) := by kernel_rfl
theorem info9 : (Try.prog.info? 9).map (fun i => (i.zero, i.size, i.bytes)) = some (some (.string ⟨#[]⟩), 1, 16) := by kernel_rfl
theorem info26 : (Try.prog.info? 26).map (fun i => (i.zero, i.size, i.bytes)) = some (some (.int .u32 0), 1, 4) := by kernel_rfl
-- the values' own types

end Go.Proofs.Ytpjdemddflnleaa.PB
