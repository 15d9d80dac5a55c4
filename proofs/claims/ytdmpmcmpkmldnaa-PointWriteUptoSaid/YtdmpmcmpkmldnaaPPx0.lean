-- written by a program of this session out of the loaded program (its tools: wip/tools)
import Derived.Test.YtdmpmcmpkmldnaaProg
import Derived.Below
import Derived.Deep.Draws
import Derived.Deep.AppendLies
import Derived.Maps.AppendAt
import Derived.OwnWalk
import Derived.Laws.BytesArg
import Derived.Laws.MakeOwn
import Derived.Laws.OwnMore
import Derived.Deep.OwnRows
import Derived.Tactics
import Derived.Lib.ConvBytes
import Derived.Laws.Slices
import Derived.WalkKit
import Derived.KernelRfl
import Derived.RowKit3
import Derived.Deep.LoopGhost
import Derived.Deep.QuietTactic
import Derived.BigQuiet
import Derived.WideLaws
import Derived.Deep.DeepCutAuto
import Derived.Deep.CutBlock
import Derived.Deep.RegionHeld3
import Derived.Laws.Rows
import Derived.Lib.AppendStr
import Derived.ArgAppend
import Derived.Laws.IdiomCopy
import Derived.OrdersHeld
import Derived.Laws.BitsLemmas
import Derived.RowKit
import Derived.Lib.SlBytesConst
import Derived.Test.YtdmpmcmpkmldnaaHandW
import Derived.Test.YtdmpmcmpkmldnaaBld
import Derived.Test.YtdmpmcmpkmldnaaHeap
import Derived.Test.YtdmpmcmpkmldnaaBase
import Derived.Test.YtdmpmcmpkmldnaaNamP
import Derived.Test.YtdmpmcmpkmldnaaWWords
import Derived.Test.YtdmpmcmpkmldnaaWLast
import Derived.Test.YtdmpmcmpkmldnaaWTab
import Derived.Test.YtdmpmcmpkmldnaaWFour
import Derived.Test.YtdmpmcmpkmldnaaWQPut
import Derived.Test.YtdmpmcmpkmldnaaWApart
import Derived.Test.YtdmpmcmpkmldnaaWArr
import Derived.Test.YtdmpmcmpkmldnaaWZeros
import Derived.Test.YtdmpmcmpkmldnaaWFoot
import Derived.Test.YtdmpmcmpkmldnaaWKept
import Derived.Test.YtdmpmcmpkmldnaaWShare
import Derived.Test.YtdmpmcmpkmldnaaWN
import Derived.Test.YtdmpmcmpkmldnaaWFootNe
import Derived.Test.YtdmpmcmpkmldnaaWAt
import Derived.Test.YtdmpmcmpkmldnaaWEqStruct
import Derived.Test.YtdmpmcmpkmldnaaWRepsOne
import Derived.Test.YtdmpmcmpkmldnaaWInv
import Derived.Test.YtdmpmcmpkmldnaaWInvWords
import Derived.Test.YtdmpmcmpkmldnaaWGuard
import Derived.Test.YtdmpmcmpkmldnaaWNEv
import Derived.Test.YtdmpmcmpkmldnaaWMore
namespace Go.Proofs.Ytdmpmcmpkmldnaa.PP
open Go.RowKit Go.Proofs.YtdmpmcmpkmldnaaW.PrintWords Go.Proofs.YtdmpmcmpkmldnaaW.PrintLast Go.Proofs.YtdmpmcmpkmldnaaW.PrintMore
attribute [local go_sem] max2_int min2_int max_two min_two max_three min_three max_four min_four   -- for this text's walks alone
set_option linter.unusedVariables false
set_option linter.unusedSimpArgs false



def errW : Option Int → Value
  | none => .nilIface
  | some c => .iface 0 (.int .i64 c)
theorem errW_none : errW none = .nilIface := rfl
theorem errW_some (c : Int) : errW (some c) = .iface 0 (.int .i64 c) := rfl

theorem info5 : (Try.prog.info? 5).map (fun i => (i.zero, i.size, i.bytes)) = some (some (.int .u8 0), 1, 1) := by kernel_rfl
theorem info9 : (Try.prog.info? 9).map (fun i => (i.zero, i.size, i.bytes)) = some (some (.string ⟨#[]⟩), 1, 16) := by kernel_rfl
-- the values' own types

end Go.Proofs.Ytdmpmcmpkmldnaa.PP
