/-
  The statement of the law PointRead about numbers and lists alone: for arguments that are well formed and together of bulk at most 1048576 the law's function answers true. No macro, syntax, notation, axiom, sorry.
-/
import Derived.Test.YtdmpmcmpkmldnaaPPx6
import Derived.Test.YtdmpmcmpkmldnaaOpn
namespace Go.Proofs.Ytdmpmcmpkmldnaa.PureSaid
open Go.RowKit Go.Proofs.Ytdmpmcmpkmldnaa.PP Go.Proofs.YtdmpmcmpkmldnaaW.PrintWords Go.Proofs.YtdmpmcmpkmldnaaW.PrintLast
set_option linter.unusedVariables false
def PointRead : Prop := ∀ (a0 : ByteArray) (a1 : Int), (a0.size ≤ maxLen) → ((Lit.int .i64 a1).wf = true) → (fun s => s.size + 1) a0 + (fun _ => 1) a1 ≤ 1048576 → bolterlaw03_PointRead.f a0 a1 = some true
end Go.Proofs.Ytdmpmcmpkmldnaa.PureSaid
