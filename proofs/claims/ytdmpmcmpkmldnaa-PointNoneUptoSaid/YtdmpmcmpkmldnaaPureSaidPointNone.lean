/-
  The statement of the law PointNone about numbers and lists alone: for arguments that are well formed and together of bulk at most 1048576 the law's function answers true. No macro, syntax, notation, axiom, sorry.
-/
import Derived.Test.YtdmpmcmpkmldnaaPPx5
import Derived.Test.YtdmpmcmpkmldnaaOpn
namespace Go.Proofs.Ytdmpmcmpkmldnaa.PureSaid
open Go.RowKit Go.Proofs.Ytdmpmcmpkmldnaa.PP Go.Proofs.YtdmpmcmpkmldnaaW.PrintWords Go.Proofs.YtdmpmcmpkmldnaaW.PrintLast
set_option linter.unusedVariables false
def PointNone : Prop := ∀ (a0 : ByteArray), (a0.size ≤ maxLen) → (fun s => s.size + 1) a0 ≤ 1048576 → bolterlaw03_PointNone.f a0 = some true
end Go.Proofs.Ytdmpmcmpkmldnaa.PureSaid
