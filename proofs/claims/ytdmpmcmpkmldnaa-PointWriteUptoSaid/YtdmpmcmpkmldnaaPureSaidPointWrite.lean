/-
  The statement of the law PointWrite about numbers and lists alone: for arguments that are well formed and together of bulk at most 1048576 the law's function answers true. No macro, syntax, notation, axiom, sorry.
-/
import Derived.Test.YtdmpmcmpkmldnaaPPx8
import Derived.Test.YtdmpmcmpkmldnaaOpn
namespace Go.Proofs.Ytdmpmcmpkmldnaa.PureSaid
open Go.RowKit Go.Proofs.Ytdmpmcmpkmldnaa.PP Go.Proofs.YtdmpmcmpkmldnaaW.PrintWords Go.Proofs.YtdmpmcmpkmldnaaW.PrintLast
set_option linter.unusedVariables false
def PointWrite : Prop := ∀ (l0 : (List (List Int))) (a1 : Int), (∀ y ∈ l0, (∀ yy ∈ y, (Lit.int .u8 yy).wf = true) ∧ y.length ≤ maxLen) → l0.length ≤ maxLen → ((Lit.int .u8 a1).wf = true) → (opn.bs (opn.bs (fun _ => 1))) l0 + (fun _ => 1) a1 ≤ 1048576 → bolterlaw03_PointWrite.f l0 a1 = some true
end Go.Proofs.Ytdmpmcmpkmldnaa.PureSaid
