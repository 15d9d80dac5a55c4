/-
  The statement of the law PendingFull about numbers and lists alone: for arguments that are well formed and together of bulk at most 1048576 the law's function answers true. No macro, syntax, notation, axiom, sorry.
-/
import Derived.Test.YtecpginkacaebaaDoorPPx23
import Derived.Test.YtecpginkacaebaaDoorOpn
namespace Go.Proofs.YtecpginkacaebaaDoor.PureSaid
open Go.RowKit Go.Proofs.YtecpginkacaebaaDoor.PP Go.Proofs.YtecpginkacaebaaDoorW.PrintWords Go.Proofs.YtecpginkacaebaaDoorW.PrintLast
set_option linter.unusedVariables false
def PendingFull : Prop := ∀ (l0 : (List Int)), (∀ y ∈ l0, (Lit.int .u16 y).wf = true) → l0.length ≤ maxLen → (opn.bs (fun _ => 1)) l0 ≤ 1048576 → bolterlaw26_PendingFull.f l0 = some true
end Go.Proofs.YtecpginkacaebaaDoor.PureSaid
