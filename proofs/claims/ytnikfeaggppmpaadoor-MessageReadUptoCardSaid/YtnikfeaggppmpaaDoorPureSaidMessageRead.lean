/- part of a proof; what it has no use for was struck out -/
import Derived.Test.YtnikfeaggppmpaaDoorPMx28
import Derived.Test.YtnikfeaggppmpaaDoorOpn
namespace Go.Proofs.YtnikfeaggppmpaaDoor.PureSaid
open Go.RowKit Go.Proofs.YtnikfeaggppmpaaDoor.PM Go.Proofs.YtnikfeaggppmpaaDoorW.PrintWords Go.Proofs.YtnikfeaggppmpaaDoorW.PrintLast
set_option linter.unusedVariables false
def MessageRead : Prop := ∀ (l0 : (List Int)), (∀ y ∈ l0, (Lit.int .u8 y).wf = true) → l0.length ≤ maxLen → (opn.bs (fun _ => 1)) l0 ≤ 1048576 → bolterlaw05_MessageRead.f l0 = some true
end Go.Proofs.YtnikfeaggppmpaaDoor.PureSaid
