/-
  The statement of the law DeviceBegins about numbers and lists alone: for arguments that are well formed and together of bulk at most 1048576 the law's function answers true. No macro, syntax, notation, axiom, sorry.
-/
import Derived.Test.YtkicgmhbcldbbaaPDx3
import Derived.Test.YtkicgmhbcldbbaaOpn
namespace Go.Proofs.Ytkicgmhbcldbbaa.PureSaid
open Go.RowKit Go.Proofs.Ytkicgmhbcldbbaa.PD Go.Proofs.YtkicgmhbcldbbaaW.PrintWords Go.Proofs.YtkicgmhbcldbbaaW.PrintLast
set_option linter.unusedVariables false
def DeviceBegins : Prop := ∀ (l0 : (List (List Int))) (a1 : Int), (∀ y ∈ l0, (∀ yy ∈ y, (Lit.int .u8 yy).wf = true) ∧ y.length ≤ maxLen) → l0.length ≤ maxLen → ((Lit.int .u8 a1).wf = true) → (opn.bs (opn.bs (fun _ => 1))) l0 + (fun _ => 1) a1 ≤ 1048576 → bolterlaw23_DeviceBegins.f l0 a1 = some true
end Go.Proofs.Ytkicgmhbcldbbaa.PureSaid
