/-
  The statement of the law DeviceScript about numbers and lists alone: for arguments that are well formed and together of bulk at most 1048576 the law's function answers true. No macro, syntax, notation, axiom, sorry.
-/
import Derived.Test.YtkicgmhbcldbbaaPDx5
import Derived.Test.YtkicgmhbcldbbaaOpn
namespace Go.Proofs.Ytkicgmhbcldbbaa.PureSaid
open Go.RowKit Go.Proofs.Ytkicgmhbcldbbaa.PD Go.Proofs.YtkicgmhbcldbbaaW.PrintWords Go.Proofs.YtkicgmhbcldbbaaW.PrintLast
set_option linter.unusedVariables false
def DeviceScript : Prop := ∀ (l0 : (List S41)), (∀ y ∈ l0, ((Lit.int .u8 y.f0).wf = true) ∧ ((∀ yyf1 ∈ y.f1, (Lit.int .u8 yyf1).wf = true) ∧ y.f1.length ≤ maxLen) ∧ (Lit.int .i8 y.f2).wf = true) → l0.length ≤ maxLen → (opn.bs (fun x : S41 => (fun _ => 1) x.f0 + ((opn.bs (fun _ => 1)) x.f1 + (fun _ => 1) x.f2) + 1)) l0 ≤ 1048576 → bolterlaw23_DeviceScript.f l0 = some true
end Go.Proofs.Ytkicgmhbcldbbaa.PureSaid
