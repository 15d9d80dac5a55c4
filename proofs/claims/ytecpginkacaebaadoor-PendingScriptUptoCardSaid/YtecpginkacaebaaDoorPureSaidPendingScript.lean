/-
  The statement of the law PendingScript about numbers and lists alone: for arguments that are well formed and together of bulk at most 1048576 the law's function answers true. No macro, syntax, notation, axiom, sorry.
-/
import Derived.Test.YtecpginkacaebaaDoorPPx24
import Derived.Test.YtecpginkacaebaaDoorOpn
namespace Go.Proofs.YtecpginkacaebaaDoor.PureSaid
open Go.RowKit Go.Proofs.YtecpginkacaebaaDoor.PP Go.Proofs.YtecpginkacaebaaDoorW.PrintWords Go.Proofs.YtecpginkacaebaaDoorW.PrintLast
set_option linter.unusedVariables false
def PendingScript : Prop := ∀ (l0 : (List (Int × Int × (List Int) × Int × Int))), (∀ y ∈ l0, ((Lit.int .u8 y.1).wf = true) ∧ ((Lit.int .u8 y.2.1).wf = true) ∧ ((∀ yy221 ∈ y.2.2.1, (Lit.int .u8 yy221).wf = true) ∧ y.2.2.1.length ≤ maxLen) ∧ ((Lit.int .u8 y.2.2.2.1).wf = true) ∧ (Lit.int .i8 y.2.2.2.2).wf = true) → l0.length ≤ maxLen → (opn.bs (fun x : (Int × Int × (List Int) × Int × Int) => (fun _ => 1) x.1 + ((fun _ => 1) x.2.1 + ((opn.bs (fun _ => 1)) x.2.2.1 + ((fun _ => 1) x.2.2.2.1 + (fun _ => 1) x.2.2.2.2))) + 1)) l0 ≤ 1048576 → bolterlaw26_PendingScript.f l0 = some true
end Go.Proofs.YtecpginkacaebaaDoor.PureSaid
