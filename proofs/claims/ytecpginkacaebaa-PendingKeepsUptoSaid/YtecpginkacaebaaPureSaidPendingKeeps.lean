/-
  The statement of the law PendingKeeps about numbers and lists alone: for arguments that are well formed and together of bulk at most 1048576 the law's function answers true. No macro, syntax, notation, axiom, sorry.
-/
import Derived.Test.YtecpginkacaebaaPPx22
import Derived.Test.YtecpginkacaebaaOpn
namespace Go.Proofs.Ytecpginkacaebaa.PureSaid
open Go.RowKit Go.Proofs.Ytecpginkacaebaa.PP Go.Proofs.YtecpginkacaebaaW.PrintWords Go.Proofs.YtecpginkacaebaaW.PrintLast
set_option linter.unusedVariables false
def PendingKeeps : Prop := ∀ (l0 : (List (Int × Int × (List Int) × Int × Int))) (a1 : (Int × Int × (List Int) × Int × Int)), (∀ y ∈ l0, ((Lit.int .u8 y.1).wf = true) ∧ ((Lit.int .u8 y.2.1).wf = true) ∧ ((∀ yy221 ∈ y.2.2.1, (Lit.int .u8 yy221).wf = true) ∧ y.2.2.1.length ≤ maxLen) ∧ ((Lit.int .u8 y.2.2.2.1).wf = true) ∧ (Lit.int .i8 y.2.2.2.2).wf = true) → l0.length ≤ maxLen → (((Lit.int .u8 a1.1).wf = true) ∧ ((Lit.int .u8 a1.2.1).wf = true) ∧ ((∀ ya1221 ∈ a1.2.2.1, (Lit.int .u8 ya1221).wf = true) ∧ a1.2.2.1.length ≤ maxLen) ∧ ((Lit.int .u8 a1.2.2.2.1).wf = true) ∧ (Lit.int .i8 a1.2.2.2.2).wf = true) → (opn.bs (fun x : (Int × Int × (List Int) × Int × Int) => (fun _ => 1) x.1 + ((fun _ => 1) x.2.1 + ((opn.bs (fun _ => 1)) x.2.2.1 + ((fun _ => 1) x.2.2.2.1 + (fun _ => 1) x.2.2.2.2))) + 1)) l0 + (fun x : (Int × Int × (List Int) × Int × Int) => (fun _ => 1) x.1 + ((fun _ => 1) x.2.1 + ((opn.bs (fun _ => 1)) x.2.2.1 + ((fun _ => 1) x.2.2.2.1 + (fun _ => 1) x.2.2.2.2))) + 1) a1 ≤ 1048576 → bolterlaw26_PendingKeeps.f l0 a1.1 a1.2.1 a1.2.2.1 a1.2.2.2.1 a1.2.2.2.2 = some true
end Go.Proofs.Ytecpginkacaebaa.PureSaid
