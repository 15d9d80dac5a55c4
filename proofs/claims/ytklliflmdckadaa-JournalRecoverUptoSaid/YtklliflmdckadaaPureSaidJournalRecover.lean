/-
  The statement of the law JournalRecover about numbers and lists alone: for arguments that are well formed and together of bulk at most 1048576 the law's function answers true. No macro, syntax, notation, axiom, sorry.
-/
import Derived.Test.YtklliflmdckadaaPJx7
import Derived.Test.YtklliflmdckadaaOpn
namespace Go.Proofs.Ytklliflmdckadaa.PureSaid
open Go.RowKit Go.Proofs.Ytklliflmdckadaa.PJ Go.Proofs.YtklliflmdckadaaW.PrintWords Go.Proofs.YtklliflmdckadaaW.PrintLast
set_option linter.unusedVariables false
def JournalRecover : Prop := ∀ (l0 : (List (List Int))) (l1 : (List Int)), (∀ y ∈ l0, (∀ yy ∈ y, (Lit.int .u8 yy).wf = true) ∧ y.length ≤ maxLen) → l0.length ≤ maxLen → (∀ y ∈ l1, (Lit.int .u8 y).wf = true) → l1.length ≤ maxLen → (opn.bs (opn.bs (fun _ => 1))) l0 + (opn.bs (fun _ => 1)) l1 ≤ 1048576 → bolterlaw24_JournalRecover.f l0 l1 = some true
end Go.Proofs.Ytklliflmdckadaa.PureSaid
