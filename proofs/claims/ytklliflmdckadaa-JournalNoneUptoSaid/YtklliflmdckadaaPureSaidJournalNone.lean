/-
  The statement of the law JournalNone about numbers and lists alone: for arguments that are well formed and together of bulk at most 1048576 the law's function answers true. No macro, syntax, notation, axiom, sorry.
-/
import Derived.Test.YtklliflmdckadaaPJx6
import Derived.Test.YtklliflmdckadaaOpn
namespace Go.Proofs.Ytklliflmdckadaa.PureSaid
open Go.RowKit Go.Proofs.Ytklliflmdckadaa.PJ Go.Proofs.YtklliflmdckadaaW.PrintWords Go.Proofs.YtklliflmdckadaaW.PrintLast
set_option linter.unusedVariables false
def JournalNone : Prop := ∀ (a0 : Int), ((Lit.int .u8 a0).wf = true) → (fun _ => 1) a0 ≤ 1048576 → bolterlaw24_JournalNone.f a0 = some true
end Go.Proofs.Ytklliflmdckadaa.PureSaid
