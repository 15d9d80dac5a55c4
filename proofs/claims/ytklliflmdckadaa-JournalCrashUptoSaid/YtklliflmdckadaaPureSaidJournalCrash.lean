/-
  The statement of the law JournalCrash about numbers and lists alone: for arguments that are well formed and together of bulk at most 1048576 the law's function answers true. No macro, syntax, notation, axiom, sorry.
-/
import Derived.Test.YtklliflmdckadaaPJx11
import Derived.Test.YtklliflmdckadaaOpn
namespace Go.Proofs.Ytklliflmdckadaa.PureSaid
open Go.RowKit Go.Proofs.Ytklliflmdckadaa.PJ Go.Proofs.YtklliflmdckadaaW.PrintWords Go.Proofs.YtklliflmdckadaaW.PrintLast
set_option linter.unusedVariables false
def JournalCrash : Prop := ∀ (l0 : (List S35)) (a1 : Int), (∀ y ∈ l0, ((Lit.int .u8 y.f0).wf = true) ∧ ((∀ yyf1 ∈ y.f1, (Lit.int .u8 yyf1).wf = true) ∧ y.f1.length ≤ maxLen) ∧ ((Lit.int .u8 y.f2).wf = true) ∧ (Lit.int .i8 y.f3).wf = true) → l0.length ≤ maxLen → ((Lit.int .u16 a1).wf = true) → (opn.bs (fun x : S35 => (fun _ => 1) x.f0 + ((opn.bs (fun _ => 1)) x.f1 + ((fun _ => 1) x.f2 + (fun _ => 1) x.f3)) + 1)) l0 + (fun _ => 1) a1 ≤ 1048576 → bolterlaw24_JournalCrash.f l0 a1 = some true
end Go.Proofs.Ytklliflmdckadaa.PureSaid
