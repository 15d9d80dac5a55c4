/-
  The statement of the law JournalWrite about numbers and lists alone: for arguments that are well formed and together of bulk at most 1048576 the law's function answers true. No macro, syntax, notation, axiom, sorry.
-/
import Derived.Test.YtklliflmdckadaaDoorPJx13
import Derived.Test.YtklliflmdckadaaDoorOpn
namespace Go.Proofs.YtklliflmdckadaaDoor.PureSaid
open Go.RowKit Go.Proofs.YtklliflmdckadaaDoor.PJ Go.Proofs.YtklliflmdckadaaDoorW.PrintWords Go.Proofs.YtklliflmdckadaaDoorW.PrintLast
set_option linter.unusedVariables false
def JournalWrite : Prop := ∀ (l0 : (List S35)), (∀ y ∈ l0, ((Lit.int .u8 y.f0).wf = true) ∧ ((∀ yyf1 ∈ y.f1, (Lit.int .u8 yyf1).wf = true) ∧ y.f1.length ≤ maxLen) ∧ ((Lit.int .u8 y.f2).wf = true) ∧ (Lit.int .i8 y.f3).wf = true) → l0.length ≤ maxLen → (opn.bs (fun x : S35 => (fun _ => 1) x.f0 + ((opn.bs (fun _ => 1)) x.f1 + ((fun _ => 1) x.f2 + (fun _ => 1) x.f3)) + 1)) l0 ≤ 1048576 → bolterlaw24_JournalWrite.f l0 = some true
end Go.Proofs.YtklliflmdckadaaDoor.PureSaid
