/-
  The statement of the law NumBack about numbers and lists alone: for arguments that are well formed and together of bulk at most 1048576 the law's function answers true. No macro, syntax, notation, axiom, sorry.
-/
import Derived.Test.YtciipbdhibkkcaaPNx3
import Derived.Test.YtciipbdhibkkcaaOpn
namespace Go.Proofs.Ytciipbdhibkkcaa.PureSaid
open Go.RowKit Go.Proofs.Ytciipbdhibkkcaa.PN Go.Proofs.YtciipbdhibkkcaaW.PrintWords Go.Proofs.YtciipbdhibkkcaaW.PrintLast
set_option linter.unusedVariables false
def NumBack : Prop := ∀ (l0 : (List Int)) (l1 : (List Int)) (l2 : (List Int)), (∀ y ∈ l0, (Lit.int .u16 y).wf = true) → l0.length ≤ maxLen → (∀ y ∈ l1, (Lit.int .u32 y).wf = true) → l1.length ≤ maxLen → (∀ y ∈ l2, (Lit.int .u8 y).wf = true) → l2.length ≤ maxLen → (opn.bs (fun _ => 1)) l0 + (opn.bs (fun _ => 1)) l1 + (opn.bs (fun _ => 1)) l2 ≤ 1048576 → ∃ k, bolterlaw01_NumBack.f k l0 l1 l2 = some true
end Go.Proofs.Ytciipbdhibkkcaa.PureSaid
