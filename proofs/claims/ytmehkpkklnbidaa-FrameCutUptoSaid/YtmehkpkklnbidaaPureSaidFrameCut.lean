/-
  The statement of the law FrameCut about numbers and lists alone: for arguments that are well formed and together of bulk at most 1048576 the law's function answers true. No macro, syntax, notation, axiom, sorry.
-/
import Derived.Test.YtmehkpkklnbidaaPCx2
import Derived.Test.YtmehkpkklnbidaaOpn
namespace Go.Proofs.Ytmehkpkklnbidaa.PureSaid
open Go.RowKit Go.Proofs.Ytmehkpkklnbidaa.PC Go.Proofs.YtmehkpkklnbidaaW.PrintWords Go.Proofs.YtmehkpkklnbidaaW.PrintLast
set_option linter.unusedVariables false
def FrameCut : Prop := ∀ (l0 : (List Int)) (l1 : (List Int)) (a2 : Int) (a3 : Int), (∀ y ∈ l0, (Lit.int .u8 y).wf = true) → l0.length ≤ maxLen → (∀ y ∈ l1, (Lit.int .u8 y).wf = true) → l1.length ≤ maxLen → ((Lit.int .u16 a2).wf = true) → ((Lit.int .u8 a3).wf = true) → (opn.bs (fun _ => 1)) l0 + (opn.bs (fun _ => 1)) l1 + (fun _ => 1) a2 + (fun _ => 1) a3 ≤ 1048576 → ∃ k, bolterlaw22_FrameCut.f k l0 l1 a2 a3 = some true
end Go.Proofs.Ytmehkpkklnbidaa.PureSaid
