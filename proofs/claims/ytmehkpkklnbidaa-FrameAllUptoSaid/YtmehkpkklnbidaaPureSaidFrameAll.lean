/-
  The statement of the law FrameAll about numbers and lists alone: for arguments that are well formed and together of bulk at most 1048576 the law's function answers true. No macro, syntax, notation, axiom, sorry.
-/
import Derived.Test.YtmehkpkklnbidaaPCx2
import Derived.Test.YtmehkpkklnbidaaOpn
namespace Go.Proofs.Ytmehkpkklnbidaa.PureSaid
open Go.RowKit Go.Proofs.Ytmehkpkklnbidaa.PC Go.Proofs.YtmehkpkklnbidaaW.PrintWords Go.Proofs.YtmehkpkklnbidaaW.PrintLast
set_option linter.unusedVariables false
def FrameAll : Prop := ∀ (l0 : (List (List Int))) (l1 : (List Int)), (∀ y ∈ l0, (∀ yy ∈ y, (Lit.int .u8 yy).wf = true) ∧ y.length ≤ maxLen) → l0.length ≤ maxLen → (∀ y ∈ l1, (Lit.int .u8 y).wf = true) → l1.length ≤ maxLen → (opn.bs (opn.bs (fun _ => 1))) l0 + (opn.bs (fun _ => 1)) l1 ≤ 1048576 → ∃ k, bolterlaw22_FrameAll.f k l0 l1 = some true
end Go.Proofs.Ytmehkpkklnbidaa.PureSaid
