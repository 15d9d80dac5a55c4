/-
  The statement of the law FrameTorn about numbers and lists alone: for arguments that are well formed and together of bulk at most 1048576 the law's function answers true. No macro, syntax, notation, axiom, sorry.
-/
import Derived.Test.YtmehkpkklnbidaaPUx2
import Derived.Test.YtmehkpkklnbidaaOpn
namespace Go.Proofs.Ytmehkpkklnbidaa.PureSaid
open Go.RowKit Go.Proofs.Ytmehkpkklnbidaa.PU Go.Proofs.YtmehkpkklnbidaaW.PrintWords Go.Proofs.YtmehkpkklnbidaaW.PrintLast
set_option linter.unusedVariables false
def FrameTorn : Prop := ∀ (l0 : (List Int)) (a1 : Int), (∀ y ∈ l0, (Lit.int .u8 y).wf = true) → l0.length ≤ maxLen → ((Lit.int .u16 a1).wf = true) → (opn.bs (fun _ => 1)) l0 + (fun _ => 1) a1 ≤ 1048576 → ∃ k, bolterlaw22_FrameTorn.f k l0 a1 = some true
end Go.Proofs.Ytmehkpkklnbidaa.PureSaid
