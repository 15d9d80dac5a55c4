/-
  The statement of the law NumOrder about numbers and lists alone: for arguments that are well formed and together of bulk at most 1048576 the law's function answers true. No macro, syntax, notation, axiom, sorry.
-/
import Derived.Test.YtciipbdhibkkcaaPOx2
import Derived.Test.YtciipbdhibkkcaaOpn
namespace Go.Proofs.Ytciipbdhibkkcaa.PureSaid
open Go.RowKit Go.Proofs.Ytciipbdhibkkcaa.PO Go.Proofs.YtciipbdhibkkcaaW.PrintWords Go.Proofs.YtciipbdhibkkcaaW.PrintLast
set_option linter.unusedVariables false
def NumOrder : Prop := ∀ (a0 : Int) (a1 : Int) (a2 : Int) (a3 : Int), ((Lit.int .u32 a0).wf = true) → ((Lit.int .u32 a1).wf = true) → ((Lit.int .u16 a2).wf = true) → ((Lit.int .u16 a3).wf = true) → (fun _ => 1) a0 + (fun _ => 1) a1 + (fun _ => 1) a2 + (fun _ => 1) a3 ≤ 1048576 → ∃ k, bolterlaw01_NumOrder.f k a0 a1 a2 a3 = some true
end Go.Proofs.Ytciipbdhibkkcaa.PureSaid
