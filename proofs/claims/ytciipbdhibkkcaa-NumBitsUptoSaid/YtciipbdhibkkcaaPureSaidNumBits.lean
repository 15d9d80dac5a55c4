/-
  The statement of the law NumBits about numbers and lists alone: for arguments that are well formed and together of bulk at most 1048576 the law's function answers true. No macro, syntax, notation, axiom, sorry.
-/
import Derived.Test.YtciipbdhibkkcaaPBx1
import Derived.Test.YtciipbdhibkkcaaOpn
namespace Go.Proofs.Ytciipbdhibkkcaa.PureSaid
open Go.RowKit Go.Proofs.Ytciipbdhibkkcaa.PB Go.Proofs.YtciipbdhibkkcaaW.PrintWords Go.Proofs.YtciipbdhibkkcaaW.PrintLast
set_option linter.unusedVariables false
def NumBits : Prop := ∀ (l0 : (List Bool)) (a1 : Int) (a2 : Int), (∀ y ∈ l0, True) → l0.length ≤ maxLen → ((Lit.int .u16 a1).wf = true) → ((Lit.int .i8 a2).wf = true) → (opn.bs (fun _ => 1)) l0 + (fun _ => 1) a1 + (fun _ => 1) a2 ≤ 1048576 → ∃ k, bolterlaw01_NumBits.f k l0 a1 a2 = some true
end Go.Proofs.Ytciipbdhibkkcaa.PureSaid
