/-
  The statement of the law NumGet about numbers and lists alone: for arguments that are well formed and together of bulk at most 1048576 the law's function answers true. No macro, syntax, notation, axiom, sorry.
-/
import Derived.Test.YtciipbdhibkkcaaPGx1
import Derived.Test.YtciipbdhibkkcaaOpn
namespace Go.Proofs.Ytciipbdhibkkcaa.PureSaid
open Go.RowKit Go.Proofs.Ytciipbdhibkkcaa.PG Go.Proofs.YtciipbdhibkkcaaW.PrintWords Go.Proofs.YtciipbdhibkkcaaW.PrintLast
set_option linter.unusedVariables false
def NumGet : Prop := ∀ (a0 : ByteArray) (a1 : Int), (a0.size ≤ maxLen) → ((Lit.int .i64 a1).wf = true) → (fun s => s.size + 1) a0 + (fun _ => 1) a1 ≤ 1048576 → ∃ k, bolterlaw01_NumGet.f k a0 a1 = some true
end Go.Proofs.Ytciipbdhibkkcaa.PureSaid
