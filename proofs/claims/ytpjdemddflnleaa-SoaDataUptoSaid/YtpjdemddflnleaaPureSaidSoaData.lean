/-
  The statement of the law SoaData about numbers and lists alone: for arguments that are well formed and together of bulk at most 1048576 the law's function answers true. No macro, syntax, notation, axiom, sorry.
-/
import Derived.Test.YtpjdemddflnleaaPBx7
import Derived.Test.YtpjdemddflnleaaOpn
namespace Go.Proofs.Ytpjdemddflnleaa.PureSaid
open Go.RowKit Go.Proofs.Ytpjdemddflnleaa.PB Go.Proofs.YtpjdemddflnleaaW.PrintWords Go.Proofs.YtpjdemddflnleaaW.PrintLast
set_option linter.unusedVariables false
def SoaData : Prop := ∀ (l0 : (List Int)) (l1 : (List Int)) (a2 : Int) (a3 : Int) (a4 : Int) (a5 : Int), (∀ y ∈ l0, (Lit.int .u8 y).wf = true) → l0.length ≤ maxLen → (∀ y ∈ l1, (Lit.int .u8 y).wf = true) → l1.length ≤ maxLen → ((Lit.int .u32 a2).wf = true) → ((Lit.int .u32 a3).wf = true) → ((Lit.int .u32 a4).wf = true) → ((Lit.int .u32 a5).wf = true) → (opn.bs (fun _ => 1)) l0 + (opn.bs (fun _ => 1)) l1 + (fun _ => 1) a2 + (fun _ => 1) a3 + (fun _ => 1) a4 + (fun _ => 1) a5 ≤ 1048576 → ∃ k, bolterlaw07_SoaData.f k l0 l1 a2 a3 a4 a5 = some true
end Go.Proofs.Ytpjdemddflnleaa.PureSaid
