/-
  The statement of the law SoaOf about numbers and lists alone: for arguments that are well formed and together of bulk at most 1048576 the law's function answers true. No macro, syntax, notation, axiom, sorry.
-/
import Derived.Test.YtpjdemddflnleaaPBx5
import Derived.Test.YtpjdemddflnleaaOpn
namespace Go.Proofs.Ytpjdemddflnleaa.PureSaid
open Go.RowKit Go.Proofs.Ytpjdemddflnleaa.PB Go.Proofs.YtpjdemddflnleaaW.PrintWords Go.Proofs.YtpjdemddflnleaaW.PrintLast
set_option linter.unusedVariables false
def SoaOf : Prop := ∀ (a0 : (ByteArray × Int × Int × ByteArray)) (l1 : (List Int)) (a2 : Int), ((a0.1.size ≤ maxLen) ∧ ((Lit.int .u16 a0.2.1).wf = true) ∧ ((Lit.int .u32 a0.2.2.1).wf = true) ∧ a0.2.2.2.size ≤ maxLen) → (∀ y ∈ l1, (Lit.int .u8 y).wf = true) → l1.length ≤ maxLen → ((Lit.int .u32 a2).wf = true) → (fun x : (ByteArray × Int × Int × ByteArray) => (fun s => s.size + 1) x.1 + ((fun _ => 1) x.2.1 + ((fun _ => 1) x.2.2.1 + (fun s => s.size + 1) x.2.2.2)) + 1) a0 + (opn.bs (fun _ => 1)) l1 + (fun _ => 1) a2 ≤ 1048576 → ∃ k, bolterlaw07_SoaOf.f k a0.1 a0.2.1 a0.2.2.1 a0.2.2.2 l1 a2 = some true
end Go.Proofs.Ytpjdemddflnleaa.PureSaid
