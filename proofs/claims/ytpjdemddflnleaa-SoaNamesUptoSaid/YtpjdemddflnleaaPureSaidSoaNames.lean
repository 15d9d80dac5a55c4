/-
  The statement of the law SoaNames about numbers and lists alone: for arguments that are well formed and together of bulk at most 1048576 the law's function answers true. No macro, syntax, notation, axiom, sorry.
-/
import Derived.Test.YtpjdemddflnleaaPSx2
import Derived.Test.YtpjdemddflnleaaOpn
namespace Go.Proofs.Ytpjdemddflnleaa.PureSaid
open Go.RowKit Go.Proofs.Ytpjdemddflnleaa.PS Go.Proofs.YtpjdemddflnleaaW.PrintWords Go.Proofs.YtpjdemddflnleaaW.PrintLast
set_option linter.unusedVariables false
def SoaNames : Prop := ∀ (a0 : ByteArray) (a1 : ByteArray), (a0.size ≤ maxLen) → (a1.size ≤ maxLen) → (fun s => s.size + 1) a0 + (fun s => s.size + 1) a1 ≤ 1048576 → ∃ k, bolterlaw07_SoaNames.f k a0 a1 = some true
end Go.Proofs.Ytpjdemddflnleaa.PureSaid
