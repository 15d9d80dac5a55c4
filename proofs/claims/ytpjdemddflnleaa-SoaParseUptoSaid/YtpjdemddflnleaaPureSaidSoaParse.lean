/-
  The statement of the law SoaParse about numbers and lists alone: for arguments that are well formed and together of bulk at most 1048576 the law's function answers true. No macro, syntax, notation, axiom, sorry.
-/
import Derived.Test.YtpjdemddflnleaaPAx4
import Derived.Test.YtpjdemddflnleaaOpn
namespace Go.Proofs.Ytpjdemddflnleaa.PureSaid
open Go.RowKit Go.Proofs.Ytpjdemddflnleaa.PA Go.Proofs.YtpjdemddflnleaaW.PrintWords Go.Proofs.YtpjdemddflnleaaW.PrintLast
set_option linter.unusedVariables false
def SoaParse : Prop := ∀ (a0 : ByteArray), (a0.size ≤ maxLen) → (fun s => s.size + 1) a0 ≤ 1048576 → bolterlaw07_SoaParse.f a0 = some true
end Go.Proofs.Ytpjdemddflnleaa.PureSaid
