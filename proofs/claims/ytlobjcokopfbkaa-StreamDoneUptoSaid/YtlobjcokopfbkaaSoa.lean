/- part of a proof; what it has no use for was struck out -/
import Derived.Test.YtlobjcokopfbkaaCut
import Derived.Test.YtlobjcokopfbkaaQYGet32
import Derived.Test.YtlobjcokopfbkaaQYPut32
import Derived.Test.YtlobjcokopfbkaaPYx4
import Derived.Test.YtlobjcokopfbkaaPYx2
import Derived.Test.YtlobjcokopfbkaaPYx5
namespace Go.Proofs.Ytlobjcokopfbkaa.Soa
open Go.RowKit Go.Proofs.Ytlobjcokopfbkaa.PY Go.Proofs.YtlobjcokopfbkaaW.PrintWords Go.Proofs.YtlobjcokopfbkaaW.PrintLast Go.Proofs.Ytlobjcokopfbkaa.Base Go.Proofs.Ytlobjcokopfbkaa.Nam Go.Proofs.Ytlobjcokopfbkaa.QY
set_option linter.unusedVariables false
set_option linter.unusedSimpArgs false
theorem str0 (a : List Int) : strOfNums a ++ (⟨#[0]⟩ : ByteArray) = strOfNums (a ++ [0]) := by rw [str_app]; rfl
end Go.Proofs.Ytlobjcokopfbkaa.Soa
