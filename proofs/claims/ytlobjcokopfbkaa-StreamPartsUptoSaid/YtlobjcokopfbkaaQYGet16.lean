/- part of a proof; what it has no use for was struck out -/
import Derived.Test.YtlobjcokopfbkaaPYx4
import Derived.Test.YtlobjcokopfbkaaQYBe
namespace Go.Proofs.Ytlobjcokopfbkaa.QY
open Go.RowKit Go.Proofs.Ytlobjcokopfbkaa.PY Go.Proofs.YtlobjcokopfbkaaW.PrintWords Go.Proofs.YtlobjcokopfbkaaW.PrintLast Go.Proofs.Ytlobjcokopfbkaa.Base
set_option linter.unusedVariables false
set_option linter.unusedSimpArgs false
end Go.Proofs.Ytlobjcokopfbkaa.QY
