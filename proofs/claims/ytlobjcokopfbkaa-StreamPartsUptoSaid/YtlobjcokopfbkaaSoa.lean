/- part of a proof; what it has no use for was struck out -/
import Derived.Test.YtlobjcokopfbkaaCut
import Derived.Test.YtlobjcokopfbkaaQYGet32
import Derived.Test.YtlobjcokopfbkaaQYPut32
import Derived.Test.YtlobjcokopfbkaaPYx4
import Derived.Test.YtlobjcokopfbkaaPYx2
import Derived.Test.YtlobjcokopfbkaaPYx5
namespace Go.Proofs.Ytlobjcokopfbkaa.Soa
open Go.RowKit Go.Proofs.Ytlobjcokopfbkaa.PY Go.Proofs.YtlobjcokopfbkaaW.PrintWords Go.Proofs.YtlobjcokopfbkaaW.PrintLast Go.Proofs.Ytlobjcokopfbkaa.Base Go.Proofs.Ytlobjcokopfbkaa.Nam Go.Proofs.Ytlobjcokopfbkaa.QY
set_option linter.unusedVariables false
set_option linter.unusedSimpArgs false
def num4 (l : List Int) (i : Int) : Int := ((rd l i * 256 + rd l (i + 1)) * 256 + rd l (i + 2)) * 256 + rd l (i + 3)
theorem num4_be (a : List Int) (n : Int) (rest : List Int) (hn : 0 ≤ n ∧ n < 4294967296) : num4 (a ++ (be32 n ++ rest)) a.length = n := by
  have h := fun (j : Int) (hj : 0 ≤ j) => rd_right a (be32 n ++ rest) (i := j) hj
  unfold num4
  rw [show (a.length : Int) = a.length + 0 by omega, h 0 (by omega), show (a.length : Int) + 0 + 1 = a.length + 1 by omega, h 1 (by omega), show (a.length : Int) + 0 + 2 = a.length + 2 by omega, h 2 (by omega), show (a.length : Int) + 0 + 3 = a.length + 3 by omega, h 3 (by omega)]
  show ((n / 16777216 % 256 * 256 + n / 65536 % 256) * 256 + n / 256 % 256) * 256 + n % 256 = n
  omega
def soaR (p : List Int × List Int × List Int × Bool) : ByteArray × ByteArray × Int × Int × Int × Int × Int × Bool :=
  if p.2.2.2 = true then (strOfNums p.1, strOfNums p.2.1, num4 p.2.2.1 0, num4 p.2.2.1 4, num4 p.2.2.1 8, num4 p.2.2.1 12, num4 p.2.2.1 16, true) else (⟨#[]⟩, ⟨#[]⟩, 0, 0, 0, 0, 0, false)
theorem str0 (a : List Int) : strOfNums a ++ (⟨#[0]⟩ : ByteArray) = strOfNums (a ++ [0]) := by rw [str_app]; rfl
end Go.Proofs.Ytlobjcokopfbkaa.Soa
