/- part of a proof; what it has no use for was struck out -/
import Derived.Test.YtlobjcokopfbkaaDoorBase
namespace Go.Proofs.YtlobjcokopfbkaaDoor.QY
open Go.RowKit Go.Proofs.YtlobjcokopfbkaaDoorW.PrintWords Go.Proofs.YtlobjcokopfbkaaDoorW.PrintLast Go.Proofs.YtlobjcokopfbkaaDoor.Base
set_option linter.unusedVariables false
set_option linter.unusedSimpArgs false
def be32 (n : Int) : List Int := [n / 16777216 % 256, n / 65536 % 256, n / 256 % 256, n % 256]
def all32 (ns : List Int) : List Int := ns.flatMap be32
theorem all32_append (a b : List Int) : all32 (a ++ b) = all32 a ++ all32 b := List.flatMap_append
theorem all32_cons (n : Int) (r : List Int) : all32 (n :: r) = be32 n ++ all32 r := rfl
theorem all32_len (ns : List Int) : (all32 ns).length = 4 * ns.length := by
  induction ns with
  | nil => rfl
  | cons n r ih => rw [all32_cons, List.length_append, ih, List.length_cons]; have : (be32 n).length = 4 := rfl; omega
theorem all32_take (ns : List Int) (i : Nat) (h : i < ns.length) : all32 (ns.take (i + 1)) = all32 (ns.take i) ++ be32 (rd ns i) := by
  rw [List.take_succ_eq_append_getElem h, rd_nat ns i h, all32_append]
  rfl
end Go.Proofs.YtlobjcokopfbkaaDoor.QY
