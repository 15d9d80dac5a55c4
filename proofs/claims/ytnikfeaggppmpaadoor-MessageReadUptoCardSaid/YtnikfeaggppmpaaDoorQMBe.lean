/- part of a proof; what it has no use for was struck out -/
import Derived.Test.YtnikfeaggppmpaaDoorBase
namespace Go.Proofs.YtnikfeaggppmpaaDoor.QM
open Go.RowKit Go.Proofs.YtnikfeaggppmpaaDoorW.PrintWords Go.Proofs.YtnikfeaggppmpaaDoorW.PrintLast Go.Proofs.YtnikfeaggppmpaaDoor.Base
set_option linter.unusedVariables false
set_option linter.unusedSimpArgs false
def be16 (n : Int) : List Int := [n / 256 % 256, n % 256]
theorem be16_b8 (n : Int) : B8 (be16 n) := B8.cons (by omega) (by omega) (B8.cons (by omega) (by omega) B8.nil)
theorem be16_len (n : Int) : (be16 n).length = 2 := rfl
def all16 (ns : List Int) : List Int := ns.flatMap be16
theorem all16_append (a b : List Int) : all16 (a ++ b) = all16 a ++ all16 b := List.flatMap_append
theorem all16_cons (n : Int) (r : List Int) : all16 (n :: r) = be16 n ++ all16 r := rfl
theorem all16_len (ns : List Int) : (all16 ns).length = 2 * ns.length := by
  induction ns with
  | nil => rfl
  | cons n r ih => rw [all16_cons, List.length_append, ih, List.length_cons]; have : (be16 n).length = 2 := rfl; omega
theorem all16_b8 (ns : List Int) : B8 (all16 ns) := fun y hy => by
  obtain ⟨n, _, h⟩ := List.mem_flatMap.1 hy
  exact be16_b8 n y h
theorem all16_take (ns : List Int) (i : Nat) (h : i < ns.length) : all16 (ns.take (i + 1)) = all16 (ns.take i) ++ be16 (rd ns i) := by
  rw [List.take_succ_eq_append_getElem h, rd_nat ns i h, all16_append]
  rfl
def be32 (n : Int) : List Int := [n / 16777216 % 256, n / 65536 % 256, n / 256 % 256, n % 256]
theorem be32_b8 (n : Int) : B8 (be32 n) := B8.cons (by omega) (by omega) (B8.cons (by omega) (by omega) (B8.cons (by omega) (by omega) (B8.cons (by omega) (by omega) B8.nil)))
def all32 (ns : List Int) : List Int := ns.flatMap be32
theorem all32_append (a b : List Int) : all32 (a ++ b) = all32 a ++ all32 b := List.flatMap_append
theorem all32_cons (n : Int) (r : List Int) : all32 (n :: r) = be32 n ++ all32 r := rfl
theorem all32_len (ns : List Int) : (all32 ns).length = 4 * ns.length := by
  induction ns with
  | nil => rfl
  | cons n r ih => rw [all32_cons, List.length_append, ih, List.length_cons]; have : (be32 n).length = 4 := rfl; omega
theorem all32_b8 (ns : List Int) : B8 (all32 ns) := fun y hy => by
  obtain ⟨n, _, h⟩ := List.mem_flatMap.1 hy
  exact be32_b8 n y h
theorem all32_take (ns : List Int) (i : Nat) (h : i < ns.length) : all32 (ns.take (i + 1)) = all32 (ns.take i) ++ be32 (rd ns i) := by
  rw [List.take_succ_eq_append_getElem h, rd_nat ns i h, all32_append]
  rfl
end Go.Proofs.YtnikfeaggppmpaaDoor.QM
