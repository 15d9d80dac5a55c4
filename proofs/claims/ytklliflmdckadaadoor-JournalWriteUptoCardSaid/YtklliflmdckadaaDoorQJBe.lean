/-
  What the functions of package num answer, in plain words. No macro, syntax, notation, axiom, sorry.
-/
import Derived.Test.YtklliflmdckadaaDoorBase
namespace Go.Proofs.YtklliflmdckadaaDoor.QJ
open Go.RowKit Go.Proofs.YtklliflmdckadaaDoorW.PrintWords Go.Proofs.YtklliflmdckadaaDoorW.PrintLast Go.Proofs.YtklliflmdckadaaDoor.Base
set_option linter.unusedVariables false
set_option linter.unusedSimpArgs false

/-- A number's two bytes, the high one first; its four. -/
def be16 (n : Int) : List Int := [n / 256 % 256, n % 256]
theorem be16_b8 (n : Int) : B8 (be16 n) := B8.cons (by omega) (by omega) (B8.cons (by omega) (by omega) B8.nil)
theorem be16_len (n : Int) : (be16 n).length = 2 := rfl
theorem be16_0 (n : Int) : rd (be16 n) 0 = n / 256 % 256 := rfl
theorem be16_1 (n : Int) : rd (be16 n) 1 = n % 256 := rfl
def all16 (ns : List Int) : List Int := ns.flatMap be16
theorem all16_append (a b : List Int) : all16 (a ++ b) = all16 a ++ all16 b := List.flatMap_append
theorem all16_cons (n : Int) (r : List Int) : all16 (n :: r) = be16 n ++ all16 r := rfl
theorem all16_len (ns : List Int) : (all16 ns).length = 2 * ns.length := by
  induction ns with
  | nil => rfl
  | cons n r ih => rw [all16_cons, List.length_append, ih, List.length_cons]; have : (be16 n).length = 2 := rfl; omega
theorem all16_b8 (ns : List Int) : B8 (all16 ns) := fun y hy => by
  obtain ⟨n, _, h⟩ := List.mem_flatMap.1 hy
  exact be16_b8 n y h
theorem all16_take (ns : List Int) (i : Nat) (h : i < ns.length) : all16 (ns.take (i + 1)) = all16 (ns.take i) ++ be16 (rd ns i) := by
  rw [List.take_succ_eq_append_getElem h, rd_nat ns i h, all16_append]
  rfl
/-- What was laid is read. -/
theorem rd16 (b : List Int) (ns : List Int) (i : Nat) (h : i < ns.length) (hn : Lt 65536 ns) : rd (b ++ all16 ns) ((b.length : Int) + 2 * i) = rd ns i / 256 ∧ rd (b ++ all16 ns) ((b.length : Int) + 2 * i + 1) = rd ns i % 256 := by
  have hr := hn _ (rd_mem (l := ns) (i := (i : Int)) (by omega) (by omega))
  have e : all16 ns = all16 (ns.take i) ++ (be16 (rd ns i) ++ all16 (ns.drop (i + 1))) := by
    conv => lhs; rw [← List.take_append_drop (i + 1) ns]
    rw [show all16 (ns.take (i + 1) ++ ns.drop (i + 1)) = all16 (ns.take (i + 1)) ++ all16 (ns.drop (i + 1)) from all16_append _ _, all16_take ns i h, List.append_assoc]
  have hl : (all16 (ns.take i)).length = 2 * i := by rw [all16_len, List.length_take]; omega
  rw [show (b.length : Int) + 2 * i + 1 = b.length + (2 * i + 1) by omega, rd_right b _ (by omega), rd_right b _ (by omega), e, show (2 * (i : Int)) = ((all16 (ns.take i)).length : Int) + 0 by omega, rd_right _ _ (by omega), show ((all16 (ns.take i)).length : Int) + 0 + 1 = ((all16 (ns.take i)).length : Int) + 1 by omega, rd_right _ _ (by omega)]
  have r0 : rd (be16 (rd ns i) ++ all16 (ns.drop (i + 1))) 0 = rd ns i / 256 % 256 := rfl
  have r1 : rd (be16 (rd ns i) ++ all16 (ns.drop (i + 1))) 1 = rd ns i % 256 := rfl
  rw [r0, r1]
  omega
def be32 (n : Int) : List Int := [n / 16777216 % 256, n / 65536 % 256, n / 256 % 256, n % 256]
theorem be32_b8 (n : Int) : B8 (be32 n) := B8.cons (by omega) (by omega) (B8.cons (by omega) (by omega) (B8.cons (by omega) (by omega) (B8.cons (by omega) (by omega) B8.nil)))
theorem be32_len (n : Int) : (be32 n).length = 4 := rfl
theorem be32_0 (n : Int) : rd (be32 n) 0 = n / 16777216 % 256 := rfl
theorem be32_1 (n : Int) : rd (be32 n) 1 = n / 65536 % 256 := rfl
theorem be32_2 (n : Int) : rd (be32 n) 2 = n / 256 % 256 := rfl
theorem be32_3 (n : Int) : rd (be32 n) 3 = n % 256 := rfl
def all32 (ns : List Int) : List Int := ns.flatMap be32
theorem all32_append (a b : List Int) : all32 (a ++ b) = all32 a ++ all32 b := List.flatMap_append
theorem all32_cons (n : Int) (r : List Int) : all32 (n :: r) = be32 n ++ all32 r := rfl
theorem all32_len (ns : List Int) : (all32 ns).length = 4 * ns.length := by
  induction ns with
  | nil => rfl
  | cons n r ih => rw [all32_cons, List.length_append, ih, List.length_cons]; have : (be32 n).length = 4 := rfl; omega
theorem all32_b8 (ns : List Int) : B8 (all32 ns) := fun y hy => by
  obtain ⟨n, _, h⟩ := List.mem_flatMap.1 hy
  exact be32_b8 n y h
theorem all32_take (ns : List Int) (i : Nat) (h : i < ns.length) : all32 (ns.take (i + 1)) = all32 (ns.take i) ++ be32 (rd ns i) := by
  rw [List.take_succ_eq_append_getElem h, rd_nat ns i h, all32_append]
  rfl

theorem rd32 (b : List Int) (ns : List Int) (i : Nat) (h : i < ns.length) (hn : Lt 4294967296 ns) : rd (b ++ all32 ns) ((b.length : Int) + 4 * i) = rd ns i / 16777216 ∧ rd (b ++ all32 ns) ((b.length : Int) + 4 * i + 1) = rd ns i / 65536 % 256 ∧
    rd (b ++ all32 ns) ((b.length : Int) + 4 * i + 2) = rd ns i / 256 % 256 ∧ rd (b ++ all32 ns) ((b.length : Int) + 4 * i + 3) = rd ns i % 256 := by
  have hr := hn _ (rd_mem (l := ns) (i := (i : Int)) (by omega) (by omega))
  have e : all32 ns = all32 (ns.take i) ++ (be32 (rd ns i) ++ all32 (ns.drop (i + 1))) := by
    conv => lhs; rw [← List.take_append_drop (i + 1) ns]
    rw [show all32 (ns.take (i + 1) ++ ns.drop (i + 1)) = all32 (ns.take (i + 1)) ++ all32 (ns.drop (i + 1)) from all32_append _ _, all32_take ns i h, List.append_assoc]
  have hl : (all32 (ns.take i)).length = 4 * i := by rw [all32_len, List.length_take]; omega
  have key : ∀ j : Int, 0 ≤ j → rd (b ++ all32 ns) ((b.length : Int) + 4 * i + j) = rd (be32 (rd ns i) ++ all32 (ns.drop (i + 1))) j := by
    intro j hj
    rw [show (b.length : Int) + 4 * i + j = b.length + (4 * i + j) by omega, rd_right b _ (by omega), e, show (4 * (i : Int) + j) = ((all32 (ns.take i)).length : Int) + j by omega, rd_right _ _ hj]
  refine ⟨?_, ?_, ?_, ?_⟩
  · rw [show (b.length : Int) + 4 * i = b.length + 4 * i + 0 by omega, key 0 (by omega)]
    show rd ns i / 16777216 % 256 = _
    omega
  · rw [key 1 (by omega)]; rfl
  · rw [key 2 (by omega)]; rfl
  · rw [key 3 (by omega)]; rfl
end Go.Proofs.YtklliflmdckadaaDoor.QJ
