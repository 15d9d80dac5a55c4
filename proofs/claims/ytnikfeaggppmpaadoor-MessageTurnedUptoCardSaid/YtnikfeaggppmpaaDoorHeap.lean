/- part of a proof; what it has no use for was struck out -/
import Derived.Test.YtnikfeaggppmpaaDoorWAll
import Derived.Lib.Hide
import Derived.WalkKit
import Derived.RegionTactic
import Derived.ChangeAlike
import Derived.Outline
namespace Go.Proofs.YtnikfeaggppmpaaDoor.Heap
open Go.RowKit Go.Proofs.YtnikfeaggppmpaaDoorW.PrintWords Go.Proofs.YtnikfeaggppmpaaDoorW.PrintLast
set_option linter.unusedVariables false
set_option linter.unusedSimpArgs false
section
variable {w : World} {g : Nat} {t : TypeId}
theorem put2 {a0 a1 b0 b1 : Value} (k : w.heap[g]? = some (.cells #[a0, a1] t (0, 0))) : ((w.setCell ⟨g, 0, none⟩ b0).setCell ⟨g, 1, none⟩ b1).heap[g]? = some (.cells #[b0, b1] t (0, 0)) := by
  have h := (blk_set (blk_set k 0 b0) 1 b1)
  simpa using h
theorem cells4 {a0 a1 a2 a3 : Value} (k : w.heap[g]? = some (.cells #[a0, a1, a2, a3] t (0, 0))) : w.cell? ⟨g, 0, none⟩ = some a0 ∧ w.cell? ⟨g, 1, none⟩ = some a1 ∧ w.cell? ⟨g, 2, none⟩ = some a2 ∧ w.cell? ⟨g, 3, none⟩ = some a3 :=
  ⟨by rw [blk_cell k]; rfl, by rw [blk_cell k]; rfl, by rw [blk_cell k]; rfl, by rw [blk_cell k]; rfl⟩
theorem froz4 {a0 a1 a2 a3 : Value} (k : w.heap[g]? = some (.cells #[a0, a1, a2, a3] t (0, 0))) : w.frozen? ⟨g, 0, none⟩ = false ∧ w.frozen? ⟨g, 1, none⟩ = false ∧ w.frozen? ⟨g, 2, none⟩ = false ∧ w.frozen? ⟨g, 3, none⟩ = false :=
  ⟨blk_frozen k 0, blk_frozen k 1, blk_frozen k 2, blk_frozen k 3⟩
theorem put4 {a0 a1 a2 a3 b0 b1 b2 b3 : Value} (k : w.heap[g]? = some (.cells #[a0, a1, a2, a3] t (0, 0))) : ((((w.setCell ⟨g, 0, none⟩ b0).setCell ⟨g, 1, none⟩ b1).setCell ⟨g, 2, none⟩ b2).setCell ⟨g, 3, none⟩ b3).heap[g]? = some (.cells #[b0, b1, b2, b3] t (0, 0)) := by
  have h := (blk_set (blk_set (blk_set (blk_set k 0 b0) 1 b1) 2 b2) 3 b3)
  simpa using h
theorem putF4 {b0 b1 b2 b3 : Value} {g' : Nat} {o : Obj} (k : w.heap[g']? = some o) (hg : g' ≠ g) : ((((w.setCell ⟨g, 0, none⟩ b0).setCell ⟨g, 1, none⟩ b1).setCell ⟨g, 2, none⟩ b2).setCell ⟨g, 3, none⟩ b3).heap[g']? = some o := by
  exact ((Below.heap_setCell _ ⟨g, 3, none⟩ b3 g' hg).trans ((Below.heap_setCell _ ⟨g, 2, none⟩ b2 g' hg).trans ((Below.heap_setCell _ ⟨g, 1, none⟩ b1 g' hg).trans ((Below.heap_setCell _ ⟨g, 0, none⟩ b0 g' hg).trans k))))
theorem cells14 {a0 a1 a2 a3 a4 a5 a6 a7 a8 a9 a10 a11 a12 a13 : Value} (k : w.heap[g]? = some (.cells #[a0, a1, a2, a3, a4, a5, a6, a7, a8, a9, a10, a11, a12, a13] t (0, 0))) : w.cell? ⟨g, 0, none⟩ = some a0 ∧ w.cell? ⟨g, 1, none⟩ = some a1 ∧ w.cell? ⟨g, 2, none⟩ = some a2 ∧ w.cell? ⟨g, 3, none⟩ = some a3 ∧ w.cell? ⟨g, 4, none⟩ = some a4 ∧ w.cell? ⟨g, 5, none⟩ = some a5 ∧ w.cell? ⟨g, 6, none⟩ = some a6 ∧ w.cell? ⟨g, 7, none⟩ = some a7 ∧ w.cell? ⟨g, 8, none⟩ = some a8 ∧ w.cell? ⟨g, 9, none⟩ = some a9 ∧ w.cell? ⟨g, 10, none⟩ = some a10 ∧ w.cell? ⟨g, 11, none⟩ = some a11 ∧ w.cell? ⟨g, 12, none⟩ = some a12 ∧ w.cell? ⟨g, 13, none⟩ = some a13 :=
  ⟨by rw [blk_cell k]; rfl, by rw [blk_cell k]; rfl, by rw [blk_cell k]; rfl, by rw [blk_cell k]; rfl, by rw [blk_cell k]; rfl, by rw [blk_cell k]; rfl, by rw [blk_cell k]; rfl, by rw [blk_cell k]; rfl, by rw [blk_cell k]; rfl, by rw [blk_cell k]; rfl, by rw [blk_cell k]; rfl, by rw [blk_cell k]; rfl, by rw [blk_cell k]; rfl, by rw [blk_cell k]; rfl⟩
theorem froz14 {a0 a1 a2 a3 a4 a5 a6 a7 a8 a9 a10 a11 a12 a13 : Value} (k : w.heap[g]? = some (.cells #[a0, a1, a2, a3, a4, a5, a6, a7, a8, a9, a10, a11, a12, a13] t (0, 0))) : w.frozen? ⟨g, 0, none⟩ = false ∧ w.frozen? ⟨g, 1, none⟩ = false ∧ w.frozen? ⟨g, 2, none⟩ = false ∧ w.frozen? ⟨g, 3, none⟩ = false ∧ w.frozen? ⟨g, 4, none⟩ = false ∧ w.frozen? ⟨g, 5, none⟩ = false ∧ w.frozen? ⟨g, 6, none⟩ = false ∧ w.frozen? ⟨g, 7, none⟩ = false ∧ w.frozen? ⟨g, 8, none⟩ = false ∧ w.frozen? ⟨g, 9, none⟩ = false ∧ w.frozen? ⟨g, 10, none⟩ = false ∧ w.frozen? ⟨g, 11, none⟩ = false ∧ w.frozen? ⟨g, 12, none⟩ = false ∧ w.frozen? ⟨g, 13, none⟩ = false :=
  ⟨blk_frozen k 0, blk_frozen k 1, blk_frozen k 2, blk_frozen k 3, blk_frozen k 4, blk_frozen k 5, blk_frozen k 6, blk_frozen k 7, blk_frozen k 8, blk_frozen k 9, blk_frozen k 10, blk_frozen k 11, blk_frozen k 12, blk_frozen k 13⟩
theorem put14 {a0 a1 a2 a3 a4 a5 a6 a7 a8 a9 a10 a11 a12 a13 b0 b1 b2 b3 b4 b5 b6 b7 b8 b9 b10 b11 b12 b13 : Value} (k : w.heap[g]? = some (.cells #[a0, a1, a2, a3, a4, a5, a6, a7, a8, a9, a10, a11, a12, a13] t (0, 0))) : ((((((((((((((w.setCell ⟨g, 0, none⟩ b0).setCell ⟨g, 1, none⟩ b1).setCell ⟨g, 2, none⟩ b2).setCell ⟨g, 3, none⟩ b3).setCell ⟨g, 4, none⟩ b4).setCell ⟨g, 5, none⟩ b5).setCell ⟨g, 6, none⟩ b6).setCell ⟨g, 7, none⟩ b7).setCell ⟨g, 8, none⟩ b8).setCell ⟨g, 9, none⟩ b9).setCell ⟨g, 10, none⟩ b10).setCell ⟨g, 11, none⟩ b11).setCell ⟨g, 12, none⟩ b12).setCell ⟨g, 13, none⟩ b13).heap[g]? = some (.cells #[b0, b1, b2, b3, b4, b5, b6, b7, b8, b9, b10, b11, b12, b13] t (0, 0)) := by
  have h := (blk_set (blk_set (blk_set (blk_set (blk_set (blk_set (blk_set (blk_set (blk_set (blk_set (blk_set (blk_set (blk_set (blk_set k 0 b0) 1 b1) 2 b2) 3 b3) 4 b4) 5 b5) 6 b6) 7 b7) 8 b8) 9 b9) 10 b10) 11 b11) 12 b12) 13 b13)
  simpa using h
theorem putB14 {B : Nat} {W : World} {b0 b1 b2 b3 b4 b5 b6 b7 b8 b9 b10 b11 b12 b13 : Value} (h : Below B W w) (hg : B ≤ g) : Below B W ((((((((((((((w.setCell ⟨g, 0, none⟩ b0).setCell ⟨g, 1, none⟩ b1).setCell ⟨g, 2, none⟩ b2).setCell ⟨g, 3, none⟩ b3).setCell ⟨g, 4, none⟩ b4).setCell ⟨g, 5, none⟩ b5).setCell ⟨g, 6, none⟩ b6).setCell ⟨g, 7, none⟩ b7).setCell ⟨g, 8, none⟩ b8).setCell ⟨g, 9, none⟩ b9).setCell ⟨g, 10, none⟩ b10).setCell ⟨g, 11, none⟩ b11).setCell ⟨g, 12, none⟩ b12).setCell ⟨g, 13, none⟩ b13) := by
  exact ((((((((((((((h.setCell (p := ⟨g, 0, none⟩) hg b0).setCell (p := ⟨g, 1, none⟩) hg b1).setCell (p := ⟨g, 2, none⟩) hg b2).setCell (p := ⟨g, 3, none⟩) hg b3).setCell (p := ⟨g, 4, none⟩) hg b4).setCell (p := ⟨g, 5, none⟩) hg b5).setCell (p := ⟨g, 6, none⟩) hg b6).setCell (p := ⟨g, 7, none⟩) hg b7).setCell (p := ⟨g, 8, none⟩) hg b8).setCell (p := ⟨g, 9, none⟩) hg b9).setCell (p := ⟨g, 10, none⟩) hg b10).setCell (p := ⟨g, 11, none⟩) hg b11).setCell (p := ⟨g, 12, none⟩) hg b12).setCell (p := ⟨g, 13, none⟩) hg b13)
theorem put16 {a0 a1 a2 a3 a4 a5 a6 a7 a8 a9 a10 a11 a12 a13 a14 a15 b0 b1 b2 b3 b4 b5 b6 b7 b8 b9 b10 b11 b12 b13 b14 b15 : Value} (k : w.heap[g]? = some (.cells #[a0, a1, a2, a3, a4, a5, a6, a7, a8, a9, a10, a11, a12, a13, a14, a15] t (0, 0))) : ((((((((((((((((w.setCell ⟨g, 0, none⟩ b0).setCell ⟨g, 1, none⟩ b1).setCell ⟨g, 2, none⟩ b2).setCell ⟨g, 3, none⟩ b3).setCell ⟨g, 4, none⟩ b4).setCell ⟨g, 5, none⟩ b5).setCell ⟨g, 6, none⟩ b6).setCell ⟨g, 7, none⟩ b7).setCell ⟨g, 8, none⟩ b8).setCell ⟨g, 9, none⟩ b9).setCell ⟨g, 10, none⟩ b10).setCell ⟨g, 11, none⟩ b11).setCell ⟨g, 12, none⟩ b12).setCell ⟨g, 13, none⟩ b13).setCell ⟨g, 14, none⟩ b14).setCell ⟨g, 15, none⟩ b15).heap[g]? = some (.cells #[b0, b1, b2, b3, b4, b5, b6, b7, b8, b9, b10, b11, b12, b13, b14, b15] t (0, 0)) := by
  have h := (blk_set (blk_set (blk_set (blk_set (blk_set (blk_set (blk_set (blk_set (blk_set (blk_set (blk_set (blk_set (blk_set (blk_set (blk_set (blk_set k 0 b0) 1 b1) 2 b2) 3 b3) 4 b4) 5 b5) 6 b6) 7 b7) 8 b8) 9 b9) 10 b10) 11 b11) 12 b12) 13 b13) 14 b14) 15 b15)
  simpa using h
end
theorem scal_at {α : Type} {enc : α → Value} {h1 : ∀ x, (enc x).oneCell' = true} {w : World} {A : Option Addr} {n : Nat} {xs : List α} (h : (Kd.scalar enc h1).C w A n xs) (j : Nat) (x : α) (hx : xs[j]? = some x) :
    ∃ ad, A = some ad ∧ w.cell? (ad.add j) = some (enc x) := by
  have hj : j < xs.length := (List.getElem?_eq_some_iff.1 hx).1
  obtain ⟨ad, ha, hc⟩ := h.2.2 (by have := h.1; omega)
  obtain ⟨cs, hcs⟩ := hc j x hx
  refine ⟨ad, ha, ?_⟩
  obtain ⟨e1, e2, e3⟩ := hcs
  have e4 : cs = [enc x] := e2
  subst e4
  have := e3 0 (enc x) rfl
  rwa [show j * (Kd.scalar enc h1).sz + 0 = j by show j * 1 + 0 = j; omega] at this
theorem two_boxes (w : World) (o1 o2 : Obj) : ((w.alloc o1).alloc o2).heap[w.heap.size]? = some o1 ∧ ((w.alloc o1).alloc o2).heap[w.heap.size + 1]? = some o2 ∧ ((w.alloc o1).alloc o2).heap.size = w.heap.size + 2 := by
  have e1 : ((w.alloc o1).alloc o2).heap = (w.heap.push o1).push o2 := rfl
  rw [e1]
  refine ⟨?_, ?_, ?_⟩
  · rw [Array.getElem?_push_lt (by rw [Array.size_push]; omega)]; simp
  · rw [show w.heap.size + 1 = (w.heap.push o1).size by rw [Array.size_push]]
    exact Array.getElem?_push_size
  · rw [Array.size_push, Array.size_push]
end Go.Proofs.YtnikfeaggppmpaaDoor.Heap
