/- part of a proof; what it has no use for was struck out -/
import Derived.Test.YtnikfeaggppmpaaWAll
import Derived.Lib.Hide
import Derived.WalkKit
import Derived.RegionTactic
import Derived.ChangeAlike
import Derived.Outline
namespace Go.Proofs.Ytnikfeaggppmpaa.Heap
open Go.RowKit Go.Proofs.YtnikfeaggppmpaaW.PrintWords Go.Proofs.YtnikfeaggppmpaaW.PrintLast
set_option linter.unusedVariables false
set_option linter.unusedSimpArgs false
section
variable {w : World} {g : Nat} {t : TypeId}
theorem put2 {a0 a1 b0 b1 : Value} (k : w.heap[g]? = some (.cells #[a0, a1] t (0, 0))) : ((w.setCell ⟨g, 0, none⟩ b0).setCell ⟨g, 1, none⟩ b1).heap[g]? = some (.cells #[b0, b1] t (0, 0)) := by
  have h := (blk_set (blk_set k 0 b0) 1 b1)
  simpa using h
theorem put16 {a0 a1 a2 a3 a4 a5 a6 a7 a8 a9 a10 a11 a12 a13 a14 a15 b0 b1 b2 b3 b4 b5 b6 b7 b8 b9 b10 b11 b12 b13 b14 b15 : Value} (k : w.heap[g]? = some (.cells #[a0, a1, a2, a3, a4, a5, a6, a7, a8, a9, a10, a11, a12, a13, a14, a15] t (0, 0))) : ((((((((((((((((w.setCell ⟨g, 0, none⟩ b0).setCell ⟨g, 1, none⟩ b1).setCell ⟨g, 2, none⟩ b2).setCell ⟨g, 3, none⟩ b3).setCell ⟨g, 4, none⟩ b4).setCell ⟨g, 5, none⟩ b5).setCell ⟨g, 6, none⟩ b6).setCell ⟨g, 7, none⟩ b7).setCell ⟨g, 8, none⟩ b8).setCell ⟨g, 9, none⟩ b9).setCell ⟨g, 10, none⟩ b10).setCell ⟨g, 11, none⟩ b11).setCell ⟨g, 12, none⟩ b12).setCell ⟨g, 13, none⟩ b13).setCell ⟨g, 14, none⟩ b14).setCell ⟨g, 15, none⟩ b15).heap[g]? = some (.cells #[b0, b1, b2, b3, b4, b5, b6, b7, b8, b9, b10, b11, b12, b13, b14, b15] t (0, 0)) := by
  have h := (blk_set (blk_set (blk_set (blk_set (blk_set (blk_set (blk_set (blk_set (blk_set (blk_set (blk_set (blk_set (blk_set (blk_set (blk_set (blk_set k 0 b0) 1 b1) 2 b2) 3 b3) 4 b4) 5 b5) 6 b6) 7 b7) 8 b8) 9 b9) 10 b10) 11 b11) 12 b12) 13 b13) 14 b14) 15 b15)
  simpa using h
end
theorem scal_at {α : Type} {enc : α → Value} {h1 : ∀ x, (enc x).oneCell' = true} {w : World} {A : Option Addr} {n : Nat} {xs : List α} (h : (Kd.scalar enc h1).C w A n xs) (j : Nat) (x : α) (hx : xs[j]? = some x) :
    ∃ ad, A = some ad ∧ w.cell? (ad.add j) = some (enc x) := by
  have hj : j < xs.length := (List.getElem?_eq_some_iff.1 hx).1
  obtain ⟨ad, ha, hc⟩ := h.2.2 (by have := h.1; omega)
  obtain ⟨cs, hcs⟩ := hc j x hx
  refine ⟨ad, ha, ?_⟩
  obtain ⟨e1, e2, e3⟩ := hcs
  have e4 : cs = [enc x] := e2
  subst e4
  have := e3 0 (enc x) rfl
  rwa [show j * (Kd.scalar enc h1).sz + 0 = j by show j * 1 + 0 = j; omega] at this
end Go.Proofs.Ytnikfeaggppmpaa.Heap
