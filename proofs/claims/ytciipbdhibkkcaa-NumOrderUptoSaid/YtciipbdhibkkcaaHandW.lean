/-
  Words for contracts that this session proves by hand: rows made of a constant or of a string (they bear the run-time's mark behind their last cell), read. No macro, syntax, notation, axiom, sorry.
-/
import Derived.Test.YtciipbdhibkkcaaWMore
import Derived.Lib.SlBytesConst
import Derived.Lib.ConvBytes
import Derived.WalkKit
namespace Go.Proofs.YtciipbdhibkkcaaW.HandW
open Go.RowKit Go.Proofs.YtciipbdhibkkcaaW.PrintWords
set_option linter.unusedVariables false

/-- A row of bytes in a block of its own, whatever mark it bears, reads as its bytes. -/
theorem marked_C (w : World) (E : TypeId) (l : List Int) (fr : Nat × Nat) (hl : l.length ≤ 9223372036854775807) :
    Kd.C (Kd.int .u8) (w.alloc (.cells (nums .u8 l).toArray E fr)) (some ⟨w.heap.size, 0, none⟩) l.length l := by
  refine ⟨rfl, hl, fun hn => ⟨⟨w.heap.size, 0, none⟩, rfl, fun j p hj => ⟨[.int .u8 p], rfl, rfl, fun i u hu => ?_⟩⟩⟩
  have hi : i = 0 := by
    have := (List.getElem?_eq_some_iff.1 hu).1
    simp at this
    exact this
  subst hi
  have hu' : u = .int .u8 p := by simpa using hu.symm
  subst hu'
  have hb : (w.alloc (.cells (nums .u8 l).toArray E fr)).heap[w.heap.size]? = some (.cells (nums .u8 l).toArray E fr) := by
    show (w.heap.push _)[w.heap.size]? = _
    simp
  have ha : ((⟨w.heap.size, 0, none⟩ : Addr).add (j * 1 + 0)) = ⟨w.heap.size, j, none⟩ := by
    cases j <;> simp [Addr.add]
  show (w.alloc (.cells (nums .u8 l).toArray E fr)).cell? ((⟨w.heap.size, 0, none⟩ : Addr).add (j * 1 + 0)) = _
  rw [ha]
  simp only [World.cell?]
  rw [hb]
  simp [nums, hj]
end Go.Proofs.YtciipbdhibkkcaaW.HandW
