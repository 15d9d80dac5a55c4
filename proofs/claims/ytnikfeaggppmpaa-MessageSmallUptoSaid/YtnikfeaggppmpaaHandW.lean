/- part of a proof; what it has no use for was struck out -/
import Derived.Test.YtnikfeaggppmpaaWAll
import Derived.Lib.SlBytesConst
import Derived.Lib.ConvBytes
import Derived.WalkKit
namespace Go.Proofs.YtnikfeaggppmpaaW.HandW
open Go.RowKit Go.Proofs.YtnikfeaggppmpaaW.PrintWords
set_option linter.unusedVariables false
theorem bytes_world (w : World) (e : TypeId) (s : ByteArray) :
    ∃ (W : World) (c : Nat), (∀ (P : Program) (src dst : TypeId) (u : TypeDesc), P.underlying src = some u → P.underlying dst = some (.slice e) → P.underlying e = some (.int .u8) →
      (convert src dst (.string s)).run P w = .ok (.slice (some ⟨w.heap.size, 0, none⟩) s.size c) W) ∧ s.size ≤ c ∧ Below w.heap.size w W ∧ w.heap.size < W.heap.size ∧
      (∀ j, j < s.size → W.cell? ⟨w.heap.size, j, none⟩ = some (.int .u8 (bt s j))) ∧ (∀ j, j < s.size → W.frozen? ⟨w.heap.size, j, none⟩ = false) := by
  refine ⟨Go.Lib.bytesWorld w e s, grownCap w s.size 0 e, fun P src dst u h1 h2 h3 => Go.Lib.run_convert_string_bytes w src dst e s h1 h2 h3, ?_, ?_, ?_, ?_, ?_⟩
  · exact grownCap_ge w s.size 0 e
  · refine ⟨?_, ?_, ?_, ?_, ?_⟩
    · unfold Go.Lib.bytesWorld World.freeze
      split <;> rfl
    · unfold Go.Lib.bytesWorld World.freeze
      split <;> rfl
    · unfold Go.Lib.bytesWorld World.freeze
      split <;> rfl
    · rw [Go.Lib.bytesWorld_size]; omega
    · intro i hi
      exact Go.Lib.bytesWorld_at_old w e s i hi
  · rw [Go.Lib.bytesWorld_size]; omega
  · intro j hj
    rw [Go.Lib.bytesWorld_cell w e s j hj]
    congr 2
    have hd : j < s.data.toList.length := by simpa using hj
    simp only [bt, Int.toNat_natCast, hj, dif_pos]
    rw [List.getD_eq_getElem?_getD, List.getElem?_eq_getElem hd]
    simp
    rfl
  · intro j hj
    have hb := Go.Lib.bytesWorld_at_new w e s
    have hc : s.size ≤ (Go.Lib.bytesCells w e s).size := by
      unfold Go.Lib.bytesCells
      rw [Array.size_append, Array.size_map]
      exact Nat.le_add_right _ _
    simp only [World.frozen?, hb]
    simp
    omega
end Go.Proofs.YtnikfeaggppmpaaW.HandW
