/- part of a proof; what it has no use for was struck out -/
import Derived.Test.YtnikfeaggppmpaaDoorPMx6
import Derived.Test.YtnikfeaggppmpaaDoorQMBe
namespace Go.Proofs.YtnikfeaggppmpaaDoor.QM
open Go.RowKit Go.Proofs.YtnikfeaggppmpaaDoor.PM Go.Proofs.YtnikfeaggppmpaaDoorW.PrintWords Go.Proofs.YtnikfeaggppmpaaDoorW.PrintLast Go.Proofs.YtnikfeaggppmpaaDoor.Base
set_option linter.unusedVariables false
set_option linter.unusedSimpArgs false
theorem get16_out (s : ByteArray) (at_ : Int) (h : at_ < 0 ∨ (s.size : Int) < at_ + 2) (hs : s.size ≤ 9223372036854775807) : num_Get16.f s at_ = some (0, false) := by
  unfold num_Get16.f
  by_cases h0 : at_ < 0
  · rw [if_pos h0]
  · rw [if_neg h0, if_pos (by rw [w64 (by omega) (by omega)]; omega)]
theorem get16_in (s : ByteArray) (at_ : Int) (h0 : 0 ≤ at_) (h1 : at_ + 2 ≤ s.size) (hs : s.size ≤ 9223372036854775807) : num_Get16.f s at_ = some (bt s at_ * 256 + bt s (at_ + 1), true) := by
  have r0 := bt_range s at_
  have r1 := bt_range s (at_ + 1)
  have e : wrap64 (at_ + 1) = at_ + 1 := w64 (by omega) (by omega)
  unfold num_Get16.f
  rw [if_neg (by omega), if_neg (by rw [w64 (by omega) (by omega)]; omega), if_pos h0, if_pos (by omega), e, if_pos (by omega), if_pos (by omega)]
  simp only [IntKind.wrap_u16]
  rw [show bt s at_ % 65536 = bt s at_ by omega, show bt s (at_ + 1) % 65536 = bt s (at_ + 1) by omega, show bt s at_ * 256 % 65536 = bt s at_ * 256 by omega, or16 (by omega) (by omega) (by omega) (by omega)]
end Go.Proofs.YtnikfeaggppmpaaDoor.QM
