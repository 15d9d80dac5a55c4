/- part of a proof; what it has no use for was struck out -/
import Derived.Test.YtnikfeaggppmpaaDoorPMx7
import Derived.Test.YtnikfeaggppmpaaDoorQMGet16
namespace Go.Proofs.YtnikfeaggppmpaaDoor.QM
open Go.RowKit Go.Proofs.YtnikfeaggppmpaaDoor.PM Go.Proofs.YtnikfeaggppmpaaDoorW.PrintWords Go.Proofs.YtnikfeaggppmpaaDoorW.PrintLast Go.Proofs.YtnikfeaggppmpaaDoor.Base
set_option linter.unusedVariables false
set_option linter.unusedSimpArgs false
theorem get32_in (s : ByteArray) (at_ : Int) (h0 : 0 ≤ at_) (h1 : at_ + 4 ≤ s.size) (hs : s.size ≤ 9223372036854775807) :
    num_Get32.f s at_ = some (((bt s at_ * 256 + bt s (at_ + 1)) * 256 + bt s (at_ + 2)) * 256 + bt s (at_ + 3), true) := by
  have r0 := bt_range s at_
  have r1 := bt_range s (at_ + 1)
  have r2 := bt_range s (at_ + 2)
  have r3 := bt_range s (at_ + 3)
  unfold num_Get32.f
  rw [get16_in s at_ h0 (by omega) hs, w64 (by omega) (by omega), get16_in s (at_ + 2) (by omega) (by omega) hs]
  simp only [Option.bind_some, if_true]
  rw [show at_ + 2 + 1 = at_ + 3 by omega, show (bt s at_ * 256 + bt s (at_ + 1)) % 4294967296 = bt s at_ * 256 + bt s (at_ + 1) by omega, show (bt s (at_ + 2) * 256 + bt s (at_ + 3)) % 4294967296 = bt s (at_ + 2) * 256 + bt s (at_ + 3) by omega,
    show (bt s at_ * 256 + bt s (at_ + 1)) * 65536 % 4294967296 = (bt s at_ * 256 + bt s (at_ + 1)) * 65536 by omega, or32 (by omega) (by omega) (by omega) (by omega)]
  congr 2
  omega
theorem get32_out (s : ByteArray) (at_ : Int) (h : at_ < 0 ∨ (s.size : Int) < at_ + 4) (ha : -9223372036854775808 ≤ at_ ∧ at_ ≤ 9223372036854775807) (hs : s.size ≤ 4611686018427387904) : num_Get32.f s at_ = some (0, false) := by
  have hw : wrap64 (at_ + 2) = at_ + 2 ∨ wrap64 (at_ + 2) < 0 := by
    unfold wrap64
    omega
  unfold num_Get32.f
  by_cases h0 : at_ < 0 ∨ (s.size : Int) < at_ + 2
  · rw [get16_out s at_ h0 (by omega)]
    by_cases h1 : wrap64 (at_ + 2) < 0 ∨ (s.size : Int) < wrap64 (at_ + 2) + 2
    · rw [get16_out s _ h1 (by omega)]
      simp
    · rw [get16_in s _ (by omega) (by omega) (by omega)]
      simp
  · rw [get16_in s at_ (by omega) (by omega) (by omega), get16_out s _ (by omega) (by omega)]
    simp
end Go.Proofs.YtnikfeaggppmpaaDoor.QM
