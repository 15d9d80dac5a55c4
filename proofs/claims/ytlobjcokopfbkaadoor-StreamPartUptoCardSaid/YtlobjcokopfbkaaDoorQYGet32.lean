/- part of a proof; what it has no use for was struck out -/
import Derived.Test.YtlobjcokopfbkaaDoorPYx6
import Derived.Test.YtlobjcokopfbkaaDoorQYGet16
namespace Go.Proofs.YtlobjcokopfbkaaDoor.QY
open Go.RowKit Go.Proofs.YtlobjcokopfbkaaDoor.PY Go.Proofs.YtlobjcokopfbkaaDoorW.PrintWords Go.Proofs.YtlobjcokopfbkaaDoorW.PrintLast Go.Proofs.YtlobjcokopfbkaaDoor.Base
set_option linter.unusedVariables false
set_option linter.unusedSimpArgs false
theorem get32_in (s : ByteArray) (at_ : Int) (h0 : 0 ≤ at_) (h1 : at_ + 4 ≤ s.size) (hs : s.size ≤ 9223372036854775807) :
    num_Get32.f s at_ = some (((bt s at_ * 256 + bt s (at_ + 1)) * 256 + bt s (at_ + 2)) * 256 + bt s (at_ + 3), true) := by
  have r0 := bt_range s at_
  have r1 := bt_range s (at_ + 1)
  have r2 := bt_range s (at_ + 2)
  have r3 := bt_range s (at_ + 3)
  unfold num_Get32.f
  rw [get16_in s at_ h0 (by omega) hs, w64 (by omega) (by omega), get16_in s (at_ + 2) (by omega) (by omega) hs]
  simp only [Option.bind_some, if_true]
  rw [show at_ + 2 + 1 = at_ + 3 by omega, show (bt s at_ * 256 + bt s (at_ + 1)) % 4294967296 = bt s at_ * 256 + bt s (at_ + 1) by omega, show (bt s (at_ + 2) * 256 + bt s (at_ + 3)) % 4294967296 = bt s (at_ + 2) * 256 + bt s (at_ + 3) by omega,
    show (bt s at_ * 256 + bt s (at_ + 1)) * 65536 % 4294967296 = (bt s at_ * 256 + bt s (at_ + 1)) * 65536 by omega, or32 (by omega) (by omega) (by omega) (by omega)]
  congr 2
  omega
end Go.Proofs.YtlobjcokopfbkaaDoor.QY
