/-
  The law DeviceOwn about numbers and lists alone: within the bound its function answers.
-/
import Derived.Test.YtkicgmhbcldbbaaPureSaidDeviceOwn
namespace Go.Proofs.Ytkicgmhbcldbbaa.Pure
open Go.RowKit Go.Proofs.Ytkicgmhbcldbbaa.PD Go.Proofs.YtkicgmhbcldbbaaW.PrintWords

theorem DeviceOwn : PureSaid.DeviceOwn := by
  intro l0 a1 hw hm ha hb
  unfold bolterlaw23_DeviceOwn.f
  have h := opn.bs_one l0
  rw [if_pos (by omega)]

end Go.Proofs.Ytkicgmhbcldbbaa.Pure
