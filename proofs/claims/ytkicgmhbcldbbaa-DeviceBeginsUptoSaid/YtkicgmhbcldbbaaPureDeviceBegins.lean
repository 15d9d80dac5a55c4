/-
  The law DeviceBegins about numbers and lists alone: within the bound its function answers.
-/
import Derived.Test.YtkicgmhbcldbbaaPureSaidDeviceBegins
namespace Go.Proofs.Ytkicgmhbcldbbaa.Pure
open Go.RowKit Go.Proofs.Ytkicgmhbcldbbaa.PD Go.Proofs.YtkicgmhbcldbbaaW.PrintWords Go.Proofs.YtkicgmhbcldbbaaW.PrintLast

theorem DeviceBegins_sum (l : List (List Int)) : (l.map List.length).sum + l.length + 1 ≤ opn.bs (opn.bs (fun _ => 1)) l := by
  induction l with
  | nil => simp [opn.bs]
  | cons x r ih =>
    rw [opn.bs_cons, opn.bs_one]
    simp only [List.map_cons, List.sum_cons, List.length_cons]
    omega

theorem DeviceBegins : PureSaid.DeviceBegins := by
  intro l0 a1 hw hm ha hb
  unfold bolterlaw23_DeviceBegins.f
  have h := DeviceBegins_sum l0
  have h1 := bounds_u8 ha
  rw [if_pos ⟨by omega, by omega, by omega, by omega⟩]

end Go.Proofs.Ytkicgmhbcldbbaa.Pure
