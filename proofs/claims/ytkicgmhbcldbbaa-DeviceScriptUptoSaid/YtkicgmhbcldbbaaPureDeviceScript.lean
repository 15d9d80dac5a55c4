/-
  The law DeviceScript about numbers and lists alone: within the bound its function answers.
-/
import Derived.Test.YtkicgmhbcldbbaaPureSaidDeviceScript
namespace Go.Proofs.Ytkicgmhbcldbbaa.Pure
open Go.RowKit Go.Proofs.Ytkicgmhbcldbbaa.PD Go.Proofs.YtkicgmhbcldbbaaW.PrintWords Go.Proofs.YtkicgmhbcldbbaaW.PrintLast

theorem DeviceScript_sum (l : List Deed) : bulk l + l.length + 1 ≤ opn.bs (fun x : Deed => (fun _ => 1) x.f0 + ((opn.bs (fun _ => 1)) x.f1 + (fun _ => 1) x.f2) + 1) l := by
  induction l with
  | nil => simp [opn.bs, bulk]
  | cons x r ih =>
    rw [opn.bs_cons]
    have e : bulk (x :: r) = x.f1.length + bulk r := by simp [bulk]
    have h1 := opn.bs_one x.f1
    rw [e, List.length_cons, show opn.bs (fun x : Deed => (fun _ => 1) x.f0 + ((opn.bs (fun _ => 1)) x.f1 + (fun _ => 1) x.f2) + 1) r = opn.bs (fun x : Deed => 1 + (opn.bs (fun _ => 1) x.f1 + 1) + 1) r from rfl, h1]
    have ih' : bulk r + r.length + 1 ≤ opn.bs (fun x : Deed => 1 + (opn.bs (fun _ => 1) x.f1 + 1) + 1) r := ih
    show _ ≤ 1 + (x.f1.length + 1 + 1) + 1 + _
    omega

theorem DeviceScript : PureSaid.DeviceScript := by
  intro l0 hw hm hb
  unfold bolterlaw23_DeviceScript.f
  have h : bulk l0 + l0.length + 1 ≤ 1048576 := Nat.le_trans (DeviceScript_sum l0) hb
  refine if_pos ⟨by omega, by omega, fun a ha => ?_⟩
  have h0 := hw a ha
  have h1 := bounds_u8 h0.1
  have h2 := bounds_i8 h0.2.2
  omega

end Go.Proofs.Ytkicgmhbcldbbaa.Pure
