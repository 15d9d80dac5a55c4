/-
  The law PendingScript about numbers and lists alone.
-/
import Derived.Test.YtecpginkacaebaaDoorPureSaidPendingScript
namespace Go.Proofs.YtecpginkacaebaaDoor.Pure
open Go.RowKit Go.Proofs.YtecpginkacaebaaDoor.PP Go.Proofs.YtecpginkacaebaaDoorW.PrintWords Go.Proofs.YtecpginkacaebaaDoorW.PrintLast Go.Proofs.YtecpginkacaebaaDoor.Base

theorem wfA {x : LAct} (h : ((Lit.int .u8 x.1).wf = true) ∧ ((Lit.int .u8 x.2.1).wf = true) ∧ ((∀ y ∈ x.2.2.1, (Lit.int .u8 y).wf = true) ∧ x.2.2.1.length ≤ maxLen) ∧ ((Lit.int .u8 x.2.2.2.1).wf = true) ∧ (Lit.int .i8 x.2.2.2.2).wf = true) (hn : x.2.2.1.length ≤ 1048576) : WfA x := by
  obtain ⟨g0, g1, ⟨g2, _⟩, g3, g4⟩ := h
  have b0 := bounds_u8 g0
  have b1 := bounds_u8 g1
  have b3 := bounds_u8 g3
  simp [Lit.wf, IntKind.min, IntKind.max, IntKind.signed, IntKind.bits] at g4
  exact ⟨⟨by omega, by omega⟩, ⟨by omega, by omega⟩, ⟨B8.of_wf g2, hn⟩, ⟨by omega, by omega⟩, ⟨by omega, by omega⟩⟩
theorem PendingScript : PureSaid.PendingScript := by
  intro l0 hw hl hb
  have hb2 : opn.bs (fun x : LAct => 1 + (1 + (opn.bs (fun _ => 1) x.2.2.1 + (1 + 1))) + 1) l0 ≤ 1048576 := hb
  have h3 := opn.bs_len (fun x : LAct => 1 + (1 + (opn.bs (fun _ => 1) x.2.2.1 + (1 + 1))) + 1) (fun x => Nat.le_add_left 1 _) l0
  unfold bolterlaw26_PendingScript.f
  refine if_pos ⟨fun x hx => wfA (hw x hx) ?_, by omega⟩
  have hm := opn.bs_mem (fun x : LAct => 1 + (1 + (opn.bs (fun _ => 1) x.2.2.1 + (1 + 1))) + 1) hx
  have := opn.bs_one x.2.2.1
  omega

end Go.Proofs.YtecpginkacaebaaDoor.Pure
