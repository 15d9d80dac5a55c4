/-
  The law PendingKeeps about numbers and lists alone.
-/
import Derived.Test.YtecpginkacaebaaPureSaidPendingKeeps
namespace Go.Proofs.Ytecpginkacaebaa.Pure
open Go.RowKit Go.Proofs.Ytecpginkacaebaa.PP Go.Proofs.YtecpginkacaebaaW.PrintWords Go.Proofs.YtecpginkacaebaaW.PrintLast Go.Proofs.Ytecpginkacaebaa.Base

theorem wfA {x : LAct} (h : ((Lit.int .u8 x.1).wf = true) ∧ ((Lit.int .u8 x.2.1).wf = true) ∧ ((∀ y ∈ x.2.2.1, (Lit.int .u8 y).wf = true) ∧ x.2.2.1.length ≤ maxLen) ∧ ((Lit.int .u8 x.2.2.2.1).wf = true) ∧ (Lit.int .i8 x.2.2.2.2).wf = true) (hn : x.2.2.1.length ≤ 1048576) : WfA x := by
  obtain ⟨g0, g1, ⟨g2, _⟩, g3, g4⟩ := h
  have b0 := bounds_u8 g0
  have b1 := bounds_u8 g1
  have b3 := bounds_u8 g3
  simp [Lit.wf, IntKind.min, IntKind.max, IntKind.signed, IntKind.bits] at g4
  exact ⟨⟨by omega, by omega⟩, ⟨by omega, by omega⟩, ⟨B8.of_wf g2, hn⟩, ⟨by omega, by omega⟩, ⟨by omega, by omega⟩⟩
theorem PendingKeeps : PureSaid.PendingKeeps := by
  intro l0 a1 hw hl h1 hb
  have hb2 : opn.bs (fun x : LAct => 1 + (1 + (opn.bs (fun _ => 1) x.2.2.1 + (1 + 1))) + 1) l0 + (1 + (1 + (opn.bs (fun _ => 1) a1.2.2.1 + (1 + 1))) + 1) ≤ 1048576 := hb
  have h3 := opn.bs_len (fun x : LAct => 1 + (1 + (opn.bs (fun _ => 1) x.2.2.1 + (1 + 1))) + 1) (fun x => Nat.le_add_left 1 _) l0
  have hlen : l0.length ≤ 1048576 := by omega
  have h5 := opn.bs_one a1.2.2.1
  unfold bolterlaw26_PendingKeeps.f
  refine if_pos ⟨fun x hx => wfA (hw x hx) ?_, hlen, wfA (x := a1) h1 ?_⟩
  · have hm := opn.bs_mem (fun x : LAct => 1 + (1 + (opn.bs (fun _ => 1) x.2.2.1 + (1 + 1))) + 1) hx
    have := opn.bs_one x.2.2.1
    omega
  · omega

end Go.Proofs.Ytecpginkacaebaa.Pure
