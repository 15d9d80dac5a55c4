/-
  The law PendingFree about numbers and lists alone.
-/
import Derived.Test.YtecpginkacaebaaPureSaidPendingFree
namespace Go.Proofs.Ytecpginkacaebaa.Pure
open Go.RowKit Go.Proofs.Ytecpginkacaebaa.PP Go.Proofs.YtecpginkacaebaaW.PrintWords Go.Proofs.YtecpginkacaebaaW.PrintLast Go.Proofs.Ytecpginkacaebaa.Base

theorem PendingFree : PureSaid.PendingFree := by
  intro l0 a1 hw hl h1 hb
  have hb2 : opn.bs (fun x : LAct => 1 + (1 + (opn.bs (fun _ => 1) x.2.2.1 + (1 + 1))) + 1) l0 + 1 ≤ 1048576 := hb
  have h3 := opn.bs_len (fun x : LAct => 1 + (1 + (opn.bs (fun _ => 1) x.2.2.1 + (1 + 1))) + 1) (fun x => Nat.le_add_left 1 _) l0
  have hlen : l0.length ≤ 1048576 := by omega
  have h4 := bounds_u16 h1
  unfold bolterlaw26_PendingFree.f
  refine if_pos ⟨fun x hx => ?_, hlen, by omega, by omega⟩
  obtain ⟨g0, g1, ⟨g2, _⟩, g3, g4⟩ := hw x hx
  have b0 := bounds_u8 g0
  have b1 := bounds_u8 g1
  have b3 := bounds_u8 g3
  simp [Lit.wf, IntKind.min, IntKind.max, IntKind.signed, IntKind.bits] at g4
  have hm := opn.bs_mem (fun x : LAct => 1 + (1 + (opn.bs (fun _ => 1) x.2.2.1 + (1 + 1))) + 1) hx
  have hn : x.2.2.1.length ≤ 1048576 := by
    have := opn.bs_one x.2.2.1
    omega
  exact ⟨⟨by omega, by omega⟩, ⟨by omega, by omega⟩, ⟨B8.of_wf g2, hn⟩, ⟨by omega, by omega⟩, ⟨by omega, by omega⟩⟩

end Go.Proofs.Ytecpginkacaebaa.Pure
