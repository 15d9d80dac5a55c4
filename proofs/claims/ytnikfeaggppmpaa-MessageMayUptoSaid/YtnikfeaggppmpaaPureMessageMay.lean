/- part of a proof; what it has no use for was struck out -/
import Derived.Test.YtnikfeaggppmpaaPureSaidMessageMay
namespace Go.Proofs.Ytnikfeaggppmpaa.Pure
open Go.RowKit Go.Proofs.Ytnikfeaggppmpaa.PM Go.Proofs.YtnikfeaggppmpaaW.PrintWords Go.Proofs.YtnikfeaggppmpaaW.PrintLast Go.Proofs.Ytnikfeaggppmpaa.Base Go.Proofs.Ytnikfeaggppmpaa.Wr
theorem MessageMay : PureSaid.MessageMay := by
  rintro ⟨⟨x0, x1, x2, x3, x4, x5, x6, x7⟩, ⟨x8, x9⟩, x10, x11, x12, x13⟩ ⟨⟨h0, -, -, -⟩, ⟨-, h9⟩, ⟨h10, -⟩, ⟨h11, -⟩, ⟨h12, -⟩, -⟩ hb
  have b0 : 0 ≤ x0 ∧ x0 ≤ 65535 := by have h := bounds_u16 h0; exact ⟨h.1, by have h2 := h.2; simp only at h2; omega⟩
  have b9 : 0 ≤ x9 ∧ x9 ≤ 65535 := by have h := bounds_u16 h9; exact ⟨h.1, by have h2 := h.2; simp only at h2; omega⟩
  have hb2 : x8.size + opn.bs (fun x : R => (x.f0.size + 1) + (1 + (1 + (x.f3.size + 1))) + 1) x10 + opn.bs (fun x : R => (x.f0.size + 1) + (1 + (1 + (x.f3.size + 1))) + 1) x11 + opn.bs (fun x : R => (x.f0.size + 1) + (1 + (1 + (x.f3.size + 1))) + 1) x12 ≤ 1048576 := by
    have h : (1 + (1 + (1 + (1 + (1 + (1 + (1 + 1)))))) + 1) + (((x8.size + 1) + 1 + 1) + (opn.bs (fun x : R => (x.f0.size + 1) + (1 + (1 + (x.f3.size + 1))) + 1) x10 + (opn.bs (fun x : R => (x.f0.size + 1) + (1 + (1 + (x.f3.size + 1))) + 1) x11 + (opn.bs (fun x : R => (x.f0.size + 1) + (1 + (1 + (x.f3.size + 1))) + 1) x12 + 1)))) + 1 ≤ 1048576 := hb
    omega
  have l10 := opn.bs_len (fun x : R => (x.f0.size + 1) + (1 + (1 + (x.f3.size + 1))) + 1) (fun x => Nat.le_add_left 1 _) x10
  have l11 := opn.bs_len (fun x : R => (x.f0.size + 1) + (1 + (1 + (x.f3.size + 1))) + 1) (fun x => Nat.le_add_left 1 _) x11
  have l12 := opn.bs_len (fun x : R => (x.f0.size + 1) + (1 + (1 + (x.f3.size + 1))) + 1) (fun x => Nat.le_add_left 1 _) x12
  unfold bolterlaw05_MessageMay.f
  refine if_pos ⟨⟨fun r hr => ?_, fun r hr => ?_, fun r hr => ?_⟩, ?_, ?_, ?_, ?_, ⟨by show 0 ≤ x9; omega, by show x9 < 65536; omega⟩, ⟨by show 0 ≤ x0; omega, by show x0 < 65536; omega⟩⟩
  · have hm : ((r.f0.size + 1) + (1 + (1 + (r.f3.size + 1))) + 1) + 1 ≤ opn.bs (fun x : R => (x.f0.size + 1) + (1 + (1 + (x.f3.size + 1))) + 1) x10 := opn.bs_mem (fun x : R => (x.f0.size + 1) + (1 + (1 + (x.f3.size + 1))) + 1) hr
    obtain ⟨-, g1, g2, -⟩ := h10 r hr
    have c1 := bounds_u16 g1
    have c2 := bounds_u32 g2
    exact ⟨⟨by omega, by omega⟩, ⟨by omega, by omega⟩, by omega, by omega⟩
  · have hm : ((r.f0.size + 1) + (1 + (1 + (r.f3.size + 1))) + 1) + 1 ≤ opn.bs (fun x : R => (x.f0.size + 1) + (1 + (1 + (x.f3.size + 1))) + 1) x11 := opn.bs_mem (fun x : R => (x.f0.size + 1) + (1 + (1 + (x.f3.size + 1))) + 1) hr
    obtain ⟨-, g1, g2, -⟩ := h11 r hr
    have c1 := bounds_u16 g1
    have c2 := bounds_u32 g2
    exact ⟨⟨by omega, by omega⟩, ⟨by omega, by omega⟩, by omega, by omega⟩
  · have hm : ((r.f0.size + 1) + (1 + (1 + (r.f3.size + 1))) + 1) + 1 ≤ opn.bs (fun x : R => (x.f0.size + 1) + (1 + (1 + (x.f3.size + 1))) + 1) x12 := opn.bs_mem (fun x : R => (x.f0.size + 1) + (1 + (1 + (x.f3.size + 1))) + 1) hr
    obtain ⟨-, g1, g2, -⟩ := h12 r hr
    have c1 := bounds_u16 g1
    have c2 := bounds_u32 g2
    exact ⟨⟨by omega, by omega⟩, ⟨by omega, by omega⟩, by omega, by omega⟩
  · show x8.size ≤ _
    omega
  · show x12.length ≤ _
    omega
  · show x10.length ≤ _
    omega
  · show x11.length ≤ _
    omega
end Go.Proofs.Ytnikfeaggppmpaa.Pure
