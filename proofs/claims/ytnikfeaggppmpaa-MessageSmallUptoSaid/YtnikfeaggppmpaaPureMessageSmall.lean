/- part of a proof; what it has no use for was struck out -/
import Derived.Test.YtnikfeaggppmpaaPureSaidMessageSmall
namespace Go.Proofs.Ytnikfeaggppmpaa.Pure
open Go.RowKit Go.Proofs.Ytnikfeaggppmpaa.PM Go.Proofs.YtnikfeaggppmpaaW.PrintWords Go.Proofs.YtnikfeaggppmpaaW.PrintLast Go.Proofs.Ytnikfeaggppmpaa.Base Go.Proofs.Ytnikfeaggppmpaa.Wr
def bkA (x : LA) : Nat := opn.bs (fun _ => 1) x.f0 + (1 + (1 + (opn.bs (fun _ => 1) x.f3 + (x.f4.size + 1)))) + 1
theorem acts_ok {l : List LA} (hw : ∀ a ∈ l, ((∀ y ∈ a.f0, (Lit.int .u8 y).wf = true) ∧ a.f0.length ≤ maxLen) ∧ ((Lit.int .u8 a.f1).wf = true) ∧ ((Lit.int .u32 a.f2).wf = true) ∧ ((∀ y ∈ a.f3, (Lit.int .u8 y).wf = true) ∧ a.f3.length ≤ maxLen) ∧ a.f4.size ≤ maxLen) (hb : opn.bs bkA l ≤ 1048576) : (∀ a ∈ l, WfA a) ∧ l.length ≤ 10000000 := by
  have h3 := opn.bs_len bkA (fun x => Nat.le_add_left 1 _) l
  refine ⟨fun a ha => ?_, by omega⟩
  have hm : bkA a + 1 ≤ opn.bs bkA l := opn.bs_mem bkA ha
  have hm2 : opn.bs (fun _ => 1) a.f0 + (1 + (1 + (opn.bs (fun _ => 1) a.f3 + (a.f4.size + 1)))) + 1 ≤ 1048576 := Nat.le_trans (Nat.le_succ _) (Nat.le_trans hm hb)
  clear hm h3
  have q0 := opn.bs_one a.f0
  have q3 := opn.bs_one a.f3
  obtain ⟨⟨g0, _⟩, g1, g2, ⟨g3, _⟩, g4⟩ := hw a ha
  have c1 := bounds_u8 g1
  have c2 := bounds_u32 g2
  exact ⟨⟨B8.of_wf g0, by omega⟩, ⟨by omega, by omega⟩, ⟨by omega, by omega⟩, ⟨B8.of_wf g3, by omega⟩, by omega⟩
theorem MessageSmall : PureSaid.MessageSmall := by
  rintro ⟨⟨x0, x1, x2, x3, x4, x5, x6, x7⟩, x8, x9, x10, x11, x12, x13⟩ ⟨⟨h0, -, -, -⟩, ⟨h8, -⟩, h9, ⟨h10, -⟩, ⟨h11, -⟩, ⟨h12, -⟩, h13⟩ hb
  have b0 : 0 ≤ x0 ∧ x0 ≤ 65535 := by have h := bounds_u16 h0; exact ⟨h.1, by have h2 := h.2; simp only at h2; omega⟩
  have b9 : 0 ≤ x9 ∧ x9 ≤ 65535 := by have h := bounds_u16 h9; exact ⟨h.1, by have h2 := h.2; simp only at h2; omega⟩
  have b13 : 0 ≤ x13 ∧ x13 ≤ 65535 := by have h := bounds_u16 h13; exact ⟨h.1, by have h2 := h.2; simp only at h2; omega⟩
  have hb2 : opn.bs (fun _ => 1) x8 + opn.bs bkA x10 + opn.bs bkA x11 + opn.bs bkA x12 ≤ 1048576 := by
    have h : (1 + (1 + (1 + (1 + (1 + (1 + (1 + 1)))))) + 1) + (opn.bs (fun _ => 1) x8 + (1 + (opn.bs bkA x10 + (opn.bs bkA x11 + (opn.bs bkA x12 + 1))))) + 1 ≤ 1048576 := hb
    omega
  have q8 := opn.bs_one x8
  unfold bolterlaw05_MessageSmall.f
  exact if_pos ⟨⟨b0.1, by show x0 < 65536; omega⟩, ⟨b9.1, by show x9 < 65536; omega⟩, ⟨b13.1, by show x13 < 65536; omega⟩, ⟨B8.of_wf h8, by show x8.length ≤ _; omega⟩, acts_ok h10 (by show opn.bs bkA x10 ≤ _; omega), acts_ok h11 (by show opn.bs bkA x11 ≤ _; omega), acts_ok h12 (by show opn.bs bkA x12 ≤ _; omega)⟩
end Go.Proofs.Ytnikfeaggppmpaa.Pure
