/- part of a proof; what it has no use for was struck out -/
import Derived.Test.YtlobjcokopfbkaaPureSaidStreamDone
namespace Go.Proofs.Ytlobjcokopfbkaa.Pure
open Go.RowKit Go.Proofs.Ytlobjcokopfbkaa.PY Go.Proofs.YtlobjcokopfbkaaW.PrintWords Go.Proofs.YtlobjcokopfbkaaW.PrintLast Go.Proofs.Ytlobjcokopfbkaa.Base Go.Proofs.Ytlobjcokopfbkaa.Str
theorem StreamDone : PureSaid.StreamDone := by
  intro a0 l1 h0 hw hl hb
  have b0 := bounds_u8 h0
  have hb2 : 1 + opn.bs (fun x : LA => opn.bs (fun _ => 1) x.f0 + (1 + (1 + (opn.bs (fun _ => 1) x.f3 + (x.f4.size + 1)))) + 1) l1 ≤ 1048576 := hb
  have h3 := opn.bs_len (fun x : LA => opn.bs (fun _ => 1) x.f0 + (1 + (1 + (opn.bs (fun _ => 1) x.f3 + (x.f4.size + 1)))) + 1) (fun x => Nat.le_add_left 1 _) l1
  unfold bolterlaw09_StreamDone.f
  refine if_pos ⟨⟨by omega, by omega⟩, fun a ha => ?_, by omega⟩
  have hm := opn.bs_mem (fun x : LA => opn.bs (fun _ => 1) x.f0 + (1 + (1 + (opn.bs (fun _ => 1) x.f3 + (x.f4.size + 1)))) + 1) ha
  have q0 := opn.bs_one a.f0
  have q3 := opn.bs_one a.f3
  obtain ⟨⟨g0, _⟩, g1, g2, ⟨g3, _⟩, g4⟩ := hw a ha
  have c1 := bounds_u8 g1
  have c2 := bounds_u32 g2
  exact ⟨⟨B8.of_wf g0, by omega⟩, ⟨by omega, by omega⟩, ⟨by omega, by omega⟩, ⟨B8.of_wf g3, by omega⟩, by omega⟩
end Go.Proofs.Ytlobjcokopfbkaa.Pure
