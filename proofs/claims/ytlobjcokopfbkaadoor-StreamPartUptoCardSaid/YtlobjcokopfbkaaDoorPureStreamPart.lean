/- part of a proof; what it has no use for was struck out -/
import Derived.Test.YtlobjcokopfbkaaDoorPureSaidStreamPart
namespace Go.Proofs.YtlobjcokopfbkaaDoor.Pure
open Go.RowKit Go.Proofs.YtlobjcokopfbkaaDoor.PY Go.Proofs.YtlobjcokopfbkaaDoorW.PrintWords Go.Proofs.YtlobjcokopfbkaaDoorW.PrintLast Go.Proofs.YtlobjcokopfbkaaDoor.Base Go.Proofs.YtlobjcokopfbkaaDoor.Str
theorem StreamPart : PureSaid.StreamPart := by
  intro a0 a1 l2 h0 h1 hw hl hb
  have b0 := bounds_u8 h0
  have b1 := bounds_u8 h1
  have hb2 : opn.bs (fun x : LA => opn.bs (fun _ => 1) x.f0 + (1 + (1 + (opn.bs (fun _ => 1) x.f3 + (x.f4.size + 1)))) + 1) l2 ≤ 1048576 := by
    have h : 1 + 1 + opn.bs (fun x : LA => opn.bs (fun _ => 1) x.f0 + (1 + (1 + (opn.bs (fun _ => 1) x.f3 + (x.f4.size + 1)))) + 1) l2 ≤ 1048576 := hb
    omega
  have h3 := opn.bs_len (fun x : LA => opn.bs (fun _ => 1) x.f0 + (1 + (1 + (opn.bs (fun _ => 1) x.f3 + (x.f4.size + 1)))) + 1) (fun x => Nat.le_add_left 1 _) l2
  unfold bolterlaw09_StreamPart.f
  refine if_pos ⟨⟨by omega, by omega⟩, ⟨by omega, by omega⟩, fun a ha => ?_, by omega⟩
  have hm := opn.bs_mem (fun x : LA => opn.bs (fun _ => 1) x.f0 + (1 + (1 + (opn.bs (fun _ => 1) x.f3 + (x.f4.size + 1)))) + 1) ha
  have q0 := opn.bs_one a.f0
  have q3 := opn.bs_one a.f3
  obtain ⟨⟨g0, _⟩, g1, g2, ⟨g3, _⟩, g4⟩ := hw a ha
  have c1 := bounds_u8 g1
  have c2 := bounds_u32 g2
  exact ⟨⟨B8.of_wf g0, by omega⟩, ⟨by omega, by omega⟩, ⟨by omega, by omega⟩, ⟨B8.of_wf g3, by omega⟩, by omega⟩
end Go.Proofs.YtlobjcokopfbkaaDoor.Pure
