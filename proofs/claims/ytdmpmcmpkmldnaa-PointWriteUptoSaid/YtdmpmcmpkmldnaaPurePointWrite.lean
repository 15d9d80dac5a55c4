/-
  The law PointWrite about numbers and lists alone.
-/
import Derived.Test.YtdmpmcmpkmldnaaPureSaidPointWrite
namespace Go.Proofs.Ytdmpmcmpkmldnaa.Pure
open Go.RowKit Go.Proofs.Ytdmpmcmpkmldnaa.PP Go.Proofs.YtdmpmcmpkmldnaaW.PrintWords Go.Proofs.YtdmpmcmpkmldnaaW.PrintLast Go.Proofs.Ytdmpmcmpkmldnaa.Base

theorem PointWrite : PureSaid.PointWrite := by
  intro l0 a1 hw hl h1 hb
  have hb2 : opn.bs (opn.bs (fun _ => 1)) l0 + 1 ≤ 1048576 := hb
  have h3 := opn.bs_len (opn.bs (fun _ => 1)) (fun x => by rw [opn.bs_one]; omega) l0
  simp [Lit.wf, IntKind.min, IntKind.max, IntKind.signed, IntKind.bits] at h1
  unfold bolterlaw03_PointWrite.f
  refine if_pos ⟨fun l hl => ⟨?_, ?_⟩, by omega, by omega, by omega⟩
  · exact B8.of_wf (hw l hl).1
  · have := opn.bs_mem (opn.bs (fun _ => 1)) hl
    rw [opn.bs_one] at this
    omega

end Go.Proofs.Ytdmpmcmpkmldnaa.Pure
