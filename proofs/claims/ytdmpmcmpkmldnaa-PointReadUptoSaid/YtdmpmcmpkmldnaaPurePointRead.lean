/-
  The law PointRead about numbers and lists alone.
-/
import Derived.Test.YtdmpmcmpkmldnaaPureSaidPointRead
namespace Go.Proofs.Ytdmpmcmpkmldnaa.Pure
open Go.RowKit Go.Proofs.Ytdmpmcmpkmldnaa.PP Go.Proofs.YtdmpmcmpkmldnaaW.PrintWords Go.Proofs.YtdmpmcmpkmldnaaW.PrintLast

theorem PointRead : PureSaid.PointRead := by
  intro a0 a1 hw h1 hb
  have hb2 : a0.size + 1 + 1 ≤ 1048576 := hb
  unfold bolterlaw03_PointRead.f
  simp [Lit.wf, IntKind.min, IntKind.max, IntKind.signed, IntKind.bits] at h1
  exact if_pos ⟨by omega, by omega, by omega⟩

end Go.Proofs.Ytdmpmcmpkmldnaa.Pure
