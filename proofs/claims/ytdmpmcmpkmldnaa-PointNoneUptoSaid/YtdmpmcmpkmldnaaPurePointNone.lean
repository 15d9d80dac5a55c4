/-
  The law PointNone about numbers and lists alone.
-/
import Derived.Test.YtdmpmcmpkmldnaaPureSaidPointNone
namespace Go.Proofs.Ytdmpmcmpkmldnaa.Pure
open Go.RowKit Go.Proofs.Ytdmpmcmpkmldnaa.PP Go.Proofs.YtdmpmcmpkmldnaaW.PrintWords Go.Proofs.YtdmpmcmpkmldnaaW.PrintLast

theorem PointNone : PureSaid.PointNone := by
  intro a0 hw hb
  have hb2 : a0.size + 1 ≤ 1048576 := hb
  unfold bolterlaw03_PointNone.f
  exact if_pos (by omega)

end Go.Proofs.Ytdmpmcmpkmldnaa.Pure
