/-
  The law PendingFull about numbers and lists alone.
-/
import Derived.Test.YtecpginkacaebaaDoorPureSaidPendingFull
namespace Go.Proofs.YtecpginkacaebaaDoor.Pure
open Go.RowKit Go.Proofs.YtecpginkacaebaaDoor.PP Go.Proofs.YtecpginkacaebaaDoorW.PrintWords Go.Proofs.YtecpginkacaebaaDoorW.PrintLast Go.Proofs.YtecpginkacaebaaDoor.Base

theorem PendingFull : PureSaid.PendingFull := by
  intro l0 hw hl hb
  have h3 := opn.bs_one l0
  unfold bolterlaw26_PendingFull.f
  exact if_pos ⟨Lt.of_wf16 hw, by omega⟩

end Go.Proofs.YtecpginkacaebaaDoor.Pure
