/- part of a proof; what it has no use for was struck out -/
import Derived.Test.YtnikfeaggppmpaaDoorPureSaidMessageRead
namespace Go.Proofs.YtnikfeaggppmpaaDoor.Pure
open Go.RowKit Go.Proofs.YtnikfeaggppmpaaDoor.PM Go.Proofs.YtnikfeaggppmpaaDoorW.PrintWords Go.Proofs.YtnikfeaggppmpaaDoorW.PrintLast Go.Proofs.YtnikfeaggppmpaaDoor.Base
theorem MessageRead : PureSaid.MessageRead := by
  intro l0 hw hl hb
  have q := opn.bs_one l0
  have hb : opn.bs (fun _ => 1) l0 ≤ 1048576 := hb
  unfold bolterlaw05_MessageRead.f
  exact if_pos ⟨B8.of_wf hw, by omega⟩
end Go.Proofs.YtnikfeaggppmpaaDoor.Pure
