/-
  The law JournalRecover about numbers and lists alone.
-/
import Derived.Test.YtklliflmdckadaaPureSaidJournalRecover
namespace Go.Proofs.Ytklliflmdckadaa.Pure
open Go.RowKit Go.Proofs.Ytklliflmdckadaa.PJ Go.Proofs.YtklliflmdckadaaW.PrintWords Go.Proofs.YtklliflmdckadaaW.PrintLast

theorem JournalRecover : PureSaid.JournalRecover := by
  intro l0 l1 hw hm hw1 hm1 hb
  unfold bolterlaw24_JournalRecover.f
  have h1 := opn.bs_one l1
  refine if_pos ⟨fun b hb' y hy => ?_, fun y hy => ?_, by omega⟩
  · have h := bounds_u8 ((hw b hb').1 y hy)
    omega
  · have h := bounds_u8 (hw1 y hy)
    omega

end Go.Proofs.Ytklliflmdckadaa.Pure
