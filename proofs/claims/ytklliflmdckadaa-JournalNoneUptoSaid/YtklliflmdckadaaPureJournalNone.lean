/-
  The law JournalNone about numbers and lists alone.
-/
import Derived.Test.YtklliflmdckadaaPureSaidJournalNone
namespace Go.Proofs.Ytklliflmdckadaa.Pure
open Go.RowKit Go.Proofs.Ytklliflmdckadaa.PJ Go.Proofs.YtklliflmdckadaaW.PrintWords Go.Proofs.YtklliflmdckadaaW.PrintLast

theorem JournalNone : PureSaid.JournalNone := by
  intro a0 hw hb
  unfold bolterlaw24_JournalNone.f
  have h := bounds_u8 hw
  exact if_pos ⟨by omega, by omega⟩

end Go.Proofs.Ytklliflmdckadaa.Pure
