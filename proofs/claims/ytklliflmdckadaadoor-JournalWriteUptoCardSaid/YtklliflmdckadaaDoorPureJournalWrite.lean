/-
  The law JournalWrite about numbers and lists alone.
-/
import Derived.Test.YtklliflmdckadaaDoorPureSaidJournalWrite
namespace Go.Proofs.YtklliflmdckadaaDoor.Pure
open Go.RowKit Go.Proofs.YtklliflmdckadaaDoor.PJ Go.Proofs.YtklliflmdckadaaDoorW.PrintWords Go.Proofs.YtklliflmdckadaaDoorW.PrintLast

theorem JournalWrite_len {α : Type} (f : α → Nat) (l : List α) (hf : ∀ a, 0 < f a) : l.length ≤ opn.bs f l := by
  induction l with
  | nil => exact Nat.zero_le _
  | cons x r ih =>
    rw [opn.bs_cons, List.length_cons]
    have := hf x
    omega
theorem JournalWrite : PureSaid.JournalWrite := by
  intro l0 hw hm hb
  unfold bolterlaw24_JournalWrite.f
  have h0 := Nat.le_trans (JournalWrite_len _ l0 (fun a => Nat.succ_pos _)) hb
  refine if_pos ⟨fun a ha => ?_, h0⟩
  have h := hw a ha
  have h2 := bounds_u8 h.1
  have h3 := bounds_u8 h.2.2.1
  refine ⟨fun y hy => ?_, by omega, by omega, by omega, by omega⟩
  have h4 := bounds_u8 (h.2.1.1 y hy)
  omega

end Go.Proofs.YtklliflmdckadaaDoor.Pure
