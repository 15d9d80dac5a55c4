/-
  The law JournalCrash about numbers and lists alone.
-/
import Derived.Test.YtklliflmdckadaaPureSaidJournalCrash
namespace Go.Proofs.Ytklliflmdckadaa.Pure
open Go.RowKit Go.Proofs.Ytklliflmdckadaa.PJ Go.Proofs.YtklliflmdckadaaW.PrintWords Go.Proofs.YtklliflmdckadaaW.PrintLast

theorem JournalCrash_len {α : Type} (f : α → Nat) (l : List α) (hf : ∀ a, 0 < f a) : l.length ≤ opn.bs f l := by
  induction l with
  | nil => exact Nat.zero_le _
  | cons x r ih =>
    rw [opn.bs_cons, List.length_cons]
    have := hf x
    omega
theorem JournalCrash : PureSaid.JournalCrash := by
  intro l0 a1 hw hm hw1 hb
  unfold bolterlaw24_JournalCrash.f
  have h0 := Nat.le_trans (JournalCrash_len _ l0 (fun a => Nat.succ_pos _)) (Nat.le_trans (Nat.le_add_right _ _) hb)
  have h1 := bounds_u16 hw1
  refine if_pos ⟨fun a ha => ?_, h0, h1.1, by omega⟩
  have h := hw a ha
  have h2 := bounds_u8 h.1
  have h3 := bounds_u8 h.2.2.1
  refine ⟨fun y hy => ?_, by omega, by omega, by omega, by omega⟩
  have h4 := bounds_u8 (h.2.1.1 y hy)
  omega

end Go.Proofs.Ytklliflmdckadaa.Pure
