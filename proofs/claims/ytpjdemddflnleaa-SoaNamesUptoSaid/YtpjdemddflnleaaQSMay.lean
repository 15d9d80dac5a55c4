/-
  name.May answers for every string (of few bytes): the loop over its labels ends. No macro, syntax, notation, axiom, sorry.
-/
import Derived.Test.YtpjdemddflnleaaPSx1
import Derived.Test.YtpjdemddflnleaaPSx1
import Derived.Test.YtpjdemddflnleaaBase
namespace Go.Proofs.Ytpjdemddflnleaa.QS
open Go.RowKit Go.Proofs.Ytpjdemddflnleaa.PS Go.Proofs.YtpjdemddflnleaaW.PrintWords Go.Proofs.YtpjdemddflnleaaW.PrintLast Go.Proofs.Ytpjdemddflnleaa.Base
set_option linter.unusedVariables false
set_option linter.unusedSimpArgs false

theorem labels_ends (n : Nat) : ∀ (s : ByteArray) (acc : List ByteArray), s.size ≤ n → acc.length + s.size ≤ 1000000000 → ∃ r, Ev (fun k => name_Labels.l0 k acc s) r := by
  induction n with
  | zero =>
    intro s acc hs _
    refine ⟨(acc, true), Ev.step (f := fun _ => some (acc, true)) (fun k => ?_) (Ev.now _)⟩
    simp only [name_Labels.l0]
    rw [if_neg (by omega)]
  | succ n ih =>
    intro s acc hs ha
    by_cases h0 : s.size = 0
    · refine ⟨(acc, true), Ev.step (f := fun _ => some (acc, true)) (fun k => ?_) (Ev.now _)⟩
      simp only [name_Labels.l0]
      rw [if_neg (by omega)]
    · have hb := bt_range s 0
      have e1 : wrap64 (bt s 0) = bt s 0 := w64 (by omega) (by omega)
      have e2 : wrap64 (1 + bt s 0) = 1 + bt s 0 := w64 (by omega) (by omega)
      by_cases h1 : bt s 0 < 1
      · refine ⟨([], false), Ev.step (f := fun _ => some ([], false)) (fun k => ?_) (Ev.now _)⟩
        simp only [name_Labels.l0]
        rw [if_pos (by omega), if_pos (by omega), e1, if_pos h1]
      · by_cases h2 : bt s 0 > 63
        · refine ⟨([], false), Ev.step (f := fun _ => some ([], false)) (fun k => ?_) (Ev.now _)⟩
          simp only [name_Labels.l0]
          rw [if_pos (by omega), if_pos (by omega), e1, if_neg h1, if_pos h2]
        · by_cases h3 : bt s 0 ≥ (s.size : Int)
          · refine ⟨([], false), Ev.step (f := fun _ => some ([], false)) (fun k => ?_) (Ev.now _)⟩
            simp only [name_Labels.l0]
            rw [if_pos (by omega), if_pos (by omega), e1, if_neg h1, if_neg h2, if_pos h3]
          · have hx : (s.extract (1 + bt s 0).toNat s.size).size = s.size - (1 + bt s 0).toNat := by simp
            obtain ⟨r, hr⟩ := ih (s.extract (1 + bt s 0).toNat s.size) (acc ++ [s.extract 1 (1 + bt s 0).toNat]) (by omega) (by rw [List.length_append]; simp only [List.length_cons, List.length_nil]; omega)
            refine ⟨r, Ev.step (fun k => ?_) hr⟩
            simp only [name_Labels.l0]
            rw [if_pos (by omega), if_pos (by omega), e1, if_neg h1, if_neg h2, if_neg h3, e2, if_pos (by omega), if_pos (by omega), if_pos (by omega), if_pos (by omega)]
theorem labels_total (s : ByteArray) (hs : s.size ≤ 1048576) : ∃ r, Ev (fun k => name_Labels.f k s) r := by
  by_cases h : (s.size : Int) > 254
  · refine ⟨([], false), Ev.step (f := fun _ => some ([], false)) (fun k => ?_) (Ev.now _)⟩
    unfold name_Labels.f
    rw [if_pos h]
    simp only [name_Labels.j0, if_true]
  · obtain ⟨r, hr⟩ := labels_ends s.size s [] (Nat.le_refl _) (by simp; omega)
    have hf : name_folded.f s = some (strOfNums ((bytesOf s).map name_folded.one)) := by
      unfold name_folded.f
      rw [if_pos (by omega)]
    by_cases hb : (s.toList != (strOfNums ((bytesOf s).map name_folded.one)).toList) = true
    · refine ⟨([], false), Ev.step (f := fun _ => some ([], false)) (fun k => ?_) (Ev.now _)⟩
      unfold name_Labels.f
      rw [if_neg h, hf]
      simp only [Option.bind_some, name_Labels.j0, hb, if_true]
    · refine ⟨r, Ev.step (fun k => ?_) hr⟩
      unfold name_Labels.f
      rw [if_neg h, hf]
      simp only [Option.bind_some, name_Labels.j0]
      rw [if_neg hb]
theorem may_total (s : ByteArray) (hs : s.size ≤ 1048576) : ∃ b, Ev (fun k => name_May.f k s) b := by
  obtain ⟨r, hr⟩ := labels_total s hs
  exact ⟨r.2, Ev.bind hr (Ev.now _)⟩
end Go.Proofs.Ytpjdemddflnleaa.QS
