/- part of a proof; what it has no use for was struck out -/
import Derived.Test.YtnikfeaggppmpaaPMx4
import Derived.Test.YtnikfeaggppmpaaPMx4
import Derived.Test.YtnikfeaggppmpaaNamP
namespace Go.Proofs.Ytnikfeaggppmpaa.Nam
open Go.RowKit Go.Proofs.Ytnikfeaggppmpaa.PM Go.Proofs.YtnikfeaggppmpaaW.PrintWords Go.Proofs.YtnikfeaggppmpaaW.PrintLast Go.Proofs.Ytnikfeaggppmpaa.Base
set_option linter.unusedVariables false
set_option linter.unusedSimpArgs false
theorem one_eq {c : Int} (h0 : 0 ≤ c) (h1 : c < 256) : name_folded.one c = fold1 c := by
  unfold name_folded.one name_Fold.f fold1
  repeat' split
  all_goals simp only [Option.getD_some]
  all_goals omega
theorem one_map {l : List Int} (h : B8 l) : l.map name_folded.one = fold l := List.map_congr_left fun y hy => one_eq (h y hy).1 (h y hy).2
theorem labels_ev (n : Nat) : ∀ (s : ByteArray) (acc : List ByteArray), s.size ≤ n → acc.length + s.size ≤ 1000000000 →
    Ev (fun k => name_Labels.l0 k acc s) (match labs s.size (bytesOf s) with | some ls => (acc ++ ls.map strOfNums, true) | none => ([], false)) := by
  induction n with
  | zero =>
    intro s acc hs _
    have h0 : s.size = 0 := by omega
    have hb : bytesOf s = [] := List.eq_nil_of_length_eq_zero (by rw [of_size]; exact h0)
    rw [h0, hb]
    refine Ev.step (f := fun _ => some (acc, true)) (fun k => ?_) ?_
    · simp only [name_Labels.l0]
      rw [if_neg (by omega)]
    · show Ev _ (acc ++ [], true)
      rw [List.append_nil]
      exact Ev.now _
  | succ n ih =>
    intro s acc hs ha
    by_cases h0 : s.size = 0
    · exact ih s acc (by omega) ha
    · have hb := bt_range s 0
      have e1 : wrap64 (bt s 0) = bt s 0 := w64 (by omega) (by omega)
      have e2 : wrap64 (1 + bt s 0) = 1 + bt s 0 := w64 (by omega) (by omega)
      obtain ⟨c, r, hcr⟩ : ∃ c r, bytesOf s = c :: r := by
        cases h : bytesOf s with
        | nil => rw [← of_size, h] at h0; exact absurd rfl h0
        | cons c r => exact ⟨c, r, rfl⟩
      have hc : c = bt s 0 := by
        have := bt_get s 0 (by omega)
        rw [hcr] at this
        simpa using this
      have hr : r.length + 1 = s.size := by rw [← of_size, hcr]; rfl
      obtain ⟨m, hm⟩ : ∃ m, s.size = m + 1 := ⟨r.length, hr.symm⟩
      rw [hcr, hm]
      simp only [labs]
      by_cases hbad : 1 ≤ c ∧ c ≤ 63 ∧ c.toNat ≤ r.length
      · rw [if_pos hbad]
        have hx : (s.extract (1 + bt s 0).toNat s.size).size = s.size - (1 + bt s 0).toNat := by simp
        have hxb : bytesOf (s.extract (1 + bt s 0).toNat s.size) = r.drop c.toNat := by
          rw [bytes_ex, List.take_of_length_le (by rw [of_size]; exact Nat.le_refl _), hcr, ← hc, show (1 + c).toNat = c.toNat + 1 by omega, List.drop_succ_cons]
        have hlb : s.extract 1 (1 + bt s 0).toNat = strOfNums (r.take c.toNat) := by
          apply str_inj'
          rw [bytes_str (fun y hy => of_b8 s y (by rw [hcr]; exact List.mem_cons_of_mem _ (List.mem_of_mem_take hy))), bytes_ex, hcr, ← hc, show (1 + c).toNat = c.toNat + 1 by omega]
          simp
        have key := ih (s.extract (1 + bt s 0).toNat s.size) (acc ++ [s.extract 1 (1 + bt s 0).toNat]) (by omega) (by rw [List.length_append]; simp only [List.length_cons, List.length_nil]; omega)
        have hres : (match (labs m (r.drop c.toNat)).map (r.take c.toNat :: ·) with | some ls => (acc ++ ls.map strOfNums, true) | none => (([] : List ByteArray), false)) = (match labs (s.extract (1 + bt s 0).toNat s.size).size (bytesOf (s.extract (1 + bt s 0).toNat s.size)) with | some ls => ((acc ++ [s.extract 1 (1 + bt s 0).toNat]) ++ ls.map strOfNums, true) | none => ([], false)) := by
          rw [← of_size (s.extract (1 + bt s 0).toNat s.size), hxb]
          have hle : (r.drop c.toNat).length ≤ m := by rw [List.length_drop]; omega
          cases h : labs (r.drop c.toNat).length (r.drop c.toNat) with
          | none => rw [labs_none hle h]; rfl
          | some ls => rw [labs_more h (Nat.le_trans (lay_labs _ _ _ h).2.2 hle)]; simp [hlb]
        rw [hres]
        refine Ev.step (fun k => ?_) key
        simp only [name_Labels.l0]
        rw [if_pos (by omega), if_pos (by omega), e1, if_neg (by omega), if_neg (by omega), if_neg (by omega), e2, if_pos (by omega), if_pos (by omega), if_pos (by omega), if_pos (by omega)]
      · rw [if_neg hbad]
        refine Ev.step (f := fun _ => some ([], false)) (fun k => ?_) (Ev.now _)
        simp only [name_Labels.l0]
        rw [if_pos (by omega), if_pos (by omega), e1]
        by_cases h1 : bt s 0 < 1
        · rw [if_pos h1]
        · rw [if_neg h1]
          by_cases h2 : bt s 0 > 63
          · rw [if_pos h2]
          · rw [if_neg h2, if_pos (by omega)]
theorem Labels_ev (s : ByteArray) (hs : s.size ≤ 140737488355328) :
    Ev (fun k => name_Labels.f k s) (if nm (bytesOf s) = true then (((labs s.size (bytesOf s)).getD []).map strOfNums, true) else ([], false)) := by
  by_cases h : (s.size : Int) > 254
  · rw [if_neg (by rw [nm_iff, of_size]; omega)]
    refine Ev.step (f := fun _ => some ([], false)) (fun k => ?_) (Ev.now _)
    unfold name_Labels.f
    rw [if_pos h]
    simp only [name_Labels.j0, if_true]
  · have hf : name_folded.f s = some (strOfNums (fold (bytesOf s))) := by
      unfold name_folded.f
      rw [if_pos (by omega), one_map (of_b8 s)]
    have hcmp : (s.toList != (strOfNums (fold (bytesOf s))).toList) = !decide (fold (bytesOf s) = bytesOf s) := by
      rw [str_ne, bytes_str (fold_b8 (of_b8 s))]
      congr 1
      exact decide_eq_decide.2 ⟨fun h => h.symm, fun h => h.symm⟩
    by_cases hb : fold (bytesOf s) = bytesOf s
    · have key := labels_ev s.size s [] (Nat.le_refl _) (by simp; omega)
      have hres : (if nm (bytesOf s) = true then (((labs s.size (bytesOf s)).getD []).map strOfNums, true) else (([] : List ByteArray), false)) = (match labs s.size (bytesOf s) with | some ls => ([] ++ ls.map strOfNums, true) | none => ([], false)) := by
        cases hl : labs s.size (bytesOf s) with
        | none => rw [if_neg (by rw [nm_iff, of_size, hl]; simp)]
        | some ls => rw [if_pos ((nm_iff _).2 ⟨by rw [of_size]; omega, hb, ls, by rw [of_size]; exact hl⟩)]; simp
      rw [hres]
      refine Ev.step (fun k => ?_) key
      unfold name_Labels.f
      rw [if_neg h, hf]
      simp only [Option.bind_some, name_Labels.j0]
      rw [if_neg (by rw [hcmp]; simp [hb])]
    · rw [if_neg (by rw [nm_iff]; exact fun hh => hb hh.2.1)]
      refine Ev.step (f := fun _ => some ([], false)) (fun k => ?_) (Ev.now _)
      unfold name_Labels.f
      rw [if_neg h, hf]
      simp only [Option.bind_some, name_Labels.j0]
      rw [if_pos (by rw [hcmp]; simp [hb])]
theorem May_ev (s : ByteArray) (hs : s.size ≤ 140737488355328) : Ev (fun k => name_May.f k s) (nm (bytesOf s)) := by
  have h : Ev (fun k => name_May.f k s) (if nm (bytesOf s) = true then (((labs s.size (bytesOf s)).getD []).map strOfNums, true) else (([] : List ByteArray), false)).2 := Ev.bind (Labels_ev s hs) (Ev.now _)
  have e : (if nm (bytesOf s) = true then (((labs s.size (bytesOf s)).getD []).map strOfNums, true) else (([] : List ByteArray), false)).2 = nm (bytesOf s) := by
    split
    · rename_i h; exact h.symm
    · rename_i h; exact (Bool.eq_false_iff.2 h).symm
  rw [e] at h
  exact h
theorem may_ (s : ByteArray) (hs : s.size ≤ 140737488355328) (w : World) :
    Calls Try.prog 7 #[.string s] w fun e w' => e = .returned (.bool (nm (bytesOf s))) ∧ Below w.heap.size w w' := by
  obtain ⟨k, hk⟩ := Ev.rounds (May_ev s hs)
  exact name_May.calls k s _ w hk
end Go.Proofs.Ytnikfeaggppmpaa.Nam
