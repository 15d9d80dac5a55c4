/- part of a proof; what it has no use for was struck out -/
import Derived.Test.YtnikfeaggppmpaaPMx4
import Derived.Test.YtnikfeaggppmpaaNam
namespace Go.Proofs.Ytnikfeaggppmpaa.Nam
open Go.RowKit Go.Proofs.Ytnikfeaggppmpaa.PM Go.Proofs.YtnikfeaggppmpaaW.PrintWords Go.Proofs.YtnikfeaggppmpaaW.PrintLast Go.Proofs.Ytnikfeaggppmpaa.Base
set_option linter.unusedVariables false
set_option linter.unusedSimpArgs false
theorem cut_loop (s : ByteArray) (hs : s.size ≤ 1000000000000) : ∀ (d i : Nat), s.size < i + d →
    Ev (fun k => point_Cut.l0 k s (i : Int)) (match cutp d (bytesOf s) i with | some p => if nm ((bytesOf s).take p) = true then (strOfNums ((bytesOf s).take p), strOfNums ((bytesOf s).drop (p + 1)), true) else (⟨#[]⟩, ⟨#[]⟩, false) | none => (⟨#[]⟩, ⟨#[]⟩, false)) := by
  intro d
  induction d with
  | zero =>
    intro i hi
    refine Ev.step (f := fun _ => some (⟨#[]⟩, ⟨#[]⟩, false)) (fun k => ?_) (Ev.now _)
    simp only [point_Cut.l0]
    rw [if_neg (by omega)]
  | succ d ih =>
    intro i hi
    simp only [cutp]
    by_cases h : i < s.size
    · have hb := bt_range s i
      rw [bt_get s i h]
      simp only
      by_cases h0 : bt s i = 0
      · rw [if_pos h0]
        simp only
        have e0 : s.extract 0 (i : Int).toNat = strOfNums ((bytesOf s).take i) := by
          apply str_inj'
          rw [bytes_str ((of_b8 s).take i), bytes_ex]
          simp
        have e1 : s.extract ((i : Int) + 1).toNat s.size = strOfNums ((bytesOf s).drop (i + 1)) := by
          apply str_inj'
          rw [bytes_str ((of_b8 s).drop _), bytes_ex, List.take_of_length_le (by rw [of_size]; exact Nat.le_refl _), show ((i : Int) + 1).toNat = i + 1 by omega]
        have hm := May_ev (s.extract 0 (i : Int).toNat) (by simp; omega)
        rw [e0, bytes_str ((of_b8 s).take i)] at hm
        obtain ⟨K, hK⟩ := hm
        refine ⟨K + 1, fun n hn => ?_⟩
        obtain ⟨m, rfl⟩ : ∃ m, n = m + 1 := ⟨n - 1, by omega⟩
        simp only [point_Cut.l0]
        rw [if_pos (by omega), if_pos (by omega), if_pos h0, if_pos (by omega), w64 (by omega) (by omega), e0, e1]
        have hk := hK m (by omega)
        simp only at hk
        rw [hk]
        simp only [Option.bind_some]
        by_cases hn' : nm ((bytesOf s).take i) = true
        · rw [if_pos hn', if_pos hn', if_pos (by omega), if_pos (by omega)]
        · rw [if_neg hn', if_neg hn']
      · rw [if_neg h0]
        refine Ev.step (fun k => ?_) (ih (i + 1 + (bt s i).toNat) (by omega))
        simp only [point_Cut.l0]
        have e : wrap64 ((i : Int) + wrap64 (1 + wrap64 (bt s i))) = ((i + 1 + (bt s i).toNat : Nat) : Int) := by
          rw [w64 (n := bt s i) (by omega) (by omega), w64 (n := 1 + bt s i) (by omega) (by omega), w64 (by omega) (by omega)]
          omega
        rw [if_pos (by omega), if_pos (by omega), if_neg h0, e]
    · have hn : (bytesOf s)[i]? = none := List.getElem?_eq_none (by rw [of_size]; omega)
      rw [hn]
      refine Ev.step (f := fun _ => some (⟨#[]⟩, ⟨#[]⟩, false)) (fun k => ?_) (Ev.now _)
      simp only [point_Cut.l0]
      rw [if_neg (by omega)]
theorem Cut_ev (s : ByteArray) (hs : s.size ≤ 1000000000000) : Ev (fun k => point_Cut.f k s) (strOfNums (cut (bytesOf s)).1, strOfNums (cut (bytesOf s)).2.1, (cut (bytesOf s)).2.2) := by
  have h := cut_loop s hs (s.size + 1) 0 (by omega)
  have e : (match cutp (s.size + 1) (bytesOf s) 0 with | some p => if nm ((bytesOf s).take p) = true then (strOfNums ((bytesOf s).take p), strOfNums ((bytesOf s).drop (p + 1)), true) else (⟨#[]⟩, ⟨#[]⟩, false) | none => ((⟨#[]⟩ : ByteArray), (⟨#[]⟩ : ByteArray), false)) = (strOfNums (cut (bytesOf s)).1, strOfNums (cut (bytesOf s)).2.1, (cut (bytesOf s)).2.2) := by
    unfold cut
    rw [of_size]
    cases cutp (s.size + 1) (bytesOf s) 0 with
    | none => rfl
    | some p =>
      simp only
      split <;> rfl
  rw [e] at h
  exact h
end Go.Proofs.Ytnikfeaggppmpaa.Nam
