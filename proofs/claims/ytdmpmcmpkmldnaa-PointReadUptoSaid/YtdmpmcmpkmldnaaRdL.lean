/-
  The law's own reading of a name, as its printed words compute it. No macro, syntax, notation, axiom, sorry.
-/
import Derived.Test.YtdmpmcmpkmldnaaRdEq
namespace Go.Proofs.Ytdmpmcmpkmldnaa.Rd
open Go.RowKit Go.Proofs.Ytdmpmcmpkmldnaa.PP Go.Proofs.YtdmpmcmpkmldnaaW.PrintWords Go.Proofs.YtdmpmcmpkmldnaaW.PrintLast Go.Proofs.Ytdmpmcmpkmldnaa.Base Go.Proofs.Ytdmpmcmpkmldnaa.Nam Go.Proofs.Ytdmpmcmpkmldnaa.QP
set_option linter.unusedVariables false
set_option linter.unusedSimpArgs false
set_option maxRecDepth 100000

theorem rdC_b8 (m : ByteArray) : ∀ (k : Nat) (p e low : Int) (ls ls' : List (List Int)) (e' : Int), rdC m k p e low ls = some (some (ls', e')) → (∀ l ∈ ls, B8 l) → ∀ l ∈ ls', B8 l
  | 0, _, _, _, _, _, _, h, _ => by cases h
  | k + 1, p, e, low, ls, ls', e', h, hb => by
    unfold rdC at h
    repeat' split at h
    all_goals first
      | (injection h with h; cases h; done)
      | (injection h with h; injection h with h; injection h with h1 h2; rw [← h1]; exact hb)
      | exact rdC_b8 m k _ _ _ _ _ _ h hb
      | (refine rdC_b8 m k _ _ _ _ _ _ h fun l hl => ?_
         rcases List.mem_append.1 hl with hl | hl
         · exact hb l hl
         · rw [List.mem_singleton.1 hl]
           exact fun y hy => of_b8 m y (List.mem_of_mem_take (List.mem_of_mem_drop hy)))
def rdO (r : Option (List (List Int) × Int)) : ByteArray × Int × Bool := (strOfNums (rdV r).1, (rdV r).2.1, (rdV r).2.2)
theorem make_two (x9 : List ByteArray) : name_Make.f x9 = some (strOfNums (mk (x9.map bytesOf)), mkOk (x9.map bytesOf)) := rfl
theorem readL (m : ByteArray) (hm : m.size ≤ 3000) : ∀ (n k : Nat) (p e low : Int) (x9 : List ByteArray) (x10 : Int), 3 * n + 1 ≤ k → x10 + n = 3100 → 0 ≤ x10 → x9.length + n ≤ 3100 →
    bolterlaw03_read.l0 k m p e low x9 x10 = some (rdO (rdS m n p e low (x9.map bytesOf)))
  | 0, k, p, e, low, x9, x10, hk, hn, h0, hl => by
    obtain ⟨k, rfl⟩ : ∃ q, k = q + 1 := ⟨k - 1, by omega⟩
    simp only [bolterlaw03_read.l0]
    rw [if_neg (by omega)]
    rfl
  | n + 1, k, p, e, low, x9, x10, hk, hn, h0, hl => by
    obtain ⟨k, rfl⟩ : ∃ q, k = q + 1 + 1 + 1 := ⟨k - 3, by omega⟩
    have ih := readL m hm n
    have b0 := bt_range m p
    have b1 := bt_range m (p + 1)
    have w0 : wrap64 (bt m p) = bt m p := w64 (by omega) (by omega)
    have wx : wrap64 (x10 + 1) = x10 + 1 := w64 (by omega) (by omega)
    rw [show bolterlaw03_read.l0 (k + 1 + 1 + 1) m p e low x9 x10 = (if x10 < 3100 then (if p < 0 then (bolterlaw03_read.j1 (k + 1 + 1) m p e low x9 x10 true) else (bolterlaw03_read.j1 (k + 1 + 1) m p e low x9 x10 (decide (p ≥ (m.size : Int))))) else (some ((⟨#[]⟩ : ByteArray), 0, false))) by simp only [bolterlaw03_read.l0]]
    rw [if_pos (by omega)]
    unfold rdS
    by_cases c1 : p < 0 ∨ (m.size : Int) ≤ p
    · rw [if_pos c1]
      have hj : bolterlaw03_read.j1 (k + 1 + 1) m p e low x9 x10 true = some ((⟨#[]⟩ : ByteArray), 0, false) := by simp only [bolterlaw03_read.j1]; rfl
      by_cases c : p < 0
      · rw [if_pos c, hj]
        rfl
      · rw [if_neg c, decide_eq_true (by omega), hj]
        rfl
    · have wp1 : wrap64 (p + 1) = p + 1 := w64 (by omega) (by omega)
      have wp2 : wrap64 (p + 2) = p + 2 := w64 (by omega) (by omega)
      have wb1 : wrap64 (bt m (p + 1)) = bt m (p + 1) := w64 (by omega) (by omega)
      rw [if_neg c1, if_neg (by omega), decide_eq_false (by omega)]
      simp only [bolterlaw03_read.j1, w0, wp1]
      rw [if_neg (by decide), if_pos (by omega), if_pos (by omega)]
      by_cases c2 : bt m p = 0
      · rw [if_pos c2, if_pos c2, make_two]
        simp only [Option.bind_some]
        cases hok : mkOk (x9.map bytesOf) with
        | false =>
          simp [rdO, rdV, hok]
          rfl
        | true =>
          by_cases he : e < 0
          · simp [rdO, rdV, hok, he, mk]
          · simp [rdO, rdV, hok, he, mk]
      · rw [if_neg c2, if_neg c2]
        by_cases c3 : bt m p ≤ 63
        · rw [if_pos (by omega), if_pos c3]
          have e1 : wrap64 (p + bt m p) = p + bt m p := w64 (by omega) (by omega)
          have e2 : wrap64 (p + bt m p + 1) = p + bt m p + 1 := w64 (by omega) (by omega)
          have e3 : wrap64 (bt m p + 1) = bt m p + 1 := w64 (by omega) (by omega)
          have e4 : wrap64 (p + (bt m p + 1)) = p + (bt m p + 1) := w64 (by omega) (by omega)
          simp only [e1, e2, e3, e4, wx]
          by_cases c4 : p + bt m p < m.size
          · rw [if_neg (by omega), if_pos c4, if_pos (by omega), if_pos (by omega), if_pos (by omega), if_pos (by omega)]
            rw [ih (k + 1) _ _ _ _ _ (by omega) (by omega) (by omega) (by rw [List.length_append, List.length_singleton]; omega)]
            rw [List.map_append, List.map_singleton, bytes_ex]
            rw [show p + (bt m p + 1) = p + (1 + bt m p) by omega, show p + bt m p + 1 = p + 1 + bt m p by omega]
          · rw [if_pos (by omega), if_neg c4]
            rfl
        · rw [if_neg (by omega), if_neg c3]
          have hj : bolterlaw03_read.j2 (k + 1) m p e low x9 x10 (bt m p) true = some ((⟨#[]⟩ : ByteArray), 0, false) := by simp only [bolterlaw03_read.j2]; rfl
          by_cases c4 : bt m p < 192
          · rw [if_pos c4, hj, if_neg (by omega)]
            rfl
          · rw [if_neg c4]
            by_cases c5 : p + 1 < m.size
            · rw [decide_eq_false (by omega)]
              have e1 : wrap64 (bt m p - 192) = bt m p - 192 := w64 (by omega) (by omega)
              have e2 : wrap64 ((bt m p - 192) * 256) = (bt m p - 192) * 256 := w64 (by omega) (by omega)
              have e3 : wrap64 ((bt m p - 192) * 256 + bt m (p + 1)) = (bt m p - 192) * 256 + bt m (p + 1) := w64 (by omega) (by omega)
              simp only [bolterlaw03_read.j2, wp1, wb1, e1, e2, e3, wp2, wx]
              rw [if_neg (by decide), if_pos (by omega), if_pos c5]
              by_cases c6 : (bt m p - 192) * 256 + bt m (p + 1) < low
              · have hi := fun e' => ih k ((bt m p - 192) * 256 + bt m (p + 1)) e' ((bt m p - 192) * 256 + bt m (p + 1)) x9 (x10 + 1) (by omega) (by omega) (by omega) (by omega)
                rw [if_pos (show 192 ≤ bt m p ∧ p + 1 < m.size ∧ (bt m p - 192) * 256 + bt m (p + 1) < low from ⟨by omega, c5, c6⟩)]
                by_cases he : e < 0
                · rw [if_pos he, if_pos he, if_neg (by omega), hi]
                · rw [if_neg he, if_neg he, if_neg (by omega), hi]
              · rw [if_neg (show ¬ (192 ≤ bt m p ∧ p + 1 < m.size ∧ (bt m p - 192) * 256 + bt m (p + 1) < low) from fun hh => c6 hh.2.2), if_pos (show (bt m p - 192) * 256 + bt m (p + 1) ≥ low by omega)]
                by_cases he : e < 0
                · rw [if_pos he]
                  rfl
                · rw [if_neg he, if_pos (show (bt m p - 192) * 256 + bt m (p + 1) ≥ low by omega)]
                  rfl
            · rw [decide_eq_true (by omega), hj, if_neg (by omega)]
              rfl
theorem read_f (m : ByteArray) (hm : m.size ≤ 3000) (p : Int) : bolterlaw03_read.f 9301 m p = some (rdO (rdS m 3100 p (-1) p [])) :=
  readL m hm 3100 9301 p (-1) p [] 0 (by omega) (by omega) (by omega) (by simp)
end Go.Proofs.Ytdmpmcmpkmldnaa.Rd
