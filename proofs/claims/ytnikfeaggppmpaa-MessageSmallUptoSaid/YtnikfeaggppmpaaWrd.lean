/- part of a proof; what it has no use for was struck out -/
import Derived.Test.YtnikfeaggppmpaaNamP
import Derived.Test.YtnikfeaggppmpaaPMx6
import Derived.Test.YtnikfeaggppmpaaPMx6
namespace Go.Proofs.Ytnikfeaggppmpaa.Nam
open Go.RowKit Go.Proofs.Ytnikfeaggppmpaa.PM Go.Proofs.YtnikfeaggppmpaaW.PrintWords Go.Proofs.YtnikfeaggppmpaaW.PrintLast Go.Proofs.Ytnikfeaggppmpaa.Base
set_option linter.unusedVariables false
set_option linter.unusedSimpArgs false
set_option maxRecDepth 100000
def dictS : List ByteArray := [⟨#[97]⟩, ⟨#[98]⟩, ⟨#[99]⟩, ⟨#[119, 119, 119]⟩, ⟨#[101, 120]⟩, ⟨#[111, 114, 103]⟩, ⟨#[42]⟩, ⟨#[114, 112, 122, 45, 105, 112]⟩]
theorem dictS_eq : dictS = dict.map strOfNums := rfl
theorem words_loop (ns : List Int) (hb : B8 ns) (hl : ns.length ≤ 1000000000000) (d : Nat) : ∀ (i : Nat), i + d = ns.length → i ≤ 12 →
    Ev (fun k => bolterlaw02_Words.l0 k ((wordsL (ns.take i)).map strOfNums) ns (ns.length : Int) (i : Int)) ((wordsL ns).map strOfNums) := by
  induction d with
  | zero =>
    intro i hi h12
    obtain rfl : i = ns.length := by omega
    refine Ev.step (f := fun _ => some ((wordsL ns).map strOfNums)) (fun k => ?_) (Ev.now _)
    simp only [bolterlaw02_Words.l0, Int.lt_irrefl, if_false, List.take_length]
  | succ d ih =>
    intro i hi h12
    by_cases h : i = 12
    · subst h
      refine Ev.step (f := fun _ => some ((wordsL ns).map strOfNums)) (fun k => ?_) (Ev.now _)
      simp only [bolterlaw02_Words.l0]
      rw [if_pos (by omega), if_pos (by omega), if_pos (by omega), if_pos (by omega)]
      congr 2
      unfold wordsL
      rw [List.take_take]
      rfl
    · have hlt : i < ns.length := by omega
      refine Ev.step (fun k => ?_) (ih (i + 1) (by omega) (by omega))
      have e : wrap64 ((i : Int) + 1) = ((i + 1 : Nat) : Int) := by rw [w64 (by omega) (by omega)]; omega
      have hr := hb _ (rd_mem (l := ns) (i := (i : Int)) (by omega) (by omega))
      have hm : Int.tmod (rd ns i) 8 = rd ns i % 8 := Int.tmod_eq_emod_of_nonneg hr.1
      simp only [bolterlaw02_Words.l0]
      rw [if_pos (by omega), if_pos (by omega), if_pos (by omega), if_neg (by omega)]
      simp only [Option.bind_some]
      rw [hm, if_pos (by omega), if_pos (by show _ < ((8 : Nat) : Int); omega), if_pos (by rw [List.length_map]; have := words_len (ns.take i); omega), e]
      congr 1
      have ht : wordsL (ns.take (i + 1)) = wordsL (ns.take i) ++ [word (rd ns i)] := by
        unfold wordsL
        rw [List.take_take, List.take_take, show min 12 (i + 1) = i + 1 by omega, show min 12 i = i by omega, List.take_succ_eq_append_getElem hlt, List.map_append, rd_nat ns i hlt]
        rfl
      rw [ht, List.map_append]
      congr 1
      show [rdOf ByteArray.empty dictS (rd ns i % 8)] = [strOfNums (word (rd ns i))]
      unfold rdOf word
      rw [dictS_eq, show (ByteArray.empty) = strOfNums [] from rfl, List.getD_eq_getElem?_getD, List.getElem?_map, List.getD_eq_getElem?_getD]
      cases dict[(rd ns i % 8).toNat]? <;> rfl
theorem words_ev (ns : List Int) (hb : B8 ns) (hl : ns.length ≤ 1000000000000) : Ev (fun k => bolterlaw02_Words.f k ns) ((wordsL ns).map strOfNums) := by
  have h := words_loop ns hb hl ns.length 0 (by omega) (by omega)
  exact h
theorem words_bytes (ns : List Int) : ((wordsL ns).map strOfNums).map bytesOf = wordsL ns := by
  rw [List.map_map]
  conv => rhs; rw [← List.map_id (wordsL ns)]
  exact List.map_congr_left fun l hl => bytes_str (words_ok ns l hl).2.1
theorem Name_ev (ns : List Int) (hb : B8 ns) (hl : ns.length ≤ 1000000000000) : Ev (fun k => bolterlaw02_Name.f k ns) (strOfNums (nameL ns)) := by
  obtain ⟨K, h⟩ := words_ev ns hb hl
  refine ⟨K, fun n hn => ?_⟩
  have hk := h n hn
  simp only at hk
  simp only [bolterlaw02_Name.f, hk, Option.bind_some]
  unfold name_Make.f
  rw [words_bytes, nameL_mk]
  rfl
end Go.Proofs.Ytnikfeaggppmpaa.Nam
