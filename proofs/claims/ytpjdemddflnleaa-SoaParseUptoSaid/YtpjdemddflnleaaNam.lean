/-
  Names as lists of numbers: folding, labels, which bytes are a name; name.Labels, name.May and point.Cut in these words. No macro, syntax, notation, axiom, sorry.
-/
import Derived.Test.YtpjdemddflnleaaPAx1
import Derived.Test.YtpjdemddflnleaaPAx1
import Derived.Test.YtpjdemddflnleaaBase
import Derived.Test.YtpjdemddflnleaaHeap
namespace Go.Proofs.Ytpjdemddflnleaa.Nam
open Go.RowKit Go.Proofs.Ytpjdemddflnleaa.PA Go.Proofs.YtpjdemddflnleaaW.PrintWords Go.Proofs.YtpjdemddflnleaaW.PrintLast Go.Proofs.Ytpjdemddflnleaa.Base
set_option linter.unusedVariables false
set_option linter.unusedSimpArgs false

/-! ### Strings and lists -/
theorem bytes_ex (s : ByteArray) (a b : Nat) : bytesOf (s.extract a b) = ((bytesOf s).take b).drop a := by
  simp [bytesOf, List.map_drop, List.map_take, List.extract_eq_take_drop, List.drop_take]
theorem bytes_str {l : List Int} (h : B8 l) : bytesOf (strOfNums l) = l := by
  simp only [bytesOf, strOfNums, List.map_map]
  conv => rhs; rw [← List.map_id l]
  apply List.map_congr_left
  intro y hy
  have := h y hy
  simp
  omega
theorem str_inj' {a b : ByteArray} (h : bytesOf a = bytesOf b) : a = b := by rw [← str_of a, ← str_of b, h]
theorem bytes_app (a b : ByteArray) : bytesOf (a ++ b) = bytesOf a ++ bytesOf b := by simp [bytesOf]
theorem str_app (a b : List Int) : strOfNums (a ++ b) = strOfNums a ++ strOfNums b := by
  apply ByteArray.ext
  simp [strOfNums]
theorem str_ne (a b : ByteArray) : (a.toList != b.toList) = !decide (bytesOf a = bytesOf b) := by
  by_cases h : bytesOf a = bytesOf b
  · rw [str_inj' h]; simp
  · simp only [h, decide_false, Bool.not_false, bne_iff_ne, ne_eq]
    intro hh
    apply h
    rw [ByteArray.toList_eq, ByteArray.toList_eq] at hh
    simp [bytesOf, hh]
theorem bt_get (s : ByteArray) (i : Nat) (h : i < s.size) : (bytesOf s)[i]? = some (bt s i) := by
  have hd : i < s.data.toList.length := by simpa using h
  simp only [bytesOf, List.getElem?_map, List.getElem?_eq_getElem hd, Option.map_some, bt, Int.toNat_natCast, h, dif_pos]
  simp
  rfl

/-! ### Folding -/
def fold1 (c : Int) : Int := if 65 ≤ c ∧ c ≤ 90 then c + 32 else c
def fold (l : List Int) : List Int := l.map fold1
theorem one_eq {c : Int} (h0 : 0 ≤ c) (h1 : c < 256) : name_folded.one c = fold1 c := by
  unfold name_folded.one name_Fold.f fold1
  repeat' split
  all_goals simp only [Option.getD_some]
  all_goals omega
theorem one_map {l : List Int} (h : B8 l) : l.map name_folded.one = fold l := List.map_congr_left fun y hy => one_eq (h y hy).1 (h y hy).2
theorem fold1_idem (c : Int) : fold1 (fold1 c) = fold1 c := by unfold fold1; (repeat' split) <;> omega
theorem fold_idem (l : List Int) : fold (fold l) = fold l := by simp [fold, fold1_idem]
theorem fold_len (l : List Int) : (fold l).length = l.length := by simp [fold]
theorem fold_b8 {l : List Int} (h : B8 l) : B8 (fold l) := by
  intro y hy
  obtain ⟨x, hx, rfl⟩ := List.mem_map.1 hy
  have := h x hx
  unfold fold1
  split <;> omega
theorem fold_app (a b : List Int) : fold (a ++ b) = fold a ++ fold b := by simp [fold]
theorem fold_take (a : List Int) (n : Nat) : fold (a.take n) = (fold a).take n := by simp [fold, List.map_take]
theorem fold_drop (a : List Int) (n : Nat) : fold (a.drop n) = (fold a).drop n := by simp [fold, List.map_drop]
theorem fold_small {c : Int} (h : c ≤ 63) : fold1 c = c := by unfold fold1; split <;> omega

/-! ### Labels -/
/-- Labels, each with its length ahead. -/
def lay (ls : List (List Int)) : List Int := ls.flatMap fun l => (l.length : Int) :: l
theorem lay_nil : lay [] = [] := rfl
theorem lay_cons (l : List Int) (ls : List (List Int)) : lay (l :: ls) = (l.length : Int) :: l ++ lay ls := rfl
theorem lay_app (a b : List (List Int)) : lay (a ++ b) = lay a ++ lay b := by simp [lay]
theorem lay_snoc (a : List (List Int)) (l : List Int) : lay (a ++ [l]) = lay a ++ (l.length : Int) :: l := by rw [lay_app, lay_cons, lay_nil, List.append_nil]
/-- The labels of bytes, if these are labels. -/
def labs : Nat → List Int → Option (List (List Int))
  | 0, l => if l = [] then some [] else none
  | k + 1, l => match l with
    | [] => some []
    | c :: r => if 1 ≤ c ∧ c ≤ 63 ∧ c.toNat ≤ r.length then (labs k (r.drop c.toNat)).map (r.take c.toNat :: ·) else none
def Lab (l : List Int) : Prop := 1 ≤ l.length ∧ l.length ≤ 63
theorem labs_lay : ∀ (ls : List (List Int)) (k : Nat), ls.length ≤ k → (∀ l ∈ ls, Lab l) → labs k (lay ls) = some ls
  | [], k, _, _ => by cases k <;> simp [labs, lay]
  | l :: ls, 0, h, _ => by simp at h
  | l :: ls, k + 1, h, hl => by
    have h1 := hl l (List.mem_cons_self ..)
    rw [lay_cons]
    simp only [labs, List.cons_append]
    rw [if_pos ⟨by have := h1.1; omega, by have := h1.2; omega, by simp⟩]
    simp only [Int.toNat_natCast, List.drop_left', List.take_left']
    rw [labs_lay ls k (by simpa using h) (fun x hx => hl x (List.mem_cons_of_mem _ hx))]
    rfl
theorem lay_labs : ∀ (k : Nat) (l : List Int) (ls : List (List Int)), labs k l = some ls → l = lay ls ∧ (∀ x ∈ ls, Lab x) ∧ ls.length ≤ k
  | 0, l, ls, h => by
    simp only [labs] at h
    split at h
    · rename_i h0
      cases h
      exact ⟨h0, by simp, by simp⟩
    · cases h
  | k + 1, [], ls, h => by
    simp only [labs] at h
    cases h
    exact ⟨rfl, by simp, by simp⟩
  | k + 1, c :: r, ls, h => by
    simp only [labs] at h
    split at h
    · rename_i h0
      obtain ⟨ls', h1, rfl⟩ := Option.map_eq_some_iff.1 h
      obtain ⟨h2, h3, h4⟩ := lay_labs k _ _ h1
      have hlen : (r.take c.toNat).length = c.toNat := by rw [List.length_take]; omega
      refine ⟨?_, ?_, by simpa using h4⟩
      · rw [lay_cons, ← h2, hlen, Int.toNat_of_nonneg (by omega), List.cons_append, List.take_append_drop]
      · intro x hx
        rcases List.mem_cons.1 hx with rfl | hx
        · unfold Lab; rw [hlen]; omega
        · exact h3 x hx
    · cases h
theorem labs_more {k : Nat} {l : List Int} {ls : List (List Int)} (h : labs k l = some ls) {k' : Nat} (hk : ls.length ≤ k') : labs k' l = some ls := by
  obtain ⟨rfl, h2, _⟩ := lay_labs k l ls h
  exact labs_lay ls k' hk h2
theorem lay_length (ls : List (List Int)) : ls.length ≤ (lay ls).length := by
  induction ls with
  | nil => simp
  | cons l ls ih => rw [lay_cons]; simp; omega
theorem labs_len {k : Nat} {l : List Int} {ls : List (List Int)} (h : labs k l = some ls) : labs l.length l = some ls := by
  obtain ⟨rfl, h2, _⟩ := lay_labs k l ls h
  exact labs_lay ls _ (lay_length ls) h2
theorem labs_none {k : Nat} {l : List Int} (hk : l.length ≤ k) (h : labs l.length l = none) : labs k l = none := by
  cases h' : labs k l with
  | none => rfl
  | some ls => rw [labs_len h'] at h; cases h

/-- Which bytes are a name. -/
def nm (l : List Int) : Bool := decide (l.length ≤ 254) && decide (fold l = l) && (labs l.length l).isSome
theorem nm_iff (l : List Int) : nm l = true ↔ l.length ≤ 254 ∧ fold l = l ∧ ∃ ls, labs l.length l = some ls := by
  simp [nm, Option.isSome_iff_exists, and_assoc]
theorem nm_lay {ls : List (List Int)} (h1 : ∀ l ∈ ls, Lab l) (h2 : ∀ l ∈ ls, fold l = l) (h3 : (lay ls).length ≤ 254) : nm (lay ls) = true := by
  rw [nm_iff]
  refine ⟨h3, ?_, ls, labs_lay ls _ (lay_length ls) h1⟩
  clear h3
  induction ls with
  | nil => rfl
  | cons l ls ih =>
    rw [lay_cons, fold_app, ih (fun x hx => h1 x (List.mem_cons_of_mem _ hx)) (fun x hx => h2 x (List.mem_cons_of_mem _ hx))]
    congr 1
    show fold1 _ :: fold l = _
    rw [h2 l (List.mem_cons_self ..), fold_small]
    have := (h1 l (List.mem_cons_self ..)).2
    omega
theorem nm_labs {l : List Int} (h : nm l = true) : ∃ ls, l = lay ls ∧ (∀ x ∈ ls, Lab x) ∧ (∀ x ∈ ls, fold x = x) ∧ (lay ls).length ≤ 254 := by
  obtain ⟨h1, h2, ls, h3⟩ := (nm_iff l).1 h
  obtain ⟨rfl, h4, -⟩ := lay_labs _ _ _ h3
  refine ⟨ls, rfl, h4, ?_, h1⟩
  clear h h1 h3 h4
  induction ls with
  | nil => intro x hx; cases hx
  | cons l ls ih =>
    rw [lay_cons, fold_app] at h2
    have h5 := List.append_inj h2 (by simp [fold])
    intro x hx
    rcases List.mem_cons.1 hx with rfl | hx
    · have h6 : fold1 _ :: fold x = _ := h5.1
      injection h6
    · exact ih h5.2 x hx

/-! ### name.Labels and name.May -/
theorem labels_ev (n : Nat) : ∀ (s : ByteArray) (acc : List ByteArray), s.size ≤ n → acc.length + s.size ≤ 1000000000 →
    Ev (fun k => name_Labels.l0 k acc s) (match labs s.size (bytesOf s) with | some ls => (acc ++ ls.map strOfNums, true) | none => ([], false)) := by
  induction n with
  | zero =>
    intro s acc hs _
    have h0 : s.size = 0 := by omega
    have hb : bytesOf s = [] := List.eq_nil_of_length_eq_zero (by rw [of_size]; exact h0)
    rw [h0, hb]
    refine Ev.step (f := fun _ => some (acc, true)) (fun k => ?_) ?_
    · simp only [name_Labels.l0]
      rw [if_neg (by omega)]
    · show Ev _ (acc ++ [], true)
      rw [List.append_nil]
      exact Ev.now _
  | succ n ih =>
    intro s acc hs ha
    by_cases h0 : s.size = 0
    · exact ih s acc (by omega) ha
    · have hb := bt_range s 0
      have e1 : wrap64 (bt s 0) = bt s 0 := w64 (by omega) (by omega)
      have e2 : wrap64 (1 + bt s 0) = 1 + bt s 0 := w64 (by omega) (by omega)
      obtain ⟨c, r, hcr⟩ : ∃ c r, bytesOf s = c :: r := by
        cases h : bytesOf s with
        | nil => rw [← of_size, h] at h0; exact absurd rfl h0
        | cons c r => exact ⟨c, r, rfl⟩
      have hc : c = bt s 0 := by
        have := bt_get s 0 (by omega)
        rw [hcr] at this
        simpa using this
      have hr : r.length + 1 = s.size := by rw [← of_size, hcr]; rfl
      obtain ⟨m, hm⟩ : ∃ m, s.size = m + 1 := ⟨r.length, hr.symm⟩
      rw [hcr, hm]
      simp only [labs]
      by_cases hbad : 1 ≤ c ∧ c ≤ 63 ∧ c.toNat ≤ r.length
      · rw [if_pos hbad]
        have hx : (s.extract (1 + bt s 0).toNat s.size).size = s.size - (1 + bt s 0).toNat := by simp
        have hxb : bytesOf (s.extract (1 + bt s 0).toNat s.size) = r.drop c.toNat := by
          rw [bytes_ex, List.take_of_length_le (by rw [of_size]; exact Nat.le_refl _), hcr, ← hc, show (1 + c).toNat = c.toNat + 1 by omega, List.drop_succ_cons]
        have hlb : s.extract 1 (1 + bt s 0).toNat = strOfNums (r.take c.toNat) := by
          apply str_inj'
          rw [bytes_str (fun y hy => of_b8 s y (by rw [hcr]; exact List.mem_cons_of_mem _ (List.mem_of_mem_take hy))), bytes_ex, hcr, ← hc, show (1 + c).toNat = c.toNat + 1 by omega]
          simp
        have key := ih (s.extract (1 + bt s 0).toNat s.size) (acc ++ [s.extract 1 (1 + bt s 0).toNat]) (by omega) (by rw [List.length_append]; simp only [List.length_cons, List.length_nil]; omega)
        have hres : (match (labs m (r.drop c.toNat)).map (r.take c.toNat :: ·) with | some ls => (acc ++ ls.map strOfNums, true) | none => (([] : List ByteArray), false)) = (match labs (s.extract (1 + bt s 0).toNat s.size).size (bytesOf (s.extract (1 + bt s 0).toNat s.size)) with | some ls => ((acc ++ [s.extract 1 (1 + bt s 0).toNat]) ++ ls.map strOfNums, true) | none => ([], false)) := by
          rw [← of_size (s.extract (1 + bt s 0).toNat s.size), hxb]
          have hle : (r.drop c.toNat).length ≤ m := by rw [List.length_drop]; omega
          cases h : labs (r.drop c.toNat).length (r.drop c.toNat) with
          | none => rw [labs_none hle h]; rfl
          | some ls => rw [labs_more h (Nat.le_trans (lay_labs _ _ _ h).2.2 hle)]; simp [hlb]
        rw [hres]
        refine Ev.step (fun k => ?_) key
        simp only [name_Labels.l0]
        rw [if_pos (by omega), if_pos (by omega), e1, if_neg (by omega), if_neg (by omega), if_neg (by omega), e2, if_pos (by omega), if_pos (by omega), if_pos (by omega), if_pos (by omega)]
      · rw [if_neg hbad]
        refine Ev.step (f := fun _ => some ([], false)) (fun k => ?_) (Ev.now _)
        simp only [name_Labels.l0]
        rw [if_pos (by omega), if_pos (by omega), e1]
        by_cases h1 : bt s 0 < 1
        · rw [if_pos h1]
        · rw [if_neg h1]
          by_cases h2 : bt s 0 > 63
          · rw [if_pos h2]
          · rw [if_neg h2, if_pos (by omega)]
theorem Labels_ev (s : ByteArray) (hs : s.size ≤ 140737488355328) :
    Ev (fun k => name_Labels.f k s) (if nm (bytesOf s) = true then (((labs s.size (bytesOf s)).getD []).map strOfNums, true) else ([], false)) := by
  by_cases h : (s.size : Int) > 254
  · rw [if_neg (by rw [nm_iff, of_size]; omega)]
    refine Ev.step (f := fun _ => some ([], false)) (fun k => ?_) (Ev.now _)
    unfold name_Labels.f
    rw [if_pos h]
    simp only [name_Labels.j0, if_true]
  · have hf : name_folded.f s = some (strOfNums (fold (bytesOf s))) := by
      unfold name_folded.f
      rw [if_pos (by omega), one_map (of_b8 s)]
    have hcmp : (s.toList != (strOfNums (fold (bytesOf s))).toList) = !decide (fold (bytesOf s) = bytesOf s) := by
      rw [str_ne, bytes_str (fold_b8 (of_b8 s))]
      congr 1
      exact decide_eq_decide.2 ⟨fun h => h.symm, fun h => h.symm⟩
    by_cases hb : fold (bytesOf s) = bytesOf s
    · have key := labels_ev s.size s [] (Nat.le_refl _) (by simp; omega)
      have hres : (if nm (bytesOf s) = true then (((labs s.size (bytesOf s)).getD []).map strOfNums, true) else (([] : List ByteArray), false)) = (match labs s.size (bytesOf s) with | some ls => ([] ++ ls.map strOfNums, true) | none => ([], false)) := by
        cases hl : labs s.size (bytesOf s) with
        | none => rw [if_neg (by rw [nm_iff, of_size, hl]; simp)]
        | some ls => rw [if_pos ((nm_iff _).2 ⟨by rw [of_size]; omega, hb, ls, by rw [of_size]; exact hl⟩)]; simp
      rw [hres]
      refine Ev.step (fun k => ?_) key
      unfold name_Labels.f
      rw [if_neg h, hf]
      simp only [Option.bind_some, name_Labels.j0]
      rw [if_neg (by rw [hcmp]; simp [hb])]
    · rw [if_neg (by rw [nm_iff]; exact fun hh => hb hh.2.1)]
      refine Ev.step (f := fun _ => some ([], false)) (fun k => ?_) (Ev.now _)
      unfold name_Labels.f
      rw [if_neg h, hf]
      simp only [Option.bind_some, name_Labels.j0]
      rw [if_pos (by rw [hcmp]; simp [hb])]
theorem May_ev (s : ByteArray) (hs : s.size ≤ 140737488355328) : Ev (fun k => name_May.f k s) (nm (bytesOf s)) := by
  have h : Ev (fun k => name_May.f k s) (if nm (bytesOf s) = true then (((labs s.size (bytesOf s)).getD []).map strOfNums, true) else (([] : List ByteArray), false)).2 := Ev.bind (Labels_ev s hs) (Ev.now _)
  have e : (if nm (bytesOf s) = true then (((labs s.size (bytesOf s)).getD []).map strOfNums, true) else (([] : List ByteArray), false)).2 = nm (bytesOf s) := by
    split
    · rename_i h; exact h.symm
    · rename_i h; exact (Bool.eq_false_iff.2 h).symm
  rw [e] at h
  exact h
/-- name.May. -/
theorem may_ (s : ByteArray) (hs : s.size ≤ 140737488355328) (w : World) :
    Calls Try.prog 10 #[.string s] w fun e w' => e = .returned (.bool (nm (bytesOf s))) ∧ Below w.heap.size w w' := by
  obtain ⟨k, hk⟩ := Ev.rounds (May_ev s hs)
  exact name_May.calls k s _ w hk
end Go.Proofs.Ytpjdemddflnleaa.Nam
