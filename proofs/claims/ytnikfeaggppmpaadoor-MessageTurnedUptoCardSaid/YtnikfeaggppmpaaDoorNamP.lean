/- part of a proof; what it has no use for was struck out -/
import Derived.Test.YtnikfeaggppmpaaDoorBase
import Derived.Test.YtnikfeaggppmpaaDoorHeap
namespace Go.Proofs.YtnikfeaggppmpaaDoor.Nam
open Go.RowKit Go.Proofs.YtnikfeaggppmpaaDoorW.PrintWords Go.Proofs.YtnikfeaggppmpaaDoorW.PrintLast Go.Proofs.YtnikfeaggppmpaaDoor.Base
set_option linter.unusedVariables false
set_option linter.unusedSimpArgs false
theorem bytes_ex (s : ByteArray) (a b : Nat) : bytesOf (s.extract a b) = ((bytesOf s).take b).drop a := by
  simp [bytesOf, List.map_drop, List.map_take, List.extract_eq_take_drop, List.drop_take]
theorem bytes_str {l : List Int} (h : B8 l) : bytesOf (strOfNums l) = l := by
  simp only [bytesOf, strOfNums, List.map_map]
  conv => rhs; rw [← List.map_id l]
  apply List.map_congr_left
  intro y hy
  have := h y hy
  simp
  omega
theorem str_inj' {a b : ByteArray} (h : bytesOf a = bytesOf b) : a = b := by rw [← str_of a, ← str_of b, h]
theorem bytes_app (a b : ByteArray) : bytesOf (a ++ b) = bytesOf a ++ bytesOf b := by simp [bytesOf]
theorem str_ne (a b : ByteArray) : (a.toList != b.toList) = !decide (bytesOf a = bytesOf b) := by
  by_cases h : bytesOf a = bytesOf b
  · rw [str_inj' h]; simp
  · simp only [h, decide_false, Bool.not_false, bne_iff_ne, ne_eq]
    intro hh
    apply h
    rw [ByteArray.toList_eq, ByteArray.toList_eq] at hh
    simp [bytesOf, hh]
theorem bt_get (s : ByteArray) (i : Nat) (h : i < s.size) : (bytesOf s)[i]? = some (bt s i) := by
  have hd : i < s.data.toList.length := by simpa using h
  simp only [bytesOf, List.getElem?_map, List.getElem?_eq_getElem hd, Option.map_some, bt, Int.toNat_natCast, h, dif_pos]
  simp
  rfl
def fold1 (c : Int) : Int := if 65 ≤ c ∧ c ≤ 90 then c + 32 else c
def fold (l : List Int) : List Int := l.map fold1
theorem fold1_idem (c : Int) : fold1 (fold1 c) = fold1 c := by unfold fold1; (repeat' split) <;> omega
theorem fold_idem (l : List Int) : fold (fold l) = fold l := by simp [fold, fold1_idem]
theorem fold_len (l : List Int) : (fold l).length = l.length := by simp [fold]
theorem fold_b8 {l : List Int} (h : B8 l) : B8 (fold l) := by
  intro y hy
  obtain ⟨x, hx, rfl⟩ := List.mem_map.1 hy
  have := h x hx
  unfold fold1
  split <;> omega
theorem fold_app (a b : List Int) : fold (a ++ b) = fold a ++ fold b := by simp [fold]
theorem fold_small {c : Int} (h : c ≤ 63) : fold1 c = c := by unfold fold1; split <;> omega
def lay (ls : List (List Int)) : List Int := ls.flatMap fun l => (l.length : Int) :: l
theorem lay_nil : lay [] = [] := rfl
theorem lay_cons (l : List Int) (ls : List (List Int)) : lay (l :: ls) = (l.length : Int) :: l ++ lay ls := rfl
theorem lay_app (a b : List (List Int)) : lay (a ++ b) = lay a ++ lay b := by simp [lay]
theorem lay_snoc (a : List (List Int)) (l : List Int) : lay (a ++ [l]) = lay a ++ (l.length : Int) :: l := by rw [lay_app, lay_cons, lay_nil, List.append_nil]
def labs : Nat → List Int → Option (List (List Int))
  | 0, l => if l = [] then some [] else none
  | k + 1, l => match l with
    | [] => some []
    | c :: r => if 1 ≤ c ∧ c ≤ 63 ∧ c.toNat ≤ r.length then (labs k (r.drop c.toNat)).map (r.take c.toNat :: ·) else none
def Lab (l : List Int) : Prop := 1 ≤ l.length ∧ l.length ≤ 63
theorem labs_lay : ∀ (ls : List (List Int)) (k : Nat), ls.length ≤ k → (∀ l ∈ ls, Lab l) → labs k (lay ls) = some ls
  | [], k, _, _ => by cases k <;> simp [labs, lay]
  | l :: ls, 0, h, _ => by simp at h
  | l :: ls, k + 1, h, hl => by
    have h1 := hl l (List.mem_cons_self ..)
    rw [lay_cons]
    simp only [labs, List.cons_append]
    rw [if_pos ⟨by have := h1.1; omega, by have := h1.2; omega, by simp⟩]
    simp only [Int.toNat_natCast, List.drop_left', List.take_left']
    rw [labs_lay ls k (by simpa using h) (fun x hx => hl x (List.mem_cons_of_mem _ hx))]
    rfl
theorem lay_labs : ∀ (k : Nat) (l : List Int) (ls : List (List Int)), labs k l = some ls → l = lay ls ∧ (∀ x ∈ ls, Lab x) ∧ ls.length ≤ k
  | 0, l, ls, h => by
    simp only [labs] at h
    split at h
    · rename_i h0
      cases h
      exact ⟨h0, by simp, by simp⟩
    · cases h
  | k + 1, [], ls, h => by
    simp only [labs] at h
    cases h
    exact ⟨rfl, by simp, by simp⟩
  | k + 1, c :: r, ls, h => by
    simp only [labs] at h
    split at h
    · rename_i h0
      obtain ⟨ls', h1, rfl⟩ := Option.map_eq_some_iff.1 h
      obtain ⟨h2, h3, h4⟩ := lay_labs k _ _ h1
      have hlen : (r.take c.toNat).length = c.toNat := by rw [List.length_take]; omega
      refine ⟨?_, ?_, by simpa using h4⟩
      · rw [lay_cons, ← h2, hlen, Int.toNat_of_nonneg (by omega), List.cons_append, List.take_append_drop]
      · intro x hx
        rcases List.mem_cons.1 hx with rfl | hx
        · unfold Lab; rw [hlen]; omega
        · exact h3 x hx
    · cases h
theorem labs_more {k : Nat} {l : List Int} {ls : List (List Int)} (h : labs k l = some ls) {k' : Nat} (hk : ls.length ≤ k') : labs k' l = some ls := by
  obtain ⟨rfl, h2, _⟩ := lay_labs k l ls h
  exact labs_lay ls k' hk h2
theorem lay_length (ls : List (List Int)) : ls.length ≤ (lay ls).length := by
  induction ls with
  | nil => simp
  | cons l ls ih => rw [lay_cons]; simp; omega
theorem labs_len {k : Nat} {l : List Int} {ls : List (List Int)} (h : labs k l = some ls) : labs l.length l = some ls := by
  obtain ⟨rfl, h2, _⟩ := lay_labs k l ls h
  exact labs_lay ls _ (lay_length ls) h2
theorem labs_none {k : Nat} {l : List Int} (hk : l.length ≤ k) (h : labs l.length l = none) : labs k l = none := by
  cases h' : labs k l with
  | none => rfl
  | some ls => rw [labs_len h'] at h; cases h
def nm (l : List Int) : Bool := decide (l.length ≤ 254) && decide (fold l = l) && (labs l.length l).isSome
theorem nm_iff (l : List Int) : nm l = true ↔ l.length ≤ 254 ∧ fold l = l ∧ ∃ ls, labs l.length l = some ls := by
  simp [nm, Option.isSome_iff_exists, and_assoc]
theorem nm_lay {ls : List (List Int)} (h1 : ∀ l ∈ ls, Lab l) (h2 : ∀ l ∈ ls, fold l = l) (h3 : (lay ls).length ≤ 254) : nm (lay ls) = true := by
  rw [nm_iff]
  refine ⟨h3, ?_, ls, labs_lay ls _ (lay_length ls) h1⟩
  clear h3
  induction ls with
  | nil => rfl
  | cons l ls ih =>
    rw [lay_cons, fold_app, ih (fun x hx => h1 x (List.mem_cons_of_mem _ hx)) (fun x hx => h2 x (List.mem_cons_of_mem _ hx))]
    congr 1
    show fold1 _ :: fold l = _
    rw [h2 l (List.mem_cons_self ..), fold_small]
    have := (h1 l (List.mem_cons_self ..)).2
    omega
theorem nm_labs {l : List Int} (h : nm l = true) : ∃ ls, l = lay ls ∧ (∀ x ∈ ls, Lab x) ∧ (∀ x ∈ ls, fold x = x) ∧ (lay ls).length ≤ 254 := by
  obtain ⟨h1, h2, ls, h3⟩ := (nm_iff l).1 h
  obtain ⟨rfl, h4, -⟩ := lay_labs _ _ _ h3
  refine ⟨ls, rfl, h4, ?_, h1⟩
  clear h h1 h3 h4
  induction ls with
  | nil => intro x hx; cases hx
  | cons l ls ih =>
    rw [lay_cons, fold_app] at h2
    have h5 := List.append_inj h2 (by simp [fold])
    intro x hx
    rcases List.mem_cons.1 hx with rfl | hx
    · have h6 : fold1 _ :: fold x = _ := h5.1
      injection h6
    · exact ih h5.2 x hx
def labB (l : List Int) : Bool := decide (1 ≤ l.length) && decide (l.length ≤ 63)
theorem labB_iff (l : List Int) : labB l = true ↔ Lab l := by simp [labB, Lab]
def mkL (ls : List (List Int)) : List Int := lay (ls.map fold)
def mkOk (ls : List (List Int)) : Bool := ls.all labB && decide ((mkL ls).length ≤ 254)
theorem mkOk_iff (ls : List (List Int)) : mkOk ls = true ↔ (∀ l ∈ ls, Lab l) ∧ (mkL ls).length ≤ 254 := by
  simp [mkOk, labB_iff]
def mk (ls : List (List Int)) : List Int := if mkOk ls = true then mkL ls else []
theorem mkL_snoc (ls : List (List Int)) (l : List Int) : mkL (ls ++ [l]) = mkL ls ++ (l.length : Int) :: fold l := by
  unfold mkL
  rw [List.map_append, List.map_singleton, lay_snoc, fold_len]
theorem mkL_take {ls : List (List Int)} {k : Nat} {l : List Int} (h : ls[k]? = some l) : mkL (ls.take (k + 1)) = mkL (ls.take k) ++ (l.length : Int) :: fold l := by
  rw [List.take_add_one, h, Option.toList_some, mkL_snoc]
theorem mkL_take_le (ls : List (List Int)) (k : Nat) : (mkL (ls.take k)).length ≤ (mkL ls).length := by
  conv => rhs; rw [← List.take_append_drop k ls]
  unfold mkL
  rw [List.map_append, lay_app, List.length_append]
  omega
theorem mkOk_bad {ls : List (List Int)} {k : Nat} {l : List Int} (h : ls[k]? = some l) (hb : l.length < 1 ∨ 63 < l.length ∨ 254 < (mkL (ls.take k)).length + 1 + l.length) : mkOk ls = false := by
  cases hk : mkOk ls with
  | false => rfl
  | true =>
    obtain ⟨h1, h2⟩ := (mkOk_iff ls).1 hk
    have h3 := h1 l (List.mem_of_getElem? h)
    have h4 := mkL_take_le ls (k + 1)
    rw [mkL_take h, List.length_append, List.length_cons, fold_len] at h4
    unfold Lab at h3
    omega
theorem mk_nm {ls : List (List Int)} (h : mkOk ls = true) (hb : ∀ l ∈ ls, B8 l) : nm (mkL ls) = true := by
  obtain ⟨h1, h2⟩ := (mkOk_iff ls).1 h
  refine nm_lay ?_ ?_ h2
  · intro l hl
    obtain ⟨x, hx, rfl⟩ := List.mem_map.1 hl
    have := h1 x hx
    unfold Lab at *
    rw [fold_len]
    exact this
  · intro l hl
    obtain ⟨x, hx, rfl⟩ := List.mem_map.1 hl
    exact fold_idem x
theorem lay_b8 {ls : List (List Int)} (h : ∀ l ∈ ls, B8 l ∧ l.length ≤ 255) : B8 (lay ls) := by
  intro y hy
  obtain ⟨l, hl, hy⟩ := List.mem_flatMap.1 hy
  have := h l hl
  rcases List.mem_cons.1 hy with rfl | hy
  · omega
  · exact this.1 y hy
theorem mk_b8 {ls : List (List Int)} (hb : ∀ l ∈ ls, B8 l) : B8 (mk ls) := by
  unfold mk
  split
  · rename_i h
    obtain ⟨h1, h2⟩ := (mkOk_iff ls).1 h
    refine lay_b8 ?_
    intro l hl
    obtain ⟨x, hx, rfl⟩ := List.mem_map.1 hl
    have := h1 x hx
    unfold Lab at this
    exact ⟨fold_b8 (hb x hx), by rw [fold_len]; omega⟩
  · exact B8.nil
def cutp : Nat → List Int → Nat → Option Nat
  | 0, _, _ => none
  | k + 1, l, i => match l[i]? with
    | none => none
    | some c => if c = 0 then some i else cutp k l (i + 1 + c.toNat)
def cut (l : List Int) : List Int × List Int × Bool := match cutp (l.length + 1) l 0 with
  | some p => if nm (l.take p) = true then (l.take p, l.drop (p + 1), true) else ([], [], false)
  | none => ([], [], false)
theorem cutp_some : ∀ (k : Nat) (l : List Int) (i p : Nat), cutp k l i = some p → l[p]? = some 0 ∧ i ≤ p
  | 0, _, _, _, h => by cases h
  | k + 1, l, i, p, h => by
    simp only [cutp] at h
    split at h
    · cases h
    · rename_i c hc
      split at h
      · rename_i h0
        cases h
        rw [hc, h0]
        exact ⟨rfl, Nat.le_refl _⟩
      · have := cutp_some k l _ p h
        exact ⟨this.1, by omega⟩
theorem cutp_lay : ∀ (ls : List (List Int)) (pre rest : List Int) (k : Nat), (∀ x ∈ ls, Lab x) → (lay ls).length < k → cutp k (pre ++ (lay ls ++ 0 :: rest)) pre.length = some (pre ++ lay ls).length
  | [], pre, rest, 0, _, h => by simp at h
  | [], pre, rest, k + 1, _, _ => by simp [cutp, lay]
  | l :: ls, pre, rest, 0, _, h => by simp at h
  | l :: ls, pre, rest, k + 1, hl, h => by
    have h1 := hl l (List.mem_cons_self ..)
    have e : (pre ++ (lay (l :: ls) ++ 0 :: rest))[pre.length]? = some (l.length : Int) := by simp [lay]
    simp only [cutp, e]
    rw [if_neg (by have := h1.1; omega)]
    have e2 : pre ++ (lay (l :: ls) ++ 0 :: rest) = (pre ++ (l.length : Int) :: l) ++ (lay ls ++ 0 :: rest) := by simp [lay]
    rw [e2, show pre.length + 1 + (l.length : Int).toNat = (pre ++ (l.length : Int) :: l).length by simp; omega, cutp_lay ls _ rest k (fun x hx => hl x (List.mem_cons_of_mem _ hx)) (by rw [lay_cons] at h; simp at h; omega)]
    simp [lay]
theorem cut_name {n : List Int} (h : nm n = true) (rest : List Int) : cut (n ++ 0 :: rest) = (n, rest, true) := by
  obtain ⟨ls, rfl, h1, h2, h3⟩ := nm_labs h
  have key := cutp_lay ls [] rest ((lay ls ++ 0 :: rest).length + 1) h1 (by simp; omega)
  simp only [List.nil_append, List.length_nil] at key
  unfold cut
  rw [key]
  simp only
  rw [List.take_left' rfl, if_pos h]
  simp
theorem cut_some {l n rest : List Int} (h : cut l = (n, rest, true)) : nm n = true ∧ l = n ++ 0 :: rest := by
  unfold cut at h
  split at h
  · rename_i p hp
    split at h
    · rename_i hn
      injection h with h1 h2
      injection h2 with h2 _
      subst h1 h2
      obtain ⟨h3, _⟩ := cutp_some _ _ _ _ hp
      refine ⟨hn, ?_⟩
      have hlt := (List.getElem?_eq_some_iff.1 h3).1
      have h4 := (List.getElem?_eq_some_iff.1 h3).2
      rw [← h4, List.getElem_cons_drop, List.take_append_drop]
    · simp at h
  · simp at h
theorem cut_none {l n rest : List Int} (h : cut l = (n, rest, false)) : n = [] ∧ rest = [] := by
  unfold cut at h
  split at h
  · split at h
    · simp at h
    · simp at h; exact h
  · simp at h; exact h
theorem cut_b8 {l n rest : List Int} {ok : Bool} (hl : B8 l) (h : cut l = (n, rest, ok)) : B8 n ∧ B8 rest := by
  cases ok
  · obtain ⟨rfl, rfl⟩ := cut_none h
    exact ⟨B8.nil, B8.nil⟩
  · obtain ⟨_, rfl⟩ := cut_some h
    exact ⟨hl.left, fun y hy => hl y (List.mem_append_right _ (List.mem_cons_of_mem _ hy))⟩
theorem cut_len {l n rest : List Int} {ok : Bool} (h : cut l = (n, rest, ok)) : n.length ≤ l.length ∧ rest.length ≤ l.length := by
  cases ok
  · obtain ⟨rfl, rfl⟩ := cut_none h
    simp
  · obtain ⟨_, rfl⟩ := cut_some h
    simp
    omega
def dict : List (List Int) := [[97], [98], [99], [119, 119, 119], [101, 120], [111, 114, 103], [42], [114, 112, 122, 45, 105, 112]]
def word (n : Int) : List Int := dict.getD (n % 8).toNat []
def wordsL (ns : List Int) : List (List Int) := (ns.take 12).map word
def nameL (ns : List Int) : List Int := mkL (wordsL ns)
theorem word_mem (n : Int) : word n ∈ dict := by
  unfold word
  have h : (n % 8).toNat < dict.length := by show _ < 8; omega
  rw [List.getD_eq_getElem?_getD, List.getElem?_eq_getElem h]
  exact List.getElem_mem h
theorem dict_ok : ∀ l ∈ dict, Lab l ∧ B8 l ∧ fold l = l ∧ l.length ≤ 6 := by
  intro l hl
  simp only [dict, List.mem_cons, List.not_mem_nil, or_false] at hl
  rcases hl with rfl | rfl | rfl | rfl | rfl | rfl | rfl | rfl <;> refine ⟨by unfold Lab; decide, by intro y hy; simp at hy; omega, by rfl, by decide⟩
theorem words_ok (ns : List Int) : ∀ l ∈ wordsL ns, Lab l ∧ B8 l ∧ fold l = l ∧ l.length ≤ 6 := by
  intro l hl
  obtain ⟨n, _, rfl⟩ := List.mem_map.1 hl
  exact dict_ok _ (word_mem n)
theorem words_len (ns : List Int) : (wordsL ns).length ≤ 12 := by unfold wordsL; rw [List.length_map, List.length_take]; omega
theorem lay_len7 : ∀ (ls : List (List Int)), (∀ l ∈ ls, l.length ≤ 6) → (lay ls).length ≤ 7 * ls.length
  | [], _ => by simp [lay]
  | l :: ls, h => by
    have h1 := h l (List.mem_cons_self ..)
    have h2 := lay_len7 ls (fun x hx => h x (List.mem_cons_of_mem _ hx))
    rw [lay_cons]
    simp
    omega
theorem nameL_lay (ns : List Int) : nameL ns = lay (wordsL ns) := by
  unfold nameL mkL
  congr 1
  conv => rhs; rw [← List.map_id (wordsL ns)]
  exact List.map_congr_left fun l hl => (words_ok ns l hl).2.2.1
theorem nameL_len (ns : List Int) : (nameL ns).length ≤ 84 := by
  rw [nameL_lay]
  have h1 := lay_len7 (wordsL ns) (fun l hl => (words_ok ns l hl).2.2.2)
  have h2 := words_len ns
  omega
theorem words_mkOk (ns : List Int) : mkOk (wordsL ns) = true := (mkOk_iff _).2 ⟨fun l hl => (words_ok ns l hl).1, by have := nameL_len ns; unfold nameL at this; omega⟩
theorem nameL_mk (ns : List Int) : mk (wordsL ns) = nameL ns := by unfold mk; rw [if_pos (words_mkOk ns)]; rfl
theorem nameL_nm (ns : List Int) : nm (nameL ns) = true := mk_nm (words_mkOk ns) (fun l hl => (words_ok ns l hl).2.1)
theorem nameL_b8 (ns : List Int) : B8 (nameL ns) := by rw [← nameL_mk]; exact mk_b8 (fun l hl => (words_ok ns l hl).2.1)
def soaP (l : List Int) : List Int × List Int × List Int × Bool :=
  if (cut l).2.2 = true ∧ (cut (cut l).2.1).2.2 = true ∧ (cut (cut l).2.1).2.1.length = 20 then ((cut l).1, (cut (cut l).2.1).1, (cut (cut l).2.1).2.1, true) else ([], [], [], false)
theorem soaP_yes {l a b r : List Int} (h : soaP l = (a, b, r, true)) : nm a = true ∧ nm b = true ∧ r.length = 20 ∧ l = a ++ 0 :: (b ++ 0 :: r) := by
  unfold soaP at h
  split at h
  · rename_i hc
    obtain ⟨h1, h2, h3⟩ := hc
    injection h with e1 h
    injection h with e2 h
    injection h with e3 _
    obtain ⟨n1, l1⟩ := cut_some (l := l) (n := (cut l).1) (rest := (cut l).2.1) (by rw [← h1])
    obtain ⟨n2, l2⟩ := cut_some (l := (cut l).2.1) (n := (cut (cut l).2.1).1) (rest := (cut (cut l).2.1).2.1) (by rw [← h2])
    rw [e1] at n1 l1
    rw [e2, e3] at l2
    rw [e2] at n2
    rw [e3] at h3
    exact ⟨n1, n2, h3, by rw [l2] at l1; exact l1⟩
  · simp at h
theorem soaP_of {a b r : List Int} (ha : nm a = true) (hb : nm b = true) (hr : r.length = 20) : soaP (a ++ 0 :: (b ++ 0 :: r)) = (a, b, r, true) := by
  unfold soaP
  rw [cut_name ha]
  simp only
  rw [cut_name hb]
  simp only
  rw [if_pos (by simp [hr])]
theorem soaP_no {l a b r : List Int} (h : soaP l = (a, b, r, false)) : a = [] ∧ b = [] ∧ r = [] := by
  unfold soaP at h
  split at h
  · simp at h
  · simp at h; exact h
end Go.Proofs.YtnikfeaggppmpaaDoor.Nam
