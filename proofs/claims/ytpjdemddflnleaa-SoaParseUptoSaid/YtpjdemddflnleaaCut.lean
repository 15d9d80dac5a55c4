/-
  point.Cut in plain words: the name that begins bytes, and what stands behind it. No macro, syntax, notation, axiom, sorry.
-/
import Derived.Test.YtpjdemddflnleaaPAx2
import Derived.Test.YtpjdemddflnleaaNam
namespace Go.Proofs.Ytpjdemddflnleaa.Nam
open Go.RowKit Go.Proofs.Ytpjdemddflnleaa.PA Go.Proofs.YtpjdemddflnleaaW.PrintWords Go.Proofs.YtpjdemddflnleaaW.PrintLast Go.Proofs.Ytpjdemddflnleaa.Base
set_option linter.unusedVariables false
set_option linter.unusedSimpArgs false

/-- The place of the zero to which labels lead. -/
def cutp : Nat → List Int → Nat → Option Nat
  | 0, _, _ => none
  | k + 1, l, i => match l[i]? with
    | none => none
    | some c => if c = 0 then some i else cutp k l (i + 1 + c.toNat)
def cut (l : List Int) : List Int × List Int × Bool := match cutp (l.length + 1) l 0 with
  | some p => if nm (l.take p) = true then (l.take p, l.drop (p + 1), true) else ([], [], false)
  | none => ([], [], false)
theorem cutp_some : ∀ (k : Nat) (l : List Int) (i p : Nat), cutp k l i = some p → l[p]? = some 0 ∧ i ≤ p
  | 0, _, _, _, h => by cases h
  | k + 1, l, i, p, h => by
    simp only [cutp] at h
    split at h
    · cases h
    · rename_i c hc
      split at h
      · rename_i h0
        cases h
        rw [hc, h0]
        exact ⟨rfl, Nat.le_refl _⟩
      · have := cutp_some k l _ p h
        exact ⟨this.1, by omega⟩
theorem cutp_lay : ∀ (ls : List (List Int)) (pre rest : List Int) (k : Nat), (∀ x ∈ ls, Lab x) → (lay ls).length < k → cutp k (pre ++ (lay ls ++ 0 :: rest)) pre.length = some (pre ++ lay ls).length
  | [], pre, rest, 0, _, h => by simp at h
  | [], pre, rest, k + 1, _, _ => by simp [cutp, lay]
  | l :: ls, pre, rest, 0, _, h => by simp at h
  | l :: ls, pre, rest, k + 1, hl, h => by
    have h1 := hl l (List.mem_cons_self ..)
    have e : (pre ++ (lay (l :: ls) ++ 0 :: rest))[pre.length]? = some (l.length : Int) := by simp [lay]
    simp only [cutp, e]
    rw [if_neg (by have := h1.1; omega)]
    have e2 : pre ++ (lay (l :: ls) ++ 0 :: rest) = (pre ++ (l.length : Int) :: l) ++ (lay ls ++ 0 :: rest) := by simp [lay]
    rw [e2, show pre.length + 1 + (l.length : Int).toNat = (pre ++ (l.length : Int) :: l).length by simp; omega, cutp_lay ls _ rest k (fun x hx => hl x (List.mem_cons_of_mem _ hx)) (by rw [lay_cons] at h; simp at h; omega)]
    simp [lay]
/-- A name with a zero behind it is cut off. -/
theorem cut_name {n : List Int} (h : nm n = true) (rest : List Int) : cut (n ++ 0 :: rest) = (n, rest, true) := by
  obtain ⟨ls, rfl, h1, h2, h3⟩ := nm_labs h
  have key := cutp_lay ls [] rest ((lay ls ++ 0 :: rest).length + 1) h1 (by simp; omega)
  simp only [List.nil_append, List.length_nil] at key
  unfold cut
  rw [key]
  simp only
  rw [List.take_left' rfl, if_pos h]
  simp
/-- What is cut off is a name, with a zero behind it. -/
theorem cut_some {l n rest : List Int} (h : cut l = (n, rest, true)) : nm n = true ∧ l = n ++ 0 :: rest := by
  unfold cut at h
  split at h
  · rename_i p hp
    split at h
    · rename_i hn
      injection h with h1 h2
      injection h2 with h2 _
      subst h1 h2
      obtain ⟨h3, _⟩ := cutp_some _ _ _ _ hp
      refine ⟨hn, ?_⟩
      have hlt := (List.getElem?_eq_some_iff.1 h3).1
      have h4 := (List.getElem?_eq_some_iff.1 h3).2
      rw [← h4, List.getElem_cons_drop, List.take_append_drop]
    · simp at h
  · simp at h
theorem cut_none {l n rest : List Int} (h : cut l = (n, rest, false)) : n = [] ∧ rest = [] := by
  unfold cut at h
  split at h
  · split at h
    · simp at h
    · simp at h; exact h
  · simp at h; exact h
theorem cut_b8 {l n rest : List Int} {ok : Bool} (hl : B8 l) (h : cut l = (n, rest, ok)) : B8 n ∧ B8 rest := by
  cases ok
  · obtain ⟨rfl, rfl⟩ := cut_none h
    exact ⟨B8.nil, B8.nil⟩
  · obtain ⟨_, rfl⟩ := cut_some h
    exact ⟨hl.left, fun y hy => hl y (List.mem_append_right _ (List.mem_cons_of_mem _ hy))⟩
theorem cut_len {l n rest : List Int} {ok : Bool} (h : cut l = (n, rest, ok)) : n.length ≤ l.length ∧ rest.length ≤ l.length := by
  cases ok
  · obtain ⟨rfl, rfl⟩ := cut_none h
    simp
  · obtain ⟨_, rfl⟩ := cut_some h
    simp
    omega
/-- Nothing is cut off where no zero has a name ahead. -/
theorem cut_not {l n rest : List Int} (h : cut l = (n, rest, false)) (i : Nat) (hi : l[i]? = some 0) : nm (l.take i) = false := by
  cases hn : nm (l.take i) with
  | false => rfl
  | true =>
    have := cut_name hn (l.drop (i + 1))
    have e : l.take i ++ 0 :: l.drop (i + 1) = l := by
      have hlt := (List.getElem?_eq_some_iff.1 hi).1
      have h4 := (List.getElem?_eq_some_iff.1 hi).2
      rw [← h4, List.getElem_cons_drop, List.take_append_drop]
    rw [e, h] at this
    simp at this

theorem cut_loop (s : ByteArray) (hs : s.size ≤ 1000000000000) : ∀ (d i : Nat), s.size < i + d →
    Ev (fun k => point_Cut.l0 k s (i : Int)) (match cutp d (bytesOf s) i with | some p => if nm ((bytesOf s).take p) = true then (strOfNums ((bytesOf s).take p), strOfNums ((bytesOf s).drop (p + 1)), true) else (⟨#[]⟩, ⟨#[]⟩, false) | none => (⟨#[]⟩, ⟨#[]⟩, false)) := by
  intro d
  induction d with
  | zero =>
    intro i hi
    refine Ev.step (f := fun _ => some (⟨#[]⟩, ⟨#[]⟩, false)) (fun k => ?_) (Ev.now _)
    simp only [point_Cut.l0]
    rw [if_neg (by omega)]
  | succ d ih =>
    intro i hi
    simp only [cutp]
    by_cases h : i < s.size
    · have hb := bt_range s i
      rw [bt_get s i h]
      simp only
      by_cases h0 : bt s i = 0
      · rw [if_pos h0]
        simp only
        have e0 : s.extract 0 (i : Int).toNat = strOfNums ((bytesOf s).take i) := by
          apply str_inj'
          rw [bytes_str ((of_b8 s).take i), bytes_ex]
          simp
        have e1 : s.extract ((i : Int) + 1).toNat s.size = strOfNums ((bytesOf s).drop (i + 1)) := by
          apply str_inj'
          rw [bytes_str ((of_b8 s).drop _), bytes_ex, List.take_of_length_le (by rw [of_size]; exact Nat.le_refl _), show ((i : Int) + 1).toNat = i + 1 by omega]
        have hm := May_ev (s.extract 0 (i : Int).toNat) (by simp; omega)
        rw [e0, bytes_str ((of_b8 s).take i)] at hm
        obtain ⟨K, hK⟩ := hm
        refine ⟨K + 1, fun n hn => ?_⟩
        obtain ⟨m, rfl⟩ : ∃ m, n = m + 1 := ⟨n - 1, by omega⟩
        simp only [point_Cut.l0]
        rw [if_pos (by omega), if_pos (by omega), if_pos h0, if_pos (by omega), w64 (by omega) (by omega), e0, e1]
        have hk := hK m (by omega)
        simp only at hk
        rw [hk]
        simp only [Option.bind_some]
        by_cases hn' : nm ((bytesOf s).take i) = true
        · rw [if_pos hn', if_pos hn', if_pos (by omega), if_pos (by omega)]
        · rw [if_neg hn', if_neg hn']
      · rw [if_neg h0]
        refine Ev.step (fun k => ?_) (ih (i + 1 + (bt s i).toNat) (by omega))
        simp only [point_Cut.l0]
        have e : wrap64 ((i : Int) + wrap64 (1 + wrap64 (bt s i))) = ((i + 1 + (bt s i).toNat : Nat) : Int) := by
          rw [w64 (n := bt s i) (by omega) (by omega), w64 (n := 1 + bt s i) (by omega) (by omega), w64 (by omega) (by omega)]
          omega
        rw [if_pos (by omega), if_pos (by omega), if_neg h0, e]
    · have hn : (bytesOf s)[i]? = none := List.getElem?_eq_none (by rw [of_size]; omega)
      rw [hn]
      refine Ev.step (f := fun _ => some (⟨#[]⟩, ⟨#[]⟩, false)) (fun k => ?_) (Ev.now _)
      simp only [point_Cut.l0]
      rw [if_neg (by omega)]
theorem Cut_ev (s : ByteArray) (hs : s.size ≤ 1000000000000) : Ev (fun k => point_Cut.f k s) (strOfNums (cut (bytesOf s)).1, strOfNums (cut (bytesOf s)).2.1, (cut (bytesOf s)).2.2) := by
  have h := cut_loop s hs (s.size + 1) 0 (by omega)
  have e : (match cutp (s.size + 1) (bytesOf s) 0 with | some p => if nm ((bytesOf s).take p) = true then (strOfNums ((bytesOf s).take p), strOfNums ((bytesOf s).drop (p + 1)), true) else (⟨#[]⟩, ⟨#[]⟩, false) | none => ((⟨#[]⟩ : ByteArray), (⟨#[]⟩ : ByteArray), false)) = (strOfNums (cut (bytesOf s)).1, strOfNums (cut (bytesOf s)).2.1, (cut (bytesOf s)).2.2) := by
    unfold cut
    rw [of_size]
    cases cutp (s.size + 1) (bytesOf s) 0 with
    | none => rfl
    | some p =>
      simp only
      split <;> rfl
  rw [e] at h
  exact h
/-- point.Cut. -/
theorem cut_ (s : ByteArray) (hs : s.size ≤ 1000000000000) (w : World) :
    Calls Try.prog 21 #[.string s] w fun e w' => e = .returned (.tuple #[.string (strOfNums (cut (bytesOf s)).1), .string (strOfNums (cut (bytesOf s)).2.1), .bool (cut (bytesOf s)).2.2]) ∧ Below w.heap.size w w' := by
  obtain ⟨k, hk⟩ := Ev.rounds (Cut_ev s hs)
  exact point_Cut.calls k s _ _ _ w hk
end Go.Proofs.Ytpjdemddflnleaa.Nam
