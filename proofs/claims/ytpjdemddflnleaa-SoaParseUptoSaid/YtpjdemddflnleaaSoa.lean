/-
  What package soa does, in plain words. No macro, syntax, notation, axiom, sorry.
-/
import Derived.Test.YtpjdemddflnleaaSoaP
import Derived.Test.YtpjdemddflnleaaCut
import Derived.Test.YtpjdemddflnleaaQAGet32
import Derived.Test.YtpjdemddflnleaaQAPut32
import Derived.Test.YtpjdemddflnleaaPAx2
import Derived.Test.YtpjdemddflnleaaPAx1
namespace Go.Proofs.Ytpjdemddflnleaa.Soa
open Go.RowKit Go.Proofs.Ytpjdemddflnleaa.PA Go.Proofs.YtpjdemddflnleaaW.PrintWords Go.Proofs.YtpjdemddflnleaaW.PrintLast Go.Proofs.Ytpjdemddflnleaa.Base Go.Proofs.Ytpjdemddflnleaa.Nam Go.Proofs.Ytpjdemddflnleaa.QA
set_option linter.unusedVariables false
set_option linter.unusedSimpArgs false

/-- The four bytes at a place as a number. -/
def num4 (l : List Int) (i : Int) : Int := ((rd l i * 256 + rd l (i + 1)) * 256 + rd l (i + 2)) * 256 + rd l (i + 3)
theorem num4_be (a : List Int) (n : Int) (rest : List Int) (hn : 0 ≤ n ∧ n < 4294967296) : num4 (a ++ (be32 n ++ rest)) a.length = n := by
  have h := fun (j : Int) (hj : 0 ≤ j) => rd_right a (be32 n ++ rest) (i := j) hj
  unfold num4
  rw [show (a.length : Int) = a.length + 0 by omega, h 0 (by omega), show (a.length : Int) + 0 + 1 = a.length + 1 by omega, h 1 (by omega), show (a.length : Int) + 0 + 2 = a.length + 2 by omega, h 2 (by omega), show (a.length : Int) + 0 + 3 = a.length + 3 by omega, h 3 (by omega)]
  show ((n / 16777216 % 256 * 256 + n / 65536 % 256) * 256 + n / 256 % 256) * 256 + n % 256 = n
  omega
theorem be_num4 {l : List Int} (hl : B8 l) (i : Nat) (hi : i + 4 ≤ l.length) : be32 (num4 l i) = (l.drop i).take 4 := by
  have e : (l.drop i).take 4 = [rd l i, rd l (i + 1), rd l (i + 2), rd l (i + 3)] := by
    rw [rd_nat l i (by omega), show ((i : Int) + 1) = ((i + 1 : Nat) : Int) by omega, rd_nat l (i + 1) (by omega), show ((i : Int) + 2) = ((i + 2 : Nat) : Int) by omega, rd_nat l (i + 2) (by omega), show ((i : Int) + 3) = ((i + 3 : Nat) : Int) by omega, rd_nat l (i + 3) (by omega)]
    rw [List.drop_eq_getElem_cons (by omega), List.drop_eq_getElem_cons (by omega), List.drop_eq_getElem_cons (by omega), List.drop_eq_getElem_cons (by omega)]
    rfl
  rw [e]
  have h0 := hl _ (rd_mem (l := l) (i := (i : Int)) (by omega) (by omega))
  have h1 := hl _ (rd_mem (l := l) (i := (i : Int) + 1) (by omega) (by omega))
  have h2 := hl _ (rd_mem (l := l) (i := (i : Int) + 2) (by omega) (by omega))
  have h3 := hl _ (rd_mem (l := l) (i := (i : Int) + 3) (by omega) (by omega))
  unfold num4 be32
  generalize rd l i = a at *
  generalize rd l (i + 1) = b at *
  generalize rd l (i + 2) = c at *
  generalize rd l (i + 3) = d at *
  have e0 : (((a * 256 + b) * 256 + c) * 256 + d) / 16777216 % 256 = a := by omega
  have e1 : (((a * 256 + b) * 256 + c) * 256 + d) / 65536 % 256 = b := by omega
  have e2 : (((a * 256 + b) * 256 + c) * 256 + d) / 256 % 256 = c := by omega
  have e3 : (((a * 256 + b) * 256 + c) * 256 + d) % 256 = d := by omega
  rw [e0, e1, e2, e3]
theorem num4_range {l : List Int} (hl : B8 l) (i : Nat) (hi : i + 4 ≤ l.length) : 0 ≤ num4 l i ∧ num4 l i < 4294967296 := by
  have h0 := hl _ (rd_mem (l := l) (i := (i : Int)) (by omega) (by omega))
  have h1 := hl _ (rd_mem (l := l) (i := (i : Int) + 1) (by omega) (by omega))
  have h2 := hl _ (rd_mem (l := l) (i := (i : Int) + 2) (by omega) (by omega))
  have h3 := hl _ (rd_mem (l := l) (i := (i : Int) + 3) (by omega) (by omega))
  unfold num4
  omega

/-- The two names and the twenty bytes behind them. -/
def soaP (l : List Int) : List Int × List Int × List Int × Bool :=
  if (cut l).2.2 = true ∧ (cut (cut l).2.1).2.2 = true ∧ (cut (cut l).2.1).2.1.length = 20 then ((cut l).1, (cut (cut l).2.1).1, (cut (cut l).2.1).2.1, true) else ([], [], [], false)
theorem soaP_yes {l a b r : List Int} (h : soaP l = (a, b, r, true)) : nm a = true ∧ nm b = true ∧ r.length = 20 ∧ l = a ++ 0 :: (b ++ 0 :: r) := by
  unfold soaP at h
  split at h
  · rename_i hc
    obtain ⟨h1, h2, h3⟩ := hc
    injection h with e1 h
    injection h with e2 h
    injection h with e3 _
    obtain ⟨n1, l1⟩ := cut_some (l := l) (n := (cut l).1) (rest := (cut l).2.1) (by rw [← h1])
    obtain ⟨n2, l2⟩ := cut_some (l := (cut l).2.1) (n := (cut (cut l).2.1).1) (rest := (cut (cut l).2.1).2.1) (by rw [← h2])
    rw [e1] at n1 l1
    rw [e2, e3] at l2
    rw [e2] at n2
    rw [e3] at h3
    exact ⟨n1, n2, h3, by rw [l2] at l1; exact l1⟩
  · simp at h
theorem soaP_of {a b r : List Int} (ha : nm a = true) (hb : nm b = true) (hr : r.length = 20) : soaP (a ++ 0 :: (b ++ 0 :: r)) = (a, b, r, true) := by
  unfold soaP
  rw [cut_name ha]
  simp only
  rw [cut_name hb]
  simp only
  rw [if_pos (by simp [hr])]
theorem soaP_no {l a b r : List Int} (h : soaP l = (a, b, r, false)) : a = [] ∧ b = [] ∧ r = [] := by
  unfold soaP at h
  split at h
  · simp at h
  · simp at h; exact h
/-- The value that Parse answers. -/
def soaPV (p : List Int × List Int × List Int × Bool) : Array Value :=
  if p.2.2.2 = true then soaV (strOfNums p.1) (strOfNums p.2.1) (num4 p.2.2.1 0) (num4 p.2.2.1 4) (num4 p.2.2.1 8) (num4 p.2.2.1 12) (num4 p.2.2.1 16) else soaZ
theorem bt_str {l : List Int} (hl : B8 l) {i : Int} (h0 : 0 ≤ i) (h1 : i < l.length) : bt (strOfNums l) i = rd l i := str_bt l hl h0 h1
/-- soa.Parse. -/
theorem parse_ (s : ByteArray) (hs : s.size ≤ 1000000000000) (w : World) :
    Calls Try.prog 12 #[.string s] w fun e w' => e = .returned (.tuple #[.agg (soaPV (soaP (bytesOf s))), .bool (soaP (bytesOf s)).2.2.2]) ∧ Below w.heap.size w w' := by
  obtain ⟨a, b, ok, hc⟩ : ∃ a b ok, cut (bytesOf s) = (a, b, ok) := ⟨_, _, _, rfl⟩
  obtain ⟨a2, b2, ok2, hc2⟩ : ∃ x y z, cut b = (x, y, z) := ⟨_, _, _, rfl⟩
  have hb8 := cut_b8 (of_b8 s) hc
  have hb82 := cut_b8 hb8.2 hc2
  have hl := cut_len hc
  have e1 := Cut_ev s hs
  rw [hc] at e1
  have e2 := Cut_ev (strOfNums b) (by rw [str_size]; rw [of_size] at hl; omega)
  rw [bytes_str hb8.2, hc2] at e2
  simp only at e1 e2
  obtain ⟨K1, h1⟩ := e1
  obtain ⟨K2, h2⟩ := e2
  have h1' := h1 (max K1 K2) (by omega)
  have h2' := h2 (max K1 K2) (by omega)
  simp only at h1' h2'
  by_cases hk : ok = true
  · subst hk
    by_cases hg : ok2 = true ∧ b2.length = 20
    · obtain ⟨rfl, h20⟩ := hg
      have hP : soaP (bytesOf s) = (a, a2, b2, true) := by
        unfold soaP
        rw [hc]
        simp only
        rw [hc2]
        simp only
        rw [if_pos (by simp [h20])]
      rw [hP]
      have hn : ∀ j : Nat, j < 5 → num_Get32.f (strOfNums b2) (4 * (j : Int)) = some (num4 b2 (4 * (j : Int)), true) := by
        intro j hj
        have hsz := str_size b2
        rw [get32_in _ _ (by omega) (by omega) (by omega), bt_str hb82.2 (by omega) (by omega), bt_str hb82.2 (by omega) (by omega), bt_str hb82.2 (by omega) (by omega), bt_str hb82.2 (by omega) (by omega)]
        rfl
      have key := parse_yes w s (strOfNums a) (strOfNums b) (strOfNums a2) (strOfNums b2) (fun j => num4 b2 (4 * (j : Int))) _ h1' h2' (by rw [str_size]; exact h20) hn
      exact key
    · have hP : soaP (bytesOf s) = ([], [], [], false) := by
        unfold soaP
        rw [hc]
        simp only
        rw [hc2]
        simp only
        rw [if_neg (fun h => hg ⟨h.2.1, h.2.2⟩)]
      rw [hP]
      refine parse_no2 w s (strOfNums a) (strOfNums b) (strOfNums a2) (strOfNums b2) ok2 _ h1' h2' ?_
      cases ok2
      · exact .inl rfl
      · exact .inr ⟨rfl, by rw [str_size]; exact fun h => hg ⟨rfl, h⟩⟩
  · obtain rfl : ok = false := by simpa using hk
    have hP : soaP (bytesOf s) = ([], [], [], false) := by
      unfold soaP
      rw [hc]
      simp only
      rw [if_neg (by simp)]
    rw [hP]
    exact parse_no1 w s (strOfNums a) (strOfNums b) _ h1'
theorem rsoa_ev (s : ByteArray) (hs : s.size ≤ 1000000000000) : Ev (fun k => rdata_soa.f k s) (strOfNums (soaP (bytesOf s)).1, strOfNums (soaP (bytesOf s)).2.1, strOfNums (soaP (bytesOf s)).2.2.1, (soaP (bytesOf s)).2.2.2) := by
  obtain ⟨a, b, ok, hc⟩ : ∃ a b ok, cut (bytesOf s) = (a, b, ok) := ⟨_, _, _, rfl⟩
  obtain ⟨a2, b2, ok2, hc2⟩ : ∃ x y z, cut b = (x, y, z) := ⟨_, _, _, rfl⟩
  have hb8 := cut_b8 (of_b8 s) hc
  have hb82 := cut_b8 hb8.2 hc2
  have hl := cut_len hc
  have e1 := Cut_ev s hs
  rw [hc] at e1
  have e2 := Cut_ev (strOfNums b) (by rw [str_size]; rw [of_size] at hl; omega)
  rw [bytes_str hb8.2, hc2] at e2
  simp only at e1 e2
  obtain ⟨K1, h1⟩ := e1
  obtain ⟨K2, h2⟩ := e2
  refine ⟨max K1 K2, fun n hn => ?_⟩
  have h1' := h1 n (by omega)
  have h2' := h2 n (by omega)
  simp only at h1' h2'
  have hsz := str_size b2
  unfold soaP
  simp only [rdata_soa.f, h1', h2', Option.bind_some, hc, hc2]
  cases ok <;> cases ok2 <;> simp only [Bool.false_eq_true, if_false, if_true, true_and, false_and]
  · rfl
  · rfl
  · rfl
  · by_cases h20 : b2.length = 20
    · rw [if_pos (by omega), if_pos h20]
    · rw [if_neg (by omega), if_neg h20]
      rfl
theorem rmay_soa (s : ByteArray) (hs : s.size ≤ 1000000000000) : Ev (fun k => rdata_May.f k 6 s) (soaP (bytesOf s)).2.2.2 := by
  obtain ⟨K, h⟩ := rsoa_ev s hs
  refine ⟨K + 1, fun n hn => ?_⟩
  obtain ⟨m, rfl⟩ : ∃ m, n = m + 1 := ⟨n - 1, by omega⟩
  have hk := h m (by omega)
  simp only at hk
  simp only [rdata_May.f]
  rw [if_neg (by omega), if_neg (by omega), if_neg (by omega)]
  simp only [rdata_May.j0]
  simp only [show ((6 : Int) == 5) = false from rfl, Bool.false_eq_true, if_false, if_true, hk]
  rfl
/-- What Data answers. -/
def dataL (a b : List Int) (ns : List Int) : List Int := if nm a = true ∧ nm b = true then a ++ 0 :: (b ++ 0 :: all32 ns) else []
theorem str0 (a : List Int) : strOfNums a ++ (⟨#[0]⟩ : ByteArray) = strOfNums (a ++ [0]) := by rw [str_app]; rfl
theorem data_ev (a b : List Int) (n0 n1 n2 n3 n4 : Int) (ha : B8 a) (hb : B8 b) (hs : a.length + b.length ≤ 1000000000000) :
    Ev (fun k => soa_Data.f k (strOfNums a) (strOfNums b) n0 n1 n2 n3 n4) (strOfNums (dataL a b [n0, n1, n2, n3, n4]), nm a && nm b) := by
  have sa := str_size a
  have sb := str_size b
  obtain ⟨K1, h1⟩ := May_ev (strOfNums a) (by omega)
  obtain ⟨K2, h2⟩ := May_ev (strOfNums b) (by omega)
  obtain ⟨K3, h3⟩ := put32 [] [n0, n1, n2, n3, n4] (by simp)
  refine ⟨max K1 (max K2 K3) + 1, fun n hn => ?_⟩
  obtain ⟨m, rfl⟩ : ∃ m, n = m + 1 := ⟨n - 1, by omega⟩
  have h1' := h1 (m + 1) (by omega)
  have h2' := h2 (m + 1) (by omega)
  have h3' := h3 m (by omega)
  simp only [bytes_str ha] at h1'
  simp only [bytes_str hb] at h2'
  simp only [List.nil_append] at h3'
  simp only [soa_Data.f, h1', h2', Option.bind_some]
  have hz : ∀ (a : List Int), a.length ≤ 1000000000000 → point_Plain.f (strOfNums a) = some (strOfNums (a ++ [0])) := by
    intro a h
    unfold point_Plain.f
    rw [if_pos (by rw [str_size]; omega), str0]
  unfold dataL
  cases hna : nm a
  · simp [soa_Data.j0]; rfl
  · cases hnb : nm b
    · simp [soa_Data.j0]; rfl
    · simp only [if_true, Bool.not_true, soa_Data.j0, Bool.false_eq_true, if_false, h3', Option.bind_some, hz a (by omega), hz b (by omega), true_and, Bool.and_self]
      have hl := all32_len [n0, n1, n2, n3, n4]
      simp only [List.length_cons, List.length_nil] at hl
      rw [← str_app]
      rw [if_pos (by rw [str_size, str_size]; simp; omega), if_pos (by rw [str_size, str_size, hl]; simp; omega), ← str_app]
      simp
end Go.Proofs.Ytpjdemddflnleaa.Soa
