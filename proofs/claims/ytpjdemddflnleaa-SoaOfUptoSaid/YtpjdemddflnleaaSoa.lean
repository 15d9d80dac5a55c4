/-
  What package soa does, in plain words. No macro, syntax, notation, axiom, sorry.
-/
import Derived.Test.YtpjdemddflnleaaCut
import Derived.Test.YtpjdemddflnleaaQBGet32
import Derived.Test.YtpjdemddflnleaaQBPut32
import Derived.Test.YtpjdemddflnleaaPBx6
import Derived.Test.YtpjdemddflnleaaPBx2
import Derived.Test.YtpjdemddflnleaaPBx4
import Derived.Test.YtpjdemddflnleaaPBx3
namespace Go.Proofs.Ytpjdemddflnleaa.Soa
open Go.RowKit Go.Proofs.Ytpjdemddflnleaa.PB Go.Proofs.YtpjdemddflnleaaW.PrintWords Go.Proofs.YtpjdemddflnleaaW.PrintLast Go.Proofs.Ytpjdemddflnleaa.Base Go.Proofs.Ytpjdemddflnleaa.Nam Go.Proofs.Ytpjdemddflnleaa.QB
set_option linter.unusedVariables false
set_option linter.unusedSimpArgs false

/-- The four bytes at a place as a number. -/
def num4 (l : List Int) (i : Int) : Int := ((rd l i * 256 + rd l (i + 1)) * 256 + rd l (i + 2)) * 256 + rd l (i + 3)
theorem num4_be (a : List Int) (n : Int) (rest : List Int) (hn : 0 ≤ n ∧ n < 4294967296) : num4 (a ++ (be32 n ++ rest)) a.length = n := by
  have h := fun (j : Int) (hj : 0 ≤ j) => rd_right a (be32 n ++ rest) (i := j) hj
  unfold num4
  rw [show (a.length : Int) = a.length + 0 by omega, h 0 (by omega), show (a.length : Int) + 0 + 1 = a.length + 1 by omega, h 1 (by omega), show (a.length : Int) + 0 + 2 = a.length + 2 by omega, h 2 (by omega), show (a.length : Int) + 0 + 3 = a.length + 3 by omega, h 3 (by omega)]
  show ((n / 16777216 % 256 * 256 + n / 65536 % 256) * 256 + n / 256 % 256) * 256 + n % 256 = n
  omega
theorem be_num4 {l : List Int} (hl : B8 l) (i : Nat) (hi : i + 4 ≤ l.length) : be32 (num4 l i) = (l.drop i).take 4 := by
  have e : (l.drop i).take 4 = [rd l i, rd l (i + 1), rd l (i + 2), rd l (i + 3)] := by
    rw [rd_nat l i (by omega), show ((i : Int) + 1) = ((i + 1 : Nat) : Int) by omega, rd_nat l (i + 1) (by omega), show ((i : Int) + 2) = ((i + 2 : Nat) : Int) by omega, rd_nat l (i + 2) (by omega), show ((i : Int) + 3) = ((i + 3 : Nat) : Int) by omega, rd_nat l (i + 3) (by omega)]
    rw [List.drop_eq_getElem_cons (by omega), List.drop_eq_getElem_cons (by omega), List.drop_eq_getElem_cons (by omega), List.drop_eq_getElem_cons (by omega)]
    rfl
  rw [e]
  have h0 := hl _ (rd_mem (l := l) (i := (i : Int)) (by omega) (by omega))
  have h1 := hl _ (rd_mem (l := l) (i := (i : Int) + 1) (by omega) (by omega))
  have h2 := hl _ (rd_mem (l := l) (i := (i : Int) + 2) (by omega) (by omega))
  have h3 := hl _ (rd_mem (l := l) (i := (i : Int) + 3) (by omega) (by omega))
  unfold num4 be32
  generalize rd l i = a at *
  generalize rd l (i + 1) = b at *
  generalize rd l (i + 2) = c at *
  generalize rd l (i + 3) = d at *
  have e0 : (((a * 256 + b) * 256 + c) * 256 + d) / 16777216 % 256 = a := by omega
  have e1 : (((a * 256 + b) * 256 + c) * 256 + d) / 65536 % 256 = b := by omega
  have e2 : (((a * 256 + b) * 256 + c) * 256 + d) / 256 % 256 = c := by omega
  have e3 : (((a * 256 + b) * 256 + c) * 256 + d) % 256 = d := by omega
  rw [e0, e1, e2, e3]
theorem num4_range {l : List Int} (hl : B8 l) (i : Nat) (hi : i + 4 ≤ l.length) : 0 ≤ num4 l i ∧ num4 l i < 4294967296 := by
  have h0 := hl _ (rd_mem (l := l) (i := (i : Int)) (by omega) (by omega))
  have h1 := hl _ (rd_mem (l := l) (i := (i : Int) + 1) (by omega) (by omega))
  have h2 := hl _ (rd_mem (l := l) (i := (i : Int) + 2) (by omega) (by omega))
  have h3 := hl _ (rd_mem (l := l) (i := (i : Int) + 3) (by omega) (by omega))
  unfold num4
  omega

theorem bt_str {l : List Int} (hl : B8 l) {i : Int} (h0 : 0 ≤ i) (h1 : i < l.length) : bt (strOfNums l) i = rd l i := str_bt l hl h0 h1
/-- What Parse answers. -/
def soaR (p : List Int × List Int × List Int × Bool) : ByteArray × ByteArray × Int × Int × Int × Int × Int × Bool :=
  if p.2.2.2 = true then (strOfNums p.1, strOfNums p.2.1, num4 p.2.2.1 0, num4 p.2.2.1 4, num4 p.2.2.1 8, num4 p.2.2.1 12, num4 p.2.2.1 16, true) else (⟨#[]⟩, ⟨#[]⟩, 0, 0, 0, 0, 0, false)
theorem parse_ev (s : ByteArray) (hs : s.size ≤ 1000000000000) : Ev (fun k => soa_Parse.f k s) (soaR (soaP (bytesOf s))) := by
  obtain ⟨a, b, ok, hc⟩ : ∃ a b ok, cut (bytesOf s) = (a, b, ok) := ⟨_, _, _, rfl⟩
  obtain ⟨a2, b2, ok2, hc2⟩ : ∃ x y z, cut b = (x, y, z) := ⟨_, _, _, rfl⟩
  have hb8 := cut_b8 (of_b8 s) hc
  have hb82 := cut_b8 hb8.2 hc2
  have hl := cut_len hc
  have e1 := Cut_ev s hs
  rw [hc] at e1
  have e2 := Cut_ev (strOfNums b) (by rw [str_size]; rw [of_size] at hl; omega)
  rw [bytes_str hb8.2, hc2] at e2
  simp only at e1 e2
  obtain ⟨K1, h1⟩ := e1
  obtain ⟨K2, h2⟩ := e2
  refine ⟨max K1 K2, fun n hn => ?_⟩
  have h1' := h1 n (by omega)
  have h2' := h2 n (by omega)
  simp only at h1' h2'
  have hsz := str_size b2
  unfold soaP
  simp only [soa_Parse.f, h1', h2', Option.bind_some, hc, hc2]
  cases ok <;> cases ok2 <;> simp only [Bool.false_eq_true, if_false, if_true, true_and, false_and]
  · rfl
  · rfl
  · rfl
  · by_cases h20 : b2.length = 20
    · rw [if_pos (by omega), if_pos h20]
      have hn : ∀ j : Nat, j < 5 → num_Get32.f (strOfNums b2) (4 * (j : Int)) = some (num4 b2 (4 * (j : Int)), true) := by
        intro j hj
        rw [get32_in _ _ (by omega) (by omega) (by omega), bt_str hb82.2 (by omega) (by omega), bt_str hb82.2 (by omega) (by omega), bt_str hb82.2 (by omega) (by omega), bt_str hb82.2 (by omega) (by omega)]
        rfl
      have n0 := hn 0 (by omega)
      have n1 := hn 1 (by omega)
      have n2 := hn 2 (by omega)
      have n3 := hn 3 (by omega)
      have n4 := hn 4 (by omega)
      rw [show 4 * ((0 : Nat) : Int) = 0 from rfl] at n0
      rw [show 4 * ((1 : Nat) : Int) = 4 from rfl] at n1
      rw [show 4 * ((2 : Nat) : Int) = 8 from rfl] at n2
      rw [show 4 * ((3 : Nat) : Int) = 12 from rfl] at n3
      rw [show 4 * ((4 : Nat) : Int) = 16 from rfl] at n4
      simp only [n0, n1, n2, n3, n4, Option.bind_some, and_self, if_true, soaR]
    · rw [if_neg (by omega), if_neg h20]
      rfl
theorem rsoa_ev (s : ByteArray) (hs : s.size ≤ 1000000000000) : Ev (fun k => rdata_soa.f k s) (strOfNums (soaP (bytesOf s)).1, strOfNums (soaP (bytesOf s)).2.1, strOfNums (soaP (bytesOf s)).2.2.1, (soaP (bytesOf s)).2.2.2) := by
  obtain ⟨a, b, ok, hc⟩ : ∃ a b ok, cut (bytesOf s) = (a, b, ok) := ⟨_, _, _, rfl⟩
  obtain ⟨a2, b2, ok2, hc2⟩ : ∃ x y z, cut b = (x, y, z) := ⟨_, _, _, rfl⟩
  have hb8 := cut_b8 (of_b8 s) hc
  have hb82 := cut_b8 hb8.2 hc2
  have hl := cut_len hc
  have e1 := Cut_ev s hs
  rw [hc] at e1
  have e2 := Cut_ev (strOfNums b) (by rw [str_size]; rw [of_size] at hl; omega)
  rw [bytes_str hb8.2, hc2] at e2
  simp only at e1 e2
  obtain ⟨K1, h1⟩ := e1
  obtain ⟨K2, h2⟩ := e2
  refine ⟨max K1 K2, fun n hn => ?_⟩
  have h1' := h1 n (by omega)
  have h2' := h2 n (by omega)
  simp only at h1' h2'
  have hsz := str_size b2
  unfold soaP
  simp only [rdata_soa.f, h1', h2', Option.bind_some, hc, hc2]
  cases ok <;> cases ok2 <;> simp only [Bool.false_eq_true, if_false, if_true, true_and, false_and]
  · rfl
  · rfl
  · rfl
  · by_cases h20 : b2.length = 20
    · rw [if_pos (by omega), if_pos h20]
    · rw [if_neg (by omega), if_neg h20]
      rfl
theorem rmay_soa (s : ByteArray) (hs : s.size ≤ 1000000000000) : Ev (fun k => rdata_May.f k 6 s) (soaP (bytesOf s)).2.2.2 := by
  obtain ⟨K, h⟩ := rsoa_ev s hs
  refine ⟨K + 1, fun n hn => ?_⟩
  obtain ⟨m, rfl⟩ : ∃ m, n = m + 1 := ⟨n - 1, by omega⟩
  have hk := h m (by omega)
  simp only at hk
  simp only [rdata_May.f]
  rw [if_neg (by omega), if_neg (by omega), if_neg (by omega)]
  simp only [rdata_May.j0]
  simp only [show ((6 : Int) == 5) = false from rfl, Bool.false_eq_true, if_false, if_true, hk]
  rfl
/-- What Data answers. -/
def dataL (a b : List Int) (ns : List Int) : List Int := if nm a = true ∧ nm b = true then a ++ 0 :: (b ++ 0 :: all32 ns) else []
theorem str0 (a : List Int) : strOfNums a ++ (⟨#[0]⟩ : ByteArray) = strOfNums (a ++ [0]) := by rw [str_app]; rfl
theorem data_ev (a b : List Int) (n0 n1 n2 n3 n4 : Int) (ha : B8 a) (hb : B8 b) (hs : a.length + b.length ≤ 1000000000000) :
    Ev (fun k => soa_Data.f k (strOfNums a) (strOfNums b) n0 n1 n2 n3 n4) (strOfNums (dataL a b [n0, n1, n2, n3, n4]), nm a && nm b) := by
  have sa := str_size a
  have sb := str_size b
  obtain ⟨K1, h1⟩ := May_ev (strOfNums a) (by omega)
  obtain ⟨K2, h2⟩ := May_ev (strOfNums b) (by omega)
  obtain ⟨K3, h3⟩ := put32 [] [n0, n1, n2, n3, n4] (by simp)
  refine ⟨max K1 (max K2 K3) + 1, fun n hn => ?_⟩
  obtain ⟨m, rfl⟩ : ∃ m, n = m + 1 := ⟨n - 1, by omega⟩
  have h1' := h1 (m + 1) (by omega)
  have h2' := h2 (m + 1) (by omega)
  have h3' := h3 m (by omega)
  simp only [bytes_str ha] at h1'
  simp only [bytes_str hb] at h2'
  simp only [List.nil_append] at h3'
  simp only [soa_Data.f, h1', h2', Option.bind_some]
  have hz : ∀ (a : List Int), a.length ≤ 1000000000000 → point_Plain.f (strOfNums a) = some (strOfNums (a ++ [0])) := by
    intro a h
    unfold point_Plain.f
    rw [if_pos (by rw [str_size]; omega), str0]
  unfold dataL
  cases hna : nm a
  · simp [soa_Data.j0]; rfl
  · cases hnb : nm b
    · simp [soa_Data.j0]; rfl
    · simp only [if_true, Bool.not_true, soa_Data.j0, Bool.false_eq_true, if_false, h3', Option.bind_some, hz a (by omega), hz b (by omega), true_and, Bool.and_self]
      have hl := all32_len [n0, n1, n2, n3, n4]
      simp only [List.length_cons, List.length_nil] at hl
      rw [← str_app]
      rw [if_pos (by rw [str_size, str_size]; simp; omega), if_pos (by rw [str_size, str_size, hl]; simp; omega), ← str_app]
      simp
theorem awake07 : Ev (fun k => bolterlaw07_awake.f k) true := Ev.of (fun k => bolterlaw07_awake.mono k) (k := 30) (by kernel_rfl)
end Go.Proofs.Ytpjdemddflnleaa.Soa
