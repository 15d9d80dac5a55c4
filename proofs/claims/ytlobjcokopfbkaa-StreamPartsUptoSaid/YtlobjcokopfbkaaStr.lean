/- part of a proof; what it has no use for was struck out -/
import Derived.Test.YtlobjcokopfbkaaSoaM
import Derived.Test.YtlobjcokopfbkaaPYx11
import Derived.Test.YtlobjcokopfbkaaPYx3
import Derived.Test.YtlobjcokopfbkaaPYx11
import Derived.Test.YtlobjcokopfbkaaPYx11
namespace Go.Proofs.Ytlobjcokopfbkaa.Str
open Go.RowKit Go.Proofs.Ytlobjcokopfbkaa.PY Go.Proofs.YtlobjcokopfbkaaW.PrintWords Go.Proofs.YtlobjcokopfbkaaW.PrintLast Go.Proofs.Ytlobjcokopfbkaa.Base Go.Proofs.Ytlobjcokopfbkaa.Nam Go.Proofs.Ytlobjcokopfbkaa.Soa Go.Proofs.Ytlobjcokopfbkaa.QY
set_option linter.unusedVariables false
set_option linter.unusedSimpArgs false
abbrev R := S32
abbrev LA := S54
def WfL (a : LA) : Prop := (B8 a.f0 ∧ a.f0.length ≤ 1048576) ∧ (0 ≤ a.f1 ∧ a.f1 < 256) ∧ (0 ≤ a.f2 ∧ a.f2 < 4294967296) ∧ (B8 a.f3 ∧ a.f3.length ≤ 1048576) ∧ a.f4.size ≤ 1048576
def recD (a : LA) : Int × ByteArray := bolterlaw04_Data.dataV (a.f1 % 8).toNat (strOfNums (nameL a.f3)) (a.f4.extract 0 (min a.f4.size 30))
def recV (a : LA) : R := ⟨strOfNums (nameL a.f0), (recD a).1, a.f2, (recD a).2⟩
theorem mn_nat (a : Nat) (b : Nat) : mn (a : Int) (b : Int) = ((min a b : Nat) : Int) := by unfold mn; split <;> omega
theorem Data_ev (t : Int) (ns : List Int) (s : ByteArray) (ht : 0 ≤ t) (hb : B8 ns) (hl : ns.length ≤ 1000000000000) (hs : s.size ≤ 1000000000) :
    Ev (fun k => bolterlaw04_Data.f k t ns s) (bolterlaw04_Data.dataV (t.tmod 8).toNat (strOfNums (nameL ns)) s) := by
  obtain ⟨K, hK⟩ := Name_ev ns hb hl
  refine ⟨K, fun k hk => ?_⟩
  have h := hK k hk
  simp only at h
  show bolterlaw04_Data.f k t ns s = _
  unfold bolterlaw04_Data.f
  rw [h, Option.bind_some, if_pos ⟨by rw [str_size]; have := nameL_len ns; omega, hs, ht⟩]
theorem Rec_ev (a : LA) (h : WfL a) : Ev (fun k => bolterlaw05_Record.f k a.f0 a.f1 a.f2 a.f3 a.f4) ((recV a).f0, (recV a).f1, (recV a).f2, (recV a).f3) := by
  obtain ⟨⟨h0, l0⟩, h1, h2, ⟨h3, l3⟩, h4⟩ := h
  obtain ⟨m, hm⟩ : ∃ m, min a.f4.size 30 = m := ⟨_, rfl⟩
  obtain ⟨K0, g0⟩ := Name_ev a.f0 h0 (by omega)
  obtain ⟨K1, g1⟩ := Data_ev a.f1 a.f3 (a.f4.extract 0 m) h1.1 h3 (by omega) (by rw [ByteArray.size_extract]; omega)
  refine ⟨max K0 K1, fun k hk => ?_⟩
  have e0 := g0 k (by omega)
  have e1 := g1 k (by omega)
  simp only at e0 e1
  have ht : a.f1.tmod 8 = a.f1 % 8 := Int.tmod_eq_emod_of_nonneg h1.1
  rw [ht] at e1
  have hw : IntKind.u16.wrap a.f1 = a.f1 := by rw [IntKind.wrap_u16]; omega
  have hmn : mn (a.f4.size : Int) 30 = (m : Int) := by rw [← hm]; exact mn_nat a.f4.size 30
  show bolterlaw05_Record.f k a.f0 a.f1 a.f2 a.f3 a.f4 = _
  unfold bolterlaw05_Record.f
  simp only [hmn, hw]
  rw [if_pos (by omega), if_pos (by omega), show ((m : Int)).toNat = m by omega, e1, Option.bind_some, e0, Option.bind_some]
  unfold recV recD
  rw [hm]
def joinB (a b : ByteArray) : Bool := nm (bytesOf a) && nm (bytesOf b) && decide (a.size + b.size ≤ 254)
theorem Join_ev (a b : ByteArray) (ha : a.size ≤ 1000000000) (hb : b.size ≤ 1000000000) : Ev (fun k => name_Join.f k a b) (if joinB a b = true then (a ++ b, true) else (⟨#[]⟩, false)) := by
  obtain ⟨K0, g0⟩ := May_ev a (by omega)
  obtain ⟨K1, g1⟩ := May_ev b (by omega)
  refine ⟨max K0 K1, fun k hk => ?_⟩
  have e0 := g0 k (by omega)
  have e1 := g1 k (by omega)
  simp only at e0 e1
  have hw : wrap64 ((a.size : Int) + (b.size : Int)) = (a.size : Int) + (b.size : Int) := by unfold wrap64; omega
  show name_Join.f k a b = _
  unfold name_Join.f joinB
  rw [e0, Option.bind_some, hw]
  cases h0 : nm (bytesOf a) with
  | false => rfl
  | true =>
    rw [if_pos rfl, e1, Option.bind_some]
    cases h1 : nm (bytesOf b) with
    | false => rfl
    | true =>
      rw [if_pos rfl]
      by_cases hl : a.size + b.size ≤ 254
      · rw [if_neg (by omega), if_pos (by omega)]
        simp [hl]
      · rw [if_pos (by omega)]
        simp [hl]
def sR (x : ByteArray) (n : Int) : R := ⟨x, 6, 9, strOfNums (soaMake [] n 10 3 40)⟩
theorem Soa_ev (x : ByteArray) (n : Int) : Ev (fun k => bolterlaw09_Soa.f k x n) ((sR x n).f0, (sR x n).f1, (sR x n).f2, (sR x n).f3) := by
  obtain ⟨K, hK⟩ := Make_ev [] n 10 3 40 B8.nil (by simp)
  refine ⟨K, fun k hk => ?_⟩
  have h := hK k hk
  simp only at h
  show bolterlaw09_Soa.f k x n = _
  unfold bolterlaw09_Soa.f
  rw [h]
  rfl
def undR (x : ByteArray) (soas : Bool) (a : LA) : R :=
  if (recV a).f1 = 6 then (if soas = true then sR x (a.f2 % 6) else ⟨x, 16, a.f2, ⟨#[1, 120]⟩⟩) else ⟨if joinB (recV a).f0 x = true then (recV a).f0 ++ x else x, (recV a).f1, (recV a).f2, (recV a).f3⟩
def underL (x : ByteArray) (l : List LA) (most : Nat) (soas : Bool) : List R := (l.take most).map (undR x soas)
theorem rd_LA {l : List LA} {i : Nat} {a : LA} (h : l[i]? = some a) : rd_T54 l (i : Int) = a := by
  unfold rd_T54
  rw [List.getD_eq_getElem?_getD, show ((i : Int)).toNat = i by omega, h]
  rfl
theorem rd_R {l : List R} {i : Nat} {a : R} (h : l[i]? = some a) : rd_T32 l (i : Int) = a := by
  unfold rd_T32
  rw [List.getD_eq_getElem?_getD, show ((i : Int)).toNat = i by omega, h]
  rfl
theorem w64n (i : Nat) (h : i ≤ 1000000000000) : wrap64 ((i : Int) + 1) = ((i + 1 : Nat) : Int) := by unfold wrap64; omega
def eqR (a b : R) : Bool := a.f0.toList == b.f0.toList && (a.f1 == b.f1 && (a.f2 == b.f2 && (a.f3.toList == b.f3.toList)))
theorem eqR_iff (a b : R) : eqR a b = true ↔ a = b := by
  obtain ⟨a0, a1, a2, a3⟩ := a
  obtain ⟨b0, b1, b2, b3⟩ := b
  unfold eqR
  constructor
  · intro h
    simp only [Bool.and_eq_true, beq_iff_eq] at h
    obtain ⟨h0, h1, h2, h3⟩ := h
    have e0 : a0 = b0 := by rw [ByteArray.toList_eq, ByteArray.toList_eq] at h0; exact ByteArray.ext (Array.toList_inj.1 h0)
    have e3 : a3 = b3 := by rw [ByteArray.toList_eq, ByteArray.toList_eq] at h3; exact ByteArray.ext (Array.toList_inj.1 h3)
    rw [e0, h1, h2, e3]
  · intro h
    injection h with h0 h1 h2 h3
    simp [h0, h1, h2, h3]
theorem neR (a b : R) : (!(a.f0.toList == b.f0.toList) || (!(a.f1 == b.f1) || (!(a.f2 == b.f2) || !(a.f3.toList == b.f3.toList)))) = !eqR a b := by
  unfold eqR
  simp only [Bool.not_and]
def cnt (rs : List R) (r : R) : Nat := (rs.filter fun y => eqR y r).length
theorem cnt_step {rs : List R} {i : Nat} {a : R} (r : R) (h : rs[i]? = some a) : cnt (rs.take (i + 1)) r = cnt (rs.take i) r + (if eqR a r = true then 1 else 0) := by
  unfold cnt
  rw [List.take_add_one, h]
  simp only [Option.toList_some, List.filter_append, List.length_append]
  cases he : eqR a r <;> simp [he]
theorem cnt_le (rs : List R) (r : R) : cnt rs r ≤ rs.length := List.length_filter_le _ _
theorem cnt_take_le (rs : List R) (r : R) (i : Nat) : cnt (rs.take i) r ≤ rs.length := Nat.le_trans (cnt_le _ _) (by rw [List.length_take]; omega)
theorem done_loop (r0 : R) (tl : List R) (want : Int) (hl : (r0 :: tl).length ≤ 10000000) : ∀ (d i : Nat), i + d = (r0 :: tl).length →
    Ev (fun k => stream_Done.l0 k (r0 :: tl) want (cnt ((r0 :: tl).take i) r0 : Int) (r0 :: tl) ((r0 :: tl).length : Int) (i : Int)) (decide ((cnt (r0 :: tl) r0 : Int) ≥ want)) := by
  obtain ⟨rs, hrs⟩ : ∃ rs, r0 :: tl = rs := ⟨_, rfl⟩
  have h0 : rs[0]? = some r0 := by rw [← hrs]; rfl
  have hp : 0 < rs.length := by rw [← hrs]; simp
  rw [hrs] at hl ⊢
  clear hrs
  have hr0 : rd_T32 rs 0 = r0 := rd_R (i := 0) h0
  intro d
  induction d with
  | zero =>
    intro i hi
    refine ⟨1, fun k hk => ?_⟩
    obtain ⟨k, rfl⟩ : ∃ k', k = k' + 1 := ⟨k - 1, by omega⟩
    simp only [stream_Done.l0]
    rw [if_neg (by omega), show i = rs.length by omega, List.take_length]
  | succ d ih =>
    intro i hi
    have hil : i < rs.length := by omega
    obtain ⟨a, ha⟩ : ∃ a, rs[i]? = some a := ⟨_, List.getElem?_eq_getElem hil⟩
    have hra := rd_R ha
    obtain ⟨K, g⟩ := ih (i + 1) (by omega)
    rw [cnt_step r0 ha] at g
    refine ⟨K + 1, fun k hk => ?_⟩
    obtain ⟨k, rfl⟩ : ∃ k', k = k' + 1 := ⟨k - 1, by omega⟩
    have e := g k (by omega)
    simp only at e
    simp only [stream_Done.l0]
    rw [if_pos (by omega), if_pos (by omega), if_pos (by omega), if_pos (by omega), hra, hr0, w64n i (by omega)]
    have hc := cnt_take_le rs r0 i
    change (if eqR a r0 = true then _ else _) = _
    by_cases he : eqR a r0 = true
    · rw [if_pos he] at e
      rw [if_pos he, w64n _ (by omega)]
      exact e
    · rw [if_neg he] at e
      rw [if_neg he]
      exact e
def wantN (rs : List R) : Nat := match rs with
  | r0 :: r1 :: _ => if r1.f1 = 6 ∧ eqR r1 r0 = false then 3 else 2
  | _ => 1
def doneB (rs : List R) : Bool := match rs with
  | [] => false
  | r0 :: tl => decide (wantN (r0 :: tl) ≤ cnt (r0 :: tl) r0)
theorem Done_ev (rs : List R) (hl : rs.length ≤ 10000000) : Ev (fun k => stream_Done.f k rs) (doneB rs) := by
  match rs, hl with
  | [], _ => exact ⟨0, fun k _ => rfl⟩
  | [r0], _ =>
    refine ⟨0, fun k _ => ?_⟩
    have : eqR r0 r0 = true := (eqR_iff _ _).2 rfl
    unfold stream_Done.f doneB wantN cnt
    simp [this]
  | r0 :: r1 :: tl, hl =>
    obtain ⟨rs, hrs⟩ : ∃ rs, r0 :: r1 :: tl = rs := ⟨_, rfl⟩
    have h0 : rs[0]? = some r0 := by rw [← hrs]; rfl
    have h1 : rs[1]? = some r1 := by rw [← hrs]; rfl
    have hr0 : rd_T32 rs 0 = r0 := rd_R (i := 0) h0
    have hr1 : rd_T32 rs 1 = r1 := rd_R (i := 1) h1
    have hp : 2 ≤ rs.length := by rw [← hrs]; simp
    have L := fun want => done_loop r0 (r1 :: tl) want hl (r0 :: r1 :: tl).length 0 (by omega)
    have hd : doneB rs = decide ((if r1.f1 = 6 ∧ eqR r1 r0 = false then 3 else 2) ≤ cnt rs r0) := by rw [← hrs]; rfl
    rw [hrs] at L hl ⊢
    rw [hd]
    clear hrs hd
    by_cases hc : r1.f1 = 6 ∧ eqR r1 r0 = false
    · rw [if_pos hc]
      obtain ⟨K, g⟩ := L 3
      refine ⟨K + 2, fun k hk => ?_⟩
      obtain ⟨k, rfl⟩ : ∃ k', k = k' + 2 := ⟨k - 2, by omega⟩
      have e := g k (by omega)
      simp only at e
      show stream_Done.f (k + 2) rs = _
      unfold stream_Done.f
      rw [if_neg (by omega), if_pos (by omega), hr1, if_pos hc.1, if_pos (by omega), hr0, neR, hc.2]
      simp only [stream_Done.j0, stream_Done.j1, Bool.not_false, if_true]
      have e2 : stream_Done.l0 k rs 3 0 rs (rs.length : Int) 0 = _ := e
      rw [e2]
      congr 1
      exact decide_eq_decide.2 (by omega)
    · obtain ⟨K, g⟩ := L 2
      refine ⟨K + 2, fun k hk => ?_⟩
      obtain ⟨k, rfl⟩ : ∃ k', k = k' + 2 := ⟨k - 2, by omega⟩
      have e := g k (by omega)
      simp only at e
      have e2 : stream_Done.l0 k rs 2 0 rs (rs.length : Int) 0 = some (decide ((cnt rs r0 : Int) ≥ 2)) := e
      have hj : stream_Done.j0 (k + 2) rs 2 0 false = some (decide (2 ≤ cnt rs r0)) := by
        show stream_Done.j0 (k + 1 + 1) rs 2 0 false = _
        simp only [stream_Done.j0, stream_Done.j1]
        rw [if_neg (by decide), e2]
        congr 1
        exact decide_eq_decide.2 (by omega)
      rw [if_neg hc]
      show stream_Done.f (k + 2) rs = _
      unfold stream_Done.f
      rw [if_neg (by omega), if_pos (by omega), hr1]
      by_cases h6 : r1.f1 = 6
      · have hne : eqR r1 r0 = true := by
          cases hh : eqR r1 r0 with
          | true => rfl
          | false => exact absurd ⟨h6, hh⟩ hc
        rw [if_pos h6, if_pos (by omega), hr0, neR, hne]
        exact hj
      · rw [if_neg h6]
        exact hj
end Go.Proofs.Ytlobjcokopfbkaa.Str
