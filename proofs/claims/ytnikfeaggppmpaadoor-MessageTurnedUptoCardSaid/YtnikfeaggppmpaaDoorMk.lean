/- part of a proof; what it has no use for was struck out -/
import Derived.Test.YtnikfeaggppmpaaDoorMay
import Derived.Test.YtnikfeaggppmpaaDoorWrd
import Derived.Test.YtnikfeaggppmpaaDoorPMx9
namespace Go.Proofs.YtnikfeaggppmpaaDoor.Wr
open Go.RowKit Go.Proofs.YtnikfeaggppmpaaDoor.PM Go.Proofs.YtnikfeaggppmpaaDoorW.PrintWords Go.Proofs.YtnikfeaggppmpaaDoorW.PrintLast Go.Proofs.YtnikfeaggppmpaaDoor.Base Go.Proofs.YtnikfeaggppmpaaDoor.Nam Go.Proofs.YtnikfeaggppmpaaDoor.QM
set_option linter.unusedVariables false
set_option linter.unusedSimpArgs false
set_option maxRecDepth 100000
abbrev LA := S110
def WfA (a : LA) : Prop := (B8 a.f0 ∧ a.f0.length ≤ 1048576) ∧ (0 ≤ a.f1 ∧ a.f1 < 256) ∧ (0 ≤ a.f2 ∧ a.f2 < 4294967296) ∧ (B8 a.f3 ∧ a.f3.length ≤ 1048576) ∧ a.f4.size ≤ 1048576
def recD (a : LA) : Int × ByteArray := bolterlaw04_Data.dataV (a.f1 % 8).toNat (strOfNums (nameL a.f3)) (a.f4.extract 0 (min a.f4.size 30))
def recV (a : LA) : R := ⟨strOfNums (nameL a.f0), (recD a).1, a.f2, (recD a).2⟩
theorem mn_nat (a : Nat) (b : Nat) : mn (a : Int) (b : Int) = ((min a b : Nat) : Int) := by unfold mn; split <;> omega
theorem Data_ev (t : Int) (ns : List Int) (s : ByteArray) (ht : 0 ≤ t) (hb : B8 ns) (hl : ns.length ≤ 1000000000000) (hs : s.size ≤ 1000000000) :
    Ev (fun k => bolterlaw04_Data.f k t ns s) (bolterlaw04_Data.dataV (t.tmod 8).toNat (strOfNums (nameL ns)) s) := by
  obtain ⟨K, hK⟩ := Name_ev ns hb hl
  refine ⟨K, fun k hk => ?_⟩
  have h := hK k hk
  simp only at h
  show bolterlaw04_Data.f k t ns s = _
  unfold bolterlaw04_Data.f
  rw [h, Option.bind_some, if_pos ⟨by rw [str_size]; have := nameL_len ns; omega, hs, ht⟩]
theorem Rec_ev (a : LA) (h : WfA a) : Ev (fun k => bolterlaw05_Record.f k a.f0 a.f1 a.f2 a.f3 a.f4) ((recV a).f0, (recV a).f1, (recV a).f2, (recV a).f3) := by
  obtain ⟨⟨h0, l0⟩, h1, h2, ⟨h3, l3⟩, h4⟩ := h
  obtain ⟨m, hm⟩ : ∃ m, min a.f4.size 30 = m := ⟨_, rfl⟩
  obtain ⟨K0, g0⟩ := Name_ev a.f0 h0 (by omega)
  obtain ⟨K1, g1⟩ := Data_ev a.f1 a.f3 (a.f4.extract 0 m) h1.1 h3 (by omega) (by rw [ByteArray.size_extract]; omega)
  refine ⟨max K0 K1, fun k hk => ?_⟩
  have e0 := g0 k (by omega)
  have e1 := g1 k (by omega)
  simp only at e0 e1
  have ht : a.f1.tmod 8 = a.f1 % 8 := Int.tmod_eq_emod_of_nonneg h1.1
  rw [ht] at e1
  have hw : IntKind.u16.wrap a.f1 = a.f1 := by rw [IntKind.wrap_u16]; omega
  have hmn : mn (a.f4.size : Int) 30 = (m : Int) := by rw [← hm]; exact mn_nat a.f4.size 30
  show bolterlaw05_Record.f k a.f0 a.f1 a.f2 a.f3 a.f4 = _
  unfold bolterlaw05_Record.f
  simp only [hmn, hw]
  rw [if_pos (by omega), if_pos (by omega), show ((m : Int)).toNat = m by omega, e1, Option.bind_some, e0, Option.bind_some]
  unfold recV recD
  rw [hm]
theorem rd_LA {l : List LA} {i : Nat} {a : LA} (h : l[i]? = some a) : rd_T110 l (i : Int) = a := by
  unfold rd_T110
  rw [List.getD_eq_getElem?_getD, show ((i : Int)).toNat = i by omega, h]
  rfl
theorem w64n (i : Nat) (h : i ≤ 1000000000000) : wrap64 ((i : Int) + 1) = ((i + 1 : Nat) : Int) := by unfold wrap64; omega
theorem recs_loop (l : List LA) (hw : ∀ a ∈ l, WfA a) (hl : l.length ≤ 10000000) (m : Nat) : ∀ (d i : Nat), i + d = l.length → Ev (fun k => bolterlaw05_Records.l0 k (m : Int) (((l.take m).take i).map recV) l (l.length : Int) (i : Int)) ((l.take m).map recV) := by
  intro d
  induction d with
  | zero =>
    intro i hi
    refine ⟨1, fun k hk => ?_⟩
    obtain ⟨k, rfl⟩ : ∃ k', k = k' + 1 := ⟨k - 1, by omega⟩
    simp only [bolterlaw05_Records.l0]
    rw [if_neg (by omega), List.take_of_length_le (by rw [List.length_take]; omega)]
  | succ d ih =>
    intro i hi
    have hil : i < l.length := by omega
    obtain ⟨a, ha⟩ : ∃ a, l[i]? = some a := ⟨_, List.getElem?_eq_getElem hil⟩
    have hra := rd_LA ha
    obtain ⟨K1, g1⟩ := ih (i + 1) (by omega)
    obtain ⟨K2, g2⟩ := Rec_ev a (hw a (List.mem_of_getElem? ha))
    refine ⟨max K1 K2 + 1, fun k hk => ?_⟩
    obtain ⟨k, rfl⟩ : ∃ k', k = k' + 1 := ⟨k - 1, by omega⟩
    have e1 := g1 k (by omega)
    have e2 := g2 k (by omega)
    simp only at e1 e2
    simp only [bolterlaw05_Records.l0]
    rw [if_pos (by omega), if_pos (by omega), if_pos (by omega), hra, w64n i (by omega)]
    by_cases hm : i < m
    · have hg : (l.take m)[i]? = some a := by rw [List.getElem?_take, if_pos hm]; exact ha
      rw [if_pos (by omega), e2, Option.bind_some, if_pos (by rw [List.length_map, List.length_take, List.length_take]; omega)]
      rw [List.take_add_one, hg] at e1
      rw [List.map_append] at e1
      exact e1
    · rw [if_neg (by omega)]
      rw [List.take_of_length_le (by rw [List.length_take]; omega)] at e1 ⊢
      exact e1
theorem Records_ev (l : List LA) (hw : ∀ a ∈ l, WfA a) (hl : l.length ≤ 10000000) (m : Nat) : Ev (fun k => bolterlaw05_Records.f k l (m : Int)) ((l.take m).map recV) := recs_loop l hw hl m l.length 0 (by omega)
def codeV (n : Int) : Int := (n.tmod 16 + 16).tmod 16
theorem codeV_rng (n : Int) : 0 ≤ codeV n ∧ codeV n < 16 := by
  unfold codeV
  have h1 := Int.lt_tmod_of_pos n (show (0 : Int) < 16 by decide)
  have h2 := Int.tmod_lt_of_pos n (show (0 : Int) < 16 by decide)
  rw [Int.tmod_eq_emod_of_nonneg (by omega)]
  omega
def makeM (id : Int) (rp : Bool) (op : Int) (au tr de av : Bool) (co : Int) (ns : List Int) (qt : Int) (an ar ad : List LA) (sz : Int) : Msg :=
  ⟨id, rp, codeV op, au, tr, de, av, codeV co, strOfNums (nameL ns), qt, (an.take 12).map recV, (ar.take 12).map recV, (ad.take 12).map recV, sz⟩
theorem Make_ev (id : Int) (rp : Bool) (op : Int) (au tr de av : Bool) (co : Int) (ns : List Int) (qt : Int) (an ar ad : List LA) (sz : Int) (h8 : B8 ns) (hl : ns.length ≤ 1000000000) (hsz : 0 ≤ sz ∧ sz < 65536)
    (h1 : (∀ a ∈ an, WfA a) ∧ an.length ≤ 10000000) (h2 : (∀ a ∈ ar, WfA a) ∧ ar.length ≤ 10000000) (h3 : (∀ a ∈ ad, WfA a) ∧ ad.length ≤ 10000000) :
    Ev (fun k => bolterlaw05_Make.f k id rp op au tr de av co ns qt an ar ad sz) (id, rp, codeV op, au, tr, de, av, codeV co, strOfNums (nameL ns), qt, (an.take 12).map recV, (ar.take 12).map recV, (ad.take 12).map recV, sz) := by
  obtain ⟨K0, g0⟩ := Name_ev ns h8 (by omega)
  obtain ⟨K1, g1⟩ := Records_ev an h1.1 h1.2 12
  obtain ⟨K2, g2⟩ := Records_ev ar h2.1 h2.2 12
  obtain ⟨K3, g3⟩ := Records_ev ad h3.1 h3.2 12
  refine ⟨max (max K0 K1) (max K2 K3), fun k hk => ?_⟩
  have e0 := g0 k (by omega)
  have e1 := g1 k (by omega)
  have e2 := g2 k (by omega)
  have e3 := g3 k (by omega)
  simp only at e0 e1 e2 e3
  have hw : ∀ n : Int, wrap64 (n.tmod 16 + 16) = n.tmod 16 + 16 := fun n => by
    have h1 := Int.lt_tmod_of_pos n (show (0 : Int) < 16 by decide)
    have h2 := Int.tmod_lt_of_pos n (show (0 : Int) < 16 by decide)
    unfold wrap64
    omega
  have hs : wrap64 sz = sz := by unfold wrap64; omega
  show bolterlaw05_Make.f k id rp op au tr de av co ns qt an ar ad sz = _
  unfold bolterlaw05_Make.f
  rw [e0, Option.bind_some]
  rw [show bolterlaw05_Records.f k an 12 = _ from e1, Option.bind_some, show bolterlaw05_Records.f k ar 12 = _ from e2, Option.bind_some, show bolterlaw05_Records.f k ad 12 = _ from e3, Option.bind_some, hw, hw, hs]
  rfl
theorem texts_one (n : Nat) (t : ByteArray) (hn : n ≤ 255) (ht : t.size = n) : Ev (fun k => rdata_texts.f k (strOfNums [(n : Int)] ++ t)) true := by
  obtain ⟨s, hs⟩ : ∃ s, strOfNums [(n : Int)] ++ t = s := ⟨_, rfl⟩
  have hz : s.size = n + 1 := by rw [← hs, ByteArray.size_append, str_size, ht]; simp only [List.length_cons, List.length_nil]; omega
  have hb : bt s 0 = (n : Int) := by
    have h := bt_get s 0 (by omega)
    rw [← hs, bytes_app, bytes_str (B8.cons (by omega) (by omega) B8.nil)] at h
    rw [← hs]
    simpa using h.symm
  rw [hs]
  refine ⟨2, fun k hk => ?_⟩
  obtain ⟨k, rfl⟩ : ∃ k', k = k' + 2 := ⟨k - 2, by omega⟩
  show rdata_texts.l0 (k + 1 + 1) s 0 = some true
  rw [rdata_texts.l0, if_neg (by omega), if_pos (by omega), if_pos (by omega), hb, w64i (x := ((n : Nat) : Int)) (by omega) (by omega), w64i (x := 1 + ((n : Nat) : Int)) (by omega) (by omega), w64i (x := 0 + (1 + ((n : Nat) : Int))) (by omega) (by omega)]
  rw [rdata_texts.l0, if_pos (by omega), if_pos (by omega)]
  exact congrArg some (decide_eq_true (by omega))
theorem dataV_may (j : Nat) (ns : List Int) (s : ByteArray) (hs : s.size ≤ 30) :
    (bolterlaw04_Data.dataV j (strOfNums (nameL ns)) s).1 ≠ 41 ∧ (0 ≤ (bolterlaw04_Data.dataV j (strOfNums (nameL ns)) s).1 ∧ (bolterlaw04_Data.dataV j (strOfNums (nameL ns)) s).1 < 65536) ∧ mayB (bolterlaw04_Data.dataV j (strOfNums (nameL ns)) s).1 (bolterlaw04_Data.dataV j (strOfNums (nameL ns)) s).2 = true := by
  have hnm : nm (bytesOf (strOfNums (nameL ns))) = true := by rw [bytes_str (nameL_b8 ns)]; exact nameL_nm ns
  unfold bolterlaw04_Data.dataV
  by_cases j1 : j ≤ 1
  · simp only [if_pos j1]
    refine ⟨by decide, by decide, ?_⟩
    unfold mayB
    rw [if_pos rfl]
    exact decide_eq_true (by rw [ByteArray.size_extract, ByteArray.size_append]; have h : bolterlaw04_Data.data4.size = 4 := rfl; omega)
  simp only [if_neg j1]
  by_cases j2 : j = 2
  · simp only [if_pos j2]
    refine ⟨by decide, by decide, ?_⟩
    unfold mayB
    rw [if_neg (by decide), if_neg (by decide), if_pos (.inl rfl)]
    exact hnm
  simp only [if_neg j2]
  by_cases j3 : j = 3
  · simp only [if_pos j3]
    refine ⟨by decide, by decide, ?_⟩
    unfold mayB
    rw [if_neg (by decide), if_neg (by decide), if_pos (.inr rfl)]
    exact hnm
  simp only [if_neg j3]
  by_cases j4 : j = 4
  · simp only [if_pos j4]
    refine ⟨by decide, by decide, ?_⟩
    unfold mayB
    rw [if_neg (by decide), if_neg (by decide), if_neg (by decide), if_pos rfl]
    have hz : ((s ++ bolterlaw04_Data.data20).extract 0 20).size = 20 := by rw [ByteArray.size_extract, ByteArray.size_append]; have h : bolterlaw04_Data.data20.size = 20 := rfl; omega
    obtain ⟨r, hr⟩ : ∃ r, bytesOf ((s ++ bolterlaw04_Data.data20).extract 0 20) = r := ⟨_, rfl⟩
    have hrl : r.length = 20 := by rw [← hr, of_size, hz]
    have hb : bytesOf (strOfNums (nameL ns) ++ (⟨#[0]⟩ : ByteArray) ++ strOfNums (nameL ns) ++ (⟨#[0]⟩ : ByteArray) ++ (s ++ bolterlaw04_Data.data20).extract 0 20) = nameL ns ++ 0 :: (nameL ns ++ 0 :: r) := by
      rw [bytes_app, bytes_app, bytes_app, bytes_app, hr, bytes_str (nameL_b8 ns)]
      simp [bytesOf]
    rw [hb, soaP_of (nameL_nm ns) (nameL_nm ns) hrl]
  simp only [if_neg j4]
  by_cases j5 : j = 5
  · simp only [if_pos j5]
    have hz : (s.extract 0 (min s.size 255)).size = min s.size 255 := by rw [ByteArray.size_extract]; omega
    refine ⟨by decide, by decide, ?_⟩
    unfold mayB
    rw [if_neg (by decide), if_neg (by decide), if_neg (by decide), if_neg (by decide), if_pos rfl]
    have hsz : (strOfNums [((min s.size 255 : Nat) : Int)] ++ s.extract 0 (min s.size 255)).size ≤ 512 := by rw [ByteArray.size_append, hz, str_size]; simp only [List.length_cons, List.length_nil]; omega
    rw [Ev_one (txtB_ev _ (by omega)) (texts_one (min s.size 255) _ (by omega) hz), decide_eq_true hsz]
    rfl
  simp only [if_neg j5]
  by_cases j6 : j = 6
  · simp only [if_pos j6]
    refine ⟨by decide, by decide, ?_⟩
    unfold mayB
    rw [if_neg (by decide), if_pos rfl]
    exact decide_eq_true (by rw [ByteArray.size_extract, ByteArray.size_append]; have h : bolterlaw04_Data.data16.size = 16 := rfl; omega)
  simp only [if_neg j6]
  refine ⟨by decide, by decide, ?_⟩
  unfold mayB
  rw [if_neg (by decide), if_neg (by decide), if_neg (by decide), if_neg (by decide), if_neg (by decide)]
  exact decide_eq_true (by rw [ByteArray.size_extract]; omega)
theorem recV_ok (a : LA) (h : WfA a) : mayR (recV a) = true ∧ WfR (recV a) := by
  obtain ⟨h1, h2, h3⟩ := dataV_may (a.f1 % 8).toNat a.f3 (a.f4.extract 0 (min a.f4.size 30)) (by rw [ByteArray.size_extract]; omega)
  have hn : nm (bytesOf (recV a).f0) = true := by
    show nm (bytesOf (strOfNums (nameL a.f0))) = true
    rw [bytes_str (nameL_b8 a.f0)]
    exact nameL_nm a.f0
  have hnl : (recV a).f0.size ≤ 1000000000 := by show (strOfNums (nameL a.f0)).size ≤ _; rw [str_size]; have := nameL_len a.f0; omega
  have hm : mayB (recV a).f1 (recV a).f3 = true := h3
  refine ⟨?_, ⟨h2, h.2.2.1, hnl, by have := mayB_len hm; omega⟩⟩
  unfold mayR
  rw [hn, hm, decide_eq_true (show (recV a).f1 ≠ 41 from h1)]
  rfl
theorem make_ok (id : Int) (rp : Bool) (op : Int) (au tr de av : Bool) (co : Int) (ns : List Int) (qt : Int) (an ar ad : List LA) (sz : Int) (hid : 0 ≤ id ∧ id < 65536) (hqt : 0 ≤ qt ∧ qt < 65536) (hsz : 0 ≤ sz ∧ sz < 65536)
    (h1 : ∀ a ∈ an, WfA a) (h2 : ∀ a ∈ ar, WfA a) (h3 : ∀ a ∈ ad, WfA a) : mayM (makeM id rp op au tr de av co ns qt an ar ad sz) = true ∧ WfM (makeM id rp op au tr de av co ns qt an ar ad sz) := by
  have hp : ∀ l : List LA, (∀ a ∈ l, WfA a) → partOk ((l.take 12).map recV) = true ∧ (∀ r ∈ (l.take 12).map recV, WfR r) ∧ ((l.take 12).map recV).length ≤ 12 := fun l hl => by
    have hll : ((l.take 12).map recV).length ≤ 12 := by rw [List.length_map, List.length_take]; omega
    refine ⟨?_, fun r hr => ?_, hll⟩
    · unfold partOk
      rw [decide_eq_true (by omega), Bool.true_and, List.all_eq_true]
      intro r hr
      obtain ⟨a, ha, rfl⟩ := List.mem_map.1 hr
      exact (recV_ok a (hl a (List.mem_of_mem_take ha))).1
    · obtain ⟨a, ha, rfl⟩ := List.mem_map.1 hr
      exact (recV_ok a (hl a (List.mem_of_mem_take ha))).2
  obtain ⟨p1, w1, n1⟩ := hp an h1
  obtain ⟨p2, w2, n2⟩ := hp ar h2
  obtain ⟨p3, w3, n3⟩ := hp ad h3
  have hq : (strOfNums (nameL ns)).size ≤ 1000000000 := by rw [str_size]; have := nameL_len ns; omega
  refine ⟨?_, ⟨⟨w1, w2, w3⟩, hq, Nat.le_trans n3 (by decide), Nat.le_trans n1 (by decide), Nat.le_trans n2 (by decide), hqt, hid⟩⟩
  have c1 := codeV_rng op
  have c2 := codeV_rng co
  have hh : headOk (makeM id rp op au tr de av co ns qt an ar ad sz) = true := by
    unfold headOk
    have e : nm (bytesOf (makeM id rp op au tr de av co ns qt an ar ad sz).qn) = true := by
      show nm (bytesOf (strOfNums (nameL ns))) = true
      rw [bytes_str (nameL_b8 ns)]
      exact nameL_nm ns
    rw [e, Bool.and_true]
    exact decide_eq_true ⟨c1.1, c1.2, c2.1, c2.2, hsz.1, hsz.2⟩
  unfold mayM
  rw [hh, Bool.true_and]
  show ([(an.take 12).map recV, (ar.take 12).map recV, (ad.take 12).map recV].all partOk) = true
  rw [List.all_cons, p1, List.all_cons, p2, List.all_cons, p3]
  rfl
end Go.Proofs.YtnikfeaggppmpaaDoor.Wr
