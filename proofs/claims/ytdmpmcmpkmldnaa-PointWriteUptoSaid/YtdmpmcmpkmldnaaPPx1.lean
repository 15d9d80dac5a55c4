-- written by a program of this session out of the loaded program (its tools: wip/tools)
import Derived.Test.YtdmpmcmpkmldnaaPPx0
namespace Go.Proofs.Ytdmpmcmpkmldnaa.PP
open Go.RowKit Go.Proofs.YtdmpmcmpkmldnaaW.PrintWords Go.Proofs.YtdmpmcmpkmldnaaW.PrintLast Go.Proofs.YtdmpmcmpkmldnaaW.PrintMore
attribute [local go_sem] max2_int min2_int max_two min_two max_three min_three max_four min_four   -- for this text's walks alone
set_option linter.unusedVariables false
set_option linter.unusedSimpArgs false

-- NOT PRINTED: function 21 (strings_Builder_Len)

-- NOT PRINTED: function 28 (abi_NoEscape)

-- NOT PRINTED: function 26 (strings_Builder_copyCheck)

-- NOT PRINTED: function 22 (strings_Builder_WriteByte)

-- NOT PRINTED: function 23 (strings_Builder_WriteString)

/-! ### name_Fold: function 27 -/
def name_Fold.f (a0 : Int) : Option (Int) := if a0 ≥ 65 then (if a0 ≤ 90 then (some ((((a0 + 97) % 256) - 65) % 256)) else (some a0)) else (some a0)
set_option maxHeartbeats 8000000 in
set_option maxRecDepth 100000 in
theorem name_Fold.calls (a0 : Int) (r : Int) (w : World) (h : name_Fold.f a0 = some r) :
    Calls Try.prog 27 #[.int .u8 a0] w fun e w' => e = .returned (.int .u8 r) ∧ Drawn0 w w' := by
  have H : (if a0 ≥ 65 then (if a0 ≤ 90 then (some ((((a0 + 97) % 256) - 65) % 256)) else (some a0)) else (some a0)) = some r := h
  clear h
  by_cases c2 : a0 ≥ 65
  · rw [if_pos c2] at H
    have c2b0 : decide (65 ≤ a0) = true := decide_eq_true c2
    clear c2
    by_cases c3 : a0 ≤ 90
    · rw [if_pos c3] at H
      have c3b0 : decide (a0 ≤ 90) = true := decide_eq_true c3
      clear c3
      obtain rfl := Option.some.inj H
      go_enter Try.func27, Try.ntmps27
      go_wp2
      go_ret
      exact ⟨by first | rfl | (simp; done) | (simp [*]; done), by repeat (first | exact Drawn0.refl _ | apply Drawn0.step)⟩
    · rw [if_neg c3] at H
      have c3b0 : decide (a0 ≤ 90) = false := decide_eq_false c3
      clear c3
      obtain rfl := Option.some.inj H
      go_enter Try.func27, Try.ntmps27
      go_wp2
      go_ret
      exact ⟨by first | rfl | (simp; done) | (simp [*]; done), by repeat (first | exact Drawn0.refl _ | apply Drawn0.step)⟩
  · rw [if_neg c2] at H
    have c2b0 : decide (65 ≤ a0) = false := decide_eq_false c2
    clear c2
    obtain rfl := Option.some.inj H
    go_enter Try.func27, Try.ntmps27
    go_wp2
    go_ret
    exact ⟨by first | rfl | (simp; done) | (simp [*]; done), by repeat (first | exact Drawn0.refl _ | apply Drawn0.step)⟩


/-! ### name_folded: function 24 (by hand) -/
/-- A byte, folded. -/
def name_folded.one (c : Int) : Int := (name_Fold.f c).getD 0
theorem name_folded.one_some (c : Int) : name_Fold.f c = some (name_folded.one c) := by
  unfold name_folded.one name_Fold.f
  repeat' split
  all_goals rfl
def name_folded.f (a0 : ByteArray) : Option ByteArray := if a0.size ≤ 140737488355328 then some (strOfNums ((bytesOf a0).map name_folded.one)) else none
/-- The bytes of a string of which the first k are folded. -/
def name_folded.at_ (s : ByteArray) (k j : Nat) : Int := if j < k then name_folded.one (bt s j) else bt s j
set_option maxHeartbeats 1000000 in
theorem name_folded.calls (a0 : ByteArray) (r : ByteArray) (w : World) (h : name_folded.f a0 = some r) :
    Calls Try.prog 24 #[.string a0] w fun e w' => e = .returned (.string r) ∧ Below w.heap.size w w' := by
  unfold name_folded.f at h
  split at h
  case isFalse => cases h
  rename_i hsz
  have Hr := Aside0.mk (Option.some.inj h)
  clear h
  obtain ⟨W, c, hconv0, hc, hB, hlt, hcell, hfr⟩ := Go.Proofs.YtdmpmcmpkmldnaaW.HandW.bytes_world w 5 a0
  have hconv := hconv0 Try.prog 9 30 _ Try.underlying9 Try.underlying30 Try.underlying5
  clear hconv0
  have HC := Aside0.mk hcell
  have HF := Aside0.mk hfr
  have HB := Aside0.mk hB
  have HL := Aside0.mk hlt
  clear hcell hfr hB hlt
  have hs9 : a0.size ≤ 9223372036854775807 := by omega
  go_enter Try.func24, Try.ntmps24
  go_wp2
  go_loopw [4, 5, 10] (fun _ _ i wr => ∃ k : Nat, k ≤ a0.size ∧ i = .int .i64 k ∧ Aside0 (∀ j, j < a0.size → wr.cell? ⟨w.heap.size, j, none⟩ = some (.int .u8 (name_folded.at_ a0 k j))) ∧ Aside0 (∀ j, j < a0.size → wr.frozen? ⟨w.heap.size, j, none⟩ = false) ∧ Aside0 (Below w.heap.size w wr) ∧ Aside0 (w.heap.size < wr.heap.size))
    (fun _ _ i _ => a0.size - (intOf i).toNat)
  case atStart => exact ⟨0, Nat.zero_le _, rfl, ⟨fun j hj => by rw [HC.out j hj]; unfold name_folded.at_; rw [if_neg (by omega)]⟩, HF, HB, HL⟩
  case round =>
    obtain ⟨k, hk, rfl, hA, hF, hBB, hLL⟩ := hrel
    by_cases hlt : k < a0.size
    · have hcell : wr.cell? ⟨w.heap.size, k, none⟩ = some (.int .u8 (bt a0 k)) := by
        rw [hA.out k hlt]
        unfold name_folded.at_
        rw [if_neg (by omega)]
      have hfro : wr.frozen? ⟨w.heap.size, k, none⟩ = false := hF.out k hlt
      have hb := bt_range a0 k
      have hd1 : decide (k < a0.size) = true := decide_eq_true hlt
      have hd2 : decide ((k : Int) < (a0.size : Int)) = true := decide_eq_true (by omega)
      go_wp2_with (go_at_call 27; (with_reducible refine (name_Fold.calls _ _ _ (name_folded.one_some (bt a0 k))).mono ?_); rintro e w2 ⟨rfl, ⟨m, rfl⟩⟩)
      go_roundw
      case rel =>
        refine ⟨k + 1, by omega, by go_num, ⟨fun j hj => ?_⟩, ⟨fun j hj => ?_⟩, ⟨?_⟩, ⟨?_⟩⟩
        · by_cases hj2 : j = k
          · subst hj2
            have e : ((wr.drewN m).setCell ⟨w.heap.size, j, none⟩ (.int .u8 (name_folded.one (bt a0 j)))).cell? ⟨w.heap.size, j, none⟩ = some (.int .u8 (name_folded.one (bt a0 j))) := World.cell?_setCell_same (wr.drewN m) ⟨w.heap.size, j, none⟩ _ hcell
            refine Eq.trans e ?_
            unfold name_folded.at_
            rw [if_pos (by omega)]
          · have e : ((wr.drewN m).setCell ⟨w.heap.size, k, none⟩ (.int .u8 (name_folded.one (bt a0 k)))).cell? ⟨w.heap.size, j, none⟩ = wr.cell? ⟨w.heap.size, j, none⟩ := World.cell?_setCell_other (wr.drewN m) _ _ _ (by intro h; injection h with _ h _; exact hj2 h.symm)
            refine Eq.trans e ?_
            rw [hA.out j hj]
            unfold name_folded.at_
            by_cases h1 : j < k
            · rw [if_pos h1, if_pos (by omega)]
            · rw [if_neg h1, if_neg (by omega)]
        · have e : ((wr.drewN m).setCell ⟨w.heap.size, k, none⟩ (.int .u8 (name_folded.one (bt a0 k)))).frozen? ⟨w.heap.size, j, none⟩ = wr.frozen? ⟨w.heap.size, j, none⟩ := World.frozen?_setCell _ _ _ _
          exact e.trans (hF.out j hj)
        · have e : Below w.heap.size w ((wr.drewN m).setCell ⟨w.heap.size, k, none⟩ (.int .u8 (name_folded.one (bt a0 k)))) := (pw_below_drewN hBB.out m).setCell (Nat.le_refl _) _
          exact e
        · have e : ((wr.drewN m).setCell ⟨w.heap.size, k, none⟩ (.int .u8 (name_folded.one (bt a0 k)))).heap.size = wr.heap.size := World.size_setCell _ _ _
          exact Nat.lt_of_lt_of_eq hLL.out e.symm
      case measure => simp [intOf]; omega
    · have hl : ((bytesOf a0).map name_folded.one).length = a0.size := by rw [List.length_map, bytesOf_length]
      have hCC : Kd.C (Kd.int .u8) wr (some ⟨w.heap.size, 0, none⟩) ((bytesOf a0).map name_folded.one).length ((bytesOf a0).map name_folded.one) := by
        refine ⟨rfl, by omega, fun _ => ⟨⟨w.heap.size, 0, none⟩, rfl, fun j p hj => ⟨[.int .u8 p], rfl, rfl, fun i u hu => ?_⟩⟩⟩
        have hi : i = 0 := by
          have := (List.getElem?_eq_some_iff.1 hu).1
          simp at this
          exact this
        subst hi
        have hu' : u = .int .u8 p := by simpa using hu.symm
        subst hu'
        have hjl : j < a0.size := by
          have := (List.getElem?_eq_some_iff.1 hj).1
          omega
        have ha : ((⟨w.heap.size, 0, none⟩ : Addr).add (j * 1 + 0)) = ⟨w.heap.size, j, none⟩ := by
          cases j <;> simp [Addr.add]
        show wr.cell? ((⟨w.heap.size, 0, none⟩ : Addr).add (j * 1 + 0)) = _
        rw [ha, hA.out j hjl]
        unfold name_folded.at_
        rw [if_pos (by omega)]
        have hp : p = name_folded.one (bt a0 j) := by
          rw [List.getElem?_map] at hj
          have hd : j < a0.data.toList.length := by simpa using hjl
          have : (bytesOf a0)[j]? = some (bt a0 j) := by
            simp only [bytesOf, List.getElem?_map, List.getElem?_eq_getElem hd, Option.map_some, bt, Int.toNat_natCast, hjl, dif_pos]
            simp
            rfl
          rw [this] at hj
          simpa using hj.symm
        rw [hp]
      have hcv := Kd.C_string (P := Try.prog) (c := c) Try.underlying30 Try.underlying5 Try.underlying9 hCC
      rw [hl] at hcv
      clear hCC hl
      have hd1 : decide (k < a0.size) = false := decide_eq_false hlt
      have hd2 : decide ((k : Int) < (a0.size : Int)) = false := decide_eq_false (by omega)
      go_wp2
      go_ret
      exact ⟨by rw [← Hr.out]; rfl, hBB.out⟩

-- NOT PRINTED: function 25 (strings_Builder_String)


/-! ### name_Make: function 16 (by hand) -/
namespace name_Make
section
open Go.Proofs.Ytdmpmcmpkmldnaa.Nam Go.Proofs.Ytdmpmcmpkmldnaa.Base Go.Proofs.Ytdmpmcmpkmldnaa.Heap Go.Proofs.Ytdmpmcmpkmldnaa
theorem one_eq {c : Int} (h0 : 0 ≤ c) (h1 : c < 256) : name_folded.one c = Go.Proofs.Ytdmpmcmpkmldnaa.Nam.fold1 c := by
  unfold name_folded.one name_Fold.f Go.Proofs.Ytdmpmcmpkmldnaa.Nam.fold1
  repeat' split
  all_goals simp only [Option.getD_some]
  all_goals omega
theorem one_map {l : List Int} (h : Go.Proofs.Ytdmpmcmpkmldnaa.Base.B8 l) : l.map name_folded.one = Go.Proofs.Ytdmpmcmpkmldnaa.Nam.fold l := List.map_congr_left fun y hy => one_eq (h y hy).1 (h y hy).2
def IsB (B b : Nat) (l : List Int) (w : World) : Prop := Lib.IsBuilder 55 5 B b (nums .u8 l) w
theorem strCells_nums (s : ByteArray) : Lib.strCells s = nums .u8 (bytesOf s) := by simp [Lib.strCells, nums, bytesOf]
theorem len_ (B b : Nat) (l : List Int) (w : World) (h : IsB B b l w) :
    Calls Try.prog 21 #[.pointer (some ⟨b, 0, none⟩)] w fun e w' => e = .returned (.int .i64 l.length) ∧ w' = w := by
  have := Bld.len B b (nums .u8 l) w h
  rwa [show (nums .u8 l).length = l.length by simp [nums]] at this
theorem writeByte_ (B b : Nat) (l : List Int) (c : Int) (w : World) (h : IsB B b l w) (hlen : l.length + 1 ≤ 140737488355328) (hBw : B ≤ w.heap.size) :
    Calls Try.prog 22 #[.pointer (some ⟨b, 0, none⟩), .int .u8 c] w fun e w' => e = .returned .nilIface ∧ IsB B b (l ++ [c]) w' ∧ Below B w w' := by
  refine (Bld.writeByte B b (nums .u8 l) c w h (by simpa [nums] using hlen) hBw).mono ?_
  rintro e w' ⟨rfl, h1, h2⟩
  exact ⟨rfl, .inr (by simpa [nums] using h1), h2⟩
theorem writeString_ (B b : Nat) (l : List Int) (s : ByteArray) (w : World) (h : IsB B b l w) (hlen : l.length + s.size ≤ 140737488355328) (hBw : B ≤ w.heap.size) :
    Calls Try.prog 23 #[.pointer (some ⟨b, 0, none⟩), .string s] w fun e w' => e = .returned (.tuple #[.int .i64 s.size, .nilIface]) ∧ IsB B b (l ++ bytesOf s) w' ∧ Below B w w' := by
  refine (Bld.writeString B b (nums .u8 l) s w h (by simpa [nums] using hlen) hBw).mono ?_
  rintro e w' ⟨rfl, h1, h2⟩
  refine ⟨rfl, .inr ?_, h2⟩
  rw [strCells_nums] at h1
  simpa [nums] using h1
theorem byteCells_nums {l : List Int} (h : B8 l) : nums .u8 l = Lib.byteCells (l.map fun n => UInt8.ofNat n.toNat) := by
  simp only [nums, Lib.byteCells, List.map_map]
  apply List.map_congr_left
  intro y hy
  have := h y hy
  simp
  omega
theorem string_ (B b : Nat) (l : List Int) (w : World) (h : IsB B b l w) (hl : B8 l) (h0 : l ≠ []) :
    Calls Try.prog 25 #[.pointer (some ⟨b, 0, none⟩)] w fun e w' => e = .returned (.string (strOfNums l)) ∧ Below B w w' := by
  unfold IsB at h
  rw [byteCells_nums hl] at h
  exact Bld.string_some B b _ w h (by simpa using h0)
theorem isB_lt {B b : Nat} {l : List Int} {w : World} (h : IsB B b l w) : b < w.heap.size ∧ B ≤ b := by
  rcases h with h | h
  · exact ⟨h.lt, h.1⟩
  · exact ⟨h.lt, h.1⟩

theorem builder_below {T e : TypeId} {B b : Nat} {p : Value} {bs : List Value} {w w' : World} (h : Lib.BuilderAt T e B b p bs w) (hb : Below w.heap.size w w') : Lib.BuilderAt T e B b p bs w' := by
  obtain ⟨h1, v, h2, h3, h4⟩ := h
  exact ⟨h1, v, blk_below h2 hb, pw_own_below h3 hb, h4⟩
def mkV (ls : List (List Int)) : Value := .tuple #[.string (strOfNums (mk ls)), .bool (mkOk ls)]
theorem str_at {w : World} {A : Option Addr} {n : Nat} {ls : List ByteArray} (h : Kd.C Kd.string w A n ls) (j : Nat) (x : ByteArray) (hx : ls[j]? = some x) : ∃ ad, A = some ad ∧ w.cell? (ad.add j) = some (.string x) :=
  scal_at (enc := Value.string) (h1 := fun _ => rfl) h j x hx
theorem folded_ (s : ByteArray) (hs : s.size ≤ 1048576) (w : World) :
    Calls Try.prog 24 #[.string s] w fun e w' => e = .returned (.string (strOfNums (fold (bytesOf s)))) ∧ Below w.heap.size w w' := by
  refine name_folded.calls s _ w ?_
  unfold name_folded.f
  rw [if_pos (by omega), one_map (of_b8 s)]
set_option maxHeartbeats 4000000 in
/-- name.Make. -/
theorem make_ (A : Option Addr) (c : Nat) (ls : List ByteArray) (w : World) (hC : Kd.C Kd.string w A ls.length ls) (hc : ls.length ≤ c) :
    Calls Try.prog 16 #[.slice A ls.length c] w fun e w' => e = .returned (mkV (ls.map bytesOf)) ∧ Below w.heap.size w w' := by
  obtain ⟨L, hL⟩ : ∃ L, ls.map bytesOf = L := ⟨_, rfl⟩
  have hget : ∀ (j : Nat) (x : ByteArray), ls[j]? = some x → L[j]? = some (bytesOf x) := by
    intro j x hx
    rw [← hL, List.getElem?_map, hx]
    rfl
  have hLl : L.length = ls.length := by rw [← hL, List.length_map]
  have hL8 : ∀ l ∈ L, B8 l := by
    intro l hl
    rw [← hL] at hl
    obtain ⟨x, _, rfl⟩ := List.mem_map.1 hl
    exact of_b8 x
  have hls : ls.length ≤ 9223372036854775807 := hC.2.1
  rw [hL]
  have HC := Lib.hid hC
  have HG := Lib.hid hget
  have HLL := Lib.hid hLl
  have HL8 := Lib.hid hL8
  have hfr := Lib.fresh_isBuilder 55 5 w
  have hbn := blk_new w (.cells #[.pointer none, .slice none 0 0] 55)
  have hbb := below_alloc (Below.refl w.heap.size w) (.cells #[.pointer none, .slice none 0 0] 55)
  obtain ⟨g, hg⟩ : ∃ g, w.heap.size = g := ⟨_, rfl⟩
  have HF := Lib.hid hfr
  have HN := Lib.hid hbn
  have HBB := Lib.hid hbb
  clear hC hget hLl hL8 hL hfr hbn hbb
  go_enter Try.func16, Try.ntmps16
  go_wp2_with fail
  (try rw [hg])
  go_loopw [9] (fun i wr => ∃ k : Nat, k ≤ ls.length ∧ i = .int .i64 k ∧ (mkL (L.take k)).length ≤ 254 ∧ Aside0 (∀ j l, j < k → L[j]? = some l → Lab l) ∧ Aside0 (IsB g g (mkL (L.take k)) wr) ∧ Aside0 (Below w.heap.size w wr) ∧ Aside0 (k = 0 → wr.heap[g]? = some (.cells #[.pointer none, .slice none 0 0] 55 (0, 0))))
    (fun i _ => ls.length - (intOf i).toNat)
  case atStart => exact ⟨0, Nat.zero_le _, rfl, by simp [mkL, lay], ⟨fun j l hj => absurd hj (Nat.not_lt_zero j)⟩, ⟨by rw [← hg]; exact HF.out⟩, ⟨HBB.out⟩, ⟨fun _ => by rw [← hg]; exact HN.out⟩⟩
  case round =>
    obtain ⟨k, hk, rfl, hn, HA, HB, HW, HZ⟩ := hrel
    obtain ⟨n, hnn⟩ : ∃ n, (mkL (L.take k)).length = n := ⟨_, rfl⟩
    rw [hnn] at hn
    have HNN := Lib.hid hnn
    clear hnn
    by_cases hlt : k < ls.length
    · obtain ⟨x, hx⟩ : ∃ x, ls[k]? = some x := ⟨_, List.getElem?_eq_getElem hlt⟩
      obtain ⟨ad, ha, hcell0⟩ := str_at HC.out k x hx
      have hcell := pw_cell_below HW.out hcell0
      subst ha
      have hX := HG.out k x hx
      have HX := Lib.hid hX
      clear hcell0 hx hX
      have hxs := of_size x
      obtain ⟨m, hm⟩ : ∃ m, x.size = m := ⟨_, rfl⟩
      rw [hm] at hxs
      have HXS := Lib.hid hxs
      clear hxs
      by_cases h1 : m < 1
      · have hbad := mkOk_bad HX.out (.inl (by rw [HXS.out]; exact h1))
        have HV := Lib.hid (show mkV L = .tuple #[.string ⟨#[]⟩, .bool false] by unfold mkV mk; rw [hbad]; rfl)
        clear hbad
        have hd1 : decide ((m : Int) < 1) = true := decide_eq_true (by omega)
        have hd2 : decide ((x.size : Int) < 1) = true := by rw [hm]; exact hd1
        go_wp2
        go_ret2
        exact ⟨congrArg Ending.returned HV.out.symm, by first | exact HW.out | (rw [← hg]; exact HW.out)⟩
      · by_cases h2 : 63 < m
        · have hbad := mkOk_bad HX.out (.inr (.inl (by rw [HXS.out]; exact h2)))
          have HV := Lib.hid (show mkV L = .tuple #[.string ⟨#[]⟩, .bool false] by unfold mkV mk; rw [hbad]; rfl)
          clear hbad
          have hd2 : decide ((x.size : Int) < 1) = false := decide_eq_false (by omega)
          have hd3 : decide (63 < (x.size : Int)) = true := decide_eq_true (by omega)
          go_wp2
          go_ret2
          exact ⟨congrArg Ending.returned HV.out.symm, by first | exact HW.out | (rw [← hg]; exact HW.out)⟩
        · have hd2 : decide ((x.size : Int) < 1) = false := decide_eq_false (by omega)
          have hd3 : decide (63 < (x.size : Int)) = false := decide_eq_false (by omega)
          have hm63 : m ≤ 63 := by omega
          have hm1 : 1 ≤ m := by omega
          by_cases h3 : 254 < n + 1 + m
          · have hbad := mkOk_bad HX.out (.inr (.inr (by rw [HXS.out, HNN.out]; exact h3)))
            have HV := Lib.hid (show mkV L = .tuple #[.string ⟨#[]⟩, .bool false] by unfold mkV mk; rw [hbad]; rfl)
            clear hbad
            go_wp2_with fail
            refine (len_ g g _ wr HB.out).mono ?_
            rintro e w2 ⟨rfl, rfl⟩
            rw [HNN.out]
            have hd4 : decide (254 < (n : Int) + 1 + (x.size : Int)) = true := decide_eq_true (by omega)
            go_wp2
            go_ret2
            exact ⟨congrArg Ending.returned HV.out.symm, by first | exact HW.out | (rw [← hg]; exact HW.out)⟩
          · go_wp2_with fail
            refine (len_ g g _ wr HB.out).mono ?_
            rintro e w2 ⟨rfl, rfl⟩
            rw [HNN.out]
            have hd4 : decide (254 < (n : Int) + 1 + (x.size : Int)) = false := decide_eq_false (by omega)
            go_wp2_with fail
            have hm8 : IntKind.u8.wrap (m : Int) = (m : Int) := by rw [IntKind.wrap_u8]; omega
            have hBg := HW.out.size
            refine (writeByte_ g g _ (m : Int) _ HB.out (by rw [HNN.out]; omega) (by omega)).mono ?_
            rintro e w3 ⟨rfl, hB3, hW3⟩
            have HW3 := Lib.hid (HW.out.trans (by rw [hg]; exact hW3))
            have HB3 := Lib.hid hB3
            clear hB3 hW3
            go_wp2_with fail
            refine (folded_ x (by omega) w3).mono ?_
            rintro e w4 ⟨rfl, hb⟩
            have hgl := isB_lt HB3.out
            have hB4 : IsB g g (mkL (L.take k) ++ [(m : Int)]) w4 := by
              have h := HB3.out
              unfold IsB at h ⊢
              rcases h with h | h
              · exact .inl (builder_below h hb)
              · exact .inr (builder_below h hb)
            have HB4 := Lib.hid hB4
            have HW4 := Lib.hid (HW3.out.trans (hb.mono HW3.out.size))
            have hs4 : g ≤ w4.heap.size := by have := HW4.out.size; omega
            clear hB4 hb
            go_wp2_with fail
            have hls4 : (mkL (L.take k) ++ [(m : Int)]).length + (strOfNums (fold (bytesOf x))).size ≤ 140737488355328 := by
              rw [List.length_append, HNN.out, str_size, fold_len, of_size, hm]
              simp
              omega
            refine (writeString_ g g _ _ w4 HB4.out hls4 hs4).mono ?_
            rintro e w5 ⟨rfl, hB5, hW5⟩
            rw [bytes_str (fold_b8 (of_b8 x)), List.append_assoc] at hB5
            have hX := HX.out
            have e5 : mkL (L.take k) ++ ([(m : Int)] ++ fold (bytesOf x)) = mkL (L.take (k + 1)) := by
              rw [mkL_take hX, of_size, hm]
              rfl
            rw [e5] at hB5
            have e6 : (mkL (L.take (k + 1))).length ≤ 254 := by
              rw [← e5, List.length_append, HNN.out]
              simp [fold_len, of_size, hm]
              omega
            have e7 : ∀ j l, j < k + 1 → L[j]? = some l → Lab l := by
              intro j l hj hl
              by_cases hjk : j = k
              · subst hjk
                rw [hX] at hl
                obtain rfl := Option.some.inj hl
                unfold Lab
                rw [of_size, hm]
                exact ⟨hm1, hm63⟩
              · exact HA.out j l (by omega) hl
            have HB5 := Lib.hid hB5
            have HW5 := Lib.hid (HW4.out.trans (by rw [hg]; exact hW5))
            have E6 := Lib.hid e6
            have E7 := Lib.hid e7
            clear hB5 hW5 hX e5 e6 e7 hls4
            go_wp2
            go_roundw
            case rel => exact ⟨k + 1, by omega, by go_num, E6.out, ⟨E7.out⟩, ⟨HB5.out⟩, ⟨HW5.out⟩, ⟨fun h => by omega⟩⟩
            case measure => simp [intOf]; omega
    · have hkk : k = ls.length := by omega
      subst hkk
      have htk : L.take ls.length = L := List.take_of_length_le (by rw [HLL.out]; exact Nat.le_refl _)
      have hok : mkOk L = true := by
        rw [mkOk_iff]
        refine ⟨fun l hl => ?_, ?_⟩
        · obtain ⟨j, hj, rfl⟩ := List.getElem_of_mem hl
          exact HA.out j _ (by rw [← HLL.out]; exact hj) (List.getElem?_eq_getElem hj)
        · have := HNN.out
          rw [htk] at this
          omega
      have hmk : mk L = mkL L := by unfold mk; rw [if_pos hok]
      have hV : mkV L = .tuple #[.string (strOfNums (mkL L)), .bool true] := by unfold mkV; rw [hmk, hok]
      have h8 : B8 (mkL L) := by rw [← hmk]; exact mk_b8 HL8.out
      have hB := HB.out
      rw [htk] at hB
      have HB6 := Lib.hid hB
      have HV := Lib.hid hV
      have H8 := Lib.hid h8
      have HOK := Lib.hid hok
      clear hB htk hok hmk hV h8
      by_cases h0 : ls.length = 0
      · have hn : mkL L = [] := by
          have := HLL.out
          rw [h0] at this
          rw [List.eq_nil_of_length_eq_zero this]
          rfl
        have hV := HV.out
        rw [hn] at hV
        have HV := Lib.hid hV
        have hz := HZ.out h0
        have HZ2 := Lib.hid hz
        clear hV hn hz
        go_wp2_with fail
        refine (Bld.string_nil g g _ _ HZ2.out).mono ?_
        rintro e w2 ⟨rfl, hb⟩
        have HB2 := Lib.hid hb
        clear hb
        go_wp2
        go_ret2
        exact ⟨congrArg Ending.returned HV.out.symm, by first | exact HW.out.trans (by rw [hg]; exact HB2.out) | (rw [← hg]; exact HW.out.trans (by rw [hg]; exact HB2.out))⟩
      · have hne : mkL L ≠ [] := by
          intro he
          have h1 := HLL.out
          cases hL' : L with
          | nil => rw [hL'] at h1; simp at h1; omega
          | cons l r => rw [hL'] at he; simp [mkL, lay] at he
        have HNE := Lib.hid hne
        clear hne
        go_wp2_with fail
        refine (string_ g g _ _ HB6.out H8.out HNE.out).mono ?_
        rintro e w2 ⟨rfl, hb⟩
        have HB2 := Lib.hid hb
        clear hb
        go_wp2
        go_ret2
        exact ⟨congrArg Ending.returned HV.out.symm, by first | exact HW.out.trans (by rw [hg]; exact HB2.out) | (rw [← hg]; exact HW.out.trans (by rw [hg]; exact HB2.out))⟩
theorem make_ev (ls : List ByteArray) (r1 : ByteArray) (r2 : Bool) (h : some (strOfNums (mk (ls.map bytesOf)), mkOk (ls.map bytesOf)) = some (r1, r2)) : mkV (ls.map bytesOf) = .tuple #[.string r1, .bool r2] := by
  have h1 := Option.some.inj h
  injection h1 with h2 h3
  unfold mkV
  rw [h2, h3]
end
end name_Make
def name_Make.f (l0 : List ByteArray) : Option (ByteArray × Bool) := some (strOfNums (Go.Proofs.Ytdmpmcmpkmldnaa.Nam.mk (l0.map bytesOf)), Go.Proofs.Ytdmpmcmpkmldnaa.Nam.mkOk (l0.map bytesOf))
theorem name_Make.calls (A0 : Option Addr) (c0 : Nat) (l0 : List ByteArray) (r1 : ByteArray) (r2 : Bool) (w : World) (hr0 : Kd.C Kd.string w A0 l0.length l0) (hc0 : l0.length ≤ c0) (h : name_Make.f l0 = some (r1, r2)) :
    Calls Try.prog 16 #[.slice A0 l0.length c0] w fun e w' => e = .returned (.tuple #[.string r1, .bool r2]) ∧ Below w.heap.size w w' := by
  have h1 := name_Make.make_ A0 c0 l0 w hr0 hc0
  rw [name_Make.make_ev l0 r1 r2 h] at h1
  exact h1

/-! ### num_Get16: function 17 -/
def num_Get16.f (a0 : ByteArray) (a1 : Int) : Option (Int × Bool) := if a1 < 0 then (some (0, false)) else (if a1 > (wrap64 ((a0.size : Int) - 2)) then (some (0, false)) else (if 0 ≤ a1 then (if a1 < (a0.size : Int) then (if 0 ≤ (wrap64 (a1 + 1)) then (if (wrap64 (a1 + 1)) < (a0.size : Int) then (some (Go.bits .or .u16 (IntKind.u16.wrap ((IntKind.u16.wrap (bt a0 a1)) * 256)) (IntKind.u16.wrap (bt a0 (wrap64 (a1 + 1)))), true)) else (none)) else (none)) else (none)) else (none)))
set_option maxHeartbeats 8000000 in
set_option maxRecDepth 100000 in
theorem num_Get16.calls (a0 : ByteArray) (a1 : Int) (r1 : Int) (r2 : Bool) (w : World) (h : num_Get16.f a0 a1 = some (r1, r2)) :
    Calls Try.prog 17 #[.string a0, .int .i64 a1] w fun e w' => e = .returned (.tuple #[.int .u16 r1, .bool r2]) ∧ Drawn0 w w' := by
  have H : (if a1 < 0 then (some (0, false)) else (if a1 > (wrap64 ((a0.size : Int) - 2)) then (some (0, false)) else (if 0 ≤ a1 then (if a1 < (a0.size : Int) then (if 0 ≤ (wrap64 (a1 + 1)) then (if (wrap64 (a1 + 1)) < (a0.size : Int) then (some (Go.bits .or .u16 (IntKind.u16.wrap ((IntKind.u16.wrap (bt a0 a1)) * 256)) (IntKind.u16.wrap (bt a0 (wrap64 (a1 + 1)))), true)) else (none)) else (none)) else (none)) else (none)))) = some (r1, r2) := h
  clear h
  by_cases c3 : a1 < 0
  · rw [if_pos c3] at H
    have c3b0 : decide (a1 < 0) = true := decide_eq_true c3
    clear c3
    simp only [Option.some.injEq, Prod.mk.injEq] at H
    obtain ⟨rfl, rfl⟩ := H
    go_enter Try.func17, Try.ntmps17
    go_wp2
    repeat (go_quiet (fail); try go_wp2)
    go_ret2
    exact ⟨by first | rfl | (simp; done) | (simp [*]; done), by repeat (first | exact Drawn0.refl _ | apply Drawn0.step)⟩
  · rw [if_neg c3] at H
    have c3b0 : decide (a1 < 0) = false := decide_eq_false c3
    clear c3
    by_cases c4 : a1 > (wrap64 ((a0.size : Int) - 2))
    · rw [if_pos c4] at H
      have c4b0 : decide ((wrap64 ((a0.size : Int) - 2)) < a1) = true := decide_eq_true c4
      (try (have c4b1 : decide ((IntKind.i64.wrap ((a0.size : Int) - 2)) < a1) = true := by simp only [i64_w]; exact (decide_eq_true c4)))
      clear c4
      simp only [Option.some.injEq, Prod.mk.injEq] at H
      obtain ⟨rfl, rfl⟩ := H
      go_enter Try.func17, Try.ntmps17
      go_wp2
      repeat (go_quiet (fail); try go_wp2)
      go_ret2
      exact ⟨by first | rfl | (simp; done) | (simp [*]; done), by repeat (first | exact Drawn0.refl _ | apply Drawn0.step)⟩
    · rw [if_neg c4] at H
      have c4b0 : decide ((wrap64 ((a0.size : Int) - 2)) < a1) = false := decide_eq_false c4
      (try (have c4b1 : decide ((IntKind.i64.wrap ((a0.size : Int) - 2)) < a1) = false := by simp only [i64_w]; exact (decide_eq_false c4)))
      clear c4
      by_cases c5 : 0 ≤ a1
      · rw [if_pos c5] at H
        have c5b0 : decide (0 ≤ a1) = true := decide_eq_true c5
        clear c5
        by_cases c6 : a1 < (a0.size : Int)
        · rw [if_pos c6] at H
          have c6b0 : decide (a1 < (a0.size : Int)) = true := decide_eq_true c6
          clear c6
          obtain ⟨ji8, hji8⟩ : ∃ j_ : Int, (wrap64 (a1 + 1)) = j_ := ⟨_, rfl⟩
          replace H : (if 0 ≤ (ji8) then (if (ji8) < (a0.size : Int) then (some (Go.bits .or .u16 (IntKind.u16.wrap ((IntKind.u16.wrap (bt a0 a1)) * 256)) (IntKind.u16.wrap (bt a0 (ji8))), true)) else (none)) else (none)) = some (r1, r2) := by first | (rw [hji8] at H; exact H) | (simp only [hji8] at H ⊢; exact H)
          have hji8w : (IntKind.i64.wrap (a1 + 1)) = ji8 := (i64_w _).trans hji8
          by_cases c9 : 0 ≤ (ji8)
          · rw [if_pos c9] at H
            have c9b0 : decide (0 ≤ (ji8)) = true := decide_eq_true c9
            clear c9
            by_cases c10 : (ji8) < (a0.size : Int)
            · rw [if_pos c10] at H
              have c10b0 : decide ((ji8) < (a0.size : Int)) = true := decide_eq_true c10
              clear c10
              simp only [Option.some.injEq, Prod.mk.injEq] at H
              obtain ⟨rfl, rfl⟩ := H
              have p7 : 0 ≤ (a1 : Int) := of_decide_eq_true (by first | (with_reducible assumption) | assumption)
              have q7 : a1 < (a0.size : Int) := of_decide_eq_true (by first | (with_reducible assumption) | assumption)
              have hx7 := bt_at a0 a1
              replace p7 := eq_true p7
              replace q7 := eq_true q7
              have p11 : 0 ≤ ((ji8) : Int) := of_decide_eq_true (by first | (with_reducible assumption) | assumption)
              have q11 : (ji8) < (a0.size : Int) := of_decide_eq_true (by first | (with_reducible assumption) | assumption)
              have hx11 := bt_at a0 (ji8)
              replace p11 := eq_true p11
              replace q11 := eq_true q11
              go_enter Try.func17, Try.ntmps17
              go_wp2
              repeat (go_quiet (fail); try go_wp2)
              go_ret2
              exact ⟨by first | rfl | (simp; done) | (simp only [← hji8] <;> (first | rfl | simp)) | (simp [*]; done), by repeat (first | exact Drawn0.refl _ | apply Drawn0.step)⟩
            · rw [if_neg c10] at H
              exact absurd H (by simp)
          · rw [if_neg c9] at H
            exact absurd H (by simp)
        · rw [if_neg c6] at H
          exact absurd H (by simp)
      · rw [if_neg c5] at H
        exact absurd H (by simp)

-- NOT PRINTED: function 9 (point_Read)

/-! ### name_Labels: function 18 -/
mutual
def name_Labels.j0 : Nat → List ByteArray → ByteArray → Bool → Option (List ByteArray × Bool)
  | 0, _, _, _ => none
  | k + 1, x4, x5, x16 => if x16 = true then (some (([] : List ByteArray), false)) else (name_Labels.l0 k x4 x5)
def name_Labels.l0 : Nat → List ByteArray → ByteArray → Option (List ByteArray × Bool)
  | 0, _, _ => none
  | k + 1, x4, x5 => if (x5.size : Int) > 0 then (if 0 < (x5.size : Int) then (if (wrap64 (bt x5 0)) < 1 then (some (([] : List ByteArray), false)) else (if (wrap64 (bt x5 0)) > 63 then (some (([] : List ByteArray), false)) else (if (wrap64 (bt x5 0)) ≥ (x5.size : Int) then (some (([] : List ByteArray), false)) else (if 1 ≤ (wrap64 (1 + (wrap64 (bt x5 0)))) then (if (wrap64 (1 + (wrap64 (bt x5 0)))) ≤ (x5.size : Int) then (if x4.length < 8796093022208 then (if 0 ≤ (wrap64 (1 + (wrap64 (bt x5 0)))) then (name_Labels.l0 k (x4 ++ [x5.extract 1 ((wrap64 (1 + (wrap64 (bt x5 0)))) : Int).toNat]) (x5.extract ((wrap64 (1 + (wrap64 (bt x5 0)))) : Int).toNat x5.size)) else (none)) else (none)) else (none)) else (none))))) else (none)) else (some (x4, true))
end
def name_Labels.f (k : Nat) (a0 : ByteArray) : Option (List ByteArray × Bool) := if (a0.size : Int) > 254 then (name_Labels.j0 k ([] : List ByteArray) a0 true) else ((name_folded.f a0).bind fun t101 => (name_Labels.j0 k ([] : List ByteArray) a0 (a0.toList != t101.toList)))
theorem name_Labels.mono_l : ∀ k, (∀ y0 y1 y2, LeO (name_Labels.j0 k y0 y1 y2) (name_Labels.j0 (k + 1) y0 y1 y2)) ∧ (∀ y0 y1, LeO (name_Labels.l0 k y0 y1) (name_Labels.l0 (k + 1) y0 y1))
  | 0 => ⟨fun _ _ _ r h => by simp [name_Labels.j0] at h, fun _ _ r h => by simp [name_Labels.l0] at h⟩
  | k + 1 => by
    obtain ⟨ih0, ih1⟩ := name_Labels.mono_l k
    refine ⟨?_, ?_⟩
    · intro y0 y1 y2
      unfold name_Labels.j0
      repeat' first
      | (with_reducible exact ih0 _ _ _)
      | (with_reducible exact ih1 _ _)
      | (with_reducible exact LeO.refl _)
      | (with_reducible exact LeO.none _)
      | (with_reducible refine LeO.ite ?_ ?_)
      | (with_reducible refine LeO.bind ?_ (fun _ => ?_))
      | exact ih0 _ _ _
      | exact ih1 _ _
      | exact LeO.none _
      | refine LeO.ite ?_ ?_
      | refine LeO.bind ?_ (fun _ => ?_)
    · intro y0 y1
      unfold name_Labels.l0
      repeat' first
      | (with_reducible exact ih0 _ _ _)
      | (with_reducible exact ih1 _ _)
      | (with_reducible exact LeO.refl _)
      | (with_reducible exact LeO.none _)
      | (with_reducible refine LeO.ite ?_ ?_)
      | (with_reducible refine LeO.bind ?_ (fun _ => ?_))
      | exact ih0 _ _ _
      | exact ih1 _ _
      | exact LeO.none _
      | refine LeO.ite ?_ ?_
      | refine LeO.bind ?_ (fun _ => ?_)
theorem name_Labels.mono : ∀ a0 k, LeO (name_Labels.f k a0) (name_Labels.f (k + 1) a0) := by
  intro a0 k
  obtain ⟨ih0, ih1⟩ := name_Labels.mono_l k
  unfold name_Labels.f
  repeat' first
      | (with_reducible exact ih0 _ _ _)
      | (with_reducible exact ih1 _ _)
      | (with_reducible exact LeO.refl _)
      | (with_reducible exact LeO.none _)
      | (with_reducible refine LeO.ite ?_ ?_)
      | (with_reducible refine LeO.bind ?_ (fun _ => ?_))
      | exact ih0 _ _ _
      | exact ih1 _ _
      | exact LeO.none _
      | refine LeO.ite ?_ ?_
      | refine LeO.bind ?_ (fun _ => ?_)
set_option maxHeartbeats 8000000 in
set_option maxRecDepth 100000 in
theorem name_Labels.calls (k : Nat) (a0 : ByteArray) (r1 : List ByteArray) (r2 : Bool) (w : World) (h : name_Labels.f k a0 = some (r1, r2)) :
    Calls Try.prog 18 #[.string a0] w fun e w' => ∃ v0_ : Value, e = .returned (.tuple #[v0_, .bool r2]) ∧ Kd.R Kd.string 9 w' w.heap.size (fun _ => True) v0_ r1 ∧ Below w.heap.size w w' := by
  have HB := Aside0.mk (Below.refl w.heap.size w)
  have H : (if (a0.size : Int) > 254 then (name_Labels.j0 k ([] : List ByteArray) a0 true) else ((name_folded.f a0).bind fun t101 => (name_Labels.j0 k ([] : List ByteArray) a0 (a0.toList != t101.toList)))) = some (r1, r2) := h
  clear h
  have HC2 := Aside0.mk H
  clear H
  go_enter Try.func18, Try.ntmps18
  go_upto_region 3 with (fail)
  go_cut [16] (fun v16 wc => ∃ (kq : Nat) (x16_1 : Bool), v16 = .bool x16_1 ∧ Aside0 (name_Labels.j0 kq ([] : List ByteArray) a0 x16_1 = some (r1, r2)) ∧ Aside0 (kq ≤ k) ∧ Aside0 (Kd.R Kd.string 9 wc w.heap.size (fun _ => True) (.slice none 0 0) ([] : List ByteArray)) ∧ Aside0 (Below w.heap.size w wc))
  case first =>
    have H := HC2.out
    clear HC2
    by_cases c3 : (a0.size : Int) > 254
    · rw [if_pos c3] at H
      have c3b0 : decide (254 < (a0.size : Int)) = true := decide_eq_true c3
      have c3b1 : decide (254 < a0.size) = true := decide_eq_true (by omega)
      clear c3
      (first | rw [c3b0] | (simp only [i64_w, i32_w]; rw [c3b0]) | skip)
      have H' := Aside0.mk H
      clear H
      go_wp2
      go_meet
      case rel => exact ⟨_, (true), (by first | rfl | (simp; done) | (simp [*]; done)), H', ⟨by first | omega | exact Nat.le_refl _⟩, ⟨by first | exact Kd.R_nil _ _ _ _ _ | exact Kd.N_nil _ _ _ _ _ | exact Kd.V_nil _ _ _ _ _ | exact Kd.Q_nil _ _ _ _ _ | exact Kd.S_nil _ _ _ _ _⟩, ⟨by repeat (first | (with_reducible first | exact HB.out | apply below_alloc | apply pw_below_drewN | apply below_drew1) | exact HB.out)⟩⟩
    · rw [if_neg c3] at H
      have c3b0 : decide (254 < (a0.size : Int)) = false := decide_eq_false c3
      have c3b1 : decide (254 < a0.size) = false := decide_eq_false (by omega)
      clear c3
      (first | rw [c3b0] | (simp only [i64_w, i32_w]; rw [c3b0]) | skip)
      replace H := Option.bind_eq_some_iff.mp H
      obtain ⟨t101, A40, H⟩ := H
      replace H : (name_Labels.j0 k ([] : List ByteArray) a0 (a0.toList != t101.toList)) = some (r1, r2) := H
      have A4 := Aside0.mk A40
      clear A40
      have H' := Aside0.mk H
      clear H
      go_wp2_with (first | (go_at_call 24; (with_reducible refine (name_folded.calls a0 t101 _ A4.out).mono ?_); rintro e w5 ⟨rfl, hb⟩; have n0_ := Aside0.mk (below_step (by repeat (first | (with_reducible first | exact HB.out | apply below_alloc | apply pw_below_drewN | apply below_drew1) | exact HB.out)) hb); clear HB; have HB := n0_; clear n0_; (try clear hb); (try clear hb2); (try clear hk); (try clear hi)))
      go_meet
      case rel => exact ⟨_, ((a0.toList != t101.toList)), (by first | rfl | (simp; done) | (simp [*]; done)), H', ⟨by first | omega | exact Nat.le_refl _⟩, ⟨by first | exact Kd.R_nil _ _ _ _ _ | exact Kd.N_nil _ _ _ _ _ | exact Kd.V_nil _ _ _ _ _ | exact Kd.Q_nil _ _ _ _ _ | exact Kd.S_nil _ _ _ _ _⟩, ⟨by repeat (first | (with_reducible first | exact HB.out | apply below_alloc | apply pw_below_drewN | apply below_drew1) | exact HB.out)⟩⟩
  case rest =>
    clear HC2
    try clear c1
    try clear p2
    try clear c3
    try clear c3b0
    try clear c3b1
    obtain ⟨kq, x16_1, rfl, HA, HJ1, HO_4, HB⟩ := hcut
    cases kq with
    | zero => exact absurd HA.out (by simp [name_Labels.j0])
    | succ kj1 =>
      have H := HA.out
      clear HA
      simp only [name_Labels.j0] at H
      by_cases c6 : x16_1 = true
      · subst c6
        have H1 : (some (([] : List ByteArray), false)) = some (r1, r2) := by rw [if_pos rfl] at H; exact H
        clear H
        have H := H1
        clear H1
        simp only [Option.some.injEq, Prod.mk.injEq] at H
        obtain ⟨rfl, rfl⟩ := H
        go_wp2
        go_ret2
        exact ⟨_, by first | rfl | (simp [errW_none, errW_some] <;> rfl) | (simp [*, errW_none, errW_some] <;> rfl), by first | exact Kd.R_nil _ _ _ _ _ | exact Kd.N_nil _ _ _ _ _ | exact Kd.V_nil _ _ _ _ _ | exact Kd.Q_nil _ _ _ _ _ | exact Kd.S_nil _ _ _ _ _, by repeat (first | (with_reducible first | exact HB.out | apply below_alloc | apply pw_below_drewN | apply below_drew1) | exact HB.out)⟩
      · replace c6 := Bool.eq_false_iff.mpr c6
        subst c6
        have H1 : (name_Labels.l0 kj1 ([] : List ByteArray) a0) = some (r1, r2) := by rw [if_neg (show ¬ (false = true) by decide)] at H; exact H
        clear H
        have H := H1
        clear H1
        have H' := Aside0.mk H
        clear H
        go_wp2
        go_loopg [4, 5] kj1 (fun kq v4 v5 w' => ∃ (x4_2 : List ByteArray) (x5_2 : ByteArray), v5 = .string x5_2 ∧ Aside0 (name_Labels.l0 kq x4_2 x5_2 = some (r1, r2)) ∧ Aside0 (kq ≤ kj1) ∧ Aside0 (Kd.R Kd.string 9 w' w.heap.size (fun _ => True) v4 x4_2) ∧ Aside0 (Below w.heap.size w w'))
        case atStart => exact ⟨(([] : List ByteArray)), (a0), (by first | rfl | (simp; done) | (simp [*]; done)), H', ⟨Nat.le_refl _⟩, ⟨by (with_reducible repeat (first | apply Kd.R_alloc | apply Kd.R_drewN | apply Kd.R_drew)); exact HO_4.out⟩, ⟨by repeat (first | (with_reducible first | exact HB.out | apply below_alloc | apply pw_below_drewN | apply below_drew1) | exact HB.out)⟩⟩
        case round =>
          clear H'
          try clear c1
          try clear p2
          try clear c3
          try clear c3b0
          try clear c3b1
          try clear c6
          try clear p2
          obtain ⟨x4_2, x5_2, rfl, HA, HK2, HO_4, HB⟩ := hrel
          cases gk with
          | zero => exact absurd HA.out (by simp [name_Labels.l0])
          | succ k2 =>
            have H := HA.out
            clear HA
            simp only [name_Labels.l0] at H
            by_cases c7 : (x5_2.size : Int) > 0
            · rw [if_pos c7] at H
              have c7b0 : decide (0 < (x5_2.size : Int)) = true := decide_eq_true c7
              have c7b1 : decide (0 < x5_2.size) = true := decide_eq_true (by omega)
              clear c7
              by_cases c8 : 0 < (x5_2.size : Int)
              · rw [if_pos c8] at H
                have c8b0 : decide (0 < (x5_2.size : Int)) = true := decide_eq_true c8
                have c8b1 : decide (0 < x5_2.size) = true := decide_eq_true (by omega)
                clear c8
                by_cases c10 : (wrap64 (bt x5_2 0)) < 1
                · rw [if_pos c10] at H
                  have c10b0 : decide ((wrap64 (bt x5_2 0)) < 1) = true := decide_eq_true c10
                  (try (have c10b1 : decide ((IntKind.i64.wrap (bt x5_2 0)) < 1) = true := by simp only [i64_w]; exact (decide_eq_true c10)))
                  clear c10
                  simp only [Option.some.injEq, Prod.mk.injEq] at H
                  obtain ⟨rfl, rfl⟩ := H
                  have p9 : 0 ≤ (0 : Int) := (by omega)
                  have q9 : 0 < x5_2.size := (by have : (0 : Int) < (x5_2.size : Int) := of_decide_eq_true (by first | (with_reducible assumption) | assumption); omega)
                  have hx9 : ∀ h : 0 < x5_2.size, ((x5_2[0]'h).toNat : Int) = bt x5_2 0 := bt_at x5_2 0
                  clear p9
                  have qi9 : (0 < (x5_2.size : Int)) = True := eq_true (of_decide_eq_true (by first | (with_reducible assumption) | assumption))
                  replace q9 := eq_true q9
                  go_wp2
                  go_ret2
                  exact ⟨_, by first | rfl | (simp [errW_none, errW_some] <;> rfl) | (simp [*, errW_none, errW_some] <;> rfl), by first | exact Kd.R_nil _ _ _ _ _ | exact Kd.N_nil _ _ _ _ _ | exact Kd.V_nil _ _ _ _ _ | exact Kd.Q_nil _ _ _ _ _ | exact Kd.S_nil _ _ _ _ _, by repeat (first | (with_reducible first | exact HB.out | apply below_alloc | apply pw_below_drewN | apply below_drew1) | exact HB.out)⟩
                · rw [if_neg c10] at H
                  have c10b0 : decide ((wrap64 (bt x5_2 0)) < 1) = false := decide_eq_false c10
                  (try (have c10b1 : decide ((IntKind.i64.wrap (bt x5_2 0)) < 1) = false := by simp only [i64_w]; exact (decide_eq_false c10)))
                  clear c10
                  by_cases c11 : (wrap64 (bt x5_2 0)) > 63
                  · rw [if_pos c11] at H
                    have c11b0 : decide (63 < (wrap64 (bt x5_2 0))) = true := decide_eq_true c11
                    (try (have c11b1 : decide (63 < (IntKind.i64.wrap (bt x5_2 0))) = true := by simp only [i64_w]; exact (decide_eq_true c11)))
                    clear c11
                    simp only [Option.some.injEq, Prod.mk.injEq] at H
                    obtain ⟨rfl, rfl⟩ := H
                    have p9 : 0 ≤ (0 : Int) := (by omega)
                    have q9 : 0 < x5_2.size := (by have : (0 : Int) < (x5_2.size : Int) := of_decide_eq_true (by first | (with_reducible assumption) | assumption); omega)
                    have hx9 : ∀ h : 0 < x5_2.size, ((x5_2[0]'h).toNat : Int) = bt x5_2 0 := bt_at x5_2 0
                    clear p9
                    have qi9 : (0 < (x5_2.size : Int)) = True := eq_true (of_decide_eq_true (by first | (with_reducible assumption) | assumption))
                    replace q9 := eq_true q9
                    go_wp2
                    go_ret2
                    exact ⟨_, by first | rfl | (simp [errW_none, errW_some] <;> rfl) | (simp [*, errW_none, errW_some] <;> rfl), by first | exact Kd.R_nil _ _ _ _ _ | exact Kd.N_nil _ _ _ _ _ | exact Kd.V_nil _ _ _ _ _ | exact Kd.Q_nil _ _ _ _ _ | exact Kd.S_nil _ _ _ _ _, by repeat (first | (with_reducible first | exact HB.out | apply below_alloc | apply pw_below_drewN | apply below_drew1) | exact HB.out)⟩
                  · rw [if_neg c11] at H
                    have c11b0 : decide (63 < (wrap64 (bt x5_2 0))) = false := decide_eq_false c11
                    (try (have c11b1 : decide (63 < (IntKind.i64.wrap (bt x5_2 0))) = false := by simp only [i64_w]; exact (decide_eq_false c11)))
                    clear c11
                    by_cases c12 : (wrap64 (bt x5_2 0)) ≥ (x5_2.size : Int)
                    · rw [if_pos c12] at H
                      have c12b0 : decide ((x5_2.size : Int) ≤ (wrap64 (bt x5_2 0))) = true := decide_eq_true c12
                      (try (have c12b1 : decide ((x5_2.size : Int) ≤ (IntKind.i64.wrap (bt x5_2 0))) = true := by simp only [i64_w]; exact (decide_eq_true c12)))
                      clear c12
                      simp only [Option.some.injEq, Prod.mk.injEq] at H
                      obtain ⟨rfl, rfl⟩ := H
                      have p9 : 0 ≤ (0 : Int) := (by omega)
                      have q9 : 0 < x5_2.size := (by have : (0 : Int) < (x5_2.size : Int) := of_decide_eq_true (by first | (with_reducible assumption) | assumption); omega)
                      have hx9 : ∀ h : 0 < x5_2.size, ((x5_2[0]'h).toNat : Int) = bt x5_2 0 := bt_at x5_2 0
                      clear p9
                      have qi9 : (0 < (x5_2.size : Int)) = True := eq_true (of_decide_eq_true (by first | (with_reducible assumption) | assumption))
                      replace q9 := eq_true q9
                      go_wp2
                      go_ret2
                      exact ⟨_, by first | rfl | (simp [errW_none, errW_some] <;> rfl) | (simp [*, errW_none, errW_some] <;> rfl), by first | exact Kd.R_nil _ _ _ _ _ | exact Kd.N_nil _ _ _ _ _ | exact Kd.V_nil _ _ _ _ _ | exact Kd.Q_nil _ _ _ _ _ | exact Kd.S_nil _ _ _ _ _, by repeat (first | (with_reducible first | exact HB.out | apply below_alloc | apply pw_below_drewN | apply below_drew1) | exact HB.out)⟩
                    · rw [if_neg c12] at H
                      have c12b0 : decide ((x5_2.size : Int) ≤ (wrap64 (bt x5_2 0))) = false := decide_eq_false c12
                      (try (have c12b1 : decide ((x5_2.size : Int) ≤ (IntKind.i64.wrap (bt x5_2 0))) = false := by simp only [i64_w]; exact (decide_eq_false c12)))
                      clear c12
                      by_cases c13 : 1 ≤ (wrap64 (1 + (wrap64 (bt x5_2 0))))
                      · rw [if_pos c13] at H
                        have c13b0 := eq_true c13
                        have c13b1 : decide (1 ≤ (wrap64 (1 + (wrap64 (bt x5_2 0))))) = true := decide_eq_true c13
                        by_cases c14 : (wrap64 (1 + (wrap64 (bt x5_2 0)))) ≤ (x5_2.size : Int)
                        · rw [if_pos c14] at H
                          have c14b0 := eq_true c14
                          have c14b1 : decide ((wrap64 (1 + (wrap64 (bt x5_2 0)))) ≤ (x5_2.size : Int)) = true := decide_eq_true c14
                          by_cases c15 : x4_2.length < 8796093022208
                          · rw [if_pos c15] at H
                            have LMc15 := Aside0.mk c15
                            clear c15
                            obtain ⟨y102, hy102⟩ : ∃ y_ : List ByteArray, y_ = (x4_2 ++ [x5_2.extract 1 ((wrap64 (1 + (wrap64 (bt x5_2 0)))) : Int).toNat]) := ⟨_, rfl⟩
                            replace H : (if 0 ≤ (wrap64 (1 + (wrap64 (bt x5_2 0)))) then (name_Labels.l0 k2 y102 (x5_2.extract ((wrap64 (1 + (wrap64 (bt x5_2 0)))) : Int).toNat x5_2.size)) else (none)) = some (r1, r2) := by first | (rw [hy102]; with_reducible exact H) | (have H2_ := (Option.bind_some _ _).symm.trans H; rw [hy102]; with_reducible exact H2_) | (have H2_ := (Option.bind_some _ _).symm.trans H; with_reducible exact H2_) | with_reducible exact H | (rw [hy102]; exact H) | exact H
                            have Ny102 := Aside0.mk hy102
                            clear hy102
                            obtain ⟨ji16, hji16⟩ : ∃ j_ : Int, (wrap64 (1 + (wrap64 (bt x5_2 0)))) = j_ := ⟨_, rfl⟩
                            replace H : (if 0 ≤ (ji16) then (name_Labels.l0 k2 y102 (x5_2.extract ((ji16) : Int).toNat x5_2.size)) else (none)) = some (r1, r2) := by first | (rw [hji16] at H; exact H) | (simp only [hji16] at H ⊢; exact H)
                            (try rw [hji16] at c13b0)
                            (try rw [hji16] at c13b1)
                            (try rw [hji16] at c13)
                            (try rw [hji16] at c14b0)
                            (try rw [hji16] at c14b1)
                            (try rw [hji16] at c14)
                            (try rw [hji16] at Ny102)
                            have hji16w : (IntKind.i64.wrap (1 + (wrap64 (bt x5_2 0)))) = ji16 := (i64_w _).trans hji16
                            by_cases c17 : 0 ≤ (ji16)
                            · rw [if_pos c17] at H
                              have c17b0 := eq_true c17
                              have c17b1 : decide (0 ≤ (ji16)) = true := decide_eq_true c17
                              clear c17
                              have c18b0 := eq_true (of_decide_eq_true (by first | (with_reducible assumption) | assumption) : (ji16) ≤ (x5_2.size : Int))
                              have H' := Aside0.mk H
                              clear H
                              have p9 : 0 ≤ (0 : Int) := (by omega)
                              have q9 : 0 < x5_2.size := (by have : (0 : Int) < (x5_2.size : Int) := of_decide_eq_true (by first | (with_reducible assumption) | assumption); omega)
                              have hx9 : ∀ h : 0 < x5_2.size, ((x5_2[0]'h).toNat : Int) = bt x5_2 0 := bt_at x5_2 0
                              clear p9
                              have qi9 : (0 < (x5_2.size : Int)) = True := eq_true (of_decide_eq_true (by first | (with_reducible assumption) | assumption))
                              replace q9 := eq_true q9
                              go_wp2_with (first | ((with_reducible refine gate_builtin (b := .append) (xs := #[.tmp 35, .tmp 40]) rfl ?_); (try (refine gate_guard (by rfl) ?_; dsimp only)); at_builtin; refine Kd.R_append Kd.string (w0 := w) w.heap.size rfl (.tmp 35) (.tmp 40) 43 9 (.string ⟨#[]⟩) 16 rfl Try.underlying43 info9 rfl (by decide) (by omega) u4 x4_2 (x5_2.extract 1 ((ji16) : Int).toNat) [.string (x5_2.extract 1 ((ji16) : Int).toNat)] (fun _ => True) (fun _ => False) rfl rfl ?aP (fun _ hk => hk.elim) ?aF ?aO ?aB ?aS ?aL ?_; (case aP => exact rfl); (case aB => exact (by repeat (first | (with_reducible first | exact HB.out | apply below_alloc | apply pw_below_drewN | apply below_drew1) | exact HB.out))); (case aF => exact (fun _ _ => trivial)); (case aO => exact (by (with_reducible repeat (first | apply Kd.R_alloc | apply Kd.R_drewN | apply Kd.R_drew)); exact HO_4.out)); (case aS => exact (below_size (by repeat (first | (with_reducible first | exact HB.out | apply below_alloc | apply pw_below_drewN | apply below_drew1) | exact HB.out)))); (case aL => have := LMc15.out; omega); intro v103 w19 ho hb hg hat; rw [← Ny102.out] at ho; have n0_ := Aside0.mk (hb); have n1_ := Aside0.mk (ho); clear HB; clear HO_4; have HB := n0_; have HO104 := n1_; clear n0_ n1_; clear ho hb hg hat))
                              go_roundg k2
                              case measure => have := HJ1.out; have := HK2.out; omega
                              case rel => exact ⟨(y102), (x5_2.extract ((ji16) : Int).toNat x5_2.size), (by first | rfl | (simp; done) | (simp only [← hji16] <;> (first | rfl | simp)) | (simp [*]; done)), H', ⟨by have := HJ1.out; have := HK2.out; omega⟩, ⟨by (with_reducible repeat (first | apply Kd.R_alloc | apply Kd.R_drewN | apply Kd.R_drew)); exact HO104.out⟩, ⟨by repeat (first | (with_reducible first | exact HB.out | apply below_alloc | apply pw_below_drewN | apply below_drew1) | exact HB.out)⟩⟩
                            · rw [if_neg c17] at H
                              exact absurd H (by simp)
                          · rw [if_neg c15] at H
                            exact absurd H (by simp)
                        · rw [if_neg c14] at H
                          exact absurd H (by simp)
                      · rw [if_neg c13] at H
                        exact absurd H (by simp)
              · rw [if_neg c8] at H
                exact absurd H (by simp)
            · rw [if_neg c7] at H
              have c7b0 : decide (0 < (x5_2.size : Int)) = false := decide_eq_false c7
              have c7b1 : decide (0 < x5_2.size) = false := decide_eq_false (by omega)
              clear c7
              simp only [Option.some.injEq, Prod.mk.injEq] at H
              obtain ⟨rfl, rfl⟩ := H
              go_wp2
              go_ret2
              exact ⟨_, by first | rfl | (simp [errW_none, errW_some] <;> rfl) | (simp [*, errW_none, errW_some] <;> rfl), by (with_reducible repeat (first | apply Kd.R_alloc | apply Kd.R_drewN | apply Kd.R_drew)); exact HO_4.out, by repeat (first | (with_reducible first | exact HB.out | apply below_alloc | apply pw_below_drewN | apply below_drew1) | exact HB.out)⟩

/-! ### name_May: function 11 -/
def name_May.f (k : Nat) (a0 : ByteArray) : Option (Bool) := (name_Labels.f k a0).bind fun bt105 => (some bt105.2)
theorem name_May.mono : ∀ a0 k, LeO (name_May.f k a0) (name_May.f (k + 1) a0) := by
  intro a0 k
  unfold name_May.f
  repeat' first
      | (with_reducible exact name_Labels.mono _ _)
      | (with_reducible exact LeO.refl _)
      | (with_reducible exact LeO.none _)
      | (with_reducible refine LeO.ite ?_ ?_)
      | (with_reducible refine LeO.bind ?_ (fun _ => ?_))
      | exact name_Labels.mono _ _
      | exact LeO.none _
      | refine LeO.ite ?_ ?_
      | refine LeO.bind ?_ (fun _ => ?_)
set_option maxHeartbeats 8000000 in
set_option maxRecDepth 100000 in
theorem name_May.calls (k : Nat) (a0 : ByteArray) (r : Bool) (w : World) (h : name_May.f k a0 = some r) :
    Calls Try.prog 11 #[.string a0] w fun e w' => e = .returned (.bool r) ∧ Below w.heap.size w w' := by
  have HB := Aside0.mk (Below.refl w.heap.size w)
  have H : ((name_Labels.f k a0).bind fun bt105 => (some bt105.2)) = some r := h
  clear h
  replace H := Option.bind_eq_some_iff.mp H
  obtain ⟨⟨t105, t106⟩, A20, H⟩ := H
  replace H : (some t106) = some r := H
  have A2 := Aside0.mk A20
  clear A20
  obtain rfl := Option.some.inj H
  go_enter Try.func11, Try.ntmps11
  go_wp2_with (first | ((with_reducible refine gate_callee (f := 18) rfl ?_); refine goesL_ (some 7) rfl rfl Try.func18 (by kernel_rfl) rfl #[.string a0] rfl (by (try simp only [List.map_toArray, List.map_cons, List.map_nil]); first | done | rfl | (simp only [List.length_drop, List.length_take]; rfl)) ?_; (with_reducible refine (name_Labels.calls k a0 t105 t106 _ A2.out).mono ?_); rintro e w3 ⟨v107, rfl, ho0, hb⟩; refine ⟨_, rfl, ?_⟩; have n0_ := Aside0.mk (Kd.R_lower ho0 (below_size (by repeat (first | (with_reducible first | exact HB.out | apply below_alloc | apply pw_below_drewN | apply below_drew1) | exact HB.out)))); have n1_ := Aside0.mk (below_step (by repeat (first | (with_reducible first | exact HB.out | apply below_alloc | apply pw_below_drewN | apply below_drew1) | exact HB.out)) hb); clear HB; have HO108 := n0_; have HB := n1_; clear n0_ n1_; (try clear hb); (try clear hb2); (try clear hk); (try clear hi); (try clear ho0)))
  go_ret
  exact ⟨by first | rfl | (simp [errW_none, errW_some] <;> rfl) | (simp [*, errW_none, errW_some] <;> rfl), by repeat (first | (with_reducible first | exact HB.out | apply below_alloc | apply pw_below_drewN | apply below_drew1) | exact HB.out)⟩

end Go.Proofs.Ytdmpmcmpkmldnaa.PP
