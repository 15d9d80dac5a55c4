import Derived.Test.YtnikfeaggppmpaaDoorPMx0
import Derived.Test.YtnikfeaggppmpaaDoorPMx3
import Derived.Test.YtnikfeaggppmpaaDoorPMx4
import Derived.Test.YtnikfeaggppmpaaDoorPMx6
namespace Go.Proofs.YtnikfeaggppmpaaDoor.PM
open Go.RowKit Go.Proofs.YtnikfeaggppmpaaDoorW.PrintWords Go.Proofs.YtnikfeaggppmpaaDoorW.PrintLast Go.Proofs.YtnikfeaggppmpaaDoorW.PrintMore
attribute [local go_sem] max2_int min2_int max_two min_two max_three min_three max_four min_four   -- for this text's walks alone
set_option linter.unusedVariables false
set_option linter.unusedSimpArgs false
attribute [local go_sem high] eqA26 eqA30 eqA70
namespace name_Make
section
open Go.Proofs.YtnikfeaggppmpaaDoor.Nam Go.Proofs.YtnikfeaggppmpaaDoor.Base Go.Proofs.YtnikfeaggppmpaaDoor.Heap Go.Proofs.YtnikfeaggppmpaaDoor
theorem one_eq {c : Int} (h0 : 0 ≤ c) (h1 : c < 256) : name_folded.one c = Go.Proofs.YtnikfeaggppmpaaDoor.Nam.fold1 c := by
  unfold name_folded.one name_Fold.f Go.Proofs.YtnikfeaggppmpaaDoor.Nam.fold1
  repeat' split
  all_goals simp only [Option.getD_some]
  all_goals omega
theorem one_map {l : List Int} (h : Go.Proofs.YtnikfeaggppmpaaDoor.Base.B8 l) : l.map name_folded.one = Go.Proofs.YtnikfeaggppmpaaDoor.Nam.fold l := List.map_congr_left fun y hy => one_eq (h y hy).1 (h y hy).2
def IsB (B b : Nat) (l : List Int) (w : World) : Prop := Lib.IsBuilder 140 5 B b (nums .u8 l) w
theorem strCells_nums (s : ByteArray) : Lib.strCells s = nums .u8 (bytesOf s) := by simp [Lib.strCells, nums, bytesOf]
theorem len_ (B b : Nat) (l : List Int) (w : World) (h : IsB B b l w) :
    Calls Tryd.prog 53 #[.pointer (some ⟨b, 0, none⟩)] w fun e w' => e = .returned (.int .i64 l.length) ∧ w' = w := by
  have := Bld.len B b (nums .u8 l) w h
  rwa [show (nums .u8 l).length = l.length by simp [nums]] at this
theorem writeByte_ (B b : Nat) (l : List Int) (c : Int) (w : World) (h : IsB B b l w) (hlen : l.length + 1 ≤ 140737488355328) (hBw : B ≤ w.heap.size) :
    Calls Tryd.prog 54 #[.pointer (some ⟨b, 0, none⟩), .int .u8 c] w fun e w' => e = .returned .nilIface ∧ IsB B b (l ++ [c]) w' ∧ Below B w w' := by
  refine (Bld.writeByte B b (nums .u8 l) c w h (by simpa [nums] using hlen) hBw).mono ?_
  rintro e w' ⟨rfl, h1, h2⟩
  exact ⟨rfl, .inr (by simpa [nums] using h1), h2⟩
theorem writeString_ (B b : Nat) (l : List Int) (s : ByteArray) (w : World) (h : IsB B b l w) (hlen : l.length + s.size ≤ 140737488355328) (hBw : B ≤ w.heap.size) :
    Calls Tryd.prog 55 #[.pointer (some ⟨b, 0, none⟩), .string s] w fun e w' => e = .returned (.tuple #[.int .i64 s.size, .nilIface]) ∧ IsB B b (l ++ bytesOf s) w' ∧ Below B w w' := by
  refine (Bld.writeString B b (nums .u8 l) s w h (by simpa [nums] using hlen) hBw).mono ?_
  rintro e w' ⟨rfl, h1, h2⟩
  refine ⟨rfl, .inr ?_, h2⟩
  rw [strCells_nums] at h1
  simpa [nums] using h1
theorem byteCells_nums {l : List Int} (h : B8 l) : nums .u8 l = Lib.byteCells (l.map fun n => UInt8.ofNat n.toNat) := by
  simp only [nums, Lib.byteCells, List.map_map]
  apply List.map_congr_left
  intro y hy
  have := h y hy
  simp
  omega
theorem string_ (B b : Nat) (l : List Int) (w : World) (h : IsB B b l w) (hl : B8 l) (h0 : l ≠ []) :
    Calls Tryd.prog 56 #[.pointer (some ⟨b, 0, none⟩)] w fun e w' => e = .returned (.string (strOfNums l)) ∧ Below B w w' := by
  unfold IsB at h
  rw [byteCells_nums hl] at h
  exact Bld.string_some B b _ w h (by simpa using h0)
theorem isB_lt {B b : Nat} {l : List Int} {w : World} (h : IsB B b l w) : b < w.heap.size ∧ B ≤ b := by
  rcases h with h | h
  · exact ⟨h.lt, h.1⟩
  · exact ⟨h.lt, h.1⟩
theorem builder_below {T e : TypeId} {B b : Nat} {p : Value} {bs : List Value} {w w' : World} (h : Lib.BuilderAt T e B b p bs w) (hb : Below w.heap.size w w') : Lib.BuilderAt T e B b p bs w' := by
  obtain ⟨h1, v, h2, h3, h4⟩ := h
  exact ⟨h1, v, blk_below h2 hb, pw_own_below h3 hb, h4⟩
def mkV (ls : List (List Int)) : Value := .tuple #[.string (strOfNums (mk ls)), .bool (mkOk ls)]
theorem str_at {w : World} {A : Option Addr} {n : Nat} {ls : List ByteArray} (h : Kd.C Kd.string w A n ls) (j : Nat) (x : ByteArray) (hx : ls[j]? = some x) : ∃ ad, A = some ad ∧ w.cell? (ad.add j) = some (.string x) :=
  scal_at (enc := Value.string) (h1 := fun _ => rfl) h j x hx
theorem folded_ (s : ByteArray) (hs : s.size ≤ 1048576) (w : World) :
    Calls Tryd.prog 50 #[.string s] w fun e w' => e = .returned (.string (strOfNums (fold (bytesOf s)))) ∧ Below w.heap.size w w' := by
  refine name_folded.calls s _ w ?_
  unfold name_folded.f
  rw [if_pos (by omega), one_map (of_b8 s)]
set_option maxHeartbeats 4000000 in
/-- name.Make. -/
theorem make_ (A : Option Addr) (c : Nat) (ls : List ByteArray) (w : World) (hC : Kd.C Kd.string w A ls.length ls) (hc : ls.length ≤ c) :
    Calls Tryd.prog 40 #[.slice A ls.length c] w fun e w' => e = .returned (mkV (ls.map bytesOf)) ∧ Below w.heap.size w w' := by
  obtain ⟨L, hL⟩ : ∃ L, ls.map bytesOf = L := ⟨_, rfl⟩
  have hget : ∀ (j : Nat) (x : ByteArray), ls[j]? = some x → L[j]? = some (bytesOf x) := by
    intro j x hx
    rw [← hL, List.getElem?_map, hx]
    rfl
  have hLl : L.length = ls.length := by rw [← hL, List.length_map]
  have hL8 : ∀ l ∈ L, B8 l := by
    intro l hl
    rw [← hL] at hl
    obtain ⟨x, _, rfl⟩ := List.mem_map.1 hl
    exact of_b8 x
  have hls : ls.length ≤ 9223372036854775807 := hC.2.1
  rw [hL]
  have HC := Lib.hid hC
  have HG := Lib.hid hget
  have HLL := Lib.hid hLl
  have HL8 := Lib.hid hL8
  have hfr := Lib.fresh_isBuilder 140 5 w
  have hbn := blk_new w (.cells #[.pointer none, .slice none 0 0] 140)
  have hbb := below_alloc (Below.refl w.heap.size w) (.cells #[.pointer none, .slice none 0 0] 140)
  obtain ⟨g, hg⟩ : ∃ g, w.heap.size = g := ⟨_, rfl⟩
  have HF := Lib.hid hfr
  have HN := Lib.hid hbn
  have HBB := Lib.hid hbb
  clear hC hget hLl hL8 hL hfr hbn hbb
  go_enter Tryd.func40, Tryd.ntmps40
  go_wp2_with fail
  (try rw [hg])
  go_loopw [9] (fun i wr => ∃ k : Nat, k ≤ ls.length ∧ i = .int .i64 k ∧ (mkL (L.take k)).length ≤ 254 ∧ Aside0 (∀ j l, j < k → L[j]? = some l → Lab l) ∧ Aside0 (IsB g g (mkL (L.take k)) wr) ∧ Aside0 (Below w.heap.size w wr) ∧ Aside0 (k = 0 → wr.heap[g]? = some (.cells #[.pointer none, .slice none 0 0] 140 (0, 0))))
    (fun i _ => ls.length - (intOf i).toNat)
  case atStart => exact ⟨0, Nat.zero_le _, rfl, by simp [mkL, lay], ⟨fun j l hj => absurd hj (Nat.not_lt_zero j)⟩, ⟨by rw [← hg]; exact HF.out⟩, ⟨HBB.out⟩, ⟨fun _ => by rw [← hg]; exact HN.out⟩⟩
  case round =>
    obtain ⟨k, hk, rfl, hn, HA, HB, HW, HZ⟩ := hrel
    obtain ⟨n, hnn⟩ : ∃ n, (mkL (L.take k)).length = n := ⟨_, rfl⟩
    rw [hnn] at hn
    have HNN := Lib.hid hnn
    clear hnn
    by_cases hlt : k < ls.length
    · obtain ⟨x, hx⟩ : ∃ x, ls[k]? = some x := ⟨_, List.getElem?_eq_getElem hlt⟩
      obtain ⟨ad, ha, hcell0⟩ := str_at HC.out k x hx
      have hcell := pw_cell_below HW.out hcell0
      subst ha
      have hX := HG.out k x hx
      have HX := Lib.hid hX
      clear hcell0 hx hX
      have hxs := of_size x
      obtain ⟨m, hm⟩ : ∃ m, x.size = m := ⟨_, rfl⟩
      rw [hm] at hxs
      have HXS := Lib.hid hxs
      clear hxs
      by_cases h1 : m < 1
      · have hbad := mkOk_bad HX.out (.inl (by rw [HXS.out]; exact h1))
        have HV := Lib.hid (show mkV L = .tuple #[.string ⟨#[]⟩, .bool false] by unfold mkV mk; rw [hbad]; rfl)
        clear hbad
        have hd1 : decide ((m : Int) < 1) = true := decide_eq_true (by omega)
        have hd2 : decide ((x.size : Int) < 1) = true := by rw [hm]; exact hd1
        go_wp2
        go_ret2
        exact ⟨congrArg Ending.returned HV.out.symm, by first | exact HW.out | (rw [← hg]; exact HW.out)⟩
      · by_cases h2 : 63 < m
        · have hbad := mkOk_bad HX.out (.inr (.inl (by rw [HXS.out]; exact h2)))
          have HV := Lib.hid (show mkV L = .tuple #[.string ⟨#[]⟩, .bool false] by unfold mkV mk; rw [hbad]; rfl)
          clear hbad
          have hd2 : decide ((x.size : Int) < 1) = false := decide_eq_false (by omega)
          have hd3 : decide (63 < (x.size : Int)) = true := decide_eq_true (by omega)
          go_wp2
          go_ret2
          exact ⟨congrArg Ending.returned HV.out.symm, by first | exact HW.out | (rw [← hg]; exact HW.out)⟩
        · have hd2 : decide ((x.size : Int) < 1) = false := decide_eq_false (by omega)
          have hd3 : decide (63 < (x.size : Int)) = false := decide_eq_false (by omega)
          have hm63 : m ≤ 63 := by omega
          have hm1 : 1 ≤ m := by omega
          by_cases h3 : 254 < n + 1 + m
          · have hbad := mkOk_bad HX.out (.inr (.inr (by rw [HXS.out, HNN.out]; exact h3)))
            have HV := Lib.hid (show mkV L = .tuple #[.string ⟨#[]⟩, .bool false] by unfold mkV mk; rw [hbad]; rfl)
            clear hbad
            go_wp2_with fail
            refine (len_ g g _ wr HB.out).mono ?_
            rintro e w2 ⟨rfl, rfl⟩
            rw [HNN.out]
            have hd4 : decide (254 < (n : Int) + 1 + (x.size : Int)) = true := decide_eq_true (by omega)
            go_wp2
            go_ret2
            exact ⟨congrArg Ending.returned HV.out.symm, by first | exact HW.out | (rw [← hg]; exact HW.out)⟩
          · go_wp2_with fail
            refine (len_ g g _ wr HB.out).mono ?_
            rintro e w2 ⟨rfl, rfl⟩
            rw [HNN.out]
            have hd4 : decide (254 < (n : Int) + 1 + (x.size : Int)) = false := decide_eq_false (by omega)
            go_wp2_with fail
            have hm8 : IntKind.u8.wrap (m : Int) = (m : Int) := by rw [IntKind.wrap_u8]; omega
            have hBg := HW.out.size
            refine (writeByte_ g g _ (m : Int) _ HB.out (by rw [HNN.out]; omega) (by omega)).mono ?_
            rintro e w3 ⟨rfl, hB3, hW3⟩
            have HW3 := Lib.hid (HW.out.trans (by rw [hg]; exact hW3))
            have HB3 := Lib.hid hB3
            clear hB3 hW3
            go_wp2_with fail
            refine (folded_ x (by omega) w3).mono ?_
            rintro e w4 ⟨rfl, hb⟩
            have hgl := isB_lt HB3.out
            have hB4 : IsB g g (mkL (L.take k) ++ [(m : Int)]) w4 := by
              have h := HB3.out
              unfold IsB at h ⊢
              rcases h with h | h
              · exact .inl (builder_below h hb)
              · exact .inr (builder_below h hb)
            have HB4 := Lib.hid hB4
            have HW4 := Lib.hid (HW3.out.trans (hb.mono HW3.out.size))
            have hs4 : g ≤ w4.heap.size := by have := HW4.out.size; omega
            clear hB4 hb
            go_wp2_with fail
            have hls4 : (mkL (L.take k) ++ [(m : Int)]).length + (strOfNums (fold (bytesOf x))).size ≤ 140737488355328 := by
              rw [List.length_append, HNN.out, str_size, fold_len, of_size, hm]
              simp
              omega
            refine (writeString_ g g _ _ w4 HB4.out hls4 hs4).mono ?_
            rintro e w5 ⟨rfl, hB5, hW5⟩
            rw [bytes_str (fold_b8 (of_b8 x)), List.append_assoc] at hB5
            have hX := HX.out
            have e5 : mkL (L.take k) ++ ([(m : Int)] ++ fold (bytesOf x)) = mkL (L.take (k + 1)) := by
              rw [mkL_take hX, of_size, hm]
              rfl
            rw [e5] at hB5
            have e6 : (mkL (L.take (k + 1))).length ≤ 254 := by
              rw [← e5, List.length_append, HNN.out]
              simp [fold_len, of_size, hm]
              omega
            have e7 : ∀ j l, j < k + 1 → L[j]? = some l → Lab l := by
              intro j l hj hl
              by_cases hjk : j = k
              · subst hjk
                rw [hX] at hl
                obtain rfl := Option.some.inj hl
                unfold Lab
                rw [of_size, hm]
                exact ⟨hm1, hm63⟩
              · exact HA.out j l (by omega) hl
            have HB5 := Lib.hid hB5
            have HW5 := Lib.hid (HW4.out.trans (by rw [hg]; exact hW5))
            have E6 := Lib.hid e6
            have E7 := Lib.hid e7
            clear hB5 hW5 hX e5 e6 e7 hls4
            go_wp2
            go_roundw
            case rel => exact ⟨k + 1, by omega, by go_num, E6.out, ⟨E7.out⟩, ⟨HB5.out⟩, ⟨HW5.out⟩, ⟨fun h => by omega⟩⟩
            case measure => simp [intOf]; omega
    · have hkk : k = ls.length := by omega
      subst hkk
      have htk : L.take ls.length = L := List.take_of_length_le (by rw [HLL.out]; exact Nat.le_refl _)
      have hok : mkOk L = true := by
        rw [mkOk_iff]
        refine ⟨fun l hl => ?_, ?_⟩
        · obtain ⟨j, hj, rfl⟩ := List.getElem_of_mem hl
          exact HA.out j _ (by rw [← HLL.out]; exact hj) (List.getElem?_eq_getElem hj)
        · have := HNN.out
          rw [htk] at this
          omega
      have hmk : mk L = mkL L := by unfold mk; rw [if_pos hok]
      have hV : mkV L = .tuple #[.string (strOfNums (mkL L)), .bool true] := by unfold mkV; rw [hmk, hok]
      have h8 : B8 (mkL L) := by rw [← hmk]; exact mk_b8 HL8.out
      have hB := HB.out
      rw [htk] at hB
      have HB6 := Lib.hid hB
      have HV := Lib.hid hV
      have H8 := Lib.hid h8
      have HOK := Lib.hid hok
      clear hB htk hok hmk hV h8
      by_cases h0 : ls.length = 0
      · have hn : mkL L = [] := by
          have := HLL.out
          rw [h0] at this
          rw [List.eq_nil_of_length_eq_zero this]
          rfl
        have hV := HV.out
        rw [hn] at hV
        have HV := Lib.hid hV
        have hz := HZ.out h0
        have HZ2 := Lib.hid hz
        clear hV hn hz
        go_wp2_with fail
        refine (Bld.string_nil g g _ _ HZ2.out).mono ?_
        rintro e w2 ⟨rfl, hb⟩
        have HB2 := Lib.hid hb
        clear hb
        go_wp2
        go_ret2
        exact ⟨congrArg Ending.returned HV.out.symm, by first | exact HW.out.trans (by rw [hg]; exact HB2.out) | (rw [← hg]; exact HW.out.trans (by rw [hg]; exact HB2.out))⟩
      · have hne : mkL L ≠ [] := by
          intro he
          have h1 := HLL.out
          cases hL' : L with
          | nil => rw [hL'] at h1; simp at h1; omega
          | cons l r => rw [hL'] at he; simp [mkL, lay] at he
        have HNE := Lib.hid hne
        clear hne
        go_wp2_with fail
        refine (string_ g g _ _ HB6.out H8.out HNE.out).mono ?_
        rintro e w2 ⟨rfl, hb⟩
        have HB2 := Lib.hid hb
        clear hb
        go_wp2
        go_ret2
        exact ⟨congrArg Ending.returned HV.out.symm, by first | exact HW.out.trans (by rw [hg]; exact HB2.out) | (rw [← hg]; exact HW.out.trans (by rw [hg]; exact HB2.out))⟩
theorem make_ev (ls : List ByteArray) (r1 : ByteArray) (r2 : Bool) (h : some (strOfNums (mk (ls.map bytesOf)), mkOk (ls.map bytesOf)) = some (r1, r2)) : mkV (ls.map bytesOf) = .tuple #[.string r1, .bool r2] := by
  have h1 := Option.some.inj h
  injection h1 with h2 h3
  unfold mkV
  rw [h2, h3]
end
end name_Make
def name_Make.f (l0 : List ByteArray) : Option (ByteArray × Bool) := some (strOfNums (Go.Proofs.YtnikfeaggppmpaaDoor.Nam.mk (l0.map bytesOf)), Go.Proofs.YtnikfeaggppmpaaDoor.Nam.mkOk (l0.map bytesOf))
theorem name_Make.calls (A0 : Option Addr) (c0 : Nat) (l0 : List ByteArray) (r1 : ByteArray) (r2 : Bool) (w : World) (hr0 : Kd.C Kd.string w A0 l0.length l0) (hc0 : l0.length ≤ c0) (h : name_Make.f l0 = some (r1, r2)) :
    Calls Tryd.prog 40 #[.slice A0 l0.length c0] w fun e w' => e = .returned (.tuple #[.string r1, .bool r2]) ∧ Below w.heap.size w w' := by
  have h1 := name_Make.make_ A0 c0 l0 w hr0 hc0
  rw [name_Make.make_ev l0 r1 r2 h] at h1
  exact h1
def num_Get32.f (a0 : ByteArray) (a1 : Int) : Option (Int × Bool) := (num_Get16.f a0 a1).bind fun bt189 => ((num_Get16.f a0 (wrap64 (a1 + 2))).bind fun bt191 => (if bt189.2 = true then (if bt191.2 = true then (some (Go.bits .or .u32 ((((bt189.1) % 4294967296) * 65536) % 4294967296) ((bt191.1) % 4294967296), true)) else (some (0, false))) else (some (0, false))))
set_option maxHeartbeats 8000000 in
set_option maxRecDepth 100000 in
theorem num_Get32.calls (a0 : ByteArray) (a1 : Int) (r1 : Int) (r2 : Bool) (w : World) (h : num_Get32.f a0 a1 = some (r1, r2)) :
    Calls Tryd.prog 58 #[.string a0, .int .i64 a1] w fun e w' => e = .returned (.tuple #[.int .u32 r1, .bool r2]) ∧ Drawn0 w w' := by
  have H : ((num_Get16.f a0 a1).bind fun bt189 => ((num_Get16.f a0 (wrap64 (a1 + 2))).bind fun bt191 => (if bt189.2 = true then (if bt191.2 = true then (some (Go.bits .or .u32 ((((bt189.1) % 4294967296) * 65536) % 4294967296) ((bt191.1) % 4294967296), true)) else (some (0, false))) else (some (0, false))))) = some (r1, r2) := h
  clear h
  replace H := Option.bind_eq_some_iff.mp H
  obtain ⟨⟨t189, t190⟩, A30, H⟩ := H
  replace H : ((num_Get16.f a0 (wrap64 (a1 + 2))).bind fun bt191 => (if t190 = true then (if bt191.2 = true then (some (Go.bits .or .u32 ((((t189) % 4294967296) * 65536) % 4294967296) ((bt191.1) % 4294967296), true)) else (some (0, false))) else (some (0, false)))) = some (r1, r2) := H
  have A3 := Aside0.mk A30
  clear A30
  replace H := Option.bind_eq_some_iff.mp H
  obtain ⟨⟨t191, t192⟩, A40, H⟩ := H
  replace H : (if t190 = true then (if t192 = true then (some (Go.bits .or .u32 ((((t189) % 4294967296) * 65536) % 4294967296) ((t191) % 4294967296), true)) else (some (0, false))) else (some (0, false))) = some (r1, r2) := H
  have A4 := Aside0.mk A40
  clear A40
  by_cases c5 : t190 = true
  · subst c5
    have H1 : (if t192 = true then (some (Go.bits .or .u32 ((((t189) % 4294967296) * 65536) % 4294967296) ((t191) % 4294967296), true)) else (some (0, false))) = some (r1, r2) := by rw [if_pos rfl] at H; exact H
    clear H
    have H := H1
    clear H1
    by_cases c6 : t192 = true
    · subst c6
      have H1 : (some (Go.bits .or .u32 ((((t189) % 4294967296) * 65536) % 4294967296) ((t191) % 4294967296), true)) = some (r1, r2) := by rw [if_pos rfl] at H; exact H
      clear H
      have H := H1
      clear H1
      simp only [Option.some.injEq, Prod.mk.injEq] at H
      obtain ⟨rfl, rfl⟩ := H
      go_enter Tryd.func58, Tryd.ntmps58
      go_wp2_with (first | ((with_reducible refine gate_callee (f := 25) rfl ?_); refine goesL_ (some 13) rfl rfl Tryd.func25 (by kernel_rfl) rfl #[.string a0, .int .i64 a1] rfl (by (try simp only [List.map_toArray, List.map_cons, List.map_nil]); first | done | rfl | (simp only [List.length_drop, List.length_take]; rfl)) ?_; (with_reducible refine (num_Get16.calls a0 a1 t189 true _ A3.out).mono ?_); rintro e w' ⟨rfl, ⟨nd, rfl⟩⟩; refine ⟨_, rfl, ?_⟩) | ((with_reducible refine gate_callee (f := 25) rfl ?_); refine goesL_ (some 20) rfl rfl Tryd.func25 (by kernel_rfl) rfl #[.string a0, .int .i64 (wrap64 (a1 + 2))] rfl (by (try simp only [List.map_toArray, List.map_cons, List.map_nil]); first | done | rfl | (simp only [List.length_drop, List.length_take]; rfl)) ?_; (with_reducible refine (num_Get16.calls a0 (wrap64 (a1 + 2)) t191 true _ A4.out).mono ?_); rintro e w' ⟨rfl, ⟨nd, rfl⟩⟩; refine ⟨_, rfl, ?_⟩))
      go_ret2
      exact ⟨by first | rfl | (simp; done) | (simp [*]; done), by repeat (first | exact Drawn0.refl _ | apply Drawn0.step)⟩
    · replace c6 := Bool.eq_false_iff.mpr c6
      subst c6
      have H1 : (some (0, false)) = some (r1, r2) := by rw [if_neg (show ¬ (false = true) by decide)] at H; exact H
      clear H
      have H := H1
      clear H1
      simp only [Option.some.injEq, Prod.mk.injEq] at H
      obtain ⟨rfl, rfl⟩ := H
      go_enter Tryd.func58, Tryd.ntmps58
      go_wp2_with (first | ((with_reducible refine gate_callee (f := 25) rfl ?_); refine goesL_ (some 13) rfl rfl Tryd.func25 (by kernel_rfl) rfl #[.string a0, .int .i64 a1] rfl (by (try simp only [List.map_toArray, List.map_cons, List.map_nil]); first | done | rfl | (simp only [List.length_drop, List.length_take]; rfl)) ?_; (with_reducible refine (num_Get16.calls a0 a1 t189 true _ A3.out).mono ?_); rintro e w' ⟨rfl, ⟨nd, rfl⟩⟩; refine ⟨_, rfl, ?_⟩) | ((with_reducible refine gate_callee (f := 25) rfl ?_); refine goesL_ (some 20) rfl rfl Tryd.func25 (by kernel_rfl) rfl #[.string a0, .int .i64 (wrap64 (a1 + 2))] rfl (by (try simp only [List.map_toArray, List.map_cons, List.map_nil]); first | done | rfl | (simp only [List.length_drop, List.length_take]; rfl)) ?_; (with_reducible refine (num_Get16.calls a0 (wrap64 (a1 + 2)) t191 false _ A4.out).mono ?_); rintro e w' ⟨rfl, ⟨nd, rfl⟩⟩; refine ⟨_, rfl, ?_⟩))
      go_ret2
      exact ⟨by first | rfl | (simp; done) | (simp [*]; done), by repeat (first | exact Drawn0.refl _ | apply Drawn0.step)⟩
  · replace c5 := Bool.eq_false_iff.mpr c5
    subst c5
    have H1 : (some (0, false)) = some (r1, r2) := by rw [if_neg (show ¬ (false = true) by decide)] at H; exact H
    clear H
    have H := H1
    clear H1
    simp only [Option.some.injEq, Prod.mk.injEq] at H
    obtain ⟨rfl, rfl⟩ := H
    go_enter Tryd.func58, Tryd.ntmps58
    go_wp2_with (first | ((with_reducible refine gate_callee (f := 25) rfl ?_); refine goesL_ (some 13) rfl rfl Tryd.func25 (by kernel_rfl) rfl #[.string a0, .int .i64 a1] rfl (by (try simp only [List.map_toArray, List.map_cons, List.map_nil]); first | done | rfl | (simp only [List.length_drop, List.length_take]; rfl)) ?_; (with_reducible refine (num_Get16.calls a0 a1 t189 false _ A3.out).mono ?_); rintro e w' ⟨rfl, ⟨nd, rfl⟩⟩; refine ⟨_, rfl, ?_⟩) | ((with_reducible refine gate_callee (f := 25) rfl ?_); refine goesL_ (some 20) rfl rfl Tryd.func25 (by kernel_rfl) rfl #[.string a0, .int .i64 (wrap64 (a1 + 2))] rfl (by (try simp only [List.map_toArray, List.map_cons, List.map_nil]); first | done | rfl | (simp only [List.length_drop, List.length_take]; rfl)) ?_; (with_reducible refine (num_Get16.calls a0 (wrap64 (a1 + 2)) t191 t192 _ A4.out).mono ?_); rintro e w' ⟨rfl, ⟨nd, rfl⟩⟩; refine ⟨_, rfl, ?_⟩))
    go_ret2
    exact ⟨by first | rfl | (simp; done) | (simp [*]; done), by repeat (first | exact Drawn0.refl _ | apply Drawn0.step)⟩
def point_Plain.f (a0 : ByteArray) : Option (ByteArray) := if a0.size + 1 ≤ 9223372036854775807 then (some (a0 ++ (⟨#[0]⟩ : ByteArray))) else (none)
set_option maxHeartbeats 8000000 in
set_option maxRecDepth 100000 in
theorem point_Plain.calls (a0 : ByteArray) (r : ByteArray) (w : World) (h : point_Plain.f a0 = some r) :
    Calls Tryd.prog 59 #[.string a0] w fun e w' => e = .returned (.string r) ∧ Drawn0 w w' := by
  have H : (if a0.size + 1 ≤ 9223372036854775807 then (some (a0 ++ (⟨#[0]⟩ : ByteArray))) else (none)) = some r := h
  clear h
  by_cases c2 : a0.size + 1 ≤ 9223372036854775807
  · rw [if_pos c2] at H
    have c2b0 := eq_true c2
    have c2b1 : decide (a0.size + 1 ≤ 9223372036854775807) = true := decide_eq_true c2
    try have c2b2 : (9223372036854775807 < a0.size + 1) = False := eq_false (Nat.not_lt.2 c2)
    obtain rfl := Option.some.inj H
    go_enter Tryd.func59, Tryd.ntmps59
    go_wp2
    go_ret
    exact ⟨by first | rfl | (simp; done) | (simp [*]; done), by repeat (first | exact Drawn0.refl _ | apply Drawn0.step)⟩
  · rw [if_neg c2] at H
    exact absurd H (by simp)
def bolterlaw05_SameRecords.l0 : Nat → List (S70) → List (S70) → Int → Int → Option (Bool)
  | 0, _, _, _, _ => none
  | k + 1, x0, x1, x12, x13 => if x13 < x12 then (if 0 ≤ x13 then (if x13 < (x0.length : Int) then (if x13 < (x1.length : Int) then (if (!((((rd_T70 x0 x13).f0).toList) == (((rd_T70 x1 x13).f0).toList)) || (!(((rd_T70 x0 x13).f1) == ((rd_T70 x1 x13).f1)) || (!(((rd_T70 x0 x13).f2) == ((rd_T70 x1 x13).f2)) || (!((((rd_T70 x0 x13).f3).toList) == (((rd_T70 x1 x13).f3).toList)))))) = true then (some false) else (bolterlaw05_SameRecords.l0 k x0 x1 x12 (wrap64 (x13 + 1)))) else (none)) else (none)) else (none)) else (some true)
def bolterlaw05_SameRecords.f (k : Nat) (l0 : List (S70)) (l1 : List (S70)) : Option (Bool) := if (l0.length : Int) = (l1.length : Int) then (bolterlaw05_SameRecords.l0 k l0 l1 (l0.length : Int) 0) else (some false)
theorem bolterlaw05_SameRecords.mono_l : ∀ k, (∀ y0 y1 y2 y3, LeO (bolterlaw05_SameRecords.l0 k y0 y1 y2 y3) (bolterlaw05_SameRecords.l0 (k + 1) y0 y1 y2 y3))
  | 0 => fun _ _ _ _ r h => by simp [bolterlaw05_SameRecords.l0] at h
  | k + 1 => by
    have ih0 := bolterlaw05_SameRecords.mono_l k
    · intro y0 y1 y2 y3
      unfold bolterlaw05_SameRecords.l0
      repeat' first
      | (with_reducible exact ih0 _ _ _ _)
      | (with_reducible exact LeO.refl _)
      | (with_reducible exact LeO.none _)
      | (with_reducible refine LeO.ite ?_ ?_)
      | (with_reducible refine LeO.bind ?_ (fun _ => ?_))
      | exact ih0 _ _ _ _
      | exact LeO.none _
      | refine LeO.ite ?_ ?_
      | refine LeO.bind ?_ (fun _ => ?_)
theorem bolterlaw05_SameRecords.mono : ∀ a0 a1 k, LeO (bolterlaw05_SameRecords.f k a0 a1) (bolterlaw05_SameRecords.f (k + 1) a0 a1) := by
  intro a0 a1 k
  have ih0 := bolterlaw05_SameRecords.mono_l k
  unfold bolterlaw05_SameRecords.f
  repeat' first
      | (with_reducible exact ih0 _ _ _ _)
      | (with_reducible exact LeO.refl _)
      | (with_reducible exact LeO.none _)
      | (with_reducible refine LeO.ite ?_ ?_)
      | (with_reducible refine LeO.bind ?_ (fun _ => ?_))
      | exact ih0 _ _ _ _
      | exact LeO.none _
      | refine LeO.ite ?_ ?_
      | refine LeO.bind ?_ (fun _ => ?_)
set_option maxHeartbeats 8000000 in
set_option maxRecDepth 100000 in
theorem bolterlaw05_SameRecords.calls (k : Nat) (A0 : Option Addr) (c0 : Nat) (l0 : List (S70)) (A1 : Option Addr) (c1 : Nat) (l1 : List (S70)) (r : Bool) (w : World) (hr0 : Kd.C k70 w A0 l0.length l0) (hc0 : l0.length ≤ c0) (hr1 : Kd.C k70 w A1 l1.length l1) (hc1 : l1.length ≤ c1) (h : bolterlaw05_SameRecords.f k l0 l1 = some r) :
    Calls Tryd.prog 19 #[.slice A0 l0.length c0, .slice A1 l1.length c1] w fun e w' => e = .returned (.bool r) ∧ Drawn0 w w' := by
  have hu70 := Tryd.underlying70
  have HR0 := Aside0.mk hr0
  have HC0 := Aside0.mk hc0
  clear hr0 hc0
  have HR1 := Aside0.mk hr1
  have HC1 := Aside0.mk hc1
  clear hr1 hc1
  have H : (if (l0.length : Int) = (l1.length : Int) then (bolterlaw05_SameRecords.l0 k l0 l1 (l0.length : Int) 0) else (some false)) = some r := h
  clear h
  by_cases c3 : (l0.length : Int) = (l1.length : Int)
  · rw [if_pos c3] at H
    have c3b0 : ((l0.length : Int) == (l1.length : Int)) = true := beq_iff_eq.mpr c3
    have c3b1 : ((l0.length : Int) != (l1.length : Int)) = false := bne_eq_false_iff_eq.mpr c3
    have c3b2 : (l0.length == l1.length) = true := by first | simpa using c3 | (simp at c3 ⊢; omega)
    clear c3
    have H' := Aside0.mk H
    clear H
    go_enter Tryd.func19, Tryd.ntmps19
    go_wp2
    repeat (go_quiet (fail); try go_wp2)
    go_loopg [13] k (fun kq v13 w' => ∃ (x13_1 : Int), v13 = .int .i64 x13_1 ∧ Aside0 (bolterlaw05_SameRecords.l0 kq l0 l1 (l0.length : Int) x13_1 = some r) ∧ Aside0 (kq ≤ k) ∧ Drawn0 w w')
    case atStart => exact ⟨(0), (by first | rfl | (simp; done) | (simp [*]; done)), H', ⟨Nat.le_refl _⟩, by repeat (first | exact Drawn0.refl _ | apply Drawn0.step)⟩
    case round =>
      clear H'
      try clear c1
      try clear p2
      try clear c3
      try clear c3b0
      try clear c3b1
      try clear c3b2
      obtain ⟨x13_1, rfl, HA, HK1, ⟨m1, rfl⟩⟩ := hrel
      cases gk with
      | zero => exact absurd HA.out (by simp [bolterlaw05_SameRecords.l0])
      | succ k1 =>
        have H := HA.out
        clear HA
        simp only [bolterlaw05_SameRecords.l0] at H
        by_cases c4 : x13_1 < (l0.length : Int)
        · rw [if_pos c4] at H
          have c4b0 : decide (x13_1 < (l0.length : Int)) = true := decide_eq_true c4
          clear c4
          by_cases c5 : 0 ≤ x13_1
          · rw [if_pos c5] at H
            have c5b0 : decide (0 ≤ x13_1) = true := decide_eq_true c5
            clear c5
            by_cases c6 : x13_1 < (l0.length : Int)
            · rw [if_pos c6] at H
              have c6b0 : decide (x13_1 < (l0.length : Int)) = true := decide_eq_true c6
              clear c6
              by_cases c7 : x13_1 < (l1.length : Int)
              · rw [if_pos c7] at H
                have c7b0 : decide (x13_1 < (l1.length : Int)) = true := decide_eq_true c7
                clear c7
                by_cases c8 : (!((((rd_T70 l0 x13_1).f0).toList) == (((rd_T70 l1 x13_1).f0).toList)) || (!(((rd_T70 l0 x13_1).f1) == ((rd_T70 l1 x13_1).f1)) || (!(((rd_T70 l0 x13_1).f2) == ((rd_T70 l1 x13_1).f2)) || (!((((rd_T70 l0 x13_1).f3).toList) == (((rd_T70 l1 x13_1).f3).toList)))))) = true
                · rw [if_pos c8] at H
                  have c8b0 : (!((((rd_T70 l0 x13_1).f0).toList) == (((rd_T70 l1 x13_1).f0).toList)) || (!(((rd_T70 l0 x13_1).f1) == ((rd_T70 l1 x13_1).f1)) || (!(((rd_T70 l0 x13_1).f2) == ((rd_T70 l1 x13_1).f2)) || (!((((rd_T70 l0 x13_1).f3).toList) == (((rd_T70 l1 x13_1).f3).toList)))))) = true := c8
                  clear c8
                  obtain rfl := Option.some.inj H
                  have p198 : 0 ≤ (x13_1 : Int) := of_decide_eq_true (by first | (with_reducible assumption) | assumption)
                  have q198 : x13_1 < (l0.length : Int) := of_decide_eq_true (by first | (with_reducible assumption) | assumption)
                  obtain ⟨ad198, e198, hx198_0, hx198_1, hx198_2, hx198_3⟩ := at_T70 HR0.out x13_1 p198 q198
                  cases e198
                  replace p198 := eq_true p198
                  replace q198 := eq_true q198
                  have p199 : 0 ≤ (x13_1 : Int) := of_decide_eq_true (by first | (with_reducible assumption) | assumption)
                  have q199 : x13_1 < (l1.length : Int) := of_decide_eq_true (by first | (with_reducible assumption) | assumption)
                  obtain ⟨ad199, e199, hx199_0, hx199_1, hx199_2, hx199_3⟩ := at_T70 HR1.out x13_1 p199 q199
                  cases e199
                  replace p199 := eq_true p199
                  replace q199 := eq_true q199
                  go_wp2
                  repeat (go_quiet (fail); try go_wp2)
                  go_ret
                  exact ⟨by first | rfl | (simp; done) | (simp [*]; done), by repeat (first | exact Drawn0.refl _ | apply Drawn0.step)⟩
                · rw [if_neg c8] at H
                  have c8b0 : (!((((rd_T70 l0 x13_1).f0).toList) == (((rd_T70 l1 x13_1).f0).toList)) || (!(((rd_T70 l0 x13_1).f1) == ((rd_T70 l1 x13_1).f1)) || (!(((rd_T70 l0 x13_1).f2) == ((rd_T70 l1 x13_1).f2)) || (!((((rd_T70 l0 x13_1).f3).toList) == (((rd_T70 l1 x13_1).f3).toList)))))) = false := by simpa using c8
                  clear c8
                  have H' := Aside0.mk H
                  clear H
                  have p198 : 0 ≤ (x13_1 : Int) := of_decide_eq_true (by first | (with_reducible assumption) | assumption)
                  have q198 : x13_1 < (l0.length : Int) := of_decide_eq_true (by first | (with_reducible assumption) | assumption)
                  obtain ⟨ad198, e198, hx198_0, hx198_1, hx198_2, hx198_3⟩ := at_T70 HR0.out x13_1 p198 q198
                  cases e198
                  replace p198 := eq_true p198
                  replace q198 := eq_true q198
                  have p199 : 0 ≤ (x13_1 : Int) := of_decide_eq_true (by first | (with_reducible assumption) | assumption)
                  have q199 : x13_1 < (l1.length : Int) := of_decide_eq_true (by first | (with_reducible assumption) | assumption)
                  obtain ⟨ad199, e199, hx199_0, hx199_1, hx199_2, hx199_3⟩ := at_T70 HR1.out x13_1 p199 q199
                  cases e199
                  replace p199 := eq_true p199
                  replace q199 := eq_true q199
                  go_wp2
                  repeat (go_quiet (fail); try go_wp2)
                  go_roundg k1
                  case measure => have := HK1.out; omega
                  case rel => exact ⟨(wrap64 (x13_1 + 1)), (by first | rfl | (simp; done) | (simp [*]; done)), H', ⟨by have := HK1.out; omega⟩, by repeat (first | exact Drawn0.refl _ | apply Drawn0.step)⟩
              · rw [if_neg c7] at H
                exact absurd H (by simp)
            · rw [if_neg c6] at H
              exact absurd H (by simp)
          · rw [if_neg c5] at H
            exact absurd H (by simp)
        · rw [if_neg c4] at H
          have c4b0 : decide (x13_1 < (l0.length : Int)) = false := decide_eq_false c4
          clear c4
          obtain rfl := Option.some.inj H
          go_wp2
          repeat (go_quiet (fail); try go_wp2)
          go_ret
          exact ⟨by first | rfl | (simp; done) | (simp [*]; done), by repeat (first | exact Drawn0.refl _ | apply Drawn0.step)⟩
  · rw [if_neg c3] at H
    have c3b0 : ((l0.length : Int) == (l1.length : Int)) = false := beq_eq_false_iff_ne.mpr c3
    have c3b1 : ((l0.length : Int) != (l1.length : Int)) = true := bne_iff_ne.mpr c3
    have c3b2 : (l0.length == l1.length) = false := by first | simpa using c3 | (simp at c3 ⊢; omega)
    obtain rfl := Option.some.inj H
    go_enter Tryd.func19, Tryd.ntmps19
    go_wp2
    repeat (go_quiet (fail); try go_wp2)
    go_ret
    exact ⟨by first | rfl | (simp; done) | (simp [*]; done), by repeat (first | exact Drawn0.refl _ | apply Drawn0.step)⟩
def bolterlaw05_Same.f (k : Nat) (a0_0 : Int) (a0_1 : Bool) (a0_2 : Int) (a0_3 : Bool) (a0_4 : Bool) (a0_5 : Bool) (a0_6 : Bool) (a0_7 : Int) (a0_8 : ByteArray) (a0_9 : Int) (l0_10 : List (S70)) (l0_11 : List (S70)) (l0_12 : List (S70)) (a0_13 : Int) (a1_0 : Int) (a1_1 : Bool) (a1_2 : Int) (a1_3 : Bool) (a1_4 : Bool) (a1_5 : Bool) (a1_6 : Bool) (a1_7 : Int) (a1_8 : ByteArray) (a1_9 : Int) (l1_10 : List (S70)) (l1_11 : List (S70)) (l1_12 : List (S70)) (a1_13 : Int) : Option (Bool) := if (a0_0 == a1_0 && (a0_1 == a1_1 && (a0_2 == a1_2 && (a0_3 == a1_3 && (a0_4 == a1_4 && (a0_5 == a1_5 && (a0_6 == a1_6 && (a0_7 == a1_7)))))))) = true then (if (a0_8.toList == a1_8.toList && (a0_9 == a1_9)) = true then (if a0_13 = a1_13 then ((bolterlaw05_SameRecords.f k l0_10 l1_10).bind fun t202 => (if t202 = true then ((bolterlaw05_SameRecords.f k l0_11 l1_11).bind fun t203 => (if t203 = true then ((bolterlaw05_SameRecords.f k l0_12 l1_12).bind fun t204 => (some t204)) else (some false))) else (some false))) else (some false)) else (some false)) else (some false)
theorem bolterlaw05_Same.mono : ∀ a0 a1 a2 a3 a4 a5 a6 a7 a8 a9 a10 a11 a12 a13 a14 a15 a16 a17 a18 a19 a20 a21 a22 a23 a24 a25 a26 a27 k, LeO (bolterlaw05_Same.f k a0 a1 a2 a3 a4 a5 a6 a7 a8 a9 a10 a11 a12 a13 a14 a15 a16 a17 a18 a19 a20 a21 a22 a23 a24 a25 a26 a27) (bolterlaw05_Same.f (k + 1) a0 a1 a2 a3 a4 a5 a6 a7 a8 a9 a10 a11 a12 a13 a14 a15 a16 a17 a18 a19 a20 a21 a22 a23 a24 a25 a26 a27) := by
  intro a0 a1 a2 a3 a4 a5 a6 a7 a8 a9 a10 a11 a12 a13 a14 a15 a16 a17 a18 a19 a20 a21 a22 a23 a24 a25 a26 a27 k
  unfold bolterlaw05_Same.f
  repeat' first
      | (with_reducible exact bolterlaw05_SameRecords.mono _ _ _)
      | (with_reducible exact LeO.refl _)
      | (with_reducible exact LeO.none _)
      | (with_reducible refine LeO.ite ?_ ?_)
      | (with_reducible refine LeO.bind ?_ (fun _ => ?_))
      | exact bolterlaw05_SameRecords.mono _ _ _
      | exact LeO.none _
      | refine LeO.ite ?_ ?_
      | refine LeO.bind ?_ (fun _ => ?_)
set_option maxHeartbeats 8000000 in
set_option maxRecDepth 100000 in
theorem bolterlaw05_Same.calls (k : Nat) (a0_0 : Int) (a0_1 : Bool) (a0_2 : Int) (a0_3 : Bool) (a0_4 : Bool) (a0_5 : Bool) (a0_6 : Bool) (a0_7 : Int) (a0_8 : ByteArray) (a0_9 : Int) (A0_10 : Option Addr) (c0_10 : Nat) (l0_10 : List (S70)) (A0_11 : Option Addr) (c0_11 : Nat) (l0_11 : List (S70)) (A0_12 : Option Addr) (c0_12 : Nat) (l0_12 : List (S70)) (a0_13 : Int) (a1_0 : Int) (a1_1 : Bool) (a1_2 : Int) (a1_3 : Bool) (a1_4 : Bool) (a1_5 : Bool) (a1_6 : Bool) (a1_7 : Int) (a1_8 : ByteArray) (a1_9 : Int) (A1_10 : Option Addr) (c1_10 : Nat) (l1_10 : List (S70)) (A1_11 : Option Addr) (c1_11 : Nat) (l1_11 : List (S70)) (A1_12 : Option Addr) (c1_12 : Nat) (l1_12 : List (S70)) (a1_13 : Int) (r : Bool) (w : World) (hr0_10 : Kd.C k70 w A0_10 l0_10.length l0_10) (hc0_10 : l0_10.length ≤ c0_10) (hr0_11 : Kd.C k70 w A0_11 l0_11.length l0_11) (hc0_11 : l0_11.length ≤ c0_11) (hr0_12 : Kd.C k70 w A0_12 l0_12.length l0_12) (hc0_12 : l0_12.length ≤ c0_12) (hr1_10 : Kd.C k70 w A1_10 l1_10.length l1_10) (hc1_10 : l1_10.length ≤ c1_10) (hr1_11 : Kd.C k70 w A1_11 l1_11.length l1_11) (hc1_11 : l1_11.length ≤ c1_11) (hr1_12 : Kd.C k70 w A1_12 l1_12.length l1_12) (hc1_12 : l1_12.length ≤ c1_12) (h : bolterlaw05_Same.f k a0_0 a0_1 a0_2 a0_3 a0_4 a0_5 a0_6 a0_7 a0_8 a0_9 l0_10 l0_11 l0_12 a0_13 a1_0 a1_1 a1_2 a1_3 a1_4 a1_5 a1_6 a1_7 a1_8 a1_9 l1_10 l1_11 l1_12 a1_13 = some r) :
    Calls Tryd.prog 9 #[.agg #[.int .u16 a0_0, .bool a0_1, .int .i64 a0_2, .bool a0_3, .bool a0_4, .bool a0_5, .bool a0_6, .int .i64 a0_7, .string a0_8, .int .u16 a0_9, .slice A0_10 l0_10.length c0_10, .slice A0_11 l0_11.length c0_11, .slice A0_12 l0_12.length c0_12, .int .i64 a0_13], .agg #[.int .u16 a1_0, .bool a1_1, .int .i64 a1_2, .bool a1_3, .bool a1_4, .bool a1_5, .bool a1_6, .int .i64 a1_7, .string a1_8, .int .u16 a1_9, .slice A1_10 l1_10.length c1_10, .slice A1_11 l1_11.length c1_11, .slice A1_12 l1_12.length c1_12, .int .i64 a1_13]] w fun e w' => e = .returned (.bool r) ∧ Below w.heap.size w w' := by
  have hu33 := Tryd.underlying33
  have hu26 := Tryd.underlying26
  have hu30 := Tryd.underlying30
  have HR0_10 := Aside0.mk hr0_10
  have HC0_10 := Aside0.mk hc0_10
  clear hr0_10 hc0_10
  have HR0_11 := Aside0.mk hr0_11
  have HC0_11 := Aside0.mk hc0_11
  clear hr0_11 hc0_11
  have HR0_12 := Aside0.mk hr0_12
  have HC0_12 := Aside0.mk hc0_12
  clear hr0_12 hc0_12
  have HR1_10 := Aside0.mk hr1_10
  have HC1_10 := Aside0.mk hc1_10
  clear hr1_10 hc1_10
  have HR1_11 := Aside0.mk hr1_11
  have HC1_11 := Aside0.mk hc1_11
  clear hr1_11 hc1_11
  have HR1_12 := Aside0.mk hr1_12
  have HC1_12 := Aside0.mk hc1_12
  clear hr1_12 hc1_12
  have HB := Aside0.mk (Below.refl w.heap.size w)
  have H : (if (a0_0 == a1_0 && (a0_1 == a1_1 && (a0_2 == a1_2 && (a0_3 == a1_3 && (a0_4 == a1_4 && (a0_5 == a1_5 && (a0_6 == a1_6 && (a0_7 == a1_7)))))))) = true then (if (a0_8.toList == a1_8.toList && (a0_9 == a1_9)) = true then (if a0_13 = a1_13 then ((bolterlaw05_SameRecords.f k l0_10 l1_10).bind fun t202 => (if t202 = true then ((bolterlaw05_SameRecords.f k l0_11 l1_11).bind fun t203 => (if t203 = true then ((bolterlaw05_SameRecords.f k l0_12 l1_12).bind fun t204 => (some t204)) else (some false))) else (some false))) else (some false)) else (some false)) else (some false)) = some r := h
  clear h
  by_cases c3 : (a0_0 == a1_0 && (a0_1 == a1_1 && (a0_2 == a1_2 && (a0_3 == a1_3 && (a0_4 == a1_4 && (a0_5 == a1_5 && (a0_6 == a1_6 && (a0_7 == a1_7)))))))) = true
  · rw [if_pos c3] at H
    have c3b0 : (a0_0 == a1_0 && (a0_1 == a1_1 && (a0_2 == a1_2 && (a0_3 == a1_3 && (a0_4 == a1_4 && (a0_5 == a1_5 && (a0_6 == a1_6 && (a0_7 == a1_7)))))))) = true := c3
    (try (have c3b1 : decide (a0_0 = a1_0 && (a0_1 == a1_1 && (a0_2 == a1_2 && (a0_3 == a1_3 && (a0_4 == a1_4 && (a0_5 == a1_5 && (a0_6 == a1_6 && (a0_7 == a1_7)))))))) = true := by simpa using c3))
    (try (have c3b2 : (a0_0 == a1_0 && (a0_1 == a1_1 && (a0_2 == a1_2 && (a0_3 == a1_3 && (a0_4 == a1_4 && (a0_5 == a1_5 && (a0_6 == a1_6 && (a0_7 == a1_7)))))))) = true := by simpa using c3))
    clear c3
    by_cases c4 : (a0_8.toList == a1_8.toList && (a0_9 == a1_9)) = true
    · rw [if_pos c4] at H
      have c4b0 : (a0_8.toList == a1_8.toList && (a0_9 == a1_9)) = true := c4
      (try (have c4b1 : decide (a0_8.toList = a1_8.toList && (a0_9 == a1_9)) = true := by simpa using c4))
      (try (have c4b2 : (a0_8.toList == a1_8.toList && (a0_9 == a1_9)) = true := by simpa using c4))
      clear c4
      by_cases c5 : a0_13 = a1_13
      · rw [if_pos c5] at H
        have c5b0 : (a0_13 == a1_13) = true := beq_iff_eq.mpr c5
        have c5b1 : (a0_13 != a1_13) = false := bne_eq_false_iff_eq.mpr c5
        clear c5
        replace H := Option.bind_eq_some_iff.mp H
        obtain ⟨t202, A60, H⟩ := H
        replace H : (if t202 = true then ((bolterlaw05_SameRecords.f k l0_11 l1_11).bind fun t203 => (if t203 = true then ((bolterlaw05_SameRecords.f k l0_12 l1_12).bind fun t204 => (some t204)) else (some false))) else (some false)) = some r := H
        have A6 := Aside0.mk A60
        clear A60
        by_cases c7 : t202 = true
        · subst c7
          have H1 : ((bolterlaw05_SameRecords.f k l0_11 l1_11).bind fun t203 => (if t203 = true then ((bolterlaw05_SameRecords.f k l0_12 l1_12).bind fun t204 => (some t204)) else (some false))) = some r := by rw [if_pos rfl] at H; exact H
          clear H
          have H := H1
          clear H1
          replace H := Option.bind_eq_some_iff.mp H
          obtain ⟨t203, A80, H⟩ := H
          replace H : (if t203 = true then ((bolterlaw05_SameRecords.f k l0_12 l1_12).bind fun t204 => (some t204)) else (some false)) = some r := H
          have A8 := Aside0.mk A80
          clear A80
          by_cases c9 : t203 = true
          · subst c9
            have H1 : ((bolterlaw05_SameRecords.f k l0_12 l1_12).bind fun t204 => (some t204)) = some r := by rw [if_pos rfl] at H; exact H
            clear H
            have H := H1
            clear H1
            replace H := Option.bind_eq_some_iff.mp H
            obtain ⟨t204, A100, H⟩ := H
            replace H : (some t204) = some r := H
            have A10 := Aside0.mk A100
            clear A100
            obtain rfl := Option.some.inj H
            go_enter Tryd.func9, Tryd.ntmps9
            go_wp2_with (first | ((with_reducible refine gate_dst (N := 2) rfl ?_); refine box_event ?hg (N := 2) ?hd (cs := #[.int .u16 a0_0, .bool a0_1, .int .i64 a0_2, .bool a0_3, .bool a0_4, .bool a0_5, .bool a0_6, .int .i64 a0_7, .string a0_8, .int .u16 a0_9, .slice A0_10 l0_10.length c0_10, .slice A0_11 l0_11.length c0_11, .slice A0_12 l0_12.length c0_12, .int .i64 a0_13]) (t := 33) ?hr ?_; (case hd => rfl); (case hg => rfl); (case hr => first | (go_simp; done) | (go_simp; rfl)); intro gb200 hg w11 hbox hb; have n0_ := Aside0.mk (below_step (by repeat (first | (with_reducible first | exact HB.out | apply below_alloc | apply pw_below_drewN | apply below_drew1) | exact HB.out)) hb); have n1_ := Aside0.mk (hbox); have n2_ := Aside0.mk ((by rw [hg]; exact (below_size (by repeat (first | (with_reducible first | exact HB.out | apply below_alloc | apply pw_below_drewN | apply below_drew1) | exact HB.out))) : w.heap.size ≤ gb200)); have n3_ := Aside0.mk ((by rw [hg]; exact (below_size (by repeat (first | (with_reducible first | exact HB.out | apply below_alloc | apply pw_below_drewN | apply below_drew1) | exact HB.out))) : w.heap.size ≤ gb200)); clear HB; have HB := n0_; have BK200 := n1_; have GW200 := n2_; have GE200 := n3_; clear n0_ n1_ n2_ n3_; clear hb hbox hg) | ((with_reducible refine gate_dst (N := 3) rfl ?_); refine box_event ?hg (N := 3) ?hd (cs := #[.int .u16 a1_0, .bool a1_1, .int .i64 a1_2, .bool a1_3, .bool a1_4, .bool a1_5, .bool a1_6, .int .i64 a1_7, .string a1_8, .int .u16 a1_9, .slice A1_10 l1_10.length c1_10, .slice A1_11 l1_11.length c1_11, .slice A1_12 l1_12.length c1_12, .int .i64 a1_13]) (t := 33) ?hr ?_; (case hd => rfl); (case hg => rfl); (case hr => first | (go_simp; done) | (go_simp; rfl)); intro gb201 hg w12 hbox hb; have n0_ := Aside0.mk (blk_below (g := gb200) (o := .cells #[.int .u16 a0_0, .bool a0_1, .int .i64 a0_2, .bool a0_3, .bool a0_4, .bool a0_5, .bool a0_6, .int .i64 a0_7, .string a0_8, .int .u16 a0_9, .slice A0_10 l0_10.length c0_10, .slice A0_11 l0_11.length c0_11, .slice A0_12 l0_12.length c0_12, .int .i64 a0_13] 33 (0, 0)) (by (with_reducible repeat (first | refine blk_drewN ?_ _ | refine blk_drew ?_ | refine blk_alloc ?_ _)); exact BK200.out) hb); have n1_ := Aside0.mk (below_step (by repeat (first | (with_reducible first | exact HB.out | apply below_alloc | apply pw_below_drewN | apply below_drew1 | refine below_set ?_ GE200.out) | exact HB.out)) hb); have n2_ := Aside0.mk (hbox); have n3_ := Aside0.mk ((by rw [hg]; exact (below_size (by repeat (first | (with_reducible first | exact HB.out | apply below_alloc | apply pw_below_drewN | apply below_drew1 | refine below_set ?_ GE200.out) | exact HB.out))) : w.heap.size ≤ gb201)); have n4_ := Aside0.mk ((by rw [hg]; exact (below_size (by repeat (first | (with_reducible first | exact HB.out | apply below_alloc | apply pw_below_drewN | apply below_drew1 | refine below_set ?_ GE200.out) | exact HB.out))) : w.heap.size ≤ gb201)); have n5_ := Aside0.mk ((by rw [hg]; exact Nat.ne_of_lt (blk_lt (g := gb200) (o := .cells #[.int .u16 a0_0, .bool a0_1, .int .i64 a0_2, .bool a0_3, .bool a0_4, .bool a0_5, .bool a0_6, .int .i64 a0_7, .string a0_8, .int .u16 a0_9, .slice A0_10 l0_10.length c0_10, .slice A0_11 l0_11.length c0_11, .slice A0_12 l0_12.length c0_12, .int .i64 a0_13] 33 (0, 0)) (by (with_reducible repeat (first | refine blk_drewN ?_ _ | refine blk_drew ?_ | refine blk_alloc ?_ _)); exact BK200.out)) : gb200 ≠ gb201)); have n6_ := Aside0.mk ((by rw [hg]; exact Nat.ne_of_gt (blk_lt (g := gb200) (o := .cells #[.int .u16 a0_0, .bool a0_1, .int .i64 a0_2, .bool a0_3, .bool a0_4, .bool a0_5, .bool a0_6, .int .i64 a0_7, .string a0_8, .int .u16 a0_9, .slice A0_10 l0_10.length c0_10, .slice A0_11 l0_11.length c0_11, .slice A0_12 l0_12.length c0_12, .int .i64 a0_13] 33 (0, 0)) (by (with_reducible repeat (first | refine blk_drewN ?_ _ | refine blk_drew ?_ | refine blk_alloc ?_ _)); exact BK200.out)) : gb201 ≠ gb200)); clear BK200; clear HB; have BK200 := n0_; have HB := n1_; have BK201 := n2_; have GW201 := n3_; have GE201 := n4_; have NB200_201 := n5_; have NB201_200 := n6_; clear n0_ n1_ n2_ n3_ n4_ n5_ n6_; clear hb hbox hg; have hnb13 := NB200_201.out; have hnc13 := NB201_200.out; have hcz14_0 : w12.cell? ⟨gb200, 0, none⟩ = some (.int .u16 a0_0) := (blk_cell BK200.out 0).trans rfl; have hcz14_1 : w12.cell? ⟨gb200, 1, none⟩ = some (.bool a0_1) := (blk_cell BK200.out 1).trans rfl; have hcz14_2 : w12.cell? ⟨gb200, 2, none⟩ = some (.int .i64 a0_2) := (blk_cell BK200.out 2).trans rfl; have hcz14_3 : w12.cell? ⟨gb200, 3, none⟩ = some (.bool a0_3) := (blk_cell BK200.out 3).trans rfl; have hcz14_4 : w12.cell? ⟨gb200, 4, none⟩ = some (.bool a0_4) := (blk_cell BK200.out 4).trans rfl; have hcz14_5 : w12.cell? ⟨gb200, 5, none⟩ = some (.bool a0_5) := (blk_cell BK200.out 5).trans rfl; have hcz14_6 : w12.cell? ⟨gb200, 6, none⟩ = some (.bool a0_6) := (blk_cell BK200.out 6).trans rfl; have hcz14_7 : w12.cell? ⟨gb200, 7, none⟩ = some (.int .i64 a0_7) := (blk_cell BK200.out 7).trans rfl; have hcz14_8 : w12.cell? ⟨gb200, 8, none⟩ = some (.string a0_8) := (blk_cell BK200.out 8).trans rfl; have hcz14_9 : w12.cell? ⟨gb200, 9, none⟩ = some (.int .u16 a0_9) := (blk_cell BK200.out 9).trans rfl; have hcz14_10 : w12.cell? ⟨gb200, 10, none⟩ = some (.slice A0_10 l0_10.length c0_10) := (blk_cell BK200.out 10).trans rfl; have hcz14_11 : w12.cell? ⟨gb200, 11, none⟩ = some (.slice A0_11 l0_11.length c0_11) := (blk_cell BK200.out 11).trans rfl; have hcz14_12 : w12.cell? ⟨gb200, 12, none⟩ = some (.slice A0_12 l0_12.length c0_12) := (blk_cell BK200.out 12).trans rfl; have hcz14_13 : w12.cell? ⟨gb200, 13, none⟩ = some (.int .i64 a0_13) := (blk_cell BK200.out 13).trans rfl; have hfz14_0 := blk_frozen BK200.out 0; have hfz14_1 := blk_frozen BK200.out 1; have hfz14_2 := blk_frozen BK200.out 2; have hfz14_3 := blk_frozen BK200.out 3; have hfz14_4 := blk_frozen BK200.out 4; have hfz14_5 := blk_frozen BK200.out 5; have hfz14_6 := blk_frozen BK200.out 6; have hfz14_7 := blk_frozen BK200.out 7; have hfz14_8 := blk_frozen BK200.out 8; have hfz14_9 := blk_frozen BK200.out 9; have hfz14_10 := blk_frozen BK200.out 10; have hfz14_11 := blk_frozen BK200.out 11; have hfz14_12 := blk_frozen BK200.out 12; have hfz14_13 := blk_frozen BK200.out 13; have hcz15_0 : w12.cell? ⟨gb201, 0, none⟩ = some (.int .u16 a1_0) := (blk_cell BK201.out 0).trans rfl; have hcz15_1 : w12.cell? ⟨gb201, 1, none⟩ = some (.bool a1_1) := (blk_cell BK201.out 1).trans rfl; have hcz15_2 : w12.cell? ⟨gb201, 2, none⟩ = some (.int .i64 a1_2) := (blk_cell BK201.out 2).trans rfl; have hcz15_3 : w12.cell? ⟨gb201, 3, none⟩ = some (.bool a1_3) := (blk_cell BK201.out 3).trans rfl; have hcz15_4 : w12.cell? ⟨gb201, 4, none⟩ = some (.bool a1_4) := (blk_cell BK201.out 4).trans rfl; have hcz15_5 : w12.cell? ⟨gb201, 5, none⟩ = some (.bool a1_5) := (blk_cell BK201.out 5).trans rfl; have hcz15_6 : w12.cell? ⟨gb201, 6, none⟩ = some (.bool a1_6) := (blk_cell BK201.out 6).trans rfl; have hcz15_7 : w12.cell? ⟨gb201, 7, none⟩ = some (.int .i64 a1_7) := (blk_cell BK201.out 7).trans rfl; have hcz15_8 : w12.cell? ⟨gb201, 8, none⟩ = some (.string a1_8) := (blk_cell BK201.out 8).trans rfl; have hcz15_9 : w12.cell? ⟨gb201, 9, none⟩ = some (.int .u16 a1_9) := (blk_cell BK201.out 9).trans rfl; have hcz15_10 : w12.cell? ⟨gb201, 10, none⟩ = some (.slice A1_10 l1_10.length c1_10) := (blk_cell BK201.out 10).trans rfl; have hcz15_11 : w12.cell? ⟨gb201, 11, none⟩ = some (.slice A1_11 l1_11.length c1_11) := (blk_cell BK201.out 11).trans rfl; have hcz15_12 : w12.cell? ⟨gb201, 12, none⟩ = some (.slice A1_12 l1_12.length c1_12) := (blk_cell BK201.out 12).trans rfl; have hcz15_13 : w12.cell? ⟨gb201, 13, none⟩ = some (.int .i64 a1_13) := (blk_cell BK201.out 13).trans rfl; have hfz15_0 := blk_frozen BK201.out 0; have hfz15_1 := blk_frozen BK201.out 1; have hfz15_2 := blk_frozen BK201.out 2; have hfz15_3 := blk_frozen BK201.out 3; have hfz15_4 := blk_frozen BK201.out 4; have hfz15_5 := blk_frozen BK201.out 5; have hfz15_6 := blk_frozen BK201.out 6; have hfz15_7 := blk_frozen BK201.out 7; have hfz15_8 := blk_frozen BK201.out 8; have hfz15_9 := blk_frozen BK201.out 9; have hfz15_10 := blk_frozen BK201.out 10; have hfz15_11 := blk_frozen BK201.out 11; have hfz15_12 := blk_frozen BK201.out 12; have hfz15_13 := blk_frozen BK201.out 13) | (go_at_call 19; (with_reducible refine (bolterlaw05_SameRecords.calls k _ _ l0_10 _ _ l1_10 true _ ?side1 ?side2 ?side3 ?side4 A6.out).mono ?_); (case side1 => repeat (first | exact (Kd.C_below HR0_10.out HB.out) | (with_reducible refine Kd.C_alloc ?_ _) | (with_reducible refine Kd.C_drewN ?_ _) | (with_reducible refine Kd.C_drew ?_))); (case side2 => exact HC0_10.out); (case side3 => repeat (first | exact (Kd.C_below HR1_10.out HB.out) | (with_reducible refine Kd.C_alloc ?_ _) | (with_reducible refine Kd.C_drewN ?_ _) | (with_reducible refine Kd.C_drew ?_))); (case side4 => exact HC1_10.out); rintro e w' ⟨rfl, ⟨nd, rfl⟩⟩) | (go_at_call 19; (with_reducible refine (bolterlaw05_SameRecords.calls k _ _ l0_11 _ _ l1_11 true _ ?side1 ?side2 ?side3 ?side4 A8.out).mono ?_); (case side1 => repeat (first | exact (Kd.C_below HR0_11.out (by repeat (first | (with_reducible first | exact HB.out | apply below_alloc | apply pw_below_drewN | apply below_drew1 | refine below_set ?_ GE200.out | refine below_set ?_ GE201.out) | exact HB.out))) | (with_reducible refine Kd.C_alloc ?_ _) | (with_reducible refine Kd.C_drewN ?_ _) | (with_reducible refine Kd.C_drew ?_))); (case side2 => exact HC0_11.out); (case side3 => repeat (first | exact (Kd.C_below HR1_11.out (by repeat (first | (with_reducible first | exact HB.out | apply below_alloc | apply pw_below_drewN | apply below_drew1 | refine below_set ?_ GE200.out | refine below_set ?_ GE201.out) | exact HB.out))) | (with_reducible refine Kd.C_alloc ?_ _) | (with_reducible refine Kd.C_drewN ?_ _) | (with_reducible refine Kd.C_drew ?_))); (case side4 => exact HC1_11.out); rintro e w' ⟨rfl, ⟨nd, rfl⟩⟩) | (go_at_call 19; (with_reducible refine (bolterlaw05_SameRecords.calls k _ _ l0_12 _ _ l1_12 t204 _ ?side1 ?side2 ?side3 ?side4 A10.out).mono ?_); (case side1 => repeat (first | exact (Kd.C_below HR0_12.out (by repeat (first | (with_reducible first | exact HB.out | apply below_alloc | apply pw_below_drewN | apply below_drew1 | refine below_set ?_ GE200.out | refine below_set ?_ GE201.out) | exact HB.out))) | (with_reducible refine Kd.C_alloc ?_ _) | (with_reducible refine Kd.C_drewN ?_ _) | (with_reducible refine Kd.C_drew ?_))); (case side2 => exact HC0_12.out); (case side3 => repeat (first | exact (Kd.C_below HR1_12.out (by repeat (first | (with_reducible first | exact HB.out | apply below_alloc | apply pw_below_drewN | apply below_drew1 | refine below_set ?_ GE200.out | refine below_set ?_ GE201.out) | exact HB.out))) | (with_reducible refine Kd.C_alloc ?_ _) | (with_reducible refine Kd.C_drewN ?_ _) | (with_reducible refine Kd.C_drew ?_))); (case side4 => exact HC1_12.out); rintro e w' ⟨rfl, ⟨nd, rfl⟩⟩))
            go_ret
            exact ⟨by first | rfl | (simp [errW_none, errW_some] <;> rfl) | (simp [*, errW_none, errW_some] <;> rfl), by repeat (first | (with_reducible first | exact HB.out | apply below_alloc | apply pw_below_drewN | apply below_drew1 | refine below_set ?_ GE200.out | refine below_set ?_ GE201.out) | exact HB.out)⟩
          · replace c9 := Bool.eq_false_iff.mpr c9
            subst c9
            have H1 : (some false) = some r := by rw [if_neg (show ¬ (false = true) by decide)] at H; exact H
            clear H
            have H := H1
            clear H1
            obtain rfl := Option.some.inj H
            go_enter Tryd.func9, Tryd.ntmps9
            go_wp2_with (first | ((with_reducible refine gate_dst (N := 2) rfl ?_); refine box_event ?hg (N := 2) ?hd (cs := #[.int .u16 a0_0, .bool a0_1, .int .i64 a0_2, .bool a0_3, .bool a0_4, .bool a0_5, .bool a0_6, .int .i64 a0_7, .string a0_8, .int .u16 a0_9, .slice A0_10 l0_10.length c0_10, .slice A0_11 l0_11.length c0_11, .slice A0_12 l0_12.length c0_12, .int .i64 a0_13]) (t := 33) ?hr ?_; (case hd => rfl); (case hg => rfl); (case hr => first | (go_simp; done) | (go_simp; rfl)); intro gb200 hg w16 hbox hb; have n0_ := Aside0.mk (below_step (by repeat (first | (with_reducible first | exact HB.out | apply below_alloc | apply pw_below_drewN | apply below_drew1) | exact HB.out)) hb); have n1_ := Aside0.mk (hbox); have n2_ := Aside0.mk ((by rw [hg]; exact (below_size (by repeat (first | (with_reducible first | exact HB.out | apply below_alloc | apply pw_below_drewN | apply below_drew1) | exact HB.out))) : w.heap.size ≤ gb200)); have n3_ := Aside0.mk ((by rw [hg]; exact (below_size (by repeat (first | (with_reducible first | exact HB.out | apply below_alloc | apply pw_below_drewN | apply below_drew1) | exact HB.out))) : w.heap.size ≤ gb200)); clear HB; have HB := n0_; have BK200 := n1_; have GW200 := n2_; have GE200 := n3_; clear n0_ n1_ n2_ n3_; clear hb hbox hg) | ((with_reducible refine gate_dst (N := 3) rfl ?_); refine box_event ?hg (N := 3) ?hd (cs := #[.int .u16 a1_0, .bool a1_1, .int .i64 a1_2, .bool a1_3, .bool a1_4, .bool a1_5, .bool a1_6, .int .i64 a1_7, .string a1_8, .int .u16 a1_9, .slice A1_10 l1_10.length c1_10, .slice A1_11 l1_11.length c1_11, .slice A1_12 l1_12.length c1_12, .int .i64 a1_13]) (t := 33) ?hr ?_; (case hd => rfl); (case hg => rfl); (case hr => first | (go_simp; done) | (go_simp; rfl)); intro gb201 hg w17 hbox hb; have n0_ := Aside0.mk (blk_below (g := gb200) (o := .cells #[.int .u16 a0_0, .bool a0_1, .int .i64 a0_2, .bool a0_3, .bool a0_4, .bool a0_5, .bool a0_6, .int .i64 a0_7, .string a0_8, .int .u16 a0_9, .slice A0_10 l0_10.length c0_10, .slice A0_11 l0_11.length c0_11, .slice A0_12 l0_12.length c0_12, .int .i64 a0_13] 33 (0, 0)) (by (with_reducible repeat (first | refine blk_drewN ?_ _ | refine blk_drew ?_ | refine blk_alloc ?_ _)); exact BK200.out) hb); have n1_ := Aside0.mk (below_step (by repeat (first | (with_reducible first | exact HB.out | apply below_alloc | apply pw_below_drewN | apply below_drew1 | refine below_set ?_ GE200.out) | exact HB.out)) hb); have n2_ := Aside0.mk (hbox); have n3_ := Aside0.mk ((by rw [hg]; exact (below_size (by repeat (first | (with_reducible first | exact HB.out | apply below_alloc | apply pw_below_drewN | apply below_drew1 | refine below_set ?_ GE200.out) | exact HB.out))) : w.heap.size ≤ gb201)); have n4_ := Aside0.mk ((by rw [hg]; exact (below_size (by repeat (first | (with_reducible first | exact HB.out | apply below_alloc | apply pw_below_drewN | apply below_drew1 | refine below_set ?_ GE200.out) | exact HB.out))) : w.heap.size ≤ gb201)); have n5_ := Aside0.mk ((by rw [hg]; exact Nat.ne_of_lt (blk_lt (g := gb200) (o := .cells #[.int .u16 a0_0, .bool a0_1, .int .i64 a0_2, .bool a0_3, .bool a0_4, .bool a0_5, .bool a0_6, .int .i64 a0_7, .string a0_8, .int .u16 a0_9, .slice A0_10 l0_10.length c0_10, .slice A0_11 l0_11.length c0_11, .slice A0_12 l0_12.length c0_12, .int .i64 a0_13] 33 (0, 0)) (by (with_reducible repeat (first | refine blk_drewN ?_ _ | refine blk_drew ?_ | refine blk_alloc ?_ _)); exact BK200.out)) : gb200 ≠ gb201)); have n6_ := Aside0.mk ((by rw [hg]; exact Nat.ne_of_gt (blk_lt (g := gb200) (o := .cells #[.int .u16 a0_0, .bool a0_1, .int .i64 a0_2, .bool a0_3, .bool a0_4, .bool a0_5, .bool a0_6, .int .i64 a0_7, .string a0_8, .int .u16 a0_9, .slice A0_10 l0_10.length c0_10, .slice A0_11 l0_11.length c0_11, .slice A0_12 l0_12.length c0_12, .int .i64 a0_13] 33 (0, 0)) (by (with_reducible repeat (first | refine blk_drewN ?_ _ | refine blk_drew ?_ | refine blk_alloc ?_ _)); exact BK200.out)) : gb201 ≠ gb200)); clear BK200; clear HB; have BK200 := n0_; have HB := n1_; have BK201 := n2_; have GW201 := n3_; have GE201 := n4_; have NB200_201 := n5_; have NB201_200 := n6_; clear n0_ n1_ n2_ n3_ n4_ n5_ n6_; clear hb hbox hg; have hnb18 := NB200_201.out; have hnc18 := NB201_200.out; have hcz19_0 : w17.cell? ⟨gb200, 0, none⟩ = some (.int .u16 a0_0) := (blk_cell BK200.out 0).trans rfl; have hcz19_1 : w17.cell? ⟨gb200, 1, none⟩ = some (.bool a0_1) := (blk_cell BK200.out 1).trans rfl; have hcz19_2 : w17.cell? ⟨gb200, 2, none⟩ = some (.int .i64 a0_2) := (blk_cell BK200.out 2).trans rfl; have hcz19_3 : w17.cell? ⟨gb200, 3, none⟩ = some (.bool a0_3) := (blk_cell BK200.out 3).trans rfl; have hcz19_4 : w17.cell? ⟨gb200, 4, none⟩ = some (.bool a0_4) := (blk_cell BK200.out 4).trans rfl; have hcz19_5 : w17.cell? ⟨gb200, 5, none⟩ = some (.bool a0_5) := (blk_cell BK200.out 5).trans rfl; have hcz19_6 : w17.cell? ⟨gb200, 6, none⟩ = some (.bool a0_6) := (blk_cell BK200.out 6).trans rfl; have hcz19_7 : w17.cell? ⟨gb200, 7, none⟩ = some (.int .i64 a0_7) := (blk_cell BK200.out 7).trans rfl; have hcz19_8 : w17.cell? ⟨gb200, 8, none⟩ = some (.string a0_8) := (blk_cell BK200.out 8).trans rfl; have hcz19_9 : w17.cell? ⟨gb200, 9, none⟩ = some (.int .u16 a0_9) := (blk_cell BK200.out 9).trans rfl; have hcz19_10 : w17.cell? ⟨gb200, 10, none⟩ = some (.slice A0_10 l0_10.length c0_10) := (blk_cell BK200.out 10).trans rfl; have hcz19_11 : w17.cell? ⟨gb200, 11, none⟩ = some (.slice A0_11 l0_11.length c0_11) := (blk_cell BK200.out 11).trans rfl; have hcz19_12 : w17.cell? ⟨gb200, 12, none⟩ = some (.slice A0_12 l0_12.length c0_12) := (blk_cell BK200.out 12).trans rfl; have hcz19_13 : w17.cell? ⟨gb200, 13, none⟩ = some (.int .i64 a0_13) := (blk_cell BK200.out 13).trans rfl; have hfz19_0 := blk_frozen BK200.out 0; have hfz19_1 := blk_frozen BK200.out 1; have hfz19_2 := blk_frozen BK200.out 2; have hfz19_3 := blk_frozen BK200.out 3; have hfz19_4 := blk_frozen BK200.out 4; have hfz19_5 := blk_frozen BK200.out 5; have hfz19_6 := blk_frozen BK200.out 6; have hfz19_7 := blk_frozen BK200.out 7; have hfz19_8 := blk_frozen BK200.out 8; have hfz19_9 := blk_frozen BK200.out 9; have hfz19_10 := blk_frozen BK200.out 10; have hfz19_11 := blk_frozen BK200.out 11; have hfz19_12 := blk_frozen BK200.out 12; have hfz19_13 := blk_frozen BK200.out 13; have hcz20_0 : w17.cell? ⟨gb201, 0, none⟩ = some (.int .u16 a1_0) := (blk_cell BK201.out 0).trans rfl; have hcz20_1 : w17.cell? ⟨gb201, 1, none⟩ = some (.bool a1_1) := (blk_cell BK201.out 1).trans rfl; have hcz20_2 : w17.cell? ⟨gb201, 2, none⟩ = some (.int .i64 a1_2) := (blk_cell BK201.out 2).trans rfl; have hcz20_3 : w17.cell? ⟨gb201, 3, none⟩ = some (.bool a1_3) := (blk_cell BK201.out 3).trans rfl; have hcz20_4 : w17.cell? ⟨gb201, 4, none⟩ = some (.bool a1_4) := (blk_cell BK201.out 4).trans rfl; have hcz20_5 : w17.cell? ⟨gb201, 5, none⟩ = some (.bool a1_5) := (blk_cell BK201.out 5).trans rfl; have hcz20_6 : w17.cell? ⟨gb201, 6, none⟩ = some (.bool a1_6) := (blk_cell BK201.out 6).trans rfl; have hcz20_7 : w17.cell? ⟨gb201, 7, none⟩ = some (.int .i64 a1_7) := (blk_cell BK201.out 7).trans rfl; have hcz20_8 : w17.cell? ⟨gb201, 8, none⟩ = some (.string a1_8) := (blk_cell BK201.out 8).trans rfl; have hcz20_9 : w17.cell? ⟨gb201, 9, none⟩ = some (.int .u16 a1_9) := (blk_cell BK201.out 9).trans rfl; have hcz20_10 : w17.cell? ⟨gb201, 10, none⟩ = some (.slice A1_10 l1_10.length c1_10) := (blk_cell BK201.out 10).trans rfl; have hcz20_11 : w17.cell? ⟨gb201, 11, none⟩ = some (.slice A1_11 l1_11.length c1_11) := (blk_cell BK201.out 11).trans rfl; have hcz20_12 : w17.cell? ⟨gb201, 12, none⟩ = some (.slice A1_12 l1_12.length c1_12) := (blk_cell BK201.out 12).trans rfl; have hcz20_13 : w17.cell? ⟨gb201, 13, none⟩ = some (.int .i64 a1_13) := (blk_cell BK201.out 13).trans rfl; have hfz20_0 := blk_frozen BK201.out 0; have hfz20_1 := blk_frozen BK201.out 1; have hfz20_2 := blk_frozen BK201.out 2; have hfz20_3 := blk_frozen BK201.out 3; have hfz20_4 := blk_frozen BK201.out 4; have hfz20_5 := blk_frozen BK201.out 5; have hfz20_6 := blk_frozen BK201.out 6; have hfz20_7 := blk_frozen BK201.out 7; have hfz20_8 := blk_frozen BK201.out 8; have hfz20_9 := blk_frozen BK201.out 9; have hfz20_10 := blk_frozen BK201.out 10; have hfz20_11 := blk_frozen BK201.out 11; have hfz20_12 := blk_frozen BK201.out 12; have hfz20_13 := blk_frozen BK201.out 13) | (go_at_call 19; (with_reducible refine (bolterlaw05_SameRecords.calls k _ _ l0_10 _ _ l1_10 true _ ?side1 ?side2 ?side3 ?side4 A6.out).mono ?_); (case side1 => repeat (first | exact (Kd.C_below HR0_10.out HB.out) | (with_reducible refine Kd.C_alloc ?_ _) | (with_reducible refine Kd.C_drewN ?_ _) | (with_reducible refine Kd.C_drew ?_))); (case side2 => exact HC0_10.out); (case side3 => repeat (first | exact (Kd.C_below HR1_10.out HB.out) | (with_reducible refine Kd.C_alloc ?_ _) | (with_reducible refine Kd.C_drewN ?_ _) | (with_reducible refine Kd.C_drew ?_))); (case side4 => exact HC1_10.out); rintro e w' ⟨rfl, ⟨nd, rfl⟩⟩) | (go_at_call 19; (with_reducible refine (bolterlaw05_SameRecords.calls k _ _ l0_11 _ _ l1_11 false _ ?side1 ?side2 ?side3 ?side4 A8.out).mono ?_); (case side1 => repeat (first | exact (Kd.C_below HR0_11.out (by repeat (first | (with_reducible first | exact HB.out | apply below_alloc | apply pw_below_drewN | apply below_drew1 | refine below_set ?_ GE200.out | refine below_set ?_ GE201.out) | exact HB.out))) | (with_reducible refine Kd.C_alloc ?_ _) | (with_reducible refine Kd.C_drewN ?_ _) | (with_reducible refine Kd.C_drew ?_))); (case side2 => exact HC0_11.out); (case side3 => repeat (first | exact (Kd.C_below HR1_11.out (by repeat (first | (with_reducible first | exact HB.out | apply below_alloc | apply pw_below_drewN | apply below_drew1 | refine below_set ?_ GE200.out | refine below_set ?_ GE201.out) | exact HB.out))) | (with_reducible refine Kd.C_alloc ?_ _) | (with_reducible refine Kd.C_drewN ?_ _) | (with_reducible refine Kd.C_drew ?_))); (case side4 => exact HC1_11.out); rintro e w' ⟨rfl, ⟨nd, rfl⟩⟩))
            go_ret
            exact ⟨by first | rfl | (simp [errW_none, errW_some] <;> rfl) | (simp [*, errW_none, errW_some] <;> rfl), by repeat (first | (with_reducible first | exact HB.out | apply below_alloc | apply pw_below_drewN | apply below_drew1 | refine below_set ?_ GE200.out | refine below_set ?_ GE201.out) | exact HB.out)⟩
        · replace c7 := Bool.eq_false_iff.mpr c7
          subst c7
          have H1 : (some false) = some r := by rw [if_neg (show ¬ (false = true) by decide)] at H; exact H
          clear H
          have H := H1
          clear H1
          obtain rfl := Option.some.inj H
          go_enter Tryd.func9, Tryd.ntmps9
          go_wp2_with (first | ((with_reducible refine gate_dst (N := 2) rfl ?_); refine box_event ?hg (N := 2) ?hd (cs := #[.int .u16 a0_0, .bool a0_1, .int .i64 a0_2, .bool a0_3, .bool a0_4, .bool a0_5, .bool a0_6, .int .i64 a0_7, .string a0_8, .int .u16 a0_9, .slice A0_10 l0_10.length c0_10, .slice A0_11 l0_11.length c0_11, .slice A0_12 l0_12.length c0_12, .int .i64 a0_13]) (t := 33) ?hr ?_; (case hd => rfl); (case hg => rfl); (case hr => first | (go_simp; done) | (go_simp; rfl)); intro gb200 hg w21 hbox hb; have n0_ := Aside0.mk (below_step (by repeat (first | (with_reducible first | exact HB.out | apply below_alloc | apply pw_below_drewN | apply below_drew1) | exact HB.out)) hb); have n1_ := Aside0.mk (hbox); have n2_ := Aside0.mk ((by rw [hg]; exact (below_size (by repeat (first | (with_reducible first | exact HB.out | apply below_alloc | apply pw_below_drewN | apply below_drew1) | exact HB.out))) : w.heap.size ≤ gb200)); have n3_ := Aside0.mk ((by rw [hg]; exact (below_size (by repeat (first | (with_reducible first | exact HB.out | apply below_alloc | apply pw_below_drewN | apply below_drew1) | exact HB.out))) : w.heap.size ≤ gb200)); clear HB; have HB := n0_; have BK200 := n1_; have GW200 := n2_; have GE200 := n3_; clear n0_ n1_ n2_ n3_; clear hb hbox hg) | ((with_reducible refine gate_dst (N := 3) rfl ?_); refine box_event ?hg (N := 3) ?hd (cs := #[.int .u16 a1_0, .bool a1_1, .int .i64 a1_2, .bool a1_3, .bool a1_4, .bool a1_5, .bool a1_6, .int .i64 a1_7, .string a1_8, .int .u16 a1_9, .slice A1_10 l1_10.length c1_10, .slice A1_11 l1_11.length c1_11, .slice A1_12 l1_12.length c1_12, .int .i64 a1_13]) (t := 33) ?hr ?_; (case hd => rfl); (case hg => rfl); (case hr => first | (go_simp; done) | (go_simp; rfl)); intro gb201 hg w22 hbox hb; have n0_ := Aside0.mk (blk_below (g := gb200) (o := .cells #[.int .u16 a0_0, .bool a0_1, .int .i64 a0_2, .bool a0_3, .bool a0_4, .bool a0_5, .bool a0_6, .int .i64 a0_7, .string a0_8, .int .u16 a0_9, .slice A0_10 l0_10.length c0_10, .slice A0_11 l0_11.length c0_11, .slice A0_12 l0_12.length c0_12, .int .i64 a0_13] 33 (0, 0)) (by (with_reducible repeat (first | refine blk_drewN ?_ _ | refine blk_drew ?_ | refine blk_alloc ?_ _)); exact BK200.out) hb); have n1_ := Aside0.mk (below_step (by repeat (first | (with_reducible first | exact HB.out | apply below_alloc | apply pw_below_drewN | apply below_drew1 | refine below_set ?_ GE200.out) | exact HB.out)) hb); have n2_ := Aside0.mk (hbox); have n3_ := Aside0.mk ((by rw [hg]; exact (below_size (by repeat (first | (with_reducible first | exact HB.out | apply below_alloc | apply pw_below_drewN | apply below_drew1 | refine below_set ?_ GE200.out) | exact HB.out))) : w.heap.size ≤ gb201)); have n4_ := Aside0.mk ((by rw [hg]; exact (below_size (by repeat (first | (with_reducible first | exact HB.out | apply below_alloc | apply pw_below_drewN | apply below_drew1 | refine below_set ?_ GE200.out) | exact HB.out))) : w.heap.size ≤ gb201)); have n5_ := Aside0.mk ((by rw [hg]; exact Nat.ne_of_lt (blk_lt (g := gb200) (o := .cells #[.int .u16 a0_0, .bool a0_1, .int .i64 a0_2, .bool a0_3, .bool a0_4, .bool a0_5, .bool a0_6, .int .i64 a0_7, .string a0_8, .int .u16 a0_9, .slice A0_10 l0_10.length c0_10, .slice A0_11 l0_11.length c0_11, .slice A0_12 l0_12.length c0_12, .int .i64 a0_13] 33 (0, 0)) (by (with_reducible repeat (first | refine blk_drewN ?_ _ | refine blk_drew ?_ | refine blk_alloc ?_ _)); exact BK200.out)) : gb200 ≠ gb201)); have n6_ := Aside0.mk ((by rw [hg]; exact Nat.ne_of_gt (blk_lt (g := gb200) (o := .cells #[.int .u16 a0_0, .bool a0_1, .int .i64 a0_2, .bool a0_3, .bool a0_4, .bool a0_5, .bool a0_6, .int .i64 a0_7, .string a0_8, .int .u16 a0_9, .slice A0_10 l0_10.length c0_10, .slice A0_11 l0_11.length c0_11, .slice A0_12 l0_12.length c0_12, .int .i64 a0_13] 33 (0, 0)) (by (with_reducible repeat (first | refine blk_drewN ?_ _ | refine blk_drew ?_ | refine blk_alloc ?_ _)); exact BK200.out)) : gb201 ≠ gb200)); clear BK200; clear HB; have BK200 := n0_; have HB := n1_; have BK201 := n2_; have GW201 := n3_; have GE201 := n4_; have NB200_201 := n5_; have NB201_200 := n6_; clear n0_ n1_ n2_ n3_ n4_ n5_ n6_; clear hb hbox hg; have hnb23 := NB200_201.out; have hnc23 := NB201_200.out; have hcz24_0 : w22.cell? ⟨gb200, 0, none⟩ = some (.int .u16 a0_0) := (blk_cell BK200.out 0).trans rfl; have hcz24_1 : w22.cell? ⟨gb200, 1, none⟩ = some (.bool a0_1) := (blk_cell BK200.out 1).trans rfl; have hcz24_2 : w22.cell? ⟨gb200, 2, none⟩ = some (.int .i64 a0_2) := (blk_cell BK200.out 2).trans rfl; have hcz24_3 : w22.cell? ⟨gb200, 3, none⟩ = some (.bool a0_3) := (blk_cell BK200.out 3).trans rfl; have hcz24_4 : w22.cell? ⟨gb200, 4, none⟩ = some (.bool a0_4) := (blk_cell BK200.out 4).trans rfl; have hcz24_5 : w22.cell? ⟨gb200, 5, none⟩ = some (.bool a0_5) := (blk_cell BK200.out 5).trans rfl; have hcz24_6 : w22.cell? ⟨gb200, 6, none⟩ = some (.bool a0_6) := (blk_cell BK200.out 6).trans rfl; have hcz24_7 : w22.cell? ⟨gb200, 7, none⟩ = some (.int .i64 a0_7) := (blk_cell BK200.out 7).trans rfl; have hcz24_8 : w22.cell? ⟨gb200, 8, none⟩ = some (.string a0_8) := (blk_cell BK200.out 8).trans rfl; have hcz24_9 : w22.cell? ⟨gb200, 9, none⟩ = some (.int .u16 a0_9) := (blk_cell BK200.out 9).trans rfl; have hcz24_10 : w22.cell? ⟨gb200, 10, none⟩ = some (.slice A0_10 l0_10.length c0_10) := (blk_cell BK200.out 10).trans rfl; have hcz24_11 : w22.cell? ⟨gb200, 11, none⟩ = some (.slice A0_11 l0_11.length c0_11) := (blk_cell BK200.out 11).trans rfl; have hcz24_12 : w22.cell? ⟨gb200, 12, none⟩ = some (.slice A0_12 l0_12.length c0_12) := (blk_cell BK200.out 12).trans rfl; have hcz24_13 : w22.cell? ⟨gb200, 13, none⟩ = some (.int .i64 a0_13) := (blk_cell BK200.out 13).trans rfl; have hfz24_0 := blk_frozen BK200.out 0; have hfz24_1 := blk_frozen BK200.out 1; have hfz24_2 := blk_frozen BK200.out 2; have hfz24_3 := blk_frozen BK200.out 3; have hfz24_4 := blk_frozen BK200.out 4; have hfz24_5 := blk_frozen BK200.out 5; have hfz24_6 := blk_frozen BK200.out 6; have hfz24_7 := blk_frozen BK200.out 7; have hfz24_8 := blk_frozen BK200.out 8; have hfz24_9 := blk_frozen BK200.out 9; have hfz24_10 := blk_frozen BK200.out 10; have hfz24_11 := blk_frozen BK200.out 11; have hfz24_12 := blk_frozen BK200.out 12; have hfz24_13 := blk_frozen BK200.out 13; have hcz25_0 : w22.cell? ⟨gb201, 0, none⟩ = some (.int .u16 a1_0) := (blk_cell BK201.out 0).trans rfl; have hcz25_1 : w22.cell? ⟨gb201, 1, none⟩ = some (.bool a1_1) := (blk_cell BK201.out 1).trans rfl; have hcz25_2 : w22.cell? ⟨gb201, 2, none⟩ = some (.int .i64 a1_2) := (blk_cell BK201.out 2).trans rfl; have hcz25_3 : w22.cell? ⟨gb201, 3, none⟩ = some (.bool a1_3) := (blk_cell BK201.out 3).trans rfl; have hcz25_4 : w22.cell? ⟨gb201, 4, none⟩ = some (.bool a1_4) := (blk_cell BK201.out 4).trans rfl; have hcz25_5 : w22.cell? ⟨gb201, 5, none⟩ = some (.bool a1_5) := (blk_cell BK201.out 5).trans rfl; have hcz25_6 : w22.cell? ⟨gb201, 6, none⟩ = some (.bool a1_6) := (blk_cell BK201.out 6).trans rfl; have hcz25_7 : w22.cell? ⟨gb201, 7, none⟩ = some (.int .i64 a1_7) := (blk_cell BK201.out 7).trans rfl; have hcz25_8 : w22.cell? ⟨gb201, 8, none⟩ = some (.string a1_8) := (blk_cell BK201.out 8).trans rfl; have hcz25_9 : w22.cell? ⟨gb201, 9, none⟩ = some (.int .u16 a1_9) := (blk_cell BK201.out 9).trans rfl; have hcz25_10 : w22.cell? ⟨gb201, 10, none⟩ = some (.slice A1_10 l1_10.length c1_10) := (blk_cell BK201.out 10).trans rfl; have hcz25_11 : w22.cell? ⟨gb201, 11, none⟩ = some (.slice A1_11 l1_11.length c1_11) := (blk_cell BK201.out 11).trans rfl; have hcz25_12 : w22.cell? ⟨gb201, 12, none⟩ = some (.slice A1_12 l1_12.length c1_12) := (blk_cell BK201.out 12).trans rfl; have hcz25_13 : w22.cell? ⟨gb201, 13, none⟩ = some (.int .i64 a1_13) := (blk_cell BK201.out 13).trans rfl; have hfz25_0 := blk_frozen BK201.out 0; have hfz25_1 := blk_frozen BK201.out 1; have hfz25_2 := blk_frozen BK201.out 2; have hfz25_3 := blk_frozen BK201.out 3; have hfz25_4 := blk_frozen BK201.out 4; have hfz25_5 := blk_frozen BK201.out 5; have hfz25_6 := blk_frozen BK201.out 6; have hfz25_7 := blk_frozen BK201.out 7; have hfz25_8 := blk_frozen BK201.out 8; have hfz25_9 := blk_frozen BK201.out 9; have hfz25_10 := blk_frozen BK201.out 10; have hfz25_11 := blk_frozen BK201.out 11; have hfz25_12 := blk_frozen BK201.out 12; have hfz25_13 := blk_frozen BK201.out 13) | (go_at_call 19; (with_reducible refine (bolterlaw05_SameRecords.calls k _ _ l0_10 _ _ l1_10 false _ ?side1 ?side2 ?side3 ?side4 A6.out).mono ?_); (case side1 => repeat (first | exact (Kd.C_below HR0_10.out HB.out) | (with_reducible refine Kd.C_alloc ?_ _) | (with_reducible refine Kd.C_drewN ?_ _) | (with_reducible refine Kd.C_drew ?_))); (case side2 => exact HC0_10.out); (case side3 => repeat (first | exact (Kd.C_below HR1_10.out HB.out) | (with_reducible refine Kd.C_alloc ?_ _) | (with_reducible refine Kd.C_drewN ?_ _) | (with_reducible refine Kd.C_drew ?_))); (case side4 => exact HC1_10.out); rintro e w' ⟨rfl, ⟨nd, rfl⟩⟩))
          go_ret
          exact ⟨by first | rfl | (simp [errW_none, errW_some] <;> rfl) | (simp [*, errW_none, errW_some] <;> rfl), by repeat (first | (with_reducible first | exact HB.out | apply below_alloc | apply pw_below_drewN | apply below_drew1 | refine below_set ?_ GE200.out | refine below_set ?_ GE201.out) | exact HB.out)⟩
      · rw [if_neg c5] at H
        have c5b0 : (a0_13 == a1_13) = false := beq_eq_false_iff_ne.mpr c5
        have c5b1 : (a0_13 != a1_13) = true := bne_iff_ne.mpr c5
        obtain rfl := Option.some.inj H
        go_enter Tryd.func9, Tryd.ntmps9
        go_wp2_with (first | ((with_reducible refine gate_dst (N := 2) rfl ?_); refine box_event ?hg (N := 2) ?hd (cs := #[.int .u16 a0_0, .bool a0_1, .int .i64 a0_2, .bool a0_3, .bool a0_4, .bool a0_5, .bool a0_6, .int .i64 a0_7, .string a0_8, .int .u16 a0_9, .slice A0_10 l0_10.length c0_10, .slice A0_11 l0_11.length c0_11, .slice A0_12 l0_12.length c0_12, .int .i64 a0_13]) (t := 33) ?hr ?_; (case hd => rfl); (case hg => rfl); (case hr => first | (go_simp; done) | (go_simp; rfl)); intro gb200 hg w26 hbox hb; have n0_ := Aside0.mk (below_step (by repeat (first | (with_reducible first | exact HB.out | apply below_alloc | apply pw_below_drewN | apply below_drew1) | exact HB.out)) hb); have n1_ := Aside0.mk (hbox); have n2_ := Aside0.mk ((by rw [hg]; exact (below_size (by repeat (first | (with_reducible first | exact HB.out | apply below_alloc | apply pw_below_drewN | apply below_drew1) | exact HB.out))) : w.heap.size ≤ gb200)); have n3_ := Aside0.mk ((by rw [hg]; exact (below_size (by repeat (first | (with_reducible first | exact HB.out | apply below_alloc | apply pw_below_drewN | apply below_drew1) | exact HB.out))) : w.heap.size ≤ gb200)); clear HB; have HB := n0_; have BK200 := n1_; have GW200 := n2_; have GE200 := n3_; clear n0_ n1_ n2_ n3_; clear hb hbox hg) | ((with_reducible refine gate_dst (N := 3) rfl ?_); refine box_event ?hg (N := 3) ?hd (cs := #[.int .u16 a1_0, .bool a1_1, .int .i64 a1_2, .bool a1_3, .bool a1_4, .bool a1_5, .bool a1_6, .int .i64 a1_7, .string a1_8, .int .u16 a1_9, .slice A1_10 l1_10.length c1_10, .slice A1_11 l1_11.length c1_11, .slice A1_12 l1_12.length c1_12, .int .i64 a1_13]) (t := 33) ?hr ?_; (case hd => rfl); (case hg => rfl); (case hr => first | (go_simp; done) | (go_simp; rfl)); intro gb201 hg w27 hbox hb; have n0_ := Aside0.mk (blk_below (g := gb200) (o := .cells #[.int .u16 a0_0, .bool a0_1, .int .i64 a0_2, .bool a0_3, .bool a0_4, .bool a0_5, .bool a0_6, .int .i64 a0_7, .string a0_8, .int .u16 a0_9, .slice A0_10 l0_10.length c0_10, .slice A0_11 l0_11.length c0_11, .slice A0_12 l0_12.length c0_12, .int .i64 a0_13] 33 (0, 0)) (by (with_reducible repeat (first | refine blk_drewN ?_ _ | refine blk_drew ?_ | refine blk_alloc ?_ _)); exact BK200.out) hb); have n1_ := Aside0.mk (below_step (by repeat (first | (with_reducible first | exact HB.out | apply below_alloc | apply pw_below_drewN | apply below_drew1 | refine below_set ?_ GE200.out) | exact HB.out)) hb); have n2_ := Aside0.mk (hbox); have n3_ := Aside0.mk ((by rw [hg]; exact (below_size (by repeat (first | (with_reducible first | exact HB.out | apply below_alloc | apply pw_below_drewN | apply below_drew1 | refine below_set ?_ GE200.out) | exact HB.out))) : w.heap.size ≤ gb201)); have n4_ := Aside0.mk ((by rw [hg]; exact (below_size (by repeat (first | (with_reducible first | exact HB.out | apply below_alloc | apply pw_below_drewN | apply below_drew1 | refine below_set ?_ GE200.out) | exact HB.out))) : w.heap.size ≤ gb201)); have n5_ := Aside0.mk ((by rw [hg]; exact Nat.ne_of_lt (blk_lt (g := gb200) (o := .cells #[.int .u16 a0_0, .bool a0_1, .int .i64 a0_2, .bool a0_3, .bool a0_4, .bool a0_5, .bool a0_6, .int .i64 a0_7, .string a0_8, .int .u16 a0_9, .slice A0_10 l0_10.length c0_10, .slice A0_11 l0_11.length c0_11, .slice A0_12 l0_12.length c0_12, .int .i64 a0_13] 33 (0, 0)) (by (with_reducible repeat (first | refine blk_drewN ?_ _ | refine blk_drew ?_ | refine blk_alloc ?_ _)); exact BK200.out)) : gb200 ≠ gb201)); have n6_ := Aside0.mk ((by rw [hg]; exact Nat.ne_of_gt (blk_lt (g := gb200) (o := .cells #[.int .u16 a0_0, .bool a0_1, .int .i64 a0_2, .bool a0_3, .bool a0_4, .bool a0_5, .bool a0_6, .int .i64 a0_7, .string a0_8, .int .u16 a0_9, .slice A0_10 l0_10.length c0_10, .slice A0_11 l0_11.length c0_11, .slice A0_12 l0_12.length c0_12, .int .i64 a0_13] 33 (0, 0)) (by (with_reducible repeat (first | refine blk_drewN ?_ _ | refine blk_drew ?_ | refine blk_alloc ?_ _)); exact BK200.out)) : gb201 ≠ gb200)); clear BK200; clear HB; have BK200 := n0_; have HB := n1_; have BK201 := n2_; have GW201 := n3_; have GE201 := n4_; have NB200_201 := n5_; have NB201_200 := n6_; clear n0_ n1_ n2_ n3_ n4_ n5_ n6_; clear hb hbox hg; have hnb28 := NB200_201.out; have hnc28 := NB201_200.out; have hcz29_0 : w27.cell? ⟨gb200, 0, none⟩ = some (.int .u16 a0_0) := (blk_cell BK200.out 0).trans rfl; have hcz29_1 : w27.cell? ⟨gb200, 1, none⟩ = some (.bool a0_1) := (blk_cell BK200.out 1).trans rfl; have hcz29_2 : w27.cell? ⟨gb200, 2, none⟩ = some (.int .i64 a0_2) := (blk_cell BK200.out 2).trans rfl; have hcz29_3 : w27.cell? ⟨gb200, 3, none⟩ = some (.bool a0_3) := (blk_cell BK200.out 3).trans rfl; have hcz29_4 : w27.cell? ⟨gb200, 4, none⟩ = some (.bool a0_4) := (blk_cell BK200.out 4).trans rfl; have hcz29_5 : w27.cell? ⟨gb200, 5, none⟩ = some (.bool a0_5) := (blk_cell BK200.out 5).trans rfl; have hcz29_6 : w27.cell? ⟨gb200, 6, none⟩ = some (.bool a0_6) := (blk_cell BK200.out 6).trans rfl; have hcz29_7 : w27.cell? ⟨gb200, 7, none⟩ = some (.int .i64 a0_7) := (blk_cell BK200.out 7).trans rfl; have hcz29_8 : w27.cell? ⟨gb200, 8, none⟩ = some (.string a0_8) := (blk_cell BK200.out 8).trans rfl; have hcz29_9 : w27.cell? ⟨gb200, 9, none⟩ = some (.int .u16 a0_9) := (blk_cell BK200.out 9).trans rfl; have hcz29_10 : w27.cell? ⟨gb200, 10, none⟩ = some (.slice A0_10 l0_10.length c0_10) := (blk_cell BK200.out 10).trans rfl; have hcz29_11 : w27.cell? ⟨gb200, 11, none⟩ = some (.slice A0_11 l0_11.length c0_11) := (blk_cell BK200.out 11).trans rfl; have hcz29_12 : w27.cell? ⟨gb200, 12, none⟩ = some (.slice A0_12 l0_12.length c0_12) := (blk_cell BK200.out 12).trans rfl; have hcz29_13 : w27.cell? ⟨gb200, 13, none⟩ = some (.int .i64 a0_13) := (blk_cell BK200.out 13).trans rfl; have hfz29_0 := blk_frozen BK200.out 0; have hfz29_1 := blk_frozen BK200.out 1; have hfz29_2 := blk_frozen BK200.out 2; have hfz29_3 := blk_frozen BK200.out 3; have hfz29_4 := blk_frozen BK200.out 4; have hfz29_5 := blk_frozen BK200.out 5; have hfz29_6 := blk_frozen BK200.out 6; have hfz29_7 := blk_frozen BK200.out 7; have hfz29_8 := blk_frozen BK200.out 8; have hfz29_9 := blk_frozen BK200.out 9; have hfz29_10 := blk_frozen BK200.out 10; have hfz29_11 := blk_frozen BK200.out 11; have hfz29_12 := blk_frozen BK200.out 12; have hfz29_13 := blk_frozen BK200.out 13; have hcz30_0 : w27.cell? ⟨gb201, 0, none⟩ = some (.int .u16 a1_0) := (blk_cell BK201.out 0).trans rfl; have hcz30_1 : w27.cell? ⟨gb201, 1, none⟩ = some (.bool a1_1) := (blk_cell BK201.out 1).trans rfl; have hcz30_2 : w27.cell? ⟨gb201, 2, none⟩ = some (.int .i64 a1_2) := (blk_cell BK201.out 2).trans rfl; have hcz30_3 : w27.cell? ⟨gb201, 3, none⟩ = some (.bool a1_3) := (blk_cell BK201.out 3).trans rfl; have hcz30_4 : w27.cell? ⟨gb201, 4, none⟩ = some (.bool a1_4) := (blk_cell BK201.out 4).trans rfl; have hcz30_5 : w27.cell? ⟨gb201, 5, none⟩ = some (.bool a1_5) := (blk_cell BK201.out 5).trans rfl; have hcz30_6 : w27.cell? ⟨gb201, 6, none⟩ = some (.bool a1_6) := (blk_cell BK201.out 6).trans rfl; have hcz30_7 : w27.cell? ⟨gb201, 7, none⟩ = some (.int .i64 a1_7) := (blk_cell BK201.out 7).trans rfl; have hcz30_8 : w27.cell? ⟨gb201, 8, none⟩ = some (.string a1_8) := (blk_cell BK201.out 8).trans rfl; have hcz30_9 : w27.cell? ⟨gb201, 9, none⟩ = some (.int .u16 a1_9) := (blk_cell BK201.out 9).trans rfl; have hcz30_10 : w27.cell? ⟨gb201, 10, none⟩ = some (.slice A1_10 l1_10.length c1_10) := (blk_cell BK201.out 10).trans rfl; have hcz30_11 : w27.cell? ⟨gb201, 11, none⟩ = some (.slice A1_11 l1_11.length c1_11) := (blk_cell BK201.out 11).trans rfl; have hcz30_12 : w27.cell? ⟨gb201, 12, none⟩ = some (.slice A1_12 l1_12.length c1_12) := (blk_cell BK201.out 12).trans rfl; have hcz30_13 : w27.cell? ⟨gb201, 13, none⟩ = some (.int .i64 a1_13) := (blk_cell BK201.out 13).trans rfl; have hfz30_0 := blk_frozen BK201.out 0; have hfz30_1 := blk_frozen BK201.out 1; have hfz30_2 := blk_frozen BK201.out 2; have hfz30_3 := blk_frozen BK201.out 3; have hfz30_4 := blk_frozen BK201.out 4; have hfz30_5 := blk_frozen BK201.out 5; have hfz30_6 := blk_frozen BK201.out 6; have hfz30_7 := blk_frozen BK201.out 7; have hfz30_8 := blk_frozen BK201.out 8; have hfz30_9 := blk_frozen BK201.out 9; have hfz30_10 := blk_frozen BK201.out 10; have hfz30_11 := blk_frozen BK201.out 11; have hfz30_12 := blk_frozen BK201.out 12; have hfz30_13 := blk_frozen BK201.out 13))
        go_ret
        exact ⟨by first | rfl | (simp [errW_none, errW_some] <;> rfl) | (simp [*, errW_none, errW_some] <;> rfl), by repeat (first | (with_reducible first | exact HB.out | apply below_alloc | apply pw_below_drewN | apply below_drew1 | refine below_set ?_ GE200.out | refine below_set ?_ GE201.out) | exact HB.out)⟩
    · rw [if_neg c4] at H
      have c4b0 : (a0_8.toList == a1_8.toList && (a0_9 == a1_9)) = false := by simpa using c4
      (try (have c4b1 : decide (a0_8.toList = a1_8.toList && (a0_9 == a1_9)) = false := by simpa using c4))
      (try (have c4b2 : (a0_8.toList == a1_8.toList && (a0_9 == a1_9)) = false := by simpa using c4))
      (try (have c4b3 : ¬ (a0_8.toList = a1_8.toList && (a0_9 == a1_9)) := by simpa using c4))
      clear c4
      obtain rfl := Option.some.inj H
      go_enter Tryd.func9, Tryd.ntmps9
      go_wp2_with (first | ((with_reducible refine gate_dst (N := 2) rfl ?_); refine box_event ?hg (N := 2) ?hd (cs := #[.int .u16 a0_0, .bool a0_1, .int .i64 a0_2, .bool a0_3, .bool a0_4, .bool a0_5, .bool a0_6, .int .i64 a0_7, .string a0_8, .int .u16 a0_9, .slice A0_10 l0_10.length c0_10, .slice A0_11 l0_11.length c0_11, .slice A0_12 l0_12.length c0_12, .int .i64 a0_13]) (t := 33) ?hr ?_; (case hd => rfl); (case hg => rfl); (case hr => first | (go_simp; done) | (go_simp; rfl)); intro gb200 hg w31 hbox hb; have n0_ := Aside0.mk (below_step (by repeat (first | (with_reducible first | exact HB.out | apply below_alloc | apply pw_below_drewN | apply below_drew1) | exact HB.out)) hb); have n1_ := Aside0.mk (hbox); have n2_ := Aside0.mk ((by rw [hg]; exact (below_size (by repeat (first | (with_reducible first | exact HB.out | apply below_alloc | apply pw_below_drewN | apply below_drew1) | exact HB.out))) : w.heap.size ≤ gb200)); have n3_ := Aside0.mk ((by rw [hg]; exact (below_size (by repeat (first | (with_reducible first | exact HB.out | apply below_alloc | apply pw_below_drewN | apply below_drew1) | exact HB.out))) : w.heap.size ≤ gb200)); clear HB; have HB := n0_; have BK200 := n1_; have GW200 := n2_; have GE200 := n3_; clear n0_ n1_ n2_ n3_; clear hb hbox hg) | ((with_reducible refine gate_dst (N := 3) rfl ?_); refine box_event ?hg (N := 3) ?hd (cs := #[.int .u16 a1_0, .bool a1_1, .int .i64 a1_2, .bool a1_3, .bool a1_4, .bool a1_5, .bool a1_6, .int .i64 a1_7, .string a1_8, .int .u16 a1_9, .slice A1_10 l1_10.length c1_10, .slice A1_11 l1_11.length c1_11, .slice A1_12 l1_12.length c1_12, .int .i64 a1_13]) (t := 33) ?hr ?_; (case hd => rfl); (case hg => rfl); (case hr => first | (go_simp; done) | (go_simp; rfl)); intro gb201 hg w32 hbox hb; have n0_ := Aside0.mk (blk_below (g := gb200) (o := .cells #[.int .u16 a0_0, .bool a0_1, .int .i64 a0_2, .bool a0_3, .bool a0_4, .bool a0_5, .bool a0_6, .int .i64 a0_7, .string a0_8, .int .u16 a0_9, .slice A0_10 l0_10.length c0_10, .slice A0_11 l0_11.length c0_11, .slice A0_12 l0_12.length c0_12, .int .i64 a0_13] 33 (0, 0)) (by (with_reducible repeat (first | refine blk_drewN ?_ _ | refine blk_drew ?_ | refine blk_alloc ?_ _)); exact BK200.out) hb); have n1_ := Aside0.mk (below_step (by repeat (first | (with_reducible first | exact HB.out | apply below_alloc | apply pw_below_drewN | apply below_drew1 | refine below_set ?_ GE200.out) | exact HB.out)) hb); have n2_ := Aside0.mk (hbox); have n3_ := Aside0.mk ((by rw [hg]; exact (below_size (by repeat (first | (with_reducible first | exact HB.out | apply below_alloc | apply pw_below_drewN | apply below_drew1 | refine below_set ?_ GE200.out) | exact HB.out))) : w.heap.size ≤ gb201)); have n4_ := Aside0.mk ((by rw [hg]; exact (below_size (by repeat (first | (with_reducible first | exact HB.out | apply below_alloc | apply pw_below_drewN | apply below_drew1 | refine below_set ?_ GE200.out) | exact HB.out))) : w.heap.size ≤ gb201)); have n5_ := Aside0.mk ((by rw [hg]; exact Nat.ne_of_lt (blk_lt (g := gb200) (o := .cells #[.int .u16 a0_0, .bool a0_1, .int .i64 a0_2, .bool a0_3, .bool a0_4, .bool a0_5, .bool a0_6, .int .i64 a0_7, .string a0_8, .int .u16 a0_9, .slice A0_10 l0_10.length c0_10, .slice A0_11 l0_11.length c0_11, .slice A0_12 l0_12.length c0_12, .int .i64 a0_13] 33 (0, 0)) (by (with_reducible repeat (first | refine blk_drewN ?_ _ | refine blk_drew ?_ | refine blk_alloc ?_ _)); exact BK200.out)) : gb200 ≠ gb201)); have n6_ := Aside0.mk ((by rw [hg]; exact Nat.ne_of_gt (blk_lt (g := gb200) (o := .cells #[.int .u16 a0_0, .bool a0_1, .int .i64 a0_2, .bool a0_3, .bool a0_4, .bool a0_5, .bool a0_6, .int .i64 a0_7, .string a0_8, .int .u16 a0_9, .slice A0_10 l0_10.length c0_10, .slice A0_11 l0_11.length c0_11, .slice A0_12 l0_12.length c0_12, .int .i64 a0_13] 33 (0, 0)) (by (with_reducible repeat (first | refine blk_drewN ?_ _ | refine blk_drew ?_ | refine blk_alloc ?_ _)); exact BK200.out)) : gb201 ≠ gb200)); clear BK200; clear HB; have BK200 := n0_; have HB := n1_; have BK201 := n2_; have GW201 := n3_; have GE201 := n4_; have NB200_201 := n5_; have NB201_200 := n6_; clear n0_ n1_ n2_ n3_ n4_ n5_ n6_; clear hb hbox hg; have hnb33 := NB200_201.out; have hnc33 := NB201_200.out; have hcz34_0 : w32.cell? ⟨gb200, 0, none⟩ = some (.int .u16 a0_0) := (blk_cell BK200.out 0).trans rfl; have hcz34_1 : w32.cell? ⟨gb200, 1, none⟩ = some (.bool a0_1) := (blk_cell BK200.out 1).trans rfl; have hcz34_2 : w32.cell? ⟨gb200, 2, none⟩ = some (.int .i64 a0_2) := (blk_cell BK200.out 2).trans rfl; have hcz34_3 : w32.cell? ⟨gb200, 3, none⟩ = some (.bool a0_3) := (blk_cell BK200.out 3).trans rfl; have hcz34_4 : w32.cell? ⟨gb200, 4, none⟩ = some (.bool a0_4) := (blk_cell BK200.out 4).trans rfl; have hcz34_5 : w32.cell? ⟨gb200, 5, none⟩ = some (.bool a0_5) := (blk_cell BK200.out 5).trans rfl; have hcz34_6 : w32.cell? ⟨gb200, 6, none⟩ = some (.bool a0_6) := (blk_cell BK200.out 6).trans rfl; have hcz34_7 : w32.cell? ⟨gb200, 7, none⟩ = some (.int .i64 a0_7) := (blk_cell BK200.out 7).trans rfl; have hcz34_8 : w32.cell? ⟨gb200, 8, none⟩ = some (.string a0_8) := (blk_cell BK200.out 8).trans rfl; have hcz34_9 : w32.cell? ⟨gb200, 9, none⟩ = some (.int .u16 a0_9) := (blk_cell BK200.out 9).trans rfl; have hcz34_10 : w32.cell? ⟨gb200, 10, none⟩ = some (.slice A0_10 l0_10.length c0_10) := (blk_cell BK200.out 10).trans rfl; have hcz34_11 : w32.cell? ⟨gb200, 11, none⟩ = some (.slice A0_11 l0_11.length c0_11) := (blk_cell BK200.out 11).trans rfl; have hcz34_12 : w32.cell? ⟨gb200, 12, none⟩ = some (.slice A0_12 l0_12.length c0_12) := (blk_cell BK200.out 12).trans rfl; have hcz34_13 : w32.cell? ⟨gb200, 13, none⟩ = some (.int .i64 a0_13) := (blk_cell BK200.out 13).trans rfl; have hfz34_0 := blk_frozen BK200.out 0; have hfz34_1 := blk_frozen BK200.out 1; have hfz34_2 := blk_frozen BK200.out 2; have hfz34_3 := blk_frozen BK200.out 3; have hfz34_4 := blk_frozen BK200.out 4; have hfz34_5 := blk_frozen BK200.out 5; have hfz34_6 := blk_frozen BK200.out 6; have hfz34_7 := blk_frozen BK200.out 7; have hfz34_8 := blk_frozen BK200.out 8; have hfz34_9 := blk_frozen BK200.out 9; have hfz34_10 := blk_frozen BK200.out 10; have hfz34_11 := blk_frozen BK200.out 11; have hfz34_12 := blk_frozen BK200.out 12; have hfz34_13 := blk_frozen BK200.out 13; have hcz35_0 : w32.cell? ⟨gb201, 0, none⟩ = some (.int .u16 a1_0) := (blk_cell BK201.out 0).trans rfl; have hcz35_1 : w32.cell? ⟨gb201, 1, none⟩ = some (.bool a1_1) := (blk_cell BK201.out 1).trans rfl; have hcz35_2 : w32.cell? ⟨gb201, 2, none⟩ = some (.int .i64 a1_2) := (blk_cell BK201.out 2).trans rfl; have hcz35_3 : w32.cell? ⟨gb201, 3, none⟩ = some (.bool a1_3) := (blk_cell BK201.out 3).trans rfl; have hcz35_4 : w32.cell? ⟨gb201, 4, none⟩ = some (.bool a1_4) := (blk_cell BK201.out 4).trans rfl; have hcz35_5 : w32.cell? ⟨gb201, 5, none⟩ = some (.bool a1_5) := (blk_cell BK201.out 5).trans rfl; have hcz35_6 : w32.cell? ⟨gb201, 6, none⟩ = some (.bool a1_6) := (blk_cell BK201.out 6).trans rfl; have hcz35_7 : w32.cell? ⟨gb201, 7, none⟩ = some (.int .i64 a1_7) := (blk_cell BK201.out 7).trans rfl; have hcz35_8 : w32.cell? ⟨gb201, 8, none⟩ = some (.string a1_8) := (blk_cell BK201.out 8).trans rfl; have hcz35_9 : w32.cell? ⟨gb201, 9, none⟩ = some (.int .u16 a1_9) := (blk_cell BK201.out 9).trans rfl; have hcz35_10 : w32.cell? ⟨gb201, 10, none⟩ = some (.slice A1_10 l1_10.length c1_10) := (blk_cell BK201.out 10).trans rfl; have hcz35_11 : w32.cell? ⟨gb201, 11, none⟩ = some (.slice A1_11 l1_11.length c1_11) := (blk_cell BK201.out 11).trans rfl; have hcz35_12 : w32.cell? ⟨gb201, 12, none⟩ = some (.slice A1_12 l1_12.length c1_12) := (blk_cell BK201.out 12).trans rfl; have hcz35_13 : w32.cell? ⟨gb201, 13, none⟩ = some (.int .i64 a1_13) := (blk_cell BK201.out 13).trans rfl; have hfz35_0 := blk_frozen BK201.out 0; have hfz35_1 := blk_frozen BK201.out 1; have hfz35_2 := blk_frozen BK201.out 2; have hfz35_3 := blk_frozen BK201.out 3; have hfz35_4 := blk_frozen BK201.out 4; have hfz35_5 := blk_frozen BK201.out 5; have hfz35_6 := blk_frozen BK201.out 6; have hfz35_7 := blk_frozen BK201.out 7; have hfz35_8 := blk_frozen BK201.out 8; have hfz35_9 := blk_frozen BK201.out 9; have hfz35_10 := blk_frozen BK201.out 10; have hfz35_11 := blk_frozen BK201.out 11; have hfz35_12 := blk_frozen BK201.out 12; have hfz35_13 := blk_frozen BK201.out 13))
      go_ret
      exact ⟨by first | rfl | (simp [errW_none, errW_some] <;> rfl) | (simp [*, errW_none, errW_some] <;> rfl), by repeat (first | (with_reducible first | exact HB.out | apply below_alloc | apply pw_below_drewN | apply below_drew1 | refine below_set ?_ GE200.out | refine below_set ?_ GE201.out) | exact HB.out)⟩
  · rw [if_neg c3] at H
    have c3b0 : (a0_0 == a1_0 && (a0_1 == a1_1 && (a0_2 == a1_2 && (a0_3 == a1_3 && (a0_4 == a1_4 && (a0_5 == a1_5 && (a0_6 == a1_6 && (a0_7 == a1_7)))))))) = false := by simpa using c3
    (try (have c3b1 : decide (a0_0 = a1_0 && (a0_1 == a1_1 && (a0_2 == a1_2 && (a0_3 == a1_3 && (a0_4 == a1_4 && (a0_5 == a1_5 && (a0_6 == a1_6 && (a0_7 == a1_7)))))))) = false := by simpa using c3))
    (try (have c3b2 : (a0_0 == a1_0 && (a0_1 == a1_1 && (a0_2 == a1_2 && (a0_3 == a1_3 && (a0_4 == a1_4 && (a0_5 == a1_5 && (a0_6 == a1_6 && (a0_7 == a1_7)))))))) = false := by simpa using c3))
    (try (have c3b3 : ¬ (a0_0 = a1_0 && (a0_1 == a1_1 && (a0_2 == a1_2 && (a0_3 == a1_3 && (a0_4 == a1_4 && (a0_5 == a1_5 && (a0_6 == a1_6 && (a0_7 == a1_7)))))))) := by simpa using c3))
    clear c3
    obtain rfl := Option.some.inj H
    go_enter Tryd.func9, Tryd.ntmps9
    go_wp2_with (first | ((with_reducible refine gate_dst (N := 2) rfl ?_); refine box_event ?hg (N := 2) ?hd (cs := #[.int .u16 a0_0, .bool a0_1, .int .i64 a0_2, .bool a0_3, .bool a0_4, .bool a0_5, .bool a0_6, .int .i64 a0_7, .string a0_8, .int .u16 a0_9, .slice A0_10 l0_10.length c0_10, .slice A0_11 l0_11.length c0_11, .slice A0_12 l0_12.length c0_12, .int .i64 a0_13]) (t := 33) ?hr ?_; (case hd => rfl); (case hg => rfl); (case hr => first | (go_simp; done) | (go_simp; rfl)); intro gb200 hg w36 hbox hb; have n0_ := Aside0.mk (below_step (by repeat (first | (with_reducible first | exact HB.out | apply below_alloc | apply pw_below_drewN | apply below_drew1) | exact HB.out)) hb); have n1_ := Aside0.mk (hbox); have n2_ := Aside0.mk ((by rw [hg]; exact (below_size (by repeat (first | (with_reducible first | exact HB.out | apply below_alloc | apply pw_below_drewN | apply below_drew1) | exact HB.out))) : w.heap.size ≤ gb200)); have n3_ := Aside0.mk ((by rw [hg]; exact (below_size (by repeat (first | (with_reducible first | exact HB.out | apply below_alloc | apply pw_below_drewN | apply below_drew1) | exact HB.out))) : w.heap.size ≤ gb200)); clear HB; have HB := n0_; have BK200 := n1_; have GW200 := n2_; have GE200 := n3_; clear n0_ n1_ n2_ n3_; clear hb hbox hg) | ((with_reducible refine gate_dst (N := 3) rfl ?_); refine box_event ?hg (N := 3) ?hd (cs := #[.int .u16 a1_0, .bool a1_1, .int .i64 a1_2, .bool a1_3, .bool a1_4, .bool a1_5, .bool a1_6, .int .i64 a1_7, .string a1_8, .int .u16 a1_9, .slice A1_10 l1_10.length c1_10, .slice A1_11 l1_11.length c1_11, .slice A1_12 l1_12.length c1_12, .int .i64 a1_13]) (t := 33) ?hr ?_; (case hd => rfl); (case hg => rfl); (case hr => first | (go_simp; done) | (go_simp; rfl)); intro gb201 hg w37 hbox hb; have n0_ := Aside0.mk (blk_below (g := gb200) (o := .cells #[.int .u16 a0_0, .bool a0_1, .int .i64 a0_2, .bool a0_3, .bool a0_4, .bool a0_5, .bool a0_6, .int .i64 a0_7, .string a0_8, .int .u16 a0_9, .slice A0_10 l0_10.length c0_10, .slice A0_11 l0_11.length c0_11, .slice A0_12 l0_12.length c0_12, .int .i64 a0_13] 33 (0, 0)) (by (with_reducible repeat (first | refine blk_drewN ?_ _ | refine blk_drew ?_ | refine blk_alloc ?_ _)); exact BK200.out) hb); have n1_ := Aside0.mk (below_step (by repeat (first | (with_reducible first | exact HB.out | apply below_alloc | apply pw_below_drewN | apply below_drew1 | refine below_set ?_ GE200.out) | exact HB.out)) hb); have n2_ := Aside0.mk (hbox); have n3_ := Aside0.mk ((by rw [hg]; exact (below_size (by repeat (first | (with_reducible first | exact HB.out | apply below_alloc | apply pw_below_drewN | apply below_drew1 | refine below_set ?_ GE200.out) | exact HB.out))) : w.heap.size ≤ gb201)); have n4_ := Aside0.mk ((by rw [hg]; exact (below_size (by repeat (first | (with_reducible first | exact HB.out | apply below_alloc | apply pw_below_drewN | apply below_drew1 | refine below_set ?_ GE200.out) | exact HB.out))) : w.heap.size ≤ gb201)); have n5_ := Aside0.mk ((by rw [hg]; exact Nat.ne_of_lt (blk_lt (g := gb200) (o := .cells #[.int .u16 a0_0, .bool a0_1, .int .i64 a0_2, .bool a0_3, .bool a0_4, .bool a0_5, .bool a0_6, .int .i64 a0_7, .string a0_8, .int .u16 a0_9, .slice A0_10 l0_10.length c0_10, .slice A0_11 l0_11.length c0_11, .slice A0_12 l0_12.length c0_12, .int .i64 a0_13] 33 (0, 0)) (by (with_reducible repeat (first | refine blk_drewN ?_ _ | refine blk_drew ?_ | refine blk_alloc ?_ _)); exact BK200.out)) : gb200 ≠ gb201)); have n6_ := Aside0.mk ((by rw [hg]; exact Nat.ne_of_gt (blk_lt (g := gb200) (o := .cells #[.int .u16 a0_0, .bool a0_1, .int .i64 a0_2, .bool a0_3, .bool a0_4, .bool a0_5, .bool a0_6, .int .i64 a0_7, .string a0_8, .int .u16 a0_9, .slice A0_10 l0_10.length c0_10, .slice A0_11 l0_11.length c0_11, .slice A0_12 l0_12.length c0_12, .int .i64 a0_13] 33 (0, 0)) (by (with_reducible repeat (first | refine blk_drewN ?_ _ | refine blk_drew ?_ | refine blk_alloc ?_ _)); exact BK200.out)) : gb201 ≠ gb200)); clear BK200; clear HB; have BK200 := n0_; have HB := n1_; have BK201 := n2_; have GW201 := n3_; have GE201 := n4_; have NB200_201 := n5_; have NB201_200 := n6_; clear n0_ n1_ n2_ n3_ n4_ n5_ n6_; clear hb hbox hg; have hnb38 := NB200_201.out; have hnc38 := NB201_200.out; have hcz39_0 : w37.cell? ⟨gb200, 0, none⟩ = some (.int .u16 a0_0) := (blk_cell BK200.out 0).trans rfl; have hcz39_1 : w37.cell? ⟨gb200, 1, none⟩ = some (.bool a0_1) := (blk_cell BK200.out 1).trans rfl; have hcz39_2 : w37.cell? ⟨gb200, 2, none⟩ = some (.int .i64 a0_2) := (blk_cell BK200.out 2).trans rfl; have hcz39_3 : w37.cell? ⟨gb200, 3, none⟩ = some (.bool a0_3) := (blk_cell BK200.out 3).trans rfl; have hcz39_4 : w37.cell? ⟨gb200, 4, none⟩ = some (.bool a0_4) := (blk_cell BK200.out 4).trans rfl; have hcz39_5 : w37.cell? ⟨gb200, 5, none⟩ = some (.bool a0_5) := (blk_cell BK200.out 5).trans rfl; have hcz39_6 : w37.cell? ⟨gb200, 6, none⟩ = some (.bool a0_6) := (blk_cell BK200.out 6).trans rfl; have hcz39_7 : w37.cell? ⟨gb200, 7, none⟩ = some (.int .i64 a0_7) := (blk_cell BK200.out 7).trans rfl; have hcz39_8 : w37.cell? ⟨gb200, 8, none⟩ = some (.string a0_8) := (blk_cell BK200.out 8).trans rfl; have hcz39_9 : w37.cell? ⟨gb200, 9, none⟩ = some (.int .u16 a0_9) := (blk_cell BK200.out 9).trans rfl; have hcz39_10 : w37.cell? ⟨gb200, 10, none⟩ = some (.slice A0_10 l0_10.length c0_10) := (blk_cell BK200.out 10).trans rfl; have hcz39_11 : w37.cell? ⟨gb200, 11, none⟩ = some (.slice A0_11 l0_11.length c0_11) := (blk_cell BK200.out 11).trans rfl; have hcz39_12 : w37.cell? ⟨gb200, 12, none⟩ = some (.slice A0_12 l0_12.length c0_12) := (blk_cell BK200.out 12).trans rfl; have hcz39_13 : w37.cell? ⟨gb200, 13, none⟩ = some (.int .i64 a0_13) := (blk_cell BK200.out 13).trans rfl; have hfz39_0 := blk_frozen BK200.out 0; have hfz39_1 := blk_frozen BK200.out 1; have hfz39_2 := blk_frozen BK200.out 2; have hfz39_3 := blk_frozen BK200.out 3; have hfz39_4 := blk_frozen BK200.out 4; have hfz39_5 := blk_frozen BK200.out 5; have hfz39_6 := blk_frozen BK200.out 6; have hfz39_7 := blk_frozen BK200.out 7; have hfz39_8 := blk_frozen BK200.out 8; have hfz39_9 := blk_frozen BK200.out 9; have hfz39_10 := blk_frozen BK200.out 10; have hfz39_11 := blk_frozen BK200.out 11; have hfz39_12 := blk_frozen BK200.out 12; have hfz39_13 := blk_frozen BK200.out 13; have hcz40_0 : w37.cell? ⟨gb201, 0, none⟩ = some (.int .u16 a1_0) := (blk_cell BK201.out 0).trans rfl; have hcz40_1 : w37.cell? ⟨gb201, 1, none⟩ = some (.bool a1_1) := (blk_cell BK201.out 1).trans rfl; have hcz40_2 : w37.cell? ⟨gb201, 2, none⟩ = some (.int .i64 a1_2) := (blk_cell BK201.out 2).trans rfl; have hcz40_3 : w37.cell? ⟨gb201, 3, none⟩ = some (.bool a1_3) := (blk_cell BK201.out 3).trans rfl; have hcz40_4 : w37.cell? ⟨gb201, 4, none⟩ = some (.bool a1_4) := (blk_cell BK201.out 4).trans rfl; have hcz40_5 : w37.cell? ⟨gb201, 5, none⟩ = some (.bool a1_5) := (blk_cell BK201.out 5).trans rfl; have hcz40_6 : w37.cell? ⟨gb201, 6, none⟩ = some (.bool a1_6) := (blk_cell BK201.out 6).trans rfl; have hcz40_7 : w37.cell? ⟨gb201, 7, none⟩ = some (.int .i64 a1_7) := (blk_cell BK201.out 7).trans rfl; have hcz40_8 : w37.cell? ⟨gb201, 8, none⟩ = some (.string a1_8) := (blk_cell BK201.out 8).trans rfl; have hcz40_9 : w37.cell? ⟨gb201, 9, none⟩ = some (.int .u16 a1_9) := (blk_cell BK201.out 9).trans rfl; have hcz40_10 : w37.cell? ⟨gb201, 10, none⟩ = some (.slice A1_10 l1_10.length c1_10) := (blk_cell BK201.out 10).trans rfl; have hcz40_11 : w37.cell? ⟨gb201, 11, none⟩ = some (.slice A1_11 l1_11.length c1_11) := (blk_cell BK201.out 11).trans rfl; have hcz40_12 : w37.cell? ⟨gb201, 12, none⟩ = some (.slice A1_12 l1_12.length c1_12) := (blk_cell BK201.out 12).trans rfl; have hcz40_13 : w37.cell? ⟨gb201, 13, none⟩ = some (.int .i64 a1_13) := (blk_cell BK201.out 13).trans rfl; have hfz40_0 := blk_frozen BK201.out 0; have hfz40_1 := blk_frozen BK201.out 1; have hfz40_2 := blk_frozen BK201.out 2; have hfz40_3 := blk_frozen BK201.out 3; have hfz40_4 := blk_frozen BK201.out 4; have hfz40_5 := blk_frozen BK201.out 5; have hfz40_6 := blk_frozen BK201.out 6; have hfz40_7 := blk_frozen BK201.out 7; have hfz40_8 := blk_frozen BK201.out 8; have hfz40_9 := blk_frozen BK201.out 9; have hfz40_10 := blk_frozen BK201.out 10; have hfz40_11 := blk_frozen BK201.out 11; have hfz40_12 := blk_frozen BK201.out 12; have hfz40_13 := blk_frozen BK201.out 13))
    go_ret
    exact ⟨by first | rfl | (simp [errW_none, errW_some] <;> rfl) | (simp [*, errW_none, errW_some] <;> rfl), by repeat (first | (with_reducible first | exact HB.out | apply below_alloc | apply pw_below_drewN | apply below_drew1 | refine below_set ?_ GE200.out | refine below_set ?_ GE201.out) | exact HB.out)⟩
def bolterlaw02_Words.l0 : Nat → List ByteArray → List Int → Int → Int → Option (List ByteArray)
  | 0, _, _, _, _ => none
  | k + 1, x3, x7, x8, x9 => if x9 < x8 then (if 0 ≤ x9 then (if x9 < (x7.length : Int) then (if x9 = 12 then (some x3) else ((some (([(⟨#[97]⟩ : ByteArray), (⟨#[98]⟩ : ByteArray), (⟨#[99]⟩ : ByteArray), (⟨#[119, 119, 119]⟩ : ByteArray), (⟨#[101, 120]⟩ : ByteArray), (⟨#[111, 114, 103]⟩ : ByteArray), (⟨#[42]⟩ : ByteArray), (⟨#[114, 112, 122, 45, 105, 112]⟩ : ByteArray)] : List ByteArray) : List ByteArray)).bind fun y206 => (if 0 ≤ (Int.tmod (rd x7 x9) 8) then (if (Int.tmod (rd x7 x9) 8) < (y206.length : Int) then (if x3.length < 8796093022208 then (bolterlaw02_Words.l0 k (x3 ++ [rdOf ByteArray.empty y206 (Int.tmod (rd x7 x9) 8)]) x7 x8 (wrap64 (x9 + 1))) else (none)) else (none)) else (none)))) else (none)) else (none)) else (some x3)
def bolterlaw02_Words.f (k : Nat) (l0 : List Int) : Option (List ByteArray) := bolterlaw02_Words.l0 k ([] : List ByteArray) l0 (l0.length : Int) 0
theorem bolterlaw02_Words.mono_l : ∀ k, (∀ y0 y1 y2 y3, LeO (bolterlaw02_Words.l0 k y0 y1 y2 y3) (bolterlaw02_Words.l0 (k + 1) y0 y1 y2 y3))
  | 0 => fun _ _ _ _ r h => by simp [bolterlaw02_Words.l0] at h
  | k + 1 => by
    have ih0 := bolterlaw02_Words.mono_l k
    · intro y0 y1 y2 y3
      unfold bolterlaw02_Words.l0
      repeat' first
      | (with_reducible exact ih0 _ _ _ _)
      | (with_reducible exact LeO.refl _)
      | (with_reducible exact LeO.none _)
      | (with_reducible refine LeO.ite ?_ ?_)
      | (with_reducible refine LeO.bind ?_ (fun _ => ?_))
      | exact ih0 _ _ _ _
      | exact LeO.none _
      | refine LeO.ite ?_ ?_
      | refine LeO.bind ?_ (fun _ => ?_)
theorem bolterlaw02_Words.mono : ∀ a0 k, LeO (bolterlaw02_Words.f k a0) (bolterlaw02_Words.f (k + 1) a0) := by
  intro a0 k
  have ih0 := bolterlaw02_Words.mono_l k
  unfold bolterlaw02_Words.f
  repeat' first
      | (with_reducible exact ih0 _ _ _ _)
      | (with_reducible exact LeO.refl _)
      | (with_reducible exact LeO.none _)
      | (with_reducible refine LeO.ite ?_ ?_)
      | (with_reducible refine LeO.bind ?_ (fun _ => ?_))
      | exact ih0 _ _ _ _
      | exact LeO.none _
      | refine LeO.ite ?_ ?_
      | refine LeO.bind ?_ (fun _ => ?_)
set_option maxHeartbeats 8000000 in
set_option maxRecDepth 100000 in
theorem bolterlaw02_Words.calls (k : Nat) (A0 : Option Addr) (c0 : Nat) (l0 : List Int) (r : List ByteArray) (w : World) (hr0 : Kd.C (Kd.int .u8) w A0 l0.length l0) (hc0 : l0.length ≤ c0) (h : bolterlaw02_Words.f k l0 = some r) :
    Calls Tryd.prog 41 #[.slice A0 l0.length c0] w fun e w' => ∃ v0_ : Value, e = .returned (v0_) ∧ Kd.R Kd.string 9 w' w.heap.size (fun _ => True) v0_ r ∧ Below w.heap.size w w' := by
  have HR0 := Aside0.mk hr0
  have HC0 := Aside0.mk hc0
  clear hr0 hc0
  have HB := Aside0.mk (Below.refl w.heap.size w)
  have H : (bolterlaw02_Words.l0 k ([] : List ByteArray) l0 (l0.length : Int) 0) = some r := h
  clear h
  have H' := Aside0.mk H
  clear H
  go_enter Tryd.func41, Tryd.ntmps41
  go_wp2
  go_loopg [3, 9] k (fun kq v3 v9 w' => ∃ (x3_1 : List ByteArray) (x9_1 : Int), v9 = .int .i64 x9_1 ∧ Aside0 (bolterlaw02_Words.l0 kq x3_1 l0 (l0.length : Int) x9_1 = some r) ∧ Aside0 (kq ≤ k) ∧ Aside0 (Kd.R Kd.string 9 w' w.heap.size (fun _ => True) v3 x3_1) ∧ Aside0 (Below w.heap.size w w'))
  case atStart => exact ⟨(([] : List ByteArray)), (0), (by first | rfl | (simp; done) | (simp [*]; done)), H', ⟨Nat.le_refl _⟩, ⟨by first | exact Kd.R_nil _ _ _ _ _ | exact Kd.N_nil _ _ _ _ _ | exact Kd.V_nil _ _ _ _ _ | exact Kd.Q_nil _ _ _ _ _ | exact Kd.S_nil _ _ _ _ _⟩, ⟨by repeat (first | (with_reducible first | exact HB.out | apply below_alloc | apply pw_below_drewN | apply below_drew1) | exact HB.out)⟩⟩
  case round =>
    clear H'
    obtain ⟨x3_1, x9_1, rfl, HA, HK1, HO_3, HB⟩ := hrel
    cases gk with
    | zero => exact absurd HA.out (by simp [bolterlaw02_Words.l0])
    | succ k1 =>
      have H := HA.out
      clear HA
      simp only [bolterlaw02_Words.l0] at H
      by_cases c2 : x9_1 < (l0.length : Int)
      · rw [if_pos c2] at H
        have c2b0 : decide (x9_1 < (l0.length : Int)) = true := decide_eq_true c2
        clear c2
        by_cases c3 : 0 ≤ x9_1
        · rw [if_pos c3] at H
          have c3b0 : decide (0 ≤ x9_1) = true := decide_eq_true c3
          clear c3
          by_cases c4 : x9_1 < (l0.length : Int)
          · rw [if_pos c4] at H
            have c4b0 : decide (x9_1 < (l0.length : Int)) = true := decide_eq_true c4
            clear c4
            by_cases c5 : x9_1 = 12
            · rw [if_pos c5] at H
              have c5b0 : (x9_1 == 12) = true := beq_iff_eq.mpr c5
              have c5b1 : (x9_1 != 12) = false := bne_eq_false_iff_eq.mpr c5
              clear c5
              obtain rfl := Option.some.inj H
              have p205 : 0 ≤ (x9_1 : Int) := of_decide_eq_true (by first | (with_reducible assumption) | assumption)
              have q205 : x9_1 < (l0.length : Int) := of_decide_eq_true (by first | (with_reducible assumption) | assumption)
              obtain ⟨ad205, e205, hx205_0⟩ := Kd.at_int HR0.out x9_1 p205 q205
              cases e205
              replace hx205_0 := (HB.out.cell (World.block_lt_of_cell? w _ hx205_0)).trans hx205_0
              replace p205 := eq_true p205
              replace q205 := eq_true q205
              go_wp2
              go_ret
              exact ⟨_, by first | rfl | (simp [errW_none, errW_some] <;> rfl) | (simp [*, errW_none, errW_some] <;> rfl), by (with_reducible repeat (first | apply Kd.R_alloc | apply Kd.R_drewN | apply Kd.R_drew)); exact HO_3.out, by repeat (first | (with_reducible first | exact HB.out | apply below_alloc | apply pw_below_drewN | apply below_drew1) | exact HB.out)⟩
            · rw [if_neg c5] at H
              have c5b0 : (x9_1 == 12) = false := beq_eq_false_iff_ne.mpr c5
              have c5b1 : (x9_1 != 12) = true := bne_iff_ne.mpr c5
              obtain ⟨y206, hy206⟩ : ∃ y_ : List ByteArray, y_ = (([(⟨#[97]⟩ : ByteArray), (⟨#[98]⟩ : ByteArray), (⟨#[99]⟩ : ByteArray), (⟨#[119, 119, 119]⟩ : ByteArray), (⟨#[101, 120]⟩ : ByteArray), (⟨#[111, 114, 103]⟩ : ByteArray), (⟨#[42]⟩ : ByteArray), (⟨#[114, 112, 122, 45, 105, 112]⟩ : ByteArray)] : List ByteArray)) := ⟨_, rfl⟩
              replace H : (if 0 ≤ (Int.tmod (rd l0 x9_1) 8) then (if (Int.tmod (rd l0 x9_1) 8) < (y206.length : Int) then (if x3_1.length < 8796093022208 then (bolterlaw02_Words.l0 k1 (x3_1 ++ [rdOf ByteArray.empty y206 (Int.tmod (rd l0 x9_1) 8)]) l0 (l0.length : Int) (wrap64 (x9_1 + 1))) else (none)) else (none)) else (none)) = some r := by first | (rw [hy206]; with_reducible exact H) | (have H2_ := (Option.bind_some _ _).symm.trans H; rw [hy206]; with_reducible exact H2_) | (have H2_ := (Option.bind_some _ _).symm.trans H; with_reducible exact H2_) | with_reducible exact H | (rw [hy206]; exact H) | exact H
              have Ny206 := Aside0.mk hy206
              clear hy206
              obtain ⟨ji6, hji6⟩ : ∃ j_ : Int, (Int.tmod (rd l0 x9_1) 8) = j_ := ⟨_, rfl⟩
              replace H : (if 0 ≤ (ji6) then (if (ji6) < (y206.length : Int) then (if x3_1.length < 8796093022208 then (bolterlaw02_Words.l0 k1 (x3_1 ++ [rdOf ByteArray.empty y206 (ji6)]) l0 (l0.length : Int) (wrap64 (x9_1 + 1))) else (none)) else (none)) else (none)) = some r := by first | (rw [hji6] at H; exact H) | (simp only [hji6] at H ⊢; exact H)
              by_cases c7 : 0 ≤ (ji6)
              · rw [if_pos c7] at H
                have c7b0 : decide (0 ≤ (ji6)) = true := decide_eq_true c7
                clear c7
                by_cases c8 : (ji6) < (y206.length : Int)
                · rw [if_pos c8] at H
                  have c8b0 : decide ((ji6) < (y206.length : Int)) = true := decide_eq_true c8
                  clear c8
                  by_cases c9 : x3_1.length < 8796093022208
                  · rw [if_pos c9] at H
                    have LMc9 := Aside0.mk c9
                    clear c9
                    obtain ⟨y210, hy210⟩ : ∃ y_ : List ByteArray, y_ = (x3_1 ++ [rdOf ByteArray.empty y206 (ji6)]) := ⟨_, rfl⟩
                    replace H : (bolterlaw02_Words.l0 k1 y210 l0 (l0.length : Int) (wrap64 (x9_1 + 1))) = some r := by first | (rw [hy210]; with_reducible exact H) | (have H2_ := (Option.bind_some _ _).symm.trans H; rw [hy210]; with_reducible exact H2_) | (have H2_ := (Option.bind_some _ _).symm.trans H; with_reducible exact H2_) | with_reducible exact H | (rw [hy210]; exact H) | exact H
                    have Ny210 := Aside0.mk hy210
                    clear hy210
                    have H' := Aside0.mk H
                    clear H
                    have p205 : 0 ≤ (x9_1 : Int) := of_decide_eq_true (by first | (with_reducible assumption) | assumption)
                    have q205 : x9_1 < (l0.length : Int) := of_decide_eq_true (by first | (with_reducible assumption) | assumption)
                    obtain ⟨ad205, e205, hx205_0⟩ := Kd.at_int HR0.out x9_1 p205 q205
                    cases e205
                    replace hx205_0 := (HB.out.cell (World.block_lt_of_cell? w _ hx205_0)).trans hx205_0
                    replace p205 := eq_true p205
                    replace q205 := eq_true q205
                    go_wp2_with (first | ((with_reducible refine gate_dst (N := 16) rfl ?_); refine Kd.R_lit Kd.string _ 9 ?hg (N := 16) ?hd (xs := ([(⟨#[97]⟩ : ByteArray), (⟨#[98]⟩ : ByteArray), (⟨#[99]⟩ : ByteArray), (⟨#[119, 119, 119]⟩ : ByteArray), (⟨#[101, 120]⟩ : ByteArray), (⟨#[111, 114, 103]⟩ : ByteArray), (⟨#[42]⟩ : ByteArray), (⟨#[114, 112, 122, 45, 105, 112]⟩ : ByteArray)] : List ByteArray)) (inner := [.string (⟨#[97]⟩ : ByteArray), .string (⟨#[98]⟩ : ByteArray), .string (⟨#[99]⟩ : ByteArray), .string (⟨#[119, 119, 119]⟩ : ByteArray), .string (⟨#[101, 120]⟩ : ByteArray), .string (⟨#[111, 114, 103]⟩ : ByteArray), .string (⟨#[42]⟩ : ByteArray), .string (⟨#[114, 112, 122, 45, 105, 112]⟩ : ByteArray)]) (ok := fun _ => True) (okp := fun _ => True) ?hr ?hp (fun _ hk => hk) trivial (Below.refl _ _) (Nat.le_refl _) (by simp) ?_; (case hd => rfl); (case hg => rfl); (case hr => first | (go_simp; done) | (go_simp; rfl)); (case hp => exact (Reps.one (show Kd.M Kd.string _ _ _ (⟨#[97]⟩ : ByteArray) [.string (⟨#[97]⟩ : ByteArray)] from rfl) (Reps.one (show Kd.M Kd.string _ _ _ (⟨#[98]⟩ : ByteArray) [.string (⟨#[98]⟩ : ByteArray)] from rfl) (Reps.one (show Kd.M Kd.string _ _ _ (⟨#[99]⟩ : ByteArray) [.string (⟨#[99]⟩ : ByteArray)] from rfl) (Reps.one (show Kd.M Kd.string _ _ _ (⟨#[119, 119, 119]⟩ : ByteArray) [.string (⟨#[119, 119, 119]⟩ : ByteArray)] from rfl) (Reps.one (show Kd.M Kd.string _ _ _ (⟨#[101, 120]⟩ : ByteArray) [.string (⟨#[101, 120]⟩ : ByteArray)] from rfl) (Reps.one (show Kd.M Kd.string _ _ _ (⟨#[111, 114, 103]⟩ : ByteArray) [.string (⟨#[111, 114, 103]⟩ : ByteArray)] from rfl) (Reps.one (show Kd.M Kd.string _ _ _ (⟨#[42]⟩ : ByteArray) [.string (⟨#[42]⟩ : ByteArray)] from rfl) (Reps.one (show Kd.M Kd.string _ _ _ (⟨#[114, 112, 122, 45, 105, 112]⟩ : ByteArray) [.string (⟨#[114, 112, 122, 45, 105, 112]⟩ : ByteArray)] from rfl) (Reps.none _ _)))))))))); intro v207 w10 ho11 hb hg_ hnew_; clear hg_ hnew_; (first | rw [← Ny206.out] at ho11 | (simp only [Int.reduceToNat] at ho11; rw [← Ny206.out] at ho11)); have n0_ := Aside0.mk (Kd.R_elder' (by (with_reducible repeat (first | apply Kd.R_alloc | apply Kd.R_drewN | apply Kd.R_drew)); exact HO_3.out) (Kd.R_base ho11) hb); have n1_ := Aside0.mk (Kd.R_lower (Kd.R_new' ho11 (Kd.R_lt (by (with_reducible repeat (first | apply Kd.R_alloc | apply Kd.R_drewN | apply Kd.R_drew)); exact HO_3.out))) (below_size (by repeat (first | (with_reducible first | exact HB.out | apply below_alloc | apply pw_below_drewN | apply below_drew1) | exact HB.out)))); have n2_ := Aside0.mk (below_step (by repeat (first | (with_reducible first | exact HB.out | apply below_alloc | apply pw_below_drewN | apply below_drew1) | exact HB.out)) hb); clear HO_3; clear HB; have HO_3 := n0_; have HO208 := n1_; have HB := n2_; clear n0_ n1_ n2_; clear hb ho11; obtain ⟨Ao12, co12, eo12⟩ := Kd.R_slice HO208.out; subst eo12; have p209 : 0 ≤ ((ji6) : Int) := of_decide_eq_true (by first | (with_reducible assumption) | assumption); have q209 : (ji6) < (y206.length : Int) := of_decide_eq_true (by first | (with_reducible assumption) | assumption); obtain ⟨ad209, e209, hx209_0⟩ := Kd.at_string (Kd.R_reads' HO208.out).2.2 (ji6) p209 q209; cases e209; replace p209 := eq_true p209; replace q209 := eq_true q209) | ((with_reducible refine gate_builtin (b := .append) (xs := #[.tmp 17, .tmp 23]) rfl ?_); at_builtin; refine Kd.R_append Kd.string (w0 := w) w.heap.size rfl (.tmp 17) (.tmp 23) 102 9 (.string ⟨#[]⟩) 16 rfl Tryd.underlying102 info9 rfl (by decide) (by omega) u3 x3_1 (rdOf ByteArray.empty y206 (ji6)) [.string (rdOf ByteArray.empty y206 (ji6))] (fun k_ => some k_ ≠ (.slice (some ad209) y206.length co12 : Value).ownBlock) (fun _ => False) rfl rfl ?aP (fun _ hk => hk.elim) ?aF ?aO ?aB ?aS ?aL ?_; (case aP => exact rfl); (case aB => exact (by repeat (first | (with_reducible first | exact HB.out | apply below_alloc | apply pw_below_drewN | apply below_drew1) | exact HB.out))); (case aF => exact (fun k_ hk => Kd.fresh' (Kd.R_lt (by (with_reducible repeat (first | apply Kd.R_alloc | apply Kd.R_drewN | apply Kd.R_drew)); exact HO208.out)) k_ hk)); (case aO => exact (by (with_reducible repeat (first | apply Kd.R_alloc | apply Kd.R_drewN | apply Kd.R_drew)); exact Kd.R_mono HO_3.out (fun _ hk => hk.2))); (case aS => exact (below_size (by repeat (first | (with_reducible first | exact HB.out | apply below_alloc | apply pw_below_drewN | apply below_drew1) | exact HB.out)))); (case aL => have := LMc9.out; omega); intro v211 w13 ho hb hg hat; rw [← Ny210.out] at ho; have n0_ := Aside0.mk (Kd.R_after (ok := (fun _ => True)) (by (with_reducible repeat (first | apply Kd.R_alloc | apply Kd.R_drewN | apply Kd.R_drew)); exact HO208.out) hg hat); have n1_ := Aside0.mk (hb); have n2_ := Aside0.mk (ho); clear HO208; clear HB; clear HO_3; have HO208 := n0_; have HB := n1_; have HO212 := n2_; clear n0_ n1_ n2_; clear ho hb hg hat))
                    go_roundg k1
                    case measure => have := HK1.out; omega
                    case rel => exact ⟨(y210), (wrap64 (x9_1 + 1)), (by first | rfl | (simp; done) | (simp [*]; done)), H', ⟨by have := HK1.out; omega⟩, ⟨by (with_reducible repeat (first | apply Kd.R_alloc | apply Kd.R_drewN | apply Kd.R_drew)); exact Kd.R_mono HO212.out (fun _ hk => trivial)⟩, ⟨by repeat (first | (with_reducible first | exact HB.out | apply below_alloc | apply pw_below_drewN | apply below_drew1) | exact HB.out)⟩⟩
                  · rw [if_neg c9] at H
                    exact absurd H (by simp)
                · rw [if_neg c8] at H
                  exact absurd H (by simp)
              · rw [if_neg c7] at H
                exact absurd H (by simp)
          · rw [if_neg c4] at H
            exact absurd H (by simp)
        · rw [if_neg c3] at H
          exact absurd H (by simp)
      · rw [if_neg c2] at H
        have c2b0 : decide (x9_1 < (l0.length : Int)) = false := decide_eq_false c2
        clear c2
        obtain rfl := Option.some.inj H
        go_wp2
        go_ret
        exact ⟨_, by first | rfl | (simp [errW_none, errW_some] <;> rfl) | (simp [*, errW_none, errW_some] <;> rfl), by (with_reducible repeat (first | apply Kd.R_alloc | apply Kd.R_drewN | apply Kd.R_drew)); exact HO_3.out, by repeat (first | (with_reducible first | exact HB.out | apply below_alloc | apply pw_below_drewN | apply below_drew1) | exact HB.out)⟩
def bolterlaw02_Name.f (k : Nat) (l0 : List Int) : Option (ByteArray) := (bolterlaw02_Words.f k l0).bind fun t213 => ((name_Make.f t213).bind fun bt216 => (some bt216.1))
theorem bolterlaw02_Name.mono : ∀ a0 k, LeO (bolterlaw02_Name.f k a0) (bolterlaw02_Name.f (k + 1) a0) := by
  intro a0 k
  unfold bolterlaw02_Name.f
  repeat' first
      | (with_reducible exact bolterlaw02_Words.mono _ _)
      | (with_reducible exact LeO.refl _)
      | (with_reducible exact LeO.none _)
      | (with_reducible refine LeO.ite ?_ ?_)
      | (with_reducible refine LeO.bind ?_ (fun _ => ?_))
      | exact bolterlaw02_Words.mono _ _
      | exact LeO.none _
      | refine LeO.ite ?_ ?_
      | refine LeO.bind ?_ (fun _ => ?_)
set_option maxHeartbeats 8000000 in
set_option maxRecDepth 100000 in
theorem bolterlaw02_Name.calls (k : Nat) (A0 : Option Addr) (c0 : Nat) (l0 : List Int) (r : ByteArray) (w : World) (hr0 : Kd.C (Kd.int .u8) w A0 l0.length l0) (hc0 : l0.length ≤ c0) (h : bolterlaw02_Name.f k l0 = some r) :
    Calls Tryd.prog 23 #[.slice A0 l0.length c0] w fun e w' => e = .returned (.string r) ∧ Below w.heap.size w w' := by
  have HR0 := Aside0.mk hr0
  have HC0 := Aside0.mk hc0
  clear hr0 hc0
  have HB := Aside0.mk (Below.refl w.heap.size w)
  have H : ((bolterlaw02_Words.f k l0).bind fun t213 => ((name_Make.f t213).bind fun bt216 => (some bt216.1))) = some r := h
  clear h
  replace H := Option.bind_eq_some_iff.mp H
  obtain ⟨t213, A20, H⟩ := H
  replace H : ((name_Make.f t213).bind fun bt216 => (some bt216.1)) = some r := H
  have A2 := Aside0.mk A20
  clear A20
  replace H := Option.bind_eq_some_iff.mp H
  obtain ⟨⟨t216, t217⟩, A30, H⟩ := H
  replace H : (some t216) = some r := H
  have A3 := Aside0.mk A30
  clear A30
  obtain rfl := Option.some.inj H
  go_enter Tryd.func23, Tryd.ntmps23
  go_wp2_with (first | ((with_reducible refine gate_callee (f := 41) rfl ?_); refine goesL_ (some 7) rfl rfl Tryd.func41 (by kernel_rfl) rfl #[.slice A0 l0.length c0] rfl (by (try simp only [List.map_toArray, List.map_cons, List.map_nil]); first | done | rfl | (simp only [List.length_drop, List.length_take]; rfl)) ?_; (with_reducible refine (bolterlaw02_Words.calls k _ _ l0 t213 _ ?side1 ?side2 A2.out).mono ?_); (case side1 => repeat (first | exact HR0.out | (with_reducible refine Kd.C_alloc ?_ _) | (with_reducible refine Kd.C_drewN ?_ _) | (with_reducible refine Kd.C_drew ?_))); (case side2 => exact HC0.out); rintro e w4 ⟨v214, rfl, ho0, hb⟩; refine ⟨_, rfl, ?_⟩; have n0_ := Aside0.mk (Kd.R_lower ho0 (below_size (by repeat (first | (with_reducible first | exact HB.out | apply below_alloc | apply pw_below_drewN | apply below_drew1) | exact HB.out)))); have n1_ := Aside0.mk (below_step (by repeat (first | (with_reducible first | exact HB.out | apply below_alloc | apply pw_below_drewN | apply below_drew1) | exact HB.out)) hb); clear HB; have HO215 := n0_; have HB := n1_; clear n0_ n1_; (try clear hb); (try clear hb2); (try clear hk); (try clear hi); (try clear ho0); obtain ⟨Ao5, co5, eo5⟩ := Kd.R_slice HO215.out; subst eo5) | ((with_reducible refine gate_callee (f := 40) rfl ?_); refine goesL_ (some 8) rfl rfl Tryd.func40 (by kernel_rfl) rfl #[.slice Ao5 t213.length co5] rfl (by (try simp only [List.map_toArray, List.map_cons, List.map_nil]); first | done | rfl | (simp only [List.length_drop, List.length_take]; rfl)) ?_; (with_reducible refine (name_Make.calls _ _ t213 t216 t217 _ ?side1 ?side2 A3.out).mono ?_); (case side1 => repeat (first | exact (Kd.R_reads' HO215.out).2.2 | (with_reducible refine Kd.C_alloc ?_ _) | (with_reducible refine Kd.C_drewN ?_ _) | (with_reducible refine Kd.C_drew ?_))); (case side2 => exact (Kd.R_reads' HO215.out).2.1); rintro e w6 ⟨rfl, hb⟩; refine ⟨_, rfl, ?_⟩; have n0_ := Aside0.mk (Kd.R_below (by (with_reducible repeat (first | apply Kd.R_alloc | apply Kd.R_drewN | apply Kd.R_drew)); exact HO215.out) hb); have n1_ := Aside0.mk (below_step (by repeat (first | (with_reducible first | exact HB.out | apply below_alloc | apply pw_below_drewN | apply below_drew1) | exact HB.out)) hb); clear HO215; clear HB; have HO215 := n0_; have HB := n1_; clear n0_ n1_; (try clear hb); (try clear hb2); (try clear hk); (try clear hi)))
  go_ret
  exact ⟨by first | rfl | (simp [errW_none, errW_some] <;> rfl) | (simp [*, errW_none, errW_some] <;> rfl), by repeat (first | (with_reducible first | exact HB.out | apply below_alloc | apply pw_below_drewN | apply below_drew1) | exact HB.out)⟩
end Go.Proofs.YtnikfeaggppmpaaDoor.PM
