/-
  The law PendingFull walked. No macro, syntax, notation, axiom, sorry.
-/
import Derived.Test.YtecpginkacaebaaDoorPPx19
import Derived.Test.YtecpginkacaebaaDoorEntI
import Derived.Test.YtecpginkacaebaaDoorNum
namespace Go.Proofs.YtecpginkacaebaaDoor.PP
open Go.RowKit Go.Proofs.YtecpginkacaebaaDoorW Go.Proofs.YtecpginkacaebaaDoorW.PrintWords Go.Proofs.YtecpginkacaebaaDoorW.PrintLast Go.Proofs.YtecpginkacaebaaDoor.Base Go.Proofs.YtecpginkacaebaaDoor.Heap Go.Proofs.YtecpginkacaebaaDoor.Nam Go.Proofs.YtecpginkacaebaaDoor.Ent Go.Proofs.YtecpginkacaebaaDoor.Trn Go.Proofs.YtecpginkacaebaaDoor.Num
set_option linter.unusedVariables false
set_option linter.unusedSimpArgs false
set_option maxRecDepth 100000

def entU (id k : Int) : E := ⟨id, ⟨#[]⟩, 0, ⟨#[]⟩, 0, k⟩
open Classical in
noncomputable def bolterlaw26_PendingFull.f (l0 : List Int) : Option Bool := if (∀ x ∈ l0, 0 ≤ x ∧ x < 65536) ∧ l0.length ≤ 1048576 then some true else none
structure UHead (w wr : World) (v : Value) (es : List E) (k : Nat) : Prop where
  own : Own wr w.heap.size v es
  un : es.map E.un = (List.range (min k 16)).map fun (j : Nat) => (j : Int)
  below : Below w.heap.size w wr
theorem UHead.len {w wr : World} {v : Value} {es : List E} {k : Nat} (h : UHead w wr v es k) : es.length = min k 16 := by
  have := congrArg List.length h.un
  simpa using this
theorem UHead.move {w wr w2 : World} {v : Value} {es : List E} {k : Nat} (h : UHead w wr v es k) (hb : Below wr.heap.size wr w2) : UHead w w2 v es k := ⟨h.own.below hb, h.un, h.below.trans (hb.mono h.below.size)⟩
theorem filt_len (es : List E) (p : Int → Bool) : (es.filter fun e => p e.un).length = ((es.map E.un).filter p).length := by
  rw [List.filter_map, List.length_map]
  rfl
set_option maxHeartbeats 8000000 in
theorem bolterlaw26_PendingFull.calls (A0 : Option Addr) (c0 : Nat) (l0 : List Int) (r : Bool) (w : World) (hr0 : Kd.C (Kd.int .u16) w A0 l0.length l0) (hc0 : l0.length ≤ c0) (hE : Num.ErrT w) (h : bolterlaw26_PendingFull.f l0 = some r) :
    Calls Tryd.prog 3 #[.slice A0 l0.length c0] w fun e w' => e = .returned (.bool r) ∧ Below w.heap.size w w' := by
  unfold bolterlaw26_PendingFull.f at h
  by_cases hc : (∀ x ∈ l0, 0 ≤ x ∧ x < 65536) ∧ l0.length ≤ 1048576
  case neg => rw [if_neg hc] at h; cases h
  rw [if_pos hc] at h
  obtain rfl := Option.some.inj h
  clear h
  obtain ⟨hwf, hln⟩ := hc
  have HR0 := Lib.hid hr0
  have HWF := Lib.hid hwf
  have HE := Lib.hid hE
  clear hr0 hwf hE
  go_enter Tryd.func3, Tryd.ntmps3
  go_wp2_with fail
  refine (awake_ _).mono ?_
  rintro e w1 ⟨rfl, hb⟩
  have HH0 : Hid (UHead w w1 (.slice none 0 0) [] 0) := Lib.hid ⟨World.ownsRow_nil _ _ _ _, rfl, hb⟩
  clear hb
  go_wp2_with fail
  go_loopw [3, 4] (fun v i wr => ∃ (k : Nat) (es : List E), k ≤ 20 ∧ i = .int .i64 k ∧ Hid (UHead w wr v es k))
    (fun _ i _ => 20 - (intOf i).toNat)
  case atStart => exact ⟨0, [], Nat.zero_le _, rfl, HH0⟩
  case round =>
    obtain ⟨k, es, hk, rfl, HH⟩ := hrel
    obtain ⟨A, c, hv, hcc, hcm, hC⟩ := HH.out.own.reads
    have hN : A = none → es.length = 0 ∧ c = 0 := fun h => by
      have := HH.out.own
      rw [hv, h] at this
      exact this.none_
    subst hv
    have HN := Lib.hid hN
    have HCC := Lib.hid hcc
    have HC := Lib.hid hC
    clear hN hcc hcm hC
    by_cases hlt : k < 20
    · have d1 : decide ((k : Int) < 20) = true := decide_eq_true (by omega)
      have hwk : wrap64 ((k : Int) + 1) = (k : Int) + 1 := w64 (by omega) (by omega)
      have hwk2 : IntKind.i64.wrap ((k : Int) + 1) = (k : Int) + 1 := IntWalk.i64_in _ (by omega)
      have HK := Lib.hid hlt
      have hel := HH.out.len
      have hfree : ∀ x : Int, 0 ≤ x → x < 65536 → freeN (es.map E.id) 65536 x ∉ es.map E.id ∧ 0 ≤ freeN (es.map E.id) 65536 x ∧ freeN (es.map E.id) 65536 x < 65536 := fun x h0 h1 => freeN_ok _ 65536 x h0 h1 (few_free _ x (by rw [List.length_map]; omega))
      have HF := Lib.hid hfree
      have HEL := Lib.hid hel
      clear hlt hk hel hfree
      go_wp2_with fail
      with_reducible refine (free_ A c es 7 _ HC.out (by omega) (by omega)).mono ?_
      rintro e w2 ⟨rfl, hb2⟩
      have HH2 := Lib.hid (HH.out.move hb2)
      have HC2 := Lib.hid (Kd.C_below HC.out hb2)
      clear hb2
      by_cases hkl : k < l0.length
      · have d2 : decide ((k : Int) < (l0.length : Int)) = true := decide_eq_true (by omega)
        obtain ⟨y, hy⟩ : ∃ y, l0[k]? = some y := ⟨_, List.getElem?_eq_getElem hkl⟩
        have hyr := HWF.out y (List.mem_of_getElem? hy)
        obtain ⟨ad, ha, hcell0⟩ := scal_at HR0.out k y hy
        have hcell := pw_cell_below HH2.out.below hcell0
        subst ha
        have HYR := Lib.hid hyr
        have q1 : (0 : Int) ≤ (k : Int) := by omega
        have q2 : (k : Int) < (l0.length : Int) := by omega
        clear hy hyr hcell0
        go_wp2_with fail
        with_reducible refine (free_ A c es y _ HC2.out HYR.out.1 HYR.out.2).mono ?_
        rintro e w3 ⟨rfl, hb3⟩
        have HH3 := Lib.hid (HH2.out.move hb3)
        have HC3 := Lib.hid (Kd.C_below HC2.out hb3)
        clear hb3 hcell q1 q2 d2 hkl
        obtain ⟨idn, hidn⟩ : ∃ idn, freeN (es.map E.id) 65536 y = idn := ⟨_, rfl⟩
        have hfr := HF.out y HYR.out.1 HYR.out.2
        rw [hidn] at hfr
        rw [hidn]
        have HFR := Lib.hid hfr
        clear hidn hfr
        by_cases h16 : k < 16
        · have d3 : decide ((k : Int) < 16) = true := decide_eq_true (by omega)
          have H16 := Lib.hid h16
          clear h16
          go_wp2_with fail
          refine (add_ok A c es (entU idn k) _ HC3.out HCC.out HN.out (by have := HEL.out; have := H16.out; omega) HFR.out.1).mono ?_
          rintro x w4 ⟨v, rfl, hO, hb⟩
          have HH4 : Hid (UHead w w4 v (es ++ [entU idn k]) (k + 1)) := Lib.hid ⟨own_less hO HH3.out.below.size, by rw [List.map_append, HH3.out.un, show min (k + 1) 16 = min k 16 + 1 by have := H16.out; omega, List.range_succ, List.map_append, show min k 16 = k by have := H16.out; omega]; rfl, HH3.out.below.trans (hb.mono HH3.out.below.size)⟩
          clear hO hb
          go_wp2_with fail
          go_roundw
          case rel => exact ⟨k + 1, _, by have := HK.out; omega, by first | go_num | simp, HH4⟩
          case measure => have := HK.out; simp [intOf]; omega
        · have d3 : decide ((k : Int) < 16) = false := decide_eq_false (by omega)
          have H16 := Lib.hid h16
          clear h16
          go_wp2_with fail
          refine (add_full A c es (entU idn k) _ (by have := HEL.out; have := H16.out; omega)).mono ?_
          rintro x w4 ⟨rfl, hb⟩
          have HH4 : Hid (UHead w w4 (.slice A es.length c) es (k + 1)) := Lib.hid ⟨HH3.out.own.below hb, by rw [show min (k + 1) 16 = min k 16 by have := H16.out; omega]; exact HH3.out.un, HH3.out.below.trans (hb.mono HH3.out.below.size)⟩
          clear hb
          go_wp2_with fail
          refine (number_ 9 w4 (HE.out.below HH4.out.below)).mono ?_
          rintro x w5 ⟨rfl, hb⟩
          have HH5 := Lib.hid (HH4.out.move hb)
          clear hb
          go_wp2_with fail
          go_roundw
          case rel => exact ⟨k + 1, es, by have := HK.out; omega, by first | go_num | simp, HH5⟩
          case measure => have := HK.out; simp [intOf]; omega
      · have d2 : decide (k < l0.length) = false := decide_eq_false hkl
        clear hkl
        have HH3 := HH2
        have HC3 := HC2
        obtain ⟨idn, hidn⟩ : ∃ idn, freeN (es.map E.id) 65536 7 = idn := ⟨_, rfl⟩
        have hfr := HF.out 7 (by omega) (by omega)
        rw [hidn] at hfr
        rw [hidn]
        have HFR := Lib.hid hfr
        clear hidn hfr
        by_cases h16 : k < 16
        · have d3 : decide ((k : Int) < 16) = true := decide_eq_true (by omega)
          have H16 := Lib.hid h16
          clear h16
          go_wp2_with fail
          refine (add_ok A c es (entU idn k) _ HC3.out HCC.out HN.out (by have := HEL.out; have := H16.out; omega) HFR.out.1).mono ?_
          rintro x w4 ⟨v, rfl, hO, hb⟩
          have HH4 : Hid (UHead w w4 v (es ++ [entU idn k]) (k + 1)) := Lib.hid ⟨own_less hO HH3.out.below.size, by rw [List.map_append, HH3.out.un, show min (k + 1) 16 = min k 16 + 1 by have := H16.out; omega, List.range_succ, List.map_append, show min k 16 = k by have := H16.out; omega]; rfl, HH3.out.below.trans (hb.mono HH3.out.below.size)⟩
          clear hO hb
          go_wp2_with fail
          go_roundw
          case rel => exact ⟨k + 1, _, by have := HK.out; omega, by first | go_num | simp, HH4⟩
          case measure => have := HK.out; simp [intOf]; omega
        · have d3 : decide ((k : Int) < 16) = false := decide_eq_false (by omega)
          have H16 := Lib.hid h16
          clear h16
          go_wp2_with fail
          refine (add_full A c es (entU idn k) _ (by have := HEL.out; have := H16.out; omega)).mono ?_
          rintro x w4 ⟨rfl, hb⟩
          have HH4 : Hid (UHead w w4 (.slice A es.length c) es (k + 1)) := Lib.hid ⟨HH3.out.own.below hb, by rw [show min (k + 1) 16 = min k 16 by have := H16.out; omega]; exact HH3.out.un, HH3.out.below.trans (hb.mono HH3.out.below.size)⟩
          clear hb
          go_wp2_with fail
          refine (number_ 9 w4 (HE.out.below HH4.out.below)).mono ?_
          rintro x w5 ⟨rfl, hb⟩
          have HH5 := Lib.hid (HH4.out.move hb)
          clear hb
          go_wp2_with fail
          go_roundw
          case rel => exact ⟨k + 1, es, by have := HK.out; omega, by first | go_num | simp, HH5⟩
          case measure => have := HK.out; simp [intOf]; omega
    · obtain rfl : k = 20 := by omega
      have hel := HH.out.len
      have HEL := Lib.hid hel
      clear hel hk hlt
      go_wp2_with fail
      with_reducible refine (expire_ A c es 5 _ HC.out (by have := HEL.out; omega)).mono ?_
      rintro x w2 ⟨v1, v2, rfl, hO1, hO2, hb⟩
      have hu := HH.out.un
      have hl1 : (es.filter fun e => decide (e.un ≤ 5)).length = 6 := by
        rw [filt_len es (fun u => decide (u ≤ 5)), hu]
        decide
      have hl2 : (es.filter fun e => !decide (e.un ≤ 5)).length = 10 := by
        rw [filt_len es (fun u => !decide (u ≤ 5)), hu]
        decide
      obtain ⟨A1, c1, hv1, -⟩ := hO1.reads
      obtain ⟨A2, c2, hv2, -⟩ := hO2.reads
      rw [hl1] at hv1
      rw [hl2] at hv2
      subst hv1
      subst hv2
      have hel : es.length = 16 := by have := HEL.out; omega
      have HBB := Lib.hid (HH.out.below.trans (hb.mono HH.out.below.size))
      clear hO1 hO2 hb hu hl1 hl2
      rw [hel]
      go_wp2_with fail
      go_ret
      exact ⟨by first | rfl | simp, HBB.out⟩
end Go.Proofs.YtecpginkacaebaaDoor.PP
