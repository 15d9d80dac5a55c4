/- part of a proof; what it has no use for was struck out -/
import Derived.Test.YtnikfeaggppmpaaDoorRrc
import Derived.Deep.CutRange
namespace Go.Proofs.YtnikfeaggppmpaaDoor.Rdr
open Go.RowKit Go.Proofs.YtnikfeaggppmpaaDoor.PM Go.Proofs.YtnikfeaggppmpaaDoorW Go.Proofs.YtnikfeaggppmpaaDoorW.PrintWords Go.Proofs.YtnikfeaggppmpaaDoorW.PrintLast Go.Proofs.YtnikfeaggppmpaaDoorW.PrintMore Go.Proofs.YtnikfeaggppmpaaDoor.Base Go.Proofs.YtnikfeaggppmpaaDoor.Trn Go.Proofs.YtnikfeaggppmpaaDoor.QM Go.Proofs.YtnikfeaggppmpaaDoor.Nam Go.Proofs.YtnikfeaggppmpaaDoor.Rd Go.Proofs.YtnikfeaggppmpaaDoor.Wr Go.Proofs.YtnikfeaggppmpaaDoor.Heap
set_option linter.unusedVariables false
set_option linter.unusedSimpArgs false
set_option maxRecDepth 100000
def optB (has : Bool) (sz : Int) (x : R) (c : Int) : Bool := decide (x.f1 = 41) && (has && (decide (sz = 0) && (x.f0.toList.isEmpty && (decide (x.f2 = 0) && (x.f3.toList.isEmpty && decide (0 < c))))))
noncomputable def ptR (s : ByteArray) (has : Bool) : Nat → Int → Bool → List R → Int → List R × Int × Bool × Int
  | 0, p, bad, out, sz => (out, p, bad, sz)
  | d + 1, p, bad, out, sz =>
    if bad = true then (out, p, bad, sz)
    else if optB has sz (rcR s p false).1 (rcR s p false).2.1 = true then ptR s has d (rcR s p false).2.2.1 (rcR s p false).2.2.2 out (rcR s p false).2.1
    else if (rcR s p false).1.f1 = 41 ∨ (rcR s p false).2.1 ≠ 1 then ptR s has d (rcR s p false).2.2.1 true out sz
    else ptR s has d (rcR s p false).2.2.1 (rcR s p false).2.2.2 (out ++ [(rcR s p false).1]) sz
noncomputable def stR (s : ByteArray) (has : Bool) (d : Nat) (p : Int) (out : List R) (sz : Int) (x : R × Int × Int × Bool) : List R × Int × Bool × Int :=
  if optB has sz x.1 x.2.1 = true then ptR s has d x.2.2.1 x.2.2.2 out x.2.1
  else if x.1.f1 = 41 ∨ x.2.1 ≠ 1 then ptR s has d x.2.2.1 true out sz
  else ptR s has d x.2.2.1 x.2.2.2 (out ++ [x.1]) sz
def PIn (s : ByteArray) (p : Int) (bad : Bool) : Prop := 0 ≤ p ∧ p ≤ s.size + 100000 ∧ (bad = false → p ≤ s.size)
theorem pin_bad {s : ByteArray} {p : Int} {b : Bool} (h : PIn s p b) : PIn s p true := ⟨h.1, h.2.1, fun h => by cases h⟩
theorem g16_ok {s : ByteArray} {p : Int} (h : (g16 s p).2 = true) : 0 ≤ p ∧ p + 2 ≤ s.size := by
  unfold g16 at h
  split at h
  · assumption
  · cases h
theorem dR_ok {s : ByteArray} {p n t : Int} (h : (dR s p n t).2 = true) : p + n ≤ s.size := by
  unfold dR at h
  split at h
  · cases h
  · omega
theorem rc_pin (s : ByteArray) (p : Int) (hs : s.size ≤ 2000000) (hp : PIn s p false) : PIn s (rcR s p false).2.2.1 (rcR s p false).2.2.2 ∧ (0 ≤ (rcR s p false).1.f1 ∧ (rcR s p false).1.f1 < 65536) ∧ 0 ≤ (rcR s p false).2.1 ∧ (rcR s p false).2.1 ≤ 65535 := by
  have h1 := nmR_rng s p
  have h2 := g16_rng s ((nmR s p).2.1 + 8)
  have h3 := g16_rng s (nmR s p).2.1
  have h4 := g16_rng s ((nmR s p).2.1 + 2)
  unfold rcR PIn
  split
  · refine ⟨⟨?_, ?_, fun h => by cases h⟩, ?_, ?_, ?_⟩ <;> simp only <;> omega
  · refine ⟨⟨?_, ?_, fun h => ?_⟩, ?_, ?_, ?_⟩ <;> simp only <;> try omega
    have := dR_ok (by simpa using h : (dR s ((nmR s p).2.1 + 10) (g16 s ((nmR s p).2.1 + 8)).1 (g16 s (nmR s p).2.1).1).2 = true)
    omega
theorem R_turn {α : Type} {d : Kd α} {e : Nat} {w w1 : World} {base : Nat} {ok : Nat → Prop} {v : Value} {xs : List α} {F : List Nat} (h : d.R e w base ok v xs) (ht : Turned F w w1) (hF : ∀ k ∈ F, k < base) : d.R e w1 base ok v xs :=
  Kd.R_mono (Kd.R_step (Kd.R_bound h) (fun k hk hlt => ht.block k hlt (fun hm => by have := hF k hm; have := hk.2.1; omega))) (fun k hk => hk.1)
theorem turned_grow {F : List Nat} {w w1 w2 : World} (h : Turned F w w1) (hb : Below w.heap.size w1 w2) : Turned F w w2 :=
  ⟨hb.os.trans h.os, hb.tape.trans h.tape, hb.output.trans h.output, Nat.le_trans h.size hb.size, fun k hk hn => (hb.block k hk).trans (h.block k hk hn)⟩
theorem set13 {A : Array Value} (h : A.size = 14) (v : Value) : (A.setIfInBounds 13 v)[13]? = some v := by simp [h]
set_option maxHeartbeats 8000000 in
theorem part0_ {w : World} {g : Nat} {s : ByteArray} {p : Int} {bad : Bool} (n : Nat) (sz : Int) (h : RV w g s p bad) (hs : s.size ≤ 2000000) (hn : n ≤ 65535) (hp : PIn s p bad) :
    Calls Tryd.prog 17 #[.pointer (some ⟨g, 0, none⟩), .int .i64 n, .pointer none] w fun e w' => ∃ v, e = .returned v ∧ Kd.R k70 70 w' w.heap.size (fun _ => True) v (ptR s false n p bad [] sz).1 ∧ RV w' g s (ptR s false n p bad [] sz).2.1 ((ptR s false n p bad [] sz).2.2.1 || decide (64 < (ptR s false n p bad [] sz).1.length)) ∧ Turned [g] w w' := by
  have HV := Lib.hid h
  have HTU := Lib.hid (Turned.refl [g] w)
  have HGW := Lib.hid (blk_lt h)
  have HPI := Lib.hid hp
  clear h
  obtain ⟨r, hr⟩ : ∃ r, ptR s false n p bad [] sz = r := ⟨_, rfl⟩
  rw [hr]
  have HRR := Lib.hid hr
  clear hr
  go_enter Tryd.func17, Tryd.ntmps17
  go_wp2_with fail
  go_loopw [7, 8] (fun v7 v8 wx => ∃ (d k : Nat) (p1 : Int) (b1 : Bool) (out : List R) (sz1 : Int), k + d = n ∧ v8 = .int .i64 k ∧ Aside0 (Kd.R k70 70 wx w.heap.size (fun _ => True) v7 out) ∧ Aside0 (out.length ≤ k) ∧ Aside0 (RV wx g s p1 b1) ∧ Aside0 (PIn s p1 b1) ∧ Aside0 (Turned [g] w wx) ∧ Aside0 (ptR s false d p1 b1 out sz1 = r))
    (fun _ i _ => n - (intOf i).toNat)
  case atStart => exact ⟨n, 0, p, bad, [], sz, by omega, rfl, ⟨Kd.R_nil _ _ _ _ _⟩, ⟨Nat.le_refl _⟩, ⟨HV.out⟩, ⟨HPI.out⟩, ⟨HTU.out⟩, ⟨HRR.out⟩⟩
  case round =>
    obtain ⟨d, k, p1, b1, out, sz1, hkd, rfl, HO, HOL, HV1, HP1, HT1, HR1⟩ := hrel
    have HKD := Lib.hid hkd
    have hd : d = n - k := by omega
    have HR1 := Lib.hid HR1.out
    have HO1 := Lib.hid HO.out
    have HOL := Lib.hid HOL.out
    have HV1 := Lib.hid HV1.out
    have HP1 := Lib.hid HP1.out
    have HT1 := Lib.hid HT1.out
    clear HO HV HTU hkd hd
    obtain ⟨w1, hw1⟩ : ∃ x, wr = x := ⟨_, rfl⟩
    subst hw1
    have hcb := (blk_cell HV1.out 2).trans rfl
    cases d with
    | zero =>
      have hk : k = n := by have := HKD.out; omega
      subst hk
      have hr := HR1.out
      unfold ptR at hr
      subst hr
      have hd1 : decide ((k : Int) < (k : Int)) = false := decide_eq_false (by omega)
      cases b1
      all_goals
        have hO7 := HO1.out
        obtain ⟨A7, c7, hv7⟩ := Kd.R_slice hO7
        subst hv7
        have HO7 := Lib.hid hO7
        have hcb2 := blk_frozen HV1.out 2
        clear hO7
        obtain ⟨lo, hlo⟩ : ∃ x, out.length = x := ⟨_, rfl⟩
        have HLO := Lib.hid hlo
        rw [hlo] at HO7 ⊢
        clear hlo
        by_cases h64 : 64 < lo
        all_goals
          (try have h64a : decide (64 < lo) = true := decide_eq_true h64)
          (try have h64a : decide (64 < lo) = false := decide_eq_false h64)
          (try have h64b : decide ((64 : Int) < (lo : Int)) = true := decide_eq_true (by omega))
          (try have h64b : decide ((64 : Int) < (lo : Int)) = false := decide_eq_false (by omega))
          go_wp2
          go_ret
          refine ⟨_, rfl, ?_, ?_, ?_⟩
          · exact R_turn HO7.out (Turned.setCell (Turned.refl [g] _) (p := ⟨g, 2, none⟩) (.inl (by simp)) _) (by intro k hk; simp at hk; subst hk; exact HGW.out)
          · exact blk_put HV1.out 2 _ (by simp [h64, HLO.out])
          · exact HT1.out.setCell (p := ⟨g, 2, none⟩) (.inl (by simp)) _
    | succ d =>
      have hkn : k < n := by have := HKD.out; omega
      have hd1 : decide ((k : Int) < (n : Int)) = true := decide_eq_true (by omega)
      have hd2 : decide (k < n) = true := decide_eq_true hkn
      cases b1 with
      | true =>
        have hr := HR1.out
        unfold ptR at hr
        rw [if_pos rfl] at hr
        subst hr
        have hO7 := HO1.out
        obtain ⟨A7, c7, hv7⟩ := Kd.R_slice hO7
        subst hv7
        have HO7 := Lib.hid hO7
        have hcb2 := blk_frozen HV1.out 2
        clear hO7
        obtain ⟨lo, hlo⟩ : ∃ x, out.length = x := ⟨_, rfl⟩
        have HLO := Lib.hid hlo
        rw [hlo] at HO7 ⊢
        clear hlo
        by_cases h64 : 64 < lo
        all_goals
          (try have h64a : decide (64 < lo) = true := decide_eq_true h64)
          (try have h64a : decide (64 < lo) = false := decide_eq_false h64)
          (try have h64b : decide ((64 : Int) < (lo : Int)) = true := decide_eq_true (by omega))
          (try have h64b : decide ((64 : Int) < (lo : Int)) = false := decide_eq_false (by omega))
          go_wp2
          go_ret
          refine ⟨_, rfl, ?_, ?_, ?_⟩
          · exact R_turn HO7.out (Turned.setCell (Turned.refl [g] _) (p := ⟨g, 2, none⟩) (.inl (by simp)) _) (by intro k hk; simp at hk; subst hk; exact HGW.out)
          · exact blk_put HV1.out 2 _ (by simp [h64, HLO.out])
          · exact HT1.out.setCell (p := ⟨g, 2, none⟩) (.inl (by simp)) _
      | false =>
        have HR2 : Hid (stR s false d p1 out sz1 (rcR s p1 false) = r) := Lib.hid (by have h := HR1.out; unfold ptR at h; rw [if_neg (by decide)] at h; exact h)
        have hpin := rc_pin s p1 hs HP1.out
        clear HR1
        go_wp2_with fail
        clear hd1 hd2 hcb
        refine (rrec_ HV1.out (by omega) (by have := HP1.out; unfold PIn at this; omega)).mono ?_
        rintro e w2 ⟨rfl, hV2, hT2⟩
        obtain ⟨⟨⟨nv, t, l, dv⟩, c, p2, b2⟩, hx⟩ : ∃ x, rcR s p1 false = x := ⟨_, rfl⟩
        rw [hx] at hV2 HR2 hpin ⊢
        clear hx
        obtain ⟨hpin, htr, hcr⟩ := hpin
        have HPIN := Lib.hid hpin
        have HTR := Lib.hid htr
        have hcr1 := hcr.1
        have HCR := Lib.hid hcr
        have hO2 := R_turn HO1.out hT2 (by intro k hk; simp at hk; subst hk; exact HGW.out)
        have hT3 := HT1.out.trans hT2 (fun b hb => .inl (by simp at hb; subst hb; simp))
        clear HO1 HT1 HV1 HP1 hpin htr hcr
        go_upto_region 7 with fail
        have hA3 := below_alloc (Below.refl w2.heap.size w2) (.cells #[.string nv, .int .u16 t, .int .u32 l, .string dv] 70)
        have hV3 := blk_below hV2 hA3
        have hX3 : XV _ w2.heap.size nv t l dv := blk_new w2 (.cells #[.string nv, .int .u16 t, .int .u32 l, .string dv] 70)
        have hT4 := hT3.alloc (.cells #[.string nv, .int .u16 t, .int .u32 l, .string dv] 70)
        have hO3 := Kd.R_alloc hO2 (.cells #[.string nv, .int .u16 t, .int .u32 l, .string dv] 70)
        obtain ⟨gx, hgx⟩ : ∃ x, w2.heap.size = x := ⟨_, rfl⟩
        have hgxw : w.heap.size ≤ gx := by have := hT3.size; omega
        rw [hgx] at hX3 ⊢
        generalize w2.alloc (.cells #[.string nv, .int .u16 t, .int .u32 l, .string dv] 70) = w3 at hV3 hX3 hT4 hO3 ⊢
        have HV3 := Lib.hid hV3
        have HX3 := Lib.hid hX3
        have HT4 := Lib.hid hT4
        have HO3 := Lib.hid hO3
        have HGX := Lib.hid hgxw
        clear hV2 hT2 hO2 hT3 hA3 hV3 hX3 hT4 hO3 hgxw hgx
        go_cut [32] from 11 to 79 (fun v wx => v = .bool (optB false sz1 ⟨nv, t, l, dv⟩ c) ∧ wx = w3)
        case first =>
          have f0 := (blk_cell HX3.out 0).trans rfl
          have f1 := (blk_cell HX3.out 1).trans rfl
          have f2 := (blk_cell HX3.out 2).trans rfl
          have f3 := (blk_cell HX3.out 3).trans rfl
          by_cases x1 : t = 41
          rotate_left
          focus
            have x1' : (t == 41) = false := beq_eq_false_iff_ne.2 x1
            have HOB : Hid (optB false sz1 ⟨nv, t, l, dv⟩ c = false) := Lib.hid (by unfold optB; simp [x1])
            clear x1
            go_wp2
            go_meet
            case rel => exact ⟨by rw [HOB.out], rfl⟩
          have x1' : (t == 41) = true := beq_iff_eq.2 x1
          have Hx1 := Lib.hid x1
          clear x1
          have HOB : Hid (optB false sz1 ⟨nv, t, l, dv⟩ c = false) := Lib.hid (by unfold optB; simp)
          go_wp2
          go_meet
          case rel => exact ⟨by rw [HOB.out], rfl⟩
        case rest =>
          obtain ⟨hv32, hwc⟩ := hcut
          rw [hv32, hwc]
          clear hv32 hwc
          have HOB : Hid (optB false sz1 ⟨nv, t, l, dv⟩ c = false) := Lib.hid (by unfold optB; simp)
          rw [HOB.out]
          have f1 := (blk_cell HX3.out 1).trans rfl
          have hc2 := (blk_cell HV3.out 2).trans rfl
          have hf2 := blk_frozen HV3.out 2
          by_cases x1 : t = 41
          · have x1' : (t == 41) = true := beq_iff_eq.2 x1
            have HR4 : Hid (ptR s false d p2 true out sz1 = r) := Lib.hid (by have h := HR2.out; unfold stR at h; rw [if_neg (by rw [HOB.out]; decide), if_pos (.inl x1)] at h; exact h)
            clear x1
            go_wp2
            go_roundw
            case rel => exact ⟨d, k + 1, p2, true, out, sz1, by have := HKD.out; omega, by go_num, ⟨R_turn HO3.out (Turned.setCell (Turned.refl [g] _) (p := ⟨g, 2, none⟩) (.inl (by simp)) _) (by intro k hk; simp at hk; subst hk; exact HGW.out)⟩, ⟨by have := HOL.out; omega⟩, ⟨blk_put HV3.out 2 (.bool true) rfl⟩, ⟨pin_bad HPIN.out⟩, ⟨HT4.out.setCell (p := ⟨g, 2, none⟩) (.inl (by simp)) _⟩, ⟨HR4.out⟩⟩
            case measure => simp [intOf]; omega
          have x1' : (t == 41) = false := beq_eq_false_iff_ne.2 x1
          by_cases x2 : c = 1
          rotate_left
          · have x2' : (c == 1) = false := beq_eq_false_iff_ne.2 x2
            have HR4 : Hid (ptR s false d p2 true out sz1 = r) := Lib.hid (by have h := HR2.out; unfold stR at h; rw [if_neg (by rw [HOB.out]; decide), if_pos (.inr x2)] at h; exact h)
            clear x1 x2
            go_wp2
            go_roundw
            case rel => exact ⟨d, k + 1, p2, true, out, sz1, by have := HKD.out; omega, by go_num, ⟨R_turn HO3.out (Turned.setCell (Turned.refl [g] _) (p := ⟨g, 2, none⟩) (.inl (by simp)) _) (by intro k hk; simp at hk; subst hk; exact HGW.out)⟩, ⟨by have := HOL.out; omega⟩, ⟨blk_put HV3.out 2 (.bool true) rfl⟩, ⟨pin_bad HPIN.out⟩, ⟨HT4.out.setCell (p := ⟨g, 2, none⟩) (.inl (by simp)) _⟩, ⟨HR4.out⟩⟩
            case measure => simp [intOf]; omega
          have x2' : (c == 1) = true := beq_iff_eq.2 x2
          have HR4 : Hid (ptR s false d p2 b2 (out ++ [⟨nv, t, l, dv⟩]) sz1 = r) := Lib.hid (by have h := HR2.out; unfold stR at h; rw [if_neg (by rw [HOB.out]; decide), if_neg (by rintro (h | h); exact x1 h; exact h x2)] at h; exact h)
          clear x1 x2 hc2 hf2
          go_wp2_with (first | ((with_reducible refine gate_lr (t := 70) rfl ?_); refine wpList_load_row rfl _ _ rfl gx rfl _ _ _ _ HX3.out Tryd.underlying70 rfl (by kernel_rfl) ?_) | ((with_reducible refine gate_builtin (b := .append) (xs := #[.tmp 28, .tmp 30]) rfl ?_); at_builtin; refine Kd.R_append k70 (w0 := w3) w.heap.size rfl (.tmp 28) (.tmp 30) 31 70 (.agg #[(.string ⟨#[]⟩), (.int .u16 0), (.int .u32 0), (.string ⟨#[]⟩)]) 40 rfl Tryd.underlying31 info70 rfl (by decide) (by omega) u7 out (⟨nv, t, l, dv⟩ : R) [.string nv, .int .u16 t, .int .u32 l, .string dv] (fun _ => True) (fun _ => False) rfl rfl (k70_mkM _ _ _ (⟨nv, t, l, dv⟩ : R)) (fun _ hk => hk.elim) (fun _ _ => trivial) HO3.out (Below.refl _ _) HT4.out.size (by have := HOL.out; have := hkn; omega) ?_; intro v7' w4 ho4 hb4 hg4 hat4))
          have HO4 := Lib.hid ho4
          have HB4 := Lib.hid hb4
          clear ho4 hb4 hg4 hat4
          go_wp2
          go_roundw
          case rel => exact ⟨d, k + 1, p2, b2, out ++ [⟨nv, t, l, dv⟩], sz1, by have := HKD.out; omega, by go_num, ⟨HO4.out⟩, ⟨by rw [List.length_append]; have := HOL.out; simp; omega⟩, ⟨(HB4.out.block g HGW.out).trans HV3.out⟩, ⟨HPIN.out⟩, ⟨turned_grow HT4.out HB4.out⟩, ⟨HR4.out⟩⟩
          case measure => simp [intOf]; omega
set_option maxHeartbeats 8000000 in
theorem part1_ {w : World} {g : Nat} {gm : Nat} {A : Array Value} {s : ByteArray} {p : Int} {bad : Bool} (n : Nat) (sz : Int) (h : RV w g s p bad) (hs : s.size ≤ 2000000) (hn : n ≤ 65535) (hp : PIn s p bad) (hgm : gm < w.heap.size) (hne : g ≠ gm) (hA : A.size = 14) (hM : w.heap[gm]? = some (.cells (A.setIfInBounds 13 (.int .i64 sz)) 33 (0, 0))) (hsz : 0 ≤ sz ∧ sz ≤ 65535) :
    Calls Tryd.prog 17 #[.pointer (some ⟨g, 0, none⟩), .int .i64 n, .pointer (some ⟨gm, 13, none⟩)] w fun e w' => ∃ v, e = .returned v ∧ Kd.R k70 70 w' w.heap.size (fun _ => True) v (ptR s true n p bad [] sz).1 ∧ RV w' g s (ptR s true n p bad [] sz).2.1 ((ptR s true n p bad [] sz).2.2.1 || decide (64 < (ptR s true n p bad [] sz).1.length)) ∧ Turned [g, gm] w w' ∧ w'.heap[gm]? = some (.cells (A.setIfInBounds 13 (.int .i64 (ptR s true n p bad [] sz).2.2.2)) 33 (0, 0)) := by
  have HV := Lib.hid h
  have HTU := Lib.hid (Turned.refl [g, gm] w)
  have HGW := Lib.hid (blk_lt h)
  have HPI := Lib.hid hp
  have HM := Lib.hid hM
  have HA := Lib.hid hA
  have HNE := Lib.hid hne
  have HGM := Lib.hid hgm
  have HSZ := Lib.hid hsz
  clear hM hA hne hgm hsz
  clear h
  obtain ⟨r, hr⟩ : ∃ r, ptR s true n p bad [] sz = r := ⟨_, rfl⟩
  rw [hr]
  have HRR := Lib.hid hr
  clear hr
  go_enter Tryd.func17, Tryd.ntmps17
  go_wp2_with fail
  go_loopw [7, 8] (fun v7 v8 wx => ∃ (d k : Nat) (p1 : Int) (b1 : Bool) (out : List R) (sz1 : Int), k + d = n ∧ v8 = .int .i64 k ∧ Aside0 (Kd.R k70 70 wx w.heap.size (fun _ => True) v7 out) ∧ Aside0 (out.length ≤ k) ∧ Aside0 (RV wx g s p1 b1) ∧ Aside0 (PIn s p1 b1) ∧ Aside0 (Turned [g, gm] w wx) ∧ Aside0 (ptR s true d p1 b1 out sz1 = r) ∧ Aside0 (wx.heap[gm]? = some (.cells (A.setIfInBounds 13 (.int .i64 sz1)) 33 (0, 0))) ∧ Aside0 (0 ≤ sz1 ∧ sz1 ≤ 65535))
    (fun _ i _ => n - (intOf i).toNat)
  case atStart => exact ⟨n, 0, p, bad, [], sz, by omega, rfl, ⟨Kd.R_nil _ _ _ _ _⟩, ⟨Nat.le_refl _⟩, ⟨HV.out⟩, ⟨HPI.out⟩, ⟨HTU.out⟩, ⟨HRR.out⟩, ⟨HM.out⟩, ⟨HSZ.out⟩⟩
  case round =>
    obtain ⟨d, k, p1, b1, out, sz1, hkd, rfl, HO, HOL, HV1, HP1, HT1, HR1, HM1, HS1⟩ := hrel
    have HKD := Lib.hid hkd
    have hd : d = n - k := by omega
    have HR1 := Lib.hid HR1.out
    have HO1 := Lib.hid HO.out
    have HOL := Lib.hid HOL.out
    have HV1 := Lib.hid HV1.out
    have HP1 := Lib.hid HP1.out
    have HT1 := Lib.hid HT1.out
    have HM1 := Lib.hid HM1.out
    have HS1 := Lib.hid HS1.out
    clear HM
    clear HO HV HTU hkd hd
    obtain ⟨w1, hw1⟩ : ∃ x, wr = x := ⟨_, rfl⟩
    subst hw1
    have hcb := (blk_cell HV1.out 2).trans rfl
    cases d with
    | zero =>
      have hk : k = n := by have := HKD.out; omega
      subst hk
      have hr := HR1.out
      unfold ptR at hr
      subst hr
      have hd1 : decide ((k : Int) < (k : Int)) = false := decide_eq_false (by omega)
      cases b1
      all_goals
        have hO7 := HO1.out
        obtain ⟨A7, c7, hv7⟩ := Kd.R_slice hO7
        subst hv7
        have HO7 := Lib.hid hO7
        have hcb2 := blk_frozen HV1.out 2
        clear hO7
        obtain ⟨lo, hlo⟩ : ∃ x, out.length = x := ⟨_, rfl⟩
        have HLO := Lib.hid hlo
        rw [hlo] at HO7 ⊢
        clear hlo
        by_cases h64 : 64 < lo
        all_goals
          (try have h64a : decide (64 < lo) = true := decide_eq_true h64)
          (try have h64a : decide (64 < lo) = false := decide_eq_false h64)
          (try have h64b : decide ((64 : Int) < (lo : Int)) = true := decide_eq_true (by omega))
          (try have h64b : decide ((64 : Int) < (lo : Int)) = false := decide_eq_false (by omega))
          go_wp2
          go_ret
          refine ⟨_, rfl, ?_, ?_, ?_, ?_⟩
          · exact R_turn HO7.out (Turned.setCell (Turned.refl [g] _) (p := ⟨g, 2, none⟩) (.inl (by simp)) _) (by intro k hk; simp at hk; subst hk; exact HGW.out)
          · exact blk_put HV1.out 2 _ (by simp [h64, HLO.out])
          · exact HT1.out.setCell (p := ⟨g, 2, none⟩) (.inl (by simp)) _
          · exact blk_far HM1.out (by have := HNE.out; simp; omega) _
    | succ d =>
      have hkn : k < n := by have := HKD.out; omega
      have hd1 : decide ((k : Int) < (n : Int)) = true := decide_eq_true (by omega)
      have hd2 : decide (k < n) = true := decide_eq_true hkn
      cases b1 with
      | true =>
        have hr := HR1.out
        unfold ptR at hr
        rw [if_pos rfl] at hr
        subst hr
        have hO7 := HO1.out
        obtain ⟨A7, c7, hv7⟩ := Kd.R_slice hO7
        subst hv7
        have HO7 := Lib.hid hO7
        have hcb2 := blk_frozen HV1.out 2
        clear hO7
        obtain ⟨lo, hlo⟩ : ∃ x, out.length = x := ⟨_, rfl⟩
        have HLO := Lib.hid hlo
        rw [hlo] at HO7 ⊢
        clear hlo
        by_cases h64 : 64 < lo
        all_goals
          (try have h64a : decide (64 < lo) = true := decide_eq_true h64)
          (try have h64a : decide (64 < lo) = false := decide_eq_false h64)
          (try have h64b : decide ((64 : Int) < (lo : Int)) = true := decide_eq_true (by omega))
          (try have h64b : decide ((64 : Int) < (lo : Int)) = false := decide_eq_false (by omega))
          go_wp2
          go_ret
          refine ⟨_, rfl, ?_, ?_, ?_, ?_⟩
          · exact R_turn HO7.out (Turned.setCell (Turned.refl [g] _) (p := ⟨g, 2, none⟩) (.inl (by simp)) _) (by intro k hk; simp at hk; subst hk; exact HGW.out)
          · exact blk_put HV1.out 2 _ (by simp [h64, HLO.out])
          · exact HT1.out.setCell (p := ⟨g, 2, none⟩) (.inl (by simp)) _
          · exact blk_far HM1.out (by have := HNE.out; simp; omega) _
      | false =>
        have HR2 : Hid (stR s true d p1 out sz1 (rcR s p1 false) = r) := Lib.hid (by have h := HR1.out; unfold ptR at h; rw [if_neg (by decide)] at h; exact h)
        have hpin := rc_pin s p1 hs HP1.out
        clear HR1
        go_wp2_with fail
        clear hd1 hd2 hcb
        refine (rrec_ HV1.out (by omega) (by have := HP1.out; unfold PIn at this; omega)).mono ?_
        rintro e w2 ⟨rfl, hV2, hT2⟩
        obtain ⟨⟨⟨nv, t, l, dv⟩, c, p2, b2⟩, hx⟩ : ∃ x, rcR s p1 false = x := ⟨_, rfl⟩
        rw [hx] at hV2 HR2 hpin ⊢
        clear hx
        obtain ⟨hpin, htr, hcr⟩ := hpin
        have HPIN := Lib.hid hpin
        have HTR := Lib.hid htr
        have hcr1 := hcr.1
        have HCR := Lib.hid hcr
        have hO2 := R_turn HO1.out hT2 (by intro k hk; simp at hk; subst hk; exact HGW.out)
        have hT3 := HT1.out.trans hT2 (fun b hb => .inl (by simp at hb; subst hb; simp))
        have hM2 := hT2.blk HM1.out (by have := HNE.out; simp; omega)
        clear HM1
        clear HO1 HT1 HV1 HP1 hpin htr hcr
        go_upto_region 7 with fail
        have hA3 := below_alloc (Below.refl w2.heap.size w2) (.cells #[.string nv, .int .u16 t, .int .u32 l, .string dv] 70)
        have hV3 := blk_below hV2 hA3
        have hX3 : XV _ w2.heap.size nv t l dv := blk_new w2 (.cells #[.string nv, .int .u16 t, .int .u32 l, .string dv] 70)
        have hT4 := hT3.alloc (.cells #[.string nv, .int .u16 t, .int .u32 l, .string dv] 70)
        have hO3 := Kd.R_alloc hO2 (.cells #[.string nv, .int .u16 t, .int .u32 l, .string dv] 70)
        have hM3 := blk_below hM2 hA3
        obtain ⟨gx, hgx⟩ : ∃ x, w2.heap.size = x := ⟨_, rfl⟩
        have hgxw : w.heap.size ≤ gx := by have := hT3.size; omega
        rw [hgx] at hX3 ⊢
        generalize w2.alloc (.cells #[.string nv, .int .u16 t, .int .u32 l, .string dv] 70) = w3 at hV3 hX3 hT4 hO3 hM3 ⊢
        have HV3 := Lib.hid hV3
        have HX3 := Lib.hid hX3
        have HT4 := Lib.hid hT4
        have HO3 := Lib.hid hO3
        have HGX := Lib.hid hgxw
        have HM3 := Lib.hid hM3
        clear hM3
        clear hV2 hT2 hO2 hT3 hA3 hV3 hX3 hT4 hO3 hgxw hgx hM2
        go_cut [32] from 11 to 79 (fun v wx => v = .bool (optB true sz1 ⟨nv, t, l, dv⟩ c) ∧ wx = w3)
        case first =>
          have f0 := (blk_cell HX3.out 0).trans rfl
          have f1 := (blk_cell HX3.out 1).trans rfl
          have f2 := (blk_cell HX3.out 2).trans rfl
          have f3 := (blk_cell HX3.out 3).trans rfl
          have f13 := (blk_cell HM3.out 13).trans (set13 HA.out _)
          by_cases x1 : t = 41
          rotate_left
          focus
            have x1' : (t == 41) = false := beq_eq_false_iff_ne.2 x1
            have HOB : Hid (optB true sz1 ⟨nv, t, l, dv⟩ c = false) := Lib.hid (by unfold optB; simp [x1])
            clear x1
            go_wp2
            go_meet
            case rel => exact ⟨by rw [HOB.out], rfl⟩
          have x1' : (t == 41) = true := beq_iff_eq.2 x1
          have Hx1 := Lib.hid x1
          clear x1
          by_cases x2 : sz1 = 0
          rotate_left
          focus
            have x2' : (sz1 == 0) = false := beq_eq_false_iff_ne.2 x2
            have HOB : Hid (optB true sz1 ⟨nv, t, l, dv⟩ c = false) := Lib.hid (by unfold optB; simp [x2])
            clear x2
            go_wp2
            go_meet
            case rel => exact ⟨by rw [HOB.out], rfl⟩
          have x2' : (sz1 == 0) = true := beq_iff_eq.2 x2
          have Hx2 := Lib.hid x2
          clear x2
          by_cases x3 : nv.toList.isEmpty = true
          rotate_left
          focus
            have x3' : nv.toList.isEmpty = false := by simpa using x3
            have HOB : Hid (optB true sz1 ⟨nv, t, l, dv⟩ c = false) := Lib.hid (by unfold optB; simp [x3])
            clear x3
            go_wp2
            go_meet
            case rel => exact ⟨by rw [HOB.out], rfl⟩
          have Hx3 := Lib.hid x3
          by_cases x4 : l = 0
          rotate_left
          focus
            have x4' : (l == 0) = false := beq_eq_false_iff_ne.2 x4
            have HOB : Hid (optB true sz1 ⟨nv, t, l, dv⟩ c = false) := Lib.hid (by unfold optB; simp [x4])
            clear x4
            go_wp2
            go_meet
            case rel => exact ⟨by rw [HOB.out], rfl⟩
          have x4' : (l == 0) = true := beq_iff_eq.2 x4
          have Hx4 := Lib.hid x4
          clear x4
          by_cases x5 : dv.toList.isEmpty = true
          rotate_left
          focus
            have x5' : dv.toList.isEmpty = false := by simpa using x5
            have HOB : Hid (optB true sz1 ⟨nv, t, l, dv⟩ c = false) := Lib.hid (by unfold optB; simp [x5])
            clear x5
            go_wp2
            go_meet
            case rel => exact ⟨by rw [HOB.out], rfl⟩
          have Hx5 := Lib.hid x5
          by_cases x6 : 0 < c
          rotate_left
          focus
            have x6' : decide (0 < c) = false := decide_eq_false x6
            have HOB : Hid (optB true sz1 ⟨nv, t, l, dv⟩ c = false) := Lib.hid (by unfold optB; simp [x6])
            clear x6
            go_wp2
            go_meet
            case rel => exact ⟨by rw [HOB.out], rfl⟩
          have x6' : decide (0 < c) = true := decide_eq_true x6
          have Hx6 := Lib.hid x6
          clear x6
          have HOB : Hid (optB true sz1 ⟨nv, t, l, dv⟩ c = true) := Lib.hid (by unfold optB; simp [Hx1.out, Hx2.out, Hx3.out, Hx4.out, Hx5.out, Hx6.out])
          go_wp2
          go_meet
          case rel => exact ⟨by rw [HOB.out], rfl⟩
        case rest =>
          obtain ⟨hv32, hwc⟩ := hcut
          rw [hv32, hwc]
          clear hv32 hwc
          obtain ⟨ob, hob⟩ : ∃ b, optB true sz1 ⟨nv, t, l, dv⟩ c = b := ⟨_, rfl⟩
          rw [hob]
          have HOB := Lib.hid hob
          clear hob
          cases ob with
          | true =>
            have HR4 : Hid (ptR s true d p2 b2 out c = r) := Lib.hid (by have h := HR2.out; unfold stR at h; rw [if_pos HOB.out] at h; exact h)
            have hwc : wrap64 c = c := by have := HCR.out; unfold wrap64; omega
            have hc13 := (blk_cell HM3.out 13).trans (set13 HA.out _)
            have hf13 := blk_frozen HM3.out 13
            go_wp2
            go_roundw
            case rel => exact ⟨d, k + 1, p2, b2, out, c, by have := HKD.out; omega, by go_num, ⟨R_turn HO3.out (Turned.setCell (Turned.refl [gm] _) (p := ⟨gm, 13, none⟩) (.inl (by simp)) _) (by intro k hk; simp at hk; subst hk; exact HGM.out)⟩, ⟨by have := HOL.out; omega⟩, ⟨blk_far HV3.out (p := ⟨gm, 13, none⟩) HNE.out _⟩, ⟨HPIN.out⟩, ⟨HT4.out.setCell (p := ⟨gm, 13, none⟩) (.inl (by simp)) _⟩, ⟨HR4.out⟩, ⟨blk_put HM3.out 13 (.int .i64 c) (by simp)⟩, ⟨HCR.out⟩⟩
            case measure => simp [intOf]; omega
          | false =>
            have f1 := (blk_cell HX3.out 1).trans rfl
            have hc2 := (blk_cell HV3.out 2).trans rfl
            have hf2 := blk_frozen HV3.out 2
            by_cases x1 : t = 41
            · have x1' : (t == 41) = true := beq_iff_eq.2 x1
              have HR4 : Hid (ptR s true d p2 true out sz1 = r) := Lib.hid (by have h := HR2.out; unfold stR at h; rw [if_neg (by rw [HOB.out]; decide), if_pos (.inl x1)] at h; exact h)
              clear x1
              go_wp2
              go_roundw
              case rel => exact ⟨d, k + 1, p2, true, out, sz1, by have := HKD.out; omega, by go_num, ⟨R_turn HO3.out (Turned.setCell (Turned.refl [g] _) (p := ⟨g, 2, none⟩) (.inl (by simp)) _) (by intro k hk; simp at hk; subst hk; exact HGW.out)⟩, ⟨by have := HOL.out; omega⟩, ⟨blk_put HV3.out 2 (.bool true) rfl⟩, ⟨pin_bad HPIN.out⟩, ⟨HT4.out.setCell (p := ⟨g, 2, none⟩) (.inl (by simp)) _⟩, ⟨HR4.out⟩, ⟨blk_far HM3.out (p := ⟨g, 2, none⟩) (by have := HNE.out; simp; omega) _⟩, ⟨HS1.out⟩⟩
              case measure => simp [intOf]; omega
            have x1' : (t == 41) = false := beq_eq_false_iff_ne.2 x1
            by_cases x2 : c = 1
            rotate_left
            · have x2' : (c == 1) = false := beq_eq_false_iff_ne.2 x2
              have HR4 : Hid (ptR s true d p2 true out sz1 = r) := Lib.hid (by have h := HR2.out; unfold stR at h; rw [if_neg (by rw [HOB.out]; decide), if_pos (.inr x2)] at h; exact h)
              clear x1 x2
              go_wp2
              go_roundw
              case rel => exact ⟨d, k + 1, p2, true, out, sz1, by have := HKD.out; omega, by go_num, ⟨R_turn HO3.out (Turned.setCell (Turned.refl [g] _) (p := ⟨g, 2, none⟩) (.inl (by simp)) _) (by intro k hk; simp at hk; subst hk; exact HGW.out)⟩, ⟨by have := HOL.out; omega⟩, ⟨blk_put HV3.out 2 (.bool true) rfl⟩, ⟨pin_bad HPIN.out⟩, ⟨HT4.out.setCell (p := ⟨g, 2, none⟩) (.inl (by simp)) _⟩, ⟨HR4.out⟩, ⟨blk_far HM3.out (p := ⟨g, 2, none⟩) (by have := HNE.out; simp; omega) _⟩, ⟨HS1.out⟩⟩
              case measure => simp [intOf]; omega
            have x2' : (c == 1) = true := beq_iff_eq.2 x2
            have HR4 : Hid (ptR s true d p2 b2 (out ++ [⟨nv, t, l, dv⟩]) sz1 = r) := Lib.hid (by have h := HR2.out; unfold stR at h; rw [if_neg (by rw [HOB.out]; decide), if_neg (by rintro (h | h); exact x1 h; exact h x2)] at h; exact h)
            clear x1 x2 hc2 hf2
            go_wp2_with (first | ((with_reducible refine gate_lr (t := 70) rfl ?_); refine wpList_load_row rfl _ _ rfl gx rfl _ _ _ _ HX3.out Tryd.underlying70 rfl (by kernel_rfl) ?_) | ((with_reducible refine gate_builtin (b := .append) (xs := #[.tmp 28, .tmp 30]) rfl ?_); at_builtin; refine Kd.R_append k70 (w0 := w3) w.heap.size rfl (.tmp 28) (.tmp 30) 31 70 (.agg #[(.string ⟨#[]⟩), (.int .u16 0), (.int .u32 0), (.string ⟨#[]⟩)]) 40 rfl Tryd.underlying31 info70 rfl (by decide) (by omega) u7 out (⟨nv, t, l, dv⟩ : R) [.string nv, .int .u16 t, .int .u32 l, .string dv] (fun _ => True) (fun _ => False) rfl rfl (k70_mkM _ _ _ (⟨nv, t, l, dv⟩ : R)) (fun _ hk => hk.elim) (fun _ _ => trivial) HO3.out (Below.refl _ _) HT4.out.size (by have := HOL.out; have := hkn; omega) ?_; intro v7' w4 ho4 hb4 hg4 hat4))
            have HO4 := Lib.hid ho4
            have HB4 := Lib.hid hb4
            clear ho4 hb4 hg4 hat4
            go_wp2
            go_roundw
            case rel => exact ⟨d, k + 1, p2, b2, out ++ [⟨nv, t, l, dv⟩], sz1, by have := HKD.out; omega, by go_num, ⟨HO4.out⟩, ⟨by rw [List.length_append]; have := HOL.out; simp; omega⟩, ⟨(HB4.out.block g HGW.out).trans HV3.out⟩, ⟨HPIN.out⟩, ⟨turned_grow HT4.out HB4.out⟩, ⟨HR4.out⟩, ⟨(HB4.out.block gm HGM.out).trans HM3.out⟩, ⟨HS1.out⟩⟩
            case measure => simp [intOf]; omega
end Go.Proofs.YtnikfeaggppmpaaDoor.Rdr
