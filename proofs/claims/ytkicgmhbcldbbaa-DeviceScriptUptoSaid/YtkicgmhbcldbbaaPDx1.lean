/-
  The law DeviceOwn of layer 23: what stands on a device is its own. No macro, syntax, notation, axiom, sorry.
-/
import Derived.Test.YtkicgmhbcldbbaaPDx0
namespace Go.Proofs.Ytkicgmhbcldbbaa.PD
open Go.RowKit Go.Proofs.YtkicgmhbcldbbaaW.PrintWords Go.Proofs.Ytkicgmhbcldbbaa.DevW Go.Proofs.Ytkicgmhbcldbbaa.DevC
set_option linter.unusedVariables false
set_option linter.unusedSimpArgs false
set_option maxRecDepth 100000

/-- One row of a row of rows of bytes of the law's own: it is owned, too. -/
theorem row_own2 {w : World} {e e' : Nat} {base : Nat} {ok : Nat → Prop} {v : Value} {xs : List (List Int)} (h : Kd.R (Kd.slice e (Kd.int .u8)) e' w base ok v xs) (i : Nat) (x : List Int) (hx : xs[i]? = some x) :
    ∃ b cap v', v = .slice (some ⟨b, 0, none⟩) xs.length cap ∧ xs.length ≤ cap ∧ w.cell? ⟨b, i, none⟩ = some v' ∧ w.ownsRow base e 1 v' x.length (nums .u8 x) := by
  have hi := (List.getElem?_eq_some_iff.1 hx).1
  obtain ⟨b, cap, rfl, _⟩ := Kd.R_form h (by omega)
  obtain ⟨_, hc, _⟩ := Kd.R_reads' h
  obtain ⟨h0, inner, hown, hr⟩ := h
  obtain ⟨v', h1, h2⟩ := hr.2 i x hx
  refine ⟨b, cap, v', rfl, hc, ?_, Kd.own_of_R h2⟩
  have hin : inner[i]? = some v' := by
    have h1' : (inner.drop (i * 1)).take 1 = [v'] := h1
    rw [Nat.mul_one] at h1'
    have := congrArg (fun l => l[0]?) h1'
    simpa [List.getElem?_take, List.getElem?_drop] using this
  have := hown.cells (g := b) rfl i v' hin
  rwa [add_plain] at this

def bolterlaw23_DeviceOwn.f (l0 : List Int) (a1 : Int) : Option Bool := if l0.length ≤ 1048576 then some true else none

theorem turned_one {w w1 : World} {v : Value} {g : Nat} (h : w1 = w.setCell ⟨g, 0, none⟩ v) : Turned [g] w w1 := by
  subst h
  exact (Turned.refl _ w).setCell (p := ⟨g, 0, none⟩) (.inl (by simp)) v

set_option maxHeartbeats 4000000 in
theorem bolterlaw23_DeviceOwn.calls (A0 : Option Addr) (c0 : Nat) (l0 : List Int) (a1 : Int) (r : Bool) (w : World) (hr0 : Kd.C (Kd.int .u8) w A0 l0.length l0) (hc0 : l0.length ≤ c0) (h : bolterlaw23_DeviceOwn.f l0 a1 = some r) :
    Calls Try.prog 4 #[.slice A0 l0.length c0, .int .u8 a1] w fun e w' => e = .returned (.bool r) ∧ Below w.heap.size w w' := by
  unfold bolterlaw23_DeviceOwn.f at h
  by_cases hb : l0.length ≤ 1048576
  case neg => rw [if_neg hb] at h; cases h
  rw [if_pos hb] at h
  obtain rfl := Option.some.inj h
  clear h
  have HR0 := Lib.hid hr0
  clear hr0
  go_enter Try.func4, Try.ntmps4
  go_wp2_with fail
  refine (awake _).mono ?_
  rintro e w1 ⟨rfl, hb1⟩
  have HB1 := Lib.hid hb1
  have HL1 := Lib.hid (Live.fresh w w1 hb1)
  clear hb1
  go_wp2_with ((with_reducible refine gate_builtin (b := .append) (xs := #[.const (.slice none 0 0), .tmp 13]) rfl ?_); at_builtin; refine print_append_row (w1.heap.size + 1) rfl (.const (.slice none 0 0)) (.tmp 13) 28 5 .u8 1 rfl Try.underlying28 infoB (by decide) (.slice none 0 0) [] l0 A0 l0.length c0 rfl rfl (World.ownsRow_nil _ _ _ _) ?hr (Below.refl _ _) ?hb (by simp; omega) ?_)
  case hr => exact ((C_reads HR0.out).below HB1.out).below (below_alloc (Below.refl _ _) _)
  case hb => simp
  intro v2 w2 hown hB hg hat
  obtain ⟨A2, c2, hv2, hc2⟩ := own_slice_le hown
  subst hv2
  have hgb : Below (w1.alloc (Obj.cells #[Value.slice none 0 0, Value.int IntKind.i64 0] 27)).heap.size (w1.alloc (Obj.cells #[Value.slice none 0 0, Value.int IntKind.i64 0] 27)) w2 :=
    ⟨hg.os, hg.tape, hg.output, hg.size, fun q hq => hg.block q hq (by simp [Value.ownBlock])⟩
  have HL2 := Lib.hid (HL1.out.below hgb)
  have HO2 := Lib.hid hown
  clear hown hB hg hat hgb HL1
  have hx : ∀ k, (Value.slice A2 l0.length c2).ownBlock = some k → w1.heap.size + 1 ≤ k ∧ k < w2.heap.size := fun k hk => HO2.out.lt k hk
  have HX := Lib.hid hx
  clear hx
  go_wp2_with fail
  refine (live_append HL2.out (by decide) (by decide) (by decide) A2 c2 l0 hc2 (fun w' ht => own_C (ht.own HO2.out (by intro k hk hm; have := (HX.out k hk).1; simp at hm; omega))) (by intro b s h; cases h) (by omega)).mono ?_
  rintro e w3 ⟨rfl, F3, hL, ht, hF⟩
  have HO3 := Lib.hid (ht.own HO2.out (by intro k hk hm; have := (HX.out k hk).1; simp at hm; omega))
  have HXF : Hid (∀ k, (Value.slice A2 l0.length c2).ownBlock = some k → k ∉ F3) := by
    intro k hk hm
    have h1 := HX.out k hk
    rcases hF k hm with h | h
    · simp at h; omega
    · omega
  have HL3 : Hid (Live w w3 w1.heap.size F3 [(l0, 0)] 1) := Lib.hid hL
  clear hL ht hF HL2 HO2
  by_cases h0 : l0.length = 0
  · have hnil : l0 = [] := List.eq_nil_of_length_eq_zero h0
    subst hnil
    go_wp2_with fail
    refine (live_last HL3.out (by simp)).mono ?_
    rintro e w4 ⟨rfl, n, rfl⟩
    have hd : dlast [(([] : List Int), 0)] = 0 := rfl
    rw [hd]
    have HL4 := Lib.hid (HL3.out.below (pw_below_drewN (Below.refl _ _) n))
    clear hd
    go_wp2_with fail
    refine (live_writes HL4.out).mono ?_
    rintro e w5 ⟨rfl, rfl⟩
    go_wp2_with fail
    go_ret
    exact ⟨rfl, HL4.out.base⟩
  · have hpos : 0 < l0.length := by omega
    have hz0 : ((l0.length : Int) == 0) = false := beq_eq_false_iff_ne.mpr (by omega)
    obtain ⟨gx, cx, hvx, _, _⟩ := HO3.out.form hpos
    injection hvx with hA2 _ _
    subst hA2
    have hcx : w3.cell? ⟨gx, 0, none⟩ = some (.int .u8 (l0.getD 0 0)) := by
      rw [HO3.out.cellAt 0 (by omega)]
      simp [nums, List.getElem?_eq_getElem hpos, List.getD_eq_getElem?_getD]
    have hfx : w3.frozen? ⟨gx, 0, none⟩ = false := HO3.out.frozenAt 0
    have hgxF : gx ∉ F3 := HXF.out gx rfl
    have hgxw : w.heap.size ≤ gx := by have := (HX.out gx rfl).1; have := HB1.out.size; omega
    have hC0 := Lib.hid (fun w' (hb : Below w.heap.size w w') => Kd.C_string (P := Try.prog) (c := c0) Try.underlying28 Try.underlying5 Try.underlying9 (Kd.C_below HR0.out hb))
    have d1 : decide (0 < (l0.length : Int)) = true := decide_eq_true (by omega)
    have HL4 : Hid (∀ u, Live w (w3.setCell ⟨gx, 0, none⟩ u) w1.heap.size F3 [(l0, 0)] 1) := fun u => HL3.out.other (turned_one (v := u) rfl) (by intro k hk; simp at hk; subst hk; exact hgxF) (by intro k hk; simp at hk; subst hk; exact hgxw)
    clear HO3 HL3 hgxF hgxw
    go_wp2_with fail
    refine (live_segments (HL4.out _) (by simp) (by intro b s h; simp at h; rw [h.1]; omega)).mono ?_
    rintro e w5 ⟨v, rfl, hR, hB⟩
    obtain ⟨gb, cb, v5, hv, hcb, hcell, hown⟩ := row_own2 hR 0 l0 rfl
    change v = .slice (some ⟨gb, 0, none⟩) 1 cb at hv
    change 1 ≤ cb at hcb
    subst hv
    obtain ⟨gy, cy, hvy, hgy, hgyl⟩ := hown.form hpos
    subst hvy
    have HL5 := Lib.hid ((HL4.out _).below hB)
    have hgyF : gy ∉ F3 := fun hm => by have := ((HL4.out (.int .u8 0)).foot gy hm).2; rw [World.size_setCell] at this hgy; omega
    have hgyw : w.heap.size ≤ gy := by have := (HL4.out (.int .u8 0)).base.size; rw [World.size_setCell] at this; rw [World.size_setCell] at hgy; omega
    have hy1 : w5.cell? ⟨gy, 0, none⟩ = some (.int .u8 (l0.getD 0 0)) := by
      rw [hown.cellAt 0 (by omega)]
      simp [nums, List.getElem?_eq_getElem hpos, List.getD_eq_getElem?_getD]
    have hy2 : w5.frozen? ⟨gy, 0, none⟩ = false := hown.frozenAt 0
    have hcs : ∀ n, (convert 28 9 (.slice (some ⟨gy, 0, none⟩) l0.length cy)).run Try.prog (w5.drewN n) = .ok (.string (strOfNums l0)) (w5.drewN n) := fun n =>
      Kd.C_string (P := Try.prog) Try.underlying28 Try.underlying5 Try.underlying9 (Kd.C_drewN (own_C hown) n)
    have hcb0 : ∀ n, (convert 28 9 (.slice A0 l0.length c0)).run Try.prog (w5.drewN n) = .ok (.string (strOfNums l0)) (w5.drewN n) := fun n => hC0.out _ (pw_below_drewN HL5.out.base n)
    clear hR hB hown HL4 hcx hfx hgy
    go_wp2
    go_quiet (fail)
    have HL6 := Lib.hid (HL5.out.below (pw_below_drewN (Below.refl _ _) nq))
    have hcell6 : (w5.drewN nq).cell? ⟨gb, 0, none⟩ = some (.slice (some ⟨gy, 0, none⟩) l0.length cy) := hcell
    have hy6 : (w5.drewN nq).cell? ⟨gy, 0, none⟩ = some (.int .u8 (l0.getD 0 0)) := hy1
    have hf6 : (w5.drewN nq).frozen? ⟨gy, 0, none⟩ = false := hy2
    obtain ⟨w6, hw6⟩ : ∃ w6, w5.drewN nq = w6 := ⟨_, rfl⟩
    rw [hw6] at HL6 hcell6 hy6 hf6 ⊢
    clear hw6 HL5 hcell hy1 hy2 hcs hcb0
    go_wp2
    go_still_tail 11, (by kernel_rfl)
    change wpList _ _ _ _ _ w6.drew
    have HL7 := Lib.hid (HL6.out.below (below_drew (Below.refl _ _)))
    have hy7 : w6.drew.cell? ⟨gy, 0, none⟩ = some (.int .u8 (l0.getD 0 0)) := hy6
    have hf7 : w6.drew.frozen? ⟨gy, 0, none⟩ = false := hf6
    obtain ⟨w7, hw7⟩ : ∃ w7, w6.drew = w7 := ⟨_, rfl⟩
    rw [hw7] at HL7 hy7 hf7 ⊢
    clear hw7 HL6 hcell6 hy6 hf6
    have HL8 : Hid (∀ u, Live w (w7.setCell ⟨gy, 0, none⟩ u) w1.heap.size F3 [(l0, 0)] 1) := fun u => HL7.out.other (turned_one (v := u) rfl) (by intro k hk; simp at hk; subst hk; exact hgyF) (by intro k hk; simp at hk; subst hk; exact hgyw)
    go_wp2_with fail
    refine (live_segments (HL8.out _) (by simp) (by intro b s h; simp at h; rw [h.1]; omega)).mono ?_
    rintro e w9 ⟨v9, rfl, hR, hB⟩
    obtain ⟨gt, ct, v8, hv, hct, hcell, hown⟩ := row_own2 hR 0 l0 rfl
    change v9 = .slice (some ⟨gt, 0, none⟩) 1 ct at hv
    change 1 ≤ ct at hct
    subst hv
    obtain ⟨gz, cz, hvz, _, _⟩ := hown.form hpos
    subst hvz
    have HL9 := Lib.hid ((HL8.out _).below hB)
    have hcs : ∀ n, (convert 28 9 (.slice (some ⟨gz, 0, none⟩) l0.length cz)).run Try.prog (w9.drewN n) = .ok (.string (strOfNums l0)) (w9.drewN n) := fun n =>
      Kd.C_string (P := Try.prog) Try.underlying28 Try.underlying5 Try.underlying9 (Kd.C_drewN (own_C hown) n)
    have hcb0 : ∀ n, (convert 28 9 (.slice A0 l0.length c0)).run Try.prog (w9.drewN n) = .ok (.string (strOfNums l0)) (w9.drewN n) := fun n => hC0.out _ (pw_below_drewN HL9.out.base n)
    clear hR hB hown HL8 HL7 hy7 hf7
    go_wp2
    go_quiet (fail)
    go_wp2
    go_ret
    exact ⟨by first | rfl | simp, pw_below_drewN HL9.out.base _⟩
end Go.Proofs.Ytkicgmhbcldbbaa.PD
