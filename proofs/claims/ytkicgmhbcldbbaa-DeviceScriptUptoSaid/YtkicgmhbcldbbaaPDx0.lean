/-
  The law's own words of layer 23: awake, same; each by a contract. No macro, syntax, notation, axiom, sorry.
-/
import Derived.Test.YtkicgmhbcldbbaaDevL
import Derived.Test.YtkicgmhbcldbbaaWLast
namespace Go.Proofs.Ytkicgmhbcldbbaa.PD
open Go.RowKit Go.Proofs.YtkicgmhbcldbbaaW.PrintWords Go.Proofs.Ytkicgmhbcldbbaa.DevW Go.Proofs.Ytkicgmhbcldbbaa.DevC
set_option linter.unusedVariables false
set_option linter.unusedSimpArgs false
set_option maxRecDepth 100000

/-- One row of a row of rows of bytes. -/
theorem row_at {w : World} {e : Nat} {A : Option Addr} {n : Nat} {xs : List (List Int)} (h : Kd.C (Kd.slice e (Kd.int .u8)) w A n xs) (i : Nat) (x : List Int) (hx : xs[i]? = some x) :
    ∃ ad A0 c0, A = some ad ∧ w.cell? (ad.add i) = some (.slice A0 x.length c0) ∧ x.length ≤ c0 ∧ Kd.C (Kd.int .u8) w A0 x.length x := by
  have hi := (List.getElem?_eq_some_iff.1 hx).1
  have hn := h.1
  obtain ⟨ad, ha, hc⟩ := h.2.2 (by omega)
  obtain ⟨c, h1, ⟨A0, c0, h2, h3, h4⟩, h5⟩ := hc i x hx
  subst h2
  have := h5 0 _ rfl
  rw [show i * (Kd.slice e (Kd.int IntKind.u8)).sz + 0 = i by show i * 1 + 0 = i; omega] at this
  exact ⟨ad, A0, c0, ha, this, h3, h4⟩
/-- The same of a row of the law's own. -/
theorem row_own {w : World} {e e' : Nat} {base : Nat} {ok : Nat → Prop} {v : Value} {xs : List (List Int)} (h : Kd.R (Kd.slice e (Kd.int .u8)) e' w base ok v xs) (i : Nat) (x : List Int) (hx : xs[i]? = some x) :
    ∃ b cap A0 c0, v = .slice (some ⟨b, 0, none⟩) xs.length cap ∧ xs.length ≤ cap ∧ w.cell? ⟨b, i, none⟩ = some (.slice A0 x.length c0) ∧ x.length ≤ c0 ∧ Kd.C (Kd.int .u8) w A0 x.length x := by
  have hi := (List.getElem?_eq_some_iff.1 hx).1
  obtain ⟨b, cap, rfl, _⟩ := Kd.R_form h (by omega)
  obtain ⟨_, hc, hC⟩ := Kd.R_reads' h
  obtain ⟨ad, A0, c0, ha, hcell, h1, h2⟩ := row_at hC i x hx
  injection ha with ha
  subst ha
  rw [add_plain] at hcell
  exact ⟨b, cap, A0, c0, rfl, hc, hcell, h1, h2⟩

set_option maxHeartbeats 2000000 in
theorem awake (w : World) :
    Calls Try.prog 7 #[] w fun e w' => e = .returned (.bool true) ∧ Below w.heap.size w w' := by
  have kc := fun (w : World) (C : Array Value) (n c : Nat) => Go.Lib.run_convert_bytes_const (P := Try.prog) w 28 5 C n c Try.underlying28 Try.underlying5
  have k1 := kc (w.alloc (.cells #[.slice none 0 0, .int .i64 0] 27)) #[.int .u8 97, .int .u8 98] 2 2
  have hL0 := Live.fresh w w (Below.refl _ _)
  have hC0 := Go.Proofs.YtkicgmhbcldbbaaW.HandW.marked_C (w.alloc (.cells #[.slice none 0 0, .int .i64 0] 27)) 5 [97, 98] (2, 3) (by decide)
  have hL1 := hL0.below (below_alloc (Below.refl _ _) (.cells (nums .u8 [97, 98]).toArray 5 (2, 3)))
  have ez : (w.alloc (.cells #[.slice none 0 0, .int .i64 0] 27)).heap.size = w.heap.size + 1 := by simp
  rw [ez] at k1 hC0
  have HL := Lib.hid hL1
  have HC := Lib.hid hC0
  clear hL0 hC0 hL1 ez
  go_enter Try.func7, Try.ntmps7
  go_wp2_with fail
  refine (live_append HL.out (by decide) (by decide) (by decide) _ _ [97, 98] (by decide) (fun w' ht => C_turned ht HC.out (by rintro ad h; injection h with h; subst h; simp)) (by intro b s h; cases h) (by decide)).mono ?_
  rintro e w1 ⟨rfl, F1, hL, ht, hF⟩
  have HL1 := Lib.hid hL
  clear hL ht hF HL HC k1
  go_wp2_with fail
  refine (live_sync HL1.out (by decide)).mono ?_
  rintro e w2 ⟨rfl, F2, hL, ht, hF⟩
  have HL2 := Lib.hid hL
  clear hL ht hF HL1
  have k2 := kc w2 #[.int .u8 99, .int .u8 100] 2 2
  have HC := Lib.hid (Go.Proofs.YtkicgmhbcldbbaaW.HandW.marked_C w2 5 [99, 100] (2, 3) (by decide))
  have HL3 := Lib.hid (HL2.out.below (below_alloc (Below.refl _ _) (.cells (nums .u8 [99, 100]).toArray 5 (2, 3))))
  go_wp2_with fail
  refine (live_append HL3.out (by decide) (by decide) (by decide) _ _ [99, 100] (by decide) (fun w' ht => C_turned ht HC.out (by rintro ad h hm; injection h with h; subst h; have := (HL2.out.foot _ hm).2; simp at this)) (by intro b s h; simp [dsync, dappend, onLast, dbegin] at h; simp [h.1]) (by decide)).mono ?_
  rintro e w3 ⟨rfl, F3, hL, ht, hF⟩
  have HL4 := Lib.hid hL
  clear hL ht hF HL2 HL3 HC k2
  go_wp2_with fail
  refine (live_crash HL4.out (by decide) 1 (by decide) (by decide) (by intro b s h; simp [dsync, dappend, onLast, dbegin] at h; simp [h.1, h.2])).mono ?_
  rintro e w4 ⟨rfl, F4, hL, ht, hF⟩
  have HL5 := Lib.hid hL
  clear hL ht hF HL4
  have hst : dcrash (dappend (dsync (dappend [] [97, 98])) [99, 100]) 1 = [([97, 98, 99], 3)] := by decide
  rw [hst] at HL5
  go_wp2_with fail
  refine (live_segments HL5.out (by decide) (by intro b s h; simp at h; simp [h.1])).mono ?_
  rintro e w5 ⟨v, rfl, hR, hB⟩
  obtain ⟨gb, cap, A0, c0, hv, hcap, hcell, hc0, hC⟩ := row_own hR 0 [97, 98, 99] rfl
  change v = .slice (some ⟨gb, 0, none⟩) 1 cap at hv
  change 1 ≤ cap at hcap
  change w5.cell? ⟨gb, 0, none⟩ = some (.slice A0 3 c0) at hcell
  subst hv
  have HL6 := Lib.hid (HL5.out.below hB)
  have hcv := Kd.C_string (P := Try.prog) (c := c0) Try.underlying28 Try.underlying5 Try.underlying9 hC
  change (convert 28 9 (.slice A0 3 c0)).run Try.prog w5 = _ at hcv
  clear HL5 hR hB hC hst
  have hq : (strOfNums [97, 98, 99]).toList = ([97, 98, 99] : List UInt8) := by kernel_rfl
  go_wp2_with fail
  refine (live_safe HL6.out (by decide) (fine_safeOk (by intro b s h; simp at h; simp [h.1, h.2]) (by decide))).mono ?_
  rintro e w6 ⟨rfl, hB⟩
  have HL7 := Lib.hid (HL6.out.below hB)
  have hs3 : dsafe [([97, 98, 99], 3)] = 3 := by decide
  rw [hs3]
  clear hs3 hB HL6
  go_wp2_with fail
  go_ret
  exact ⟨rfl, HL7.out.base⟩

/-- The same texts. -/
theorem same_true (w : World) (A : Option Addr) (ca : Nat) (xs : List (List Int)) (B : Option Addr) (cb : Nat) (ys : List ByteArray) (hA : Kd.C (Kd.slice 5 (Kd.int .u8)) w A xs.length xs) (hB : Kd.C Kd.string w B ys.length ys) (hca : xs.length ≤ ca) (hcb : ys.length ≤ cb)
    (he : ys = xs.map strOfNums) (hl : xs.length ≤ 1000000000000) :
    Calls Try.prog 17 #[.slice A xs.length ca, .slice B ys.length cb] w fun e w' => e = .returned (.bool true) ∧ Below w.heap.size w w' := by
  have hlen : ys.length = xs.length := by rw [he, List.length_map]
  rw [hlen] at hcb ⊢
  have HA := Lib.hid hA
  have HB := Lib.hid hB
  have HE := Lib.hid he
  have HL := Lib.hid hlen
  clear hA hB he hlen
  go_enter Try.func17, Try.ntmps17
  go_wp2
  go_loopw [13] (fun i wx => ∃ k : Nat, k ≤ xs.length ∧ i = .int .i64 k ∧ Aside0 (Drawn0 w wx))
    (fun i _ => xs.length - (intOf i).toNat)
  case atStart => exact ⟨0, Nat.zero_le _, rfl, ⟨Drawn0.refl _⟩⟩
  case round =>
    obtain ⟨k, hk, rfl, HD⟩ := hrel
    by_cases hlt : k < xs.length
    · have hget := List.getElem?_eq_getElem hlt
      obtain ⟨x, hx⟩ : ∃ x, xs[k] = x := ⟨_, rfl⟩
      rw [hx] at hget
      obtain ⟨ad, A0, c0, ha, hcell, hc0, hC⟩ := row_at (Kd.C_below HA.out HD.out.below) k x hget
      subst ha
      have hcv := fun n => Kd.C_string (P := Try.prog) (c := c0) Try.underlying28 Try.underlying5 Try.underlying9 (Kd.C_drewN hC n)
      have hy : ys[k]? = some (strOfNums x) := by rw [HE.out, List.getElem?_map, hget]; rfl
      obtain ⟨bd, hb, hcb1⟩ := Kd.at_string (Kd.C_below HB.out HD.out.below) (k : Int) (by omega) (by have := HL.out; omega)
      subst hb
      have hrd : rdOf ByteArray.empty ys (k : Int) = strOfNums x := by
        unfold rdOf
        rw [Int.toNat_natCast, List.getD_eq_getElem?_getD, hy]
        rfl
      rw [hrd, Int.toNat_natCast] at hcb1
      clear hrd hy hget hx hC
      go_wp2
      go_quiet (fail)
      go_wp2
      go_roundw
      case rel => exact ⟨k + 1, by omega, by go_num, ⟨HD.out.step nq⟩⟩
      case measure => simp [intOf]; omega
    · go_wp2
      go_ret
      exact ⟨rfl, HD.out.below⟩
end Go.Proofs.Ytkicgmhbcldbbaa.PD
