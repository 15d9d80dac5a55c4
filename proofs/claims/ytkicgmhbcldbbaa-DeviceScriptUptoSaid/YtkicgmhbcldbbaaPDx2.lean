/-
  The law DeviceKeeps of layer 23: behind a crash all that was synced is there. No macro, syntax, notation, axiom, sorry.
-/
import Derived.Test.YtkicgmhbcldbbaaPDx1
import Derived.Lib.QuietBelow
namespace Go.Proofs.Ytkicgmhbcldbbaa.PD
open Go.RowKit Go.Proofs.YtkicgmhbcldbbaaW.PrintWords Go.Proofs.Ytkicgmhbcldbbaa.DevW Go.Proofs.Ytkicgmhbcldbbaa.DevC
open Go.Sort (grow)
set_option linter.unusedVariables false
set_option linter.unusedSimpArgs false
set_option maxRecDepth 100000

/-! ### Strings of numbers -/
theorem str_size (l : List Int) : (strOfNums l).size = l.length := by simp [strOfNums, ByteArray.size]
theorem ba_ext {a b : ByteArray} (h : a.data.toList = b.data.toList) : a = b := by
  cases a; cases b
  simp only at h
  congr 1
  exact Array.toList_inj.1 h
theorem str_data (l : List Int) : (strOfNums l).data.toList = l.map fun n => UInt8.ofNat n.toNat := by simp [strOfNums]
theorem str_append (a b : List Int) : strOfNums a ++ strOfNums b = strOfNums (a ++ b) := by
  apply ba_ext
  rw [ByteArray.data_append, Array.toList_append, str_data, str_data, str_data, List.map_append]
theorem str_extract (l : List Int) (m : Nat) : (strOfNums l).extract 0 m = strOfNums (l.take m) := by
  apply ba_ext
  rw [ByteArray.data_extract, Array.toList_extract, str_data, str_data]
  simp [List.extract_eq_take_drop, List.map_take]

/-! ### What the law lays on the device -/
def cat (l : List (List Int)) (k : Nat) : List Int := (l.take k).flatten
theorem cat_succ (l : List (List Int)) (k : Nat) (x : List Int) (h : l[k]? = some x) : cat l (k + 1) = cat l k ++ x := by
  have hk := (List.getElem?_eq_some_iff.1 h).1
  unfold cat
  rw [List.take_succ_eq_append_getElem hk, List.flatten_append]
  rw [List.getElem?_eq_getElem hk] at h
  injection h with h
  simp [h]
theorem cat_len (l : List (List Int)) (k : Nat) : (cat l k).length ≤ (l.map List.length).sum := by
  unfold cat
  induction l generalizing k with
  | nil => simp
  | cons x r ih =>
    cases k with
    | zero => simp
    | succ k =>
      have := ih k
      simp only [List.take_succ_cons, List.flatten_cons, List.length_append, List.map_cons, List.sum_cons]
      omega
theorem cat_mono (l : List (List Int)) {i k : Nat} (h : i ≤ k) : (cat l i).length ≤ (cat l k).length := by
  induction k with
  | zero => rw [show i = 0 by omega]; exact Nat.le_refl _
  | succ k ih =>
    by_cases e : i = k + 1
    · rw [e]; exact Nat.le_refl _
    · have h1 := ih (by omega)
      by_cases hk : k < l.length
      · rw [cat_succ l k _ (List.getElem?_eq_getElem hk), List.length_append]; omega
      · have : cat l (k + 1) = cat l k := by unfold cat; rw [List.take_of_length_le (by omega), List.take_of_length_le (by omega)]
        rw [this]; exact h1
def ksafe (l : List (List Int)) (j k : Nat) : Int := if j < k then ((cat l (j + 1)).length : Int) else 0
def kst (l : List (List Int)) (j k : Nat) : St := if k = 0 then [] else [(cat l k, ksafe l j k)]
theorem ksafe_le (l : List (List Int)) (j k : Nat) : 0 ≤ ksafe l j k ∧ ksafe l j k ≤ (cat l k).length := by
  unfold ksafe
  split
  · rename_i h
    have := cat_mono l (show j + 1 ≤ k by omega)
    omega
  · omega
theorem kst_len (l : List (List Int)) (j k : Nat) : (kst l j k).length ≤ 1 := by unfold kst; split <;> simp
theorem kst_mem {l : List (List Int)} {j k : Nat} {b : List Int} {s : Int} (h : (b, s) ∈ kst l j k) : b = cat l k ∧ s = ksafe l j k := by
  unfold kst at h
  split at h
  · cases h
  · simpa using h
theorem kst_app (l : List (List Int)) (j k : Nat) (x : List Int) (h : l[k]? = some x) : dappend (kst l j k) x = [(cat l (k + 1), ksafe l j k)] := by
  rw [cat_succ l k x h]
  unfold kst
  by_cases hk : k = 0
  · subst hk
    rw [if_pos rfl]
    have : ksafe l j 0 = 0 := by unfold ksafe; rw [if_neg (by omega)]
    rw [this]
    rfl
  · rw [if_neg hk]
    rfl
theorem kst_sync (l : List (List Int)) (k : Nat) (s : Int) : dsync [(cat l (k + 1), s)] = kst l k (k + 1) := by
  unfold kst ksafe
  rw [if_neg (by omega), if_pos (by omega)]
  rfl
theorem kst_next (l : List (List Int)) (j k : Nat) (h : ¬ k = j) : [(cat l (k + 1), ksafe l j k)] = kst l j (k + 1) := by
  unfold kst
  rw [if_neg (by omega)]
  congr 2
  unfold ksafe
  by_cases hj : j < k
  · rw [if_pos hj, if_pos (by omega)]
  · rw [if_neg hj, if_neg (by omega)]
theorem ksafe_sync (l : List (List Int)) (k : Nat) : ((cat l (k + 1)).length : Int) = ksafe l k (k + 1) := by unfold ksafe; rw [if_pos (by omega)]
theorem ksafe_next (l : List (List Int)) (j k : Nat) (h : ¬ k = j) : ksafe l j k = ksafe l j (k + 1) := by
  unfold ksafe
  by_cases hj : j < k
  · rw [if_pos hj, if_pos (by omega)]
  · rw [if_neg hj, if_neg (by omega)]

def bolterlaw23_DeviceKeeps.f (l0 : List (List Int)) (a1 a2 : Int) : Option Bool := if (l0.map List.length).sum ≤ 1048576 ∧ l0.length ≤ 1048576 ∧ 0 ≤ a1 ∧ a1 < 256 ∧ -9223372036854775808 ≤ a2 ∧ a2 ≤ 9223372036854775807 then some true else none

set_option maxHeartbeats 4000000 in
theorem bolterlaw23_DeviceKeeps.calls (A0 : Option Addr) (c0 : Nat) (l0 : List (List Int)) (a1 a2 : Int) (r : Bool) (w : World) (hr0 : Kd.C (Kd.slice 5 (Kd.int .u8)) w A0 l0.length l0) (hc0 : l0.length ≤ c0) (h : bolterlaw23_DeviceKeeps.f l0 a1 a2 = some r) :
    Calls Try.prog 3 #[.slice A0 l0.length c0, .int .u8 a1, .int .i64 a2] w fun e w' => e = .returned (.bool r) ∧ Below w.heap.size w w' := by
  unfold bolterlaw23_DeviceKeeps.f at h
  by_cases hb : (l0.map List.length).sum ≤ 1048576 ∧ l0.length ≤ 1048576 ∧ 0 ≤ a1 ∧ a1 < 256 ∧ -9223372036854775808 ≤ a2 ∧ a2 ≤ 9223372036854775807
  case neg => rw [if_neg hb] at h; cases h
  rw [if_pos hb] at h
  obtain rfl := Option.some.inj h
  clear h
  obtain ⟨hsum, hlen, ha0, ha1, hk0, hk1⟩ := hb
  have HR0 := Lib.hid hr0
  have HSUM := Lib.hid hsum
  clear hr0 hsum
  obtain ⟨z, rfl⟩ := Int.eq_ofNat_of_zero_le ha0
  obtain ⟨j, hj⟩ : ∃ j : Nat, z % (l0.length + 1) = j := ⟨_, rfl⟩
  have hn : Int.tmod (z : Int) ((l0.length : Int) + 1) = (j : Int) := by rw [← hj]; rfl
  have hw1 : IntKind.i64.wrap (z : Int) = (z : Int) := by rw [i64_w]; unfold wrap64; omega
  have hw2 : wrap64 (z : Int) = (z : Int) := by unfold wrap64; omega
  have HJ := Lib.hid hj
  clear hj
  go_enter Try.func3, Try.ntmps3
  go_wp2_with fail
  refine (awake _).mono ?_
  rintro e w1 ⟨rfl, hb1⟩
  have HB1 := Lib.hid hb1
  have HL1 := Lib.hid (Live.fresh w w1 hb1)
  clear hb1
  go_wp2_with fail
  go_loopw [8, 9, 19] (fun t s i wx => ∃ k : Nat, k ≤ l0.length ∧ i = .int .i64 k ∧ t = .string (strOfNums (cat l0 k)) ∧ s = .int .i64 (ksafe l0 j k) ∧ Aside0 (∃ F, Live w wx w1.heap.size F (kst l0 j k) k))
    (fun _ _ i _ => l0.length - (intOf i).toNat)
  case atStart => exact ⟨0, Nat.zero_le _, rfl, rfl, by simp [ksafe], ⟨_, HL1.out⟩⟩
  case round =>
    obtain ⟨k, hk, rfl, rfl, rfl, hrel⟩ := hrel
    obtain ⟨F, hL⟩ := hrel.out
    clear hrel
    have hkl := ksafe_le l0 j k
    have hcl := cat_len l0 k
    have hsz := HSUM.out
    by_cases hlt : k < l0.length
    · have hget := List.getElem?_eq_getElem hlt
      obtain ⟨x, hx⟩ : ∃ x, l0[k] = x := ⟨_, rfl⟩
      rw [hx] at hget
      have hcat := cat_succ l0 k x hget
      have hcl1 := cat_len l0 (k + 1)
      rw [hcat, List.length_append] at hcl1
      obtain ⟨ad, Ax, cx, ha, hcell0, hcx, hC⟩ := row_at HR0.out k x hget
      have hcell := pw_cell_below hL.base hcell0
      subst ha
      have HL := Lib.hid hL
      have HG := Lib.hid hget
      have HC := Lib.hid hC
      have HT := Lib.hid hcat
      clear hL hget hx hC hcat hcell0
      go_wp2_with fail
      refine (live_append HL.out (by have := kst_len l0 j k; omega) (by omega) (by omega) Ax cx x hcx (fun w' ht => C_args HL.out.base ht (fun q hq => (HL.out.foot q hq).1) HC.out) (by intro b s h; have := (kst_mem h).1; rw [this]; omega) (by omega)).mono ?_
      rintro e w2 ⟨rfl, F2, hL, ht, hF⟩
      rw [kst_app l0 j k x HG.out] at hL
      have HL2 := Lib.hid hL
      have hcv := Kd.C_string (P := Try.prog) (c := cx) Try.underlying28 Try.underlying5 Try.underlying9 (Kd.C_below HC.out hL.base)
      have hsa : strOfNums (cat l0 k) ++ strOfNums x = strOfNums (cat l0 (k + 1)) := by rw [str_append, HT.out]
      have hss : (strOfNums (cat l0 (k + 1))).size = (cat l0 (k + 1)).length := str_size _
      have hov : ¬ 9223372036854775807 < (strOfNums (cat l0 k)).size + (strOfNums x).size := by rw [str_size, str_size]; omega
      clear hL ht hF HL
      by_cases hkj : k = j
      · subst hkj
        have HS := Lib.hid (ksafe_sync l0 k)
        go_wp2_with fail
        refine (live_sync HL2.out (by simp)).mono ?_
        rintro e w3 ⟨rfl, F3, hL, ht, hF⟩
        rw [kst_sync] at hL
        have HL3 := Lib.hid hL
        clear hL ht hF HL2 hcv
        go_wp2_with fail
        go_roundw
        case rel => exact ⟨k + 1, by omega, by go_num, rfl, by rw [← HS.out], ⟨F3, HL3.out⟩⟩
        case measure => simp [intOf]; omega
      · have hkj1 : ((k : Int) == (j : Int)) = false := beq_eq_false_iff_ne.mpr (by omega)
        have hkj2 : ¬ (k : Int) = (j : Int) := by omega
        have HK := Lib.hid hkj
        go_wp2_with fail
        go_roundw
        case rel => exact ⟨k + 1, by omega, by go_num, rfl, by rw [← ksafe_next l0 j k HK.out], ⟨F2, by have := HL2.out; rw [kst_next l0 j k HK.out] at this; exact this⟩⟩
        case measure => simp [intOf]; omega
    · have hkk : k = l0.length := by omega
      subst hkk
      have HL := Lib.hid hL
      clear hL hlt hk
      have hml := left_le (cat l0 l0.length, ksafe l0 j l0.length) a2 hkl.1 hkl.2
      go_wp2_with fail
      refine (live_crash HL.out (by have := kst_len l0 j l0.length; omega) a2 hk0 hk1 (by intro b s h; obtain ⟨rfl, rfl⟩ := kst_mem h; exact ⟨hkl.1, hkl.2, by omega⟩)).mono ?_
      rintro e w2 ⟨rfl, F2, hL, ht, hF⟩
      have HL2 := Lib.hid hL
      clear hL ht hF HL
      by_cases h0 : l0.length = 0
      · have hnil : l0 = [] := List.eq_nil_of_length_eq_zero h0
        subst hnil
        have hL2 : Live w w2 w1.heap.size F2 [] 0 := HL2.out
        have HL3 := Lib.hid hL2
        clear hL2 HL2
        go_wp2_with fail
        refine (live_segments HL3.out (by simp) (by intro b s h; cases h)).mono ?_
        rintro e w3 ⟨v, rfl, hR, hB⟩
        obtain ⟨A3, c3, hv⟩ := Kd.R_slice hR
        change v = .slice A3 0 c3 at hv
        subst hv
        have HL4 := Lib.hid (HL3.out.below hB)
        clear hR hB HL3
        go_wp2_with fail
        refine (live_safe HL4.out (by simp) (fine_safeOk (by intro b s h; cases h) (by simp [total]))).mono ?_
        rintro e w4 ⟨rfl, hB⟩
        have HL5 := Lib.hid (HL4.out.below hB)
        have hd : dsafe [] = 0 := rfl
        rw [hd]
        clear hB hd HL4
        go_wp2_with fail
        go_ret
        exact ⟨rfl, HL5.out.base⟩
      · have hst : kst l0 j l0.length = [(cat l0 l0.length, ksafe l0 j l0.length)] := by unfold kst; rw [if_neg h0]
        have hm0 : ¬ 0 < a2 → (left (cat l0 l0.length, ksafe l0 j l0.length) a2 : Int) = ksafe l0 j l0.length := by
          intro h
          unfold left
          show ((ksafe l0 j l0.length + max 0 (min a2 (((cat l0 l0.length).length : Int) - ksafe l0 j l0.length))).toNat : Int) = _
          omega
        have hL2 := HL2.out
        rw [hst] at hL2
        have hL3 : Live w w2 w1.heap.size F2 [((cat l0 l0.length).take (left (cat l0 l0.length, ksafe l0 j l0.length) a2), (left (cat l0 l0.length, ksafe l0 j l0.length) a2 : Int))] l0.length := hL2
        have hcl2 : (cat l0 l0.length).length ≤ 1048576 := by omega
        have hpos : 0 < l0.length := by omega
        clear hL2 HL2 hst hcl
        generalize hcg : cat l0 l0.length = c at *
        generalize hsg : ksafe l0 j l0.length = s at *
        generalize hmg : left (c, s) a2 = m at *
        obtain ⟨hml1, hml2⟩ := hml
        have hlm : (c.take m).length = m := by rw [List.length_take]; omega
        have HL3 := Lib.hid hL3
        have HM := Lib.hid hm0
        have HLM := Lib.hid hlm
        have hz0 : ((l0.length : Int) == 0) = false := beq_eq_false_iff_ne.mpr (by omega)
        have hz1 : ¬ l0.length = 0 := h0
        clear hcg hsg hmg hL3 hm0 hlm h0
        go_wp2_with fail
        refine (live_segments HL3.out (by simp) (by intro b t h; simp at h; rw [h.1, HLM.out]; omega)).mono ?_
        rintro e w3 ⟨v, rfl, hR, hB⟩
        obtain ⟨gb, cb, A3, c3, hv, hcb, hcell, hc3, hC⟩ := row_own hR 0 (c.take m) rfl
        change v = .slice (some ⟨gb, 0, none⟩) 1 cb at hv
        change 1 ≤ cb at hcb
        subst hv
        rw [HLM.out] at hcell hc3
        have HL4 := Lib.hid (HL3.out.below hB)
        have hcellq := fun d os => cell_regrown hcell d os
        have hcvq : ∀ d os, (convert 28 9 (.slice A3 m c3)).run Try.prog (grow (redrawn w3 d) os) = .ok (.string (strOfNums (c.take m))) (grow (redrawn w3 d) os) := by
          intro d os
          have := Kd.C_string (P := Try.prog) (c := c3) Try.underlying28 Try.underlying5 Try.underlying9 (Kd.C_below hC (below_regrown w3 d os))
          rw [HLM.out] at this
          exact this
        have cS : ∀ d os, Calls Try.prog 12 #[.pointer (some ⟨w1.heap.size, 0, none⟩)] (grow (redrawn w3 d) os) fun e w'' => e = .returned (.int .i64 (m : Int)) ∧ ∃ p : Regrown, w'' = grow (redrawn w3 p.d) p.os := by
          intro d os
          refine Calls.regrown_of ((live_safe (HL4.out.below (below_regrown w3 d os)) (by simp) (fine_safeOk (by intro b t h; simp at h; rw [h.1, h.2, HLM.out]; omega) ?_)).mono ?_)
          · simp only [total, List.map_cons, List.map_nil, List.sum_cons, List.sum_nil, HLM.out]; omega
          · rintro e w' ⟨rfl, hb⟩
            exact ⟨by simp [dsafe], hb⟩
        have hsl : (strOfNums c).extract 0 m = strOfNums (c.take m) := str_extract c m
        have hsz2 : (strOfNums c).size = c.length := str_size c
        have hcm : ¬ c.length < m := by omega
        have hge : decide ((m : Int) ≥ s) = true := decide_eq_true (by omega)
        have hge2 : decide (s ≤ (m : Int)) = true := decide_eq_true (by omega)
        have d1 : decide (0 ≤ (m : Int)) = true := decide_eq_true (by omega)
        have d2 : decide ((m : Int) ≤ (c.length : Int)) = true := decide_eq_true (by omega)
        clear hR hB hcell hC HL3 hn hw1 hw2 HJ HB1 HL1 hc3 HR0 HSUM hsz
        go_wp2
        by_cases hk : 0 < a2
        · have d3 : decide (0 < a2) = true := decide_eq_true hk
          have d4 : decide (a2 > 0) = true := decide_eq_true hk
          refine wp_region_quiet_below (by kernel_rfl) (by kernel_rfl) ?_
          repeat (first | go_big_quiet_step (exact cS _ _) | quiet_step (exact cS _ _))
          refine wpQuiet_nil ?_
          intro _ hw'
          obtain ⟨⟨dq, osq⟩, hw''⟩ := hw'
          subst hw''
          go_wp2
          go_ret
          exact ⟨by first | rfl | simp, HL4.out.base.trans ((below_regrown w3 dq osq).mono HL4.out.base.size)⟩
        · have d3 : decide (0 < a2) = false := decide_eq_false hk
          have d4 : decide (a2 > 0) = false := decide_eq_false hk
          have hms := HM.out (by omega)
          subst hms
          refine wp_region_quiet_below (by kernel_rfl) (by kernel_rfl) ?_
          repeat (first | go_big_quiet_step (exact cS _ _) | quiet_step (exact cS _ _))
          refine wpQuiet_nil ?_
          intro _ hw'
          obtain ⟨⟨dq, osq⟩, hw''⟩ := hw'
          subst hw''
          go_wp2
          go_ret
          exact ⟨by first | rfl | simp, HL4.out.base.trans ((below_regrown w3 dq osq).mono HL4.out.base.size)⟩
end Go.Proofs.Ytkicgmhbcldbbaa.PD
