/-
  The law DeviceBegins of layer 23: what stands in segments ahead of the last one is safe. No macro, syntax, notation, axiom, sorry.
-/
import Derived.Test.YtkicgmhbcldbbaaPDx2
namespace Go.Proofs.Ytkicgmhbcldbbaa.PD
open Go.RowKit Go.Proofs.YtkicgmhbcldbbaaW.PrintWords Go.Proofs.Ytkicgmhbcldbbaa.DevW Go.Proofs.Ytkicgmhbcldbbaa.DevC
set_option linter.unusedVariables false
set_option linter.unusedSimpArgs false
set_option maxRecDepth 100000

theorem infoStr : (Try.prog.info? 9).map (fun i => (i.zero, i.size, i.bytes)) = some (some (.string ByteArray.empty), 1, 16) := by kernel_rfl

/-! ### What the law lays on the device -/
def whole (l : List (List Int)) : St := l.map fun b => (b, (b.length : Int))
def bst (l : List (List Int)) (k : Nat) : St := match k with | 0 => [] | k + 1 => whole (l.take k) ++ [(l.getD k [], 0)]
theorem whole_sync (st : St) : dsync st = whole (st.map fun p => p.1) := by simp [whole, dsync, List.map_map, Function.comp_def]
theorem bst_bytes (l : List (List Int)) (k : Nat) (hk : k ≤ l.length) : (bst l k).map (fun p => p.1) = l.take k := by
  cases k with
  | zero => rfl
  | succ k =>
    have hlt : k < l.length := by omega
    simp only [bst, whole, List.map_append, List.map_map, Function.comp_def, List.map_cons, List.map_nil]
    rw [List.take_succ_eq_append_getElem hlt, List.getD_eq_getElem?_getD, List.getElem?_eq_getElem hlt]
    simp
theorem bst_step (l : List (List Int)) (k : Nat) (x : List Int) (h : l[k]? = some x) : dappend (dbegin (bst l k)) x = bst l (k + 1) := by
  have hk := (List.getElem?_eq_some_iff.1 h).1
  have hne : dbegin (bst l k) ≠ [] := by unfold dbegin; simp
  unfold dappend
  rw [if_neg hne]
  unfold dbegin
  rw [onLast_snoc, whole_sync, bst_bytes l k (by omega)]
  simp only [bst, List.nil_append]
  rw [List.getD_eq_getElem?_getD, h]
  rfl
theorem bst_len (l : List (List Int)) (k : Nat) (hk : k ≤ l.length) : (bst l k).length = k := by
  have := congrArg List.length (bst_bytes l k hk)
  rw [List.length_map, List.length_take] at this
  omega
theorem mem_sum (l : List (List Int)) (x : List Int) (h : x ∈ l) : x.length ≤ (l.map List.length).sum := by
  induction l with
  | nil => cases h
  | cons y r ih =>
    simp only [List.map_cons, List.sum_cons]
    rcases List.mem_cons.1 h with rfl | h
    · omega
    · have := ih h
      omega
theorem bst_mem {l : List (List Int)} {k : Nat} (hk : k ≤ l.length) {b : List Int} {s : Int} (h : (b, s) ∈ bst l k) : b ∈ l ∧ 0 ≤ s ∧ s ≤ b.length := by
  have hb : b ∈ l := by
    have : b ∈ (bst l k).map (fun p => p.1) := List.mem_map.2 ⟨_, h, rfl⟩
    rw [bst_bytes l k hk] at this
    exact List.mem_of_mem_take this
  refine ⟨hb, ?_⟩
  cases k with
  | zero => cases h
  | succ k =>
    rcases List.mem_append.1 h with h | h
    · obtain ⟨y, _, hy⟩ := List.mem_map.1 h
      injection hy with h1 h2
      subst h1
      omega
    · simp at h
      omega

/-- What is told behind the crash and the cut. -/
def told (l : List (List Int)) (m : Nat) : List (List Int) := match l.length with | 0 => [] | n + 1 => l.take n ++ [(l.getD n []).take m]
theorem told_st (l : List (List Int)) (z : Nat) : dsegs (dcut (dcrash (bst l l.length) (z : Int)) ((z / 2 : Nat) : Int)) = told l (min (z / 2) (l.getD (l.length - 1) []).length) := by
  unfold told
  cases hl : l.length with
  | zero => rfl
  | succ n =>
    simp only [bst, Nat.add_sub_cancel]
    generalize l.getD n [] = x
    unfold dcrash
    rw [onLast_snoc]
    unfold dcut
    rw [onLast_snoc]
    have h1 : left (x, 0) (z : Int) = min z x.length := by
      unfold left
      show ((0 : Int) + max 0 (min (z : Int) ((x.length : Int) - 0))).toNat = _
      omega
    simp only [h1]
    have h2 : (x.take (min z x.length)).length = min z x.length := by rw [List.length_take]; omega
    rw [h2]
    have h3 : (max 0 (min ((z / 2 : Nat) : Int) ((min z x.length : Nat) : Int))).toNat = min (z / 2) x.length := by omega
    rw [h3, List.take_take, show min (min (z / 2) x.length) (min z x.length) = min (z / 2) x.length by omega]
    simp [dsegs, whole, List.map_map, Function.comp_def]
theorem told_len (l : List (List Int)) (m : Nat) : (told l m).length = l.length := by
  unfold told
  split
  · rename_i h; rw [h]; rfl
  · rename_i n h; rw [h]; simp; omega
theorem told_get (l : List (List Int)) (m k : Nat) (h : k + 1 < l.length) : (told l m)[k]? = l[k]? := by
  unfold told
  split
  · rename_i h; omega
  · rename_i n h
    rw [List.getElem?_append_left (by rw [List.length_take]; omega), List.getElem?_take, if_pos (by omega)]
theorem told_last (l : List (List Int)) (m : Nat) (h : 0 < l.length) : (told l m)[l.length - 1]? = some ((l.getD (l.length - 1) []).take m) := by
  unfold told
  split
  · rename_i h; omega
  · rename_i n h
    rw [show l.length - 1 = n by omega, List.getElem?_append_right (by rw [List.length_take]; omega), List.length_take, show n - min n l.length = 0 by omega]
    rfl
theorem crash_mem {l : List (List Int)} {z : Nat} {b : List Int} {s : Int} (h : (b, s) ∈ dcrash (bst l l.length) (z : Int)) : ∃ x ∈ l, b.length ≤ x.length ∧ 0 ≤ s ∧ s ≤ b.length := by
  unfold dcrash at h
  cases hl : l.length with
  | zero => rw [hl] at h; cases h
  | succ n =>
    rw [hl] at h
    simp only [bst] at h
    rw [onLast_snoc] at h
    rcases List.mem_append.1 h with h | h
    · obtain ⟨y, hy, he⟩ := List.mem_map.1 h
      injection he with h1 h2
      subst h1
      exact ⟨y, List.mem_of_mem_take hy, Nat.le_refl _, by omega, by omega⟩
    · simp only [List.mem_singleton, Prod.mk.injEq] at h
      obtain ⟨rfl, rfl⟩ := h
      have hn : n < l.length := by omega
      have hle := left_le (l.getD n [], 0) (z : Int) (by simp) (by simp)
      refine ⟨l.getD n [], ?_, ?_, by omega, ?_⟩
      · rw [List.getD_eq_getElem?_getD, List.getElem?_eq_getElem hn]
        exact List.getElem_mem hn
      · rw [List.length_take]; omega
      · rw [List.length_take]; have := hle.1; simp only at this; omega
theorem cut_len (st : St) (n : Int) : (dcut st n).length = st.length := by
  unfold dcut onLast
  split
  · rfl
  · rw [List.length_set]
theorem crash_len (st : St) (n : Int) : (dcrash st n).length = st.length := by
  unfold dcrash onLast
  split
  · rfl
  · rw [List.length_set]
theorem cut_mem {st : St} {n : Int} {b : List Int} {s : Int} (h : (b, s) ∈ dcut st n) : ∃ x t, (x, t) ∈ st ∧ b.length ≤ x.length := by
  unfold dcut onLast at h
  split at h
  · exact ⟨b, s, h, Nat.le_refl _⟩
  · rename_i y hy
    rcases List.mem_or_eq_of_mem_set h with h | h
    · exact ⟨b, s, h, Nat.le_refl _⟩
    · injection h with h1 h2
      refine ⟨y.1, y.2, List.mem_of_getElem? hy, ?_⟩
      rw [h1, List.length_take]
      omega

def bolterlaw23_DeviceBegins.f (l0 : List (List Int)) (a1 : Int) : Option Bool := if (l0.map List.length).sum ≤ 1048576 ∧ l0.length ≤ 1048576 ∧ 0 ≤ a1 ∧ a1 < 256 then some true else none

/-- A row of strings of the law's own, apart from the device. -/
def Want (w0 w : World) (F : List Nat) (v : Value) (ss : List ByteArray) : Prop := w.ownsRow w0.heap.size 9 1 v ss.length (encs Value.string ss) ∧ ∀ k, v.ownBlock = some k → k ∉ F
theorem Want.next {w0 w w' : World} {F F' : List Nat} {v : Value} {ss : List ByteArray} (h : Want w0 w F v ss) (ht : Turned F w w') (hF : ∀ k ∈ F', k ∈ F ∨ w.heap.size ≤ k) : Want w0 w' F' v ss :=
  ⟨ht.own h.1 h.2, fun k hk hm => by
    rcases hF k hm with h1 | h1
    · exact h.2 k hk h1
    · have := (h.1.lt k hk).2
      omega⟩
theorem Want.below {w0 w w' : World} {F : List Nat} {v : Value} {ss : List ByteArray} (h : Want w0 w F v ss) (hb : Below w.heap.size w w') : Want w0 w' F v ss := ⟨pw_own_below h.1 hb, h.2⟩
theorem Want.slice {w0 w : World} {F : List Nat} {v : Value} {ss : List ByteArray} (h : Want w0 w F v ss) : ∃ A c, v = .slice A ss.length c ∧ ss.length ≤ c := own_slice_le h.1
theorem Want.at_ {w0 w : World} {F : List Nat} {v : Value} {ss : List ByteArray} (h : Want w0 w F v ss) (i : Nat) (s : ByteArray) (hs : ss[i]? = some s) : ∃ g c, v = .slice (some ⟨g, 0, none⟩) ss.length c ∧ ss.length ≤ c ∧ w.cell? ⟨g, i, none⟩ = some (.string s) := by
  have hi := (List.getElem?_eq_some_iff.1 hs).1
  obtain ⟨g, c, hv, _, _⟩ := h.1.form (by omega)
  subst hv
  have hc := own_le h.1
  have := h.1.cells (g := g) rfl i (.string s) (by simp [encs, hs])
  rw [add_plain] at this
  exact ⟨g, c, rfl, hc, this⟩

set_option maxHeartbeats 4000000 in
theorem bolterlaw23_DeviceBegins.calls (A0 : Option Addr) (c0 : Nat) (l0 : List (List Int)) (a1 : Int) (r : Bool) (w : World) (hr0 : Kd.C (Kd.slice 5 (Kd.int .u8)) w A0 l0.length l0) (hc0 : l0.length ≤ c0) (h : bolterlaw23_DeviceBegins.f l0 a1 = some r) :
    Calls Try.prog 5 #[.slice A0 l0.length c0, .int .u8 a1] w fun e w' => e = .returned (.bool r) ∧ Below w.heap.size w w' := by
  unfold bolterlaw23_DeviceBegins.f at h
  by_cases hb : (l0.map List.length).sum ≤ 1048576 ∧ l0.length ≤ 1048576 ∧ 0 ≤ a1 ∧ a1 < 256
  case neg => rw [if_neg hb] at h; cases h
  rw [if_pos hb] at h
  obtain rfl := Option.some.inj h
  clear h
  obtain ⟨hsum, hlen, ha0, ha1⟩ := hb
  have HR0 := Lib.hid hr0
  have HSUM := Lib.hid hsum
  clear hr0 hsum
  obtain ⟨z, rfl⟩ := Int.eq_ofNat_of_zero_le ha0
  have hw1 : IntKind.i64.wrap (z : Int) = (z : Int) := by rw [i64_w]; unfold wrap64; omega
  have hw2 : wrap64 (z : Int) = (z : Int) := by unfold wrap64; omega
  go_enter Try.func5, Try.ntmps5
  go_wp2_with fail
  refine (awake _).mono ?_
  rintro e w1 ⟨rfl, hb1⟩
  have HB1 := Lib.hid hb1
  have HL1 := Lib.hid (Live.fresh w w1 hb1)
  clear hb1
  go_wp2_with fail
  go_loopw [6, 17] (fun v i wx => ∃ k : Nat, k ≤ l0.length ∧ i = .int .i64 k ∧ Aside0 (∃ F, Live w wx w1.heap.size F (bst l0 k) k ∧ Want w wx F v ((l0.take k).map strOfNums)))
    (fun _ i _ => l0.length - (intOf i).toNat)
  case atStart => exact ⟨0, Nat.zero_le _, rfl, ⟨_, HL1.out, World.ownsRow_nil _ _ _ _, fun k hk => by simp [Value.ownBlock] at hk⟩⟩
  case round =>
    obtain ⟨k, hk, rfl, hrel⟩ := hrel
    obtain ⟨F, hL, hW⟩ := hrel.out
    clear hrel
    by_cases hlt : k < l0.length
    · have hget := List.getElem?_eq_getElem hlt
      obtain ⟨x, hx⟩ : ∃ x, l0[k] = x := ⟨_, rfl⟩
      rw [hx] at hget
      obtain ⟨ad, Ax, cx, ha, hcell0, hcx, hC⟩ := row_at HR0.out k x hget
      have hcell := pw_cell_below hL.base hcell0
      subst ha
      have hxs : x.length ≤ 1048576 := by have := mem_sum l0 x (List.mem_of_getElem? hget); have := HSUM.out; omega
      obtain ⟨Av, cv, hv, hcv⟩ := hW.slice
      subst hv
      have hkl : ((l0.take k).map strOfNums).length = k := by rw [List.length_map, List.length_take]; omega
      rw [hkl] at hcv hW
      have HL := Lib.hid hL
      have HW := Lib.hid hW
      have HG := Lib.hid hget
      have HC := Lib.hid hC
      have HK := Lib.hid hkl
      rw [hkl]
      clear hL hW hget hx hC hcell0 hkl
      go_wp2_with fail
      refine (live_begin HL.out (by rw [bst_len l0 k hk]; omega)).mono ?_
      rintro e w2 ⟨rfl, F2, hL, ht, hF⟩
      have HL2 := Lib.hid hL
      have HW2 := Lib.hid (HW.out.next ht hF)
      have hcell2 : w2.cell? (ad.add k) = some (.slice Ax x.length cx) := by
        have := HL.out.base
        obtain ⟨ad', _, _, ha', hc', _⟩ := row_at HR0.out k x HG.out
        exact (World.cell?_of_block (ht.block _ (World.block_lt_of_cell? _ _ hcell) (fun hm => by
          have h1 := (HL.out.foot _ hm).1
          injection ha' with ha'
          subst ha'
          have h2 := World.block_lt_of_cell? _ _ hc'
          omega))).trans hcell
      clear hL ht hF HL HW hcell
      go_wp2_with fail
      refine (live_append HL2.out (by rw [dbegin_len, bst_len l0 k hk]; omega) (by omega) (by omega) Ax cx x hcx (fun w' ht => C_args HL2.out.base ht (fun q hq => (HL2.out.foot q hq).1) HC.out) ?_ (by omega)).mono ?_
      · intro b s hbs
        have : b.length ≤ 1048576 := by
          unfold dbegin at hbs
          rcases List.mem_append.1 hbs with hbs | hbs
          · obtain ⟨⟨b', s'⟩, h1, h2⟩ := List.mem_map.1 hbs
            injection h2 with h2 h3
            subst h2
            have := mem_sum l0 b' (bst_mem hk h1).1
            have := HSUM.out
            simp only
            omega
          · simp at hbs
            rw [hbs.1]
            simp
        omega
      rintro e w3 ⟨rfl, F3, hL, ht, hF⟩
      rw [bst_step l0 k x HG.out] at hL
      have HL3 := Lib.hid hL
      have HW3 := Lib.hid (HW2.out.next ht hF)
      have hcvt := Kd.C_string (P := Try.prog) (c := cx) Try.underlying28 Try.underlying5 Try.underlying9 (Kd.C_below HC.out hL.base)
      clear hL ht hF HL2 HW2 hcell2
      go_wp2_with (at_builtin; refine print_append_of (w0 := w3) Value.string w.heap.size rfl (.tmp 26) (.tmp 29) 35 9 (.string ByteArray.empty) 16 rfl Try.underlying35 infoStr rfl (by decide) (.slice Av k cv) ((l0.take k).map strOfNums) (strOfNums x) rfl rfl rfl ?ho (Below.refl _ _) ?hb ?hl ?_)
      case ho => rw [HK.out]; have := HW3.out.1; rw [HK.out] at this; exact this
      case hb => exact HL3.out.base.size
      case hl => rw [HK.out]; omega
      intro v4 w4 hown hB hg hat
      have hW4 : Want w w4 F3 v4 ((l0.take (k + 1)).map strOfNums) := by
        have e : (l0.take (k + 1)).map strOfNums = (l0.take k).map strOfNums ++ [strOfNums x] := by
          have hi := (List.getElem?_eq_some_iff.1 HG.out).1
          rw [List.take_succ_eq_append_getElem hi, List.map_append]
          have := HG.out
          rw [List.getElem?_eq_getElem hi] at this
          injection this with this
          rw [this]
          rfl
        rw [e]
        have hl' : ((l0.take k).map strOfNums ++ [strOfNums x]).length = k + 1 := by rw [List.length_append, HK.out]; rfl
        refine ⟨by rw [hl']; simpa using hown, fun q hq hm => ?_⟩
        rcases hat with hat | ⟨b, hb, hle⟩
        · exact HW3.out.2 q (hat ▸ hq) hm
        · rw [hb] at hq
          injection hq with hq
          have := (HL3.out.foot q hm).2
          omega
      have hL4 : Live w w4 w1.heap.size F3 (bst l0 (k + 1)) (k + 1) := by
        refine HL3.out.other (F1 := (Value.slice Av k cv).ownBlock.toList) (Turned.of_grown hg (fun q hq => by rw [hq]; simp)) (fun q hq => ?_) (fun q hq => ?_)
        · have hq' : (Value.slice Av k cv).ownBlock = some q := by cases h : (Value.slice Av k cv).ownBlock with
            | none => rw [h] at hq; simp at hq
            | some b => rw [h] at hq; simp at hq; rw [hq]
          exact HW3.out.2 q hq'
        · have hq' : (Value.slice Av k cv).ownBlock = some q := by cases h : (Value.slice Av k cv).ownBlock with
            | none => rw [h] at hq; simp at hq
            | some b => rw [h] at hq; simp at hq; rw [hq]
          exact (HW3.out.1.lt q hq').1
      obtain ⟨A4, c4, hv4, _⟩ := hW4.slice
      subst hv4
      have HL4 := Aside0.mk (⟨F3, hL4, hW4⟩ : ∃ F, Live w w4 w1.heap.size F (bst l0 (k + 1)) (k + 1) ∧ Want w w4 F _ ((l0.take (k + 1)).map strOfNums))
      clear hown hB hg hat hW4 hL4 HL3 HW3 hcvt
      go_wp2
      go_roundw
      case rel => exact ⟨k + 1, by omega, by go_num, by exact_mod_cast HL4⟩
      case measure => simp [intOf]; omega
    · have hkk : k = l0.length := by omega
      subst hkk
      clear hk hlt
      have hbl := bst_len l0 l0.length (Nat.le_refl _)
      have hq2 : ((z : Int) / 2) = ((z / 2 : Nat) : Int) := by omega
      obtain ⟨y, hy⟩ : ∃ y : Nat, z / 2 = y := ⟨_, rfl⟩
      have HY := Lib.hid hy
      rw [hy] at hq2
      have HL := Lib.hid hL
      have HW := Lib.hid hW
      have HBL := Lib.hid hbl
      clear hL hW hbl hy
      obtain ⟨Av, cv, hv, hcv⟩ := HW.out.slice
      subst hv
      have hkl : ((l0.take l0.length).map strOfNums).length = l0.length := by rw [List.length_map, List.take_length]
      rw [hkl] at hcv HW ⊢
      clear hkl
      go_wp2_with fail
      refine (live_crash HL.out (by rw [HBL.out]; omega) (z : Int) (by omega) (by omega) (by intro b s h; have h1 := bst_mem (Nat.le_refl _) h; have h2 := mem_sum l0 b h1.1; have := HSUM.out; exact ⟨h1.2.1, h1.2.2, by omega⟩)).mono ?_
      rintro e w2 ⟨rfl, F2, hL, ht, hF⟩
      have HL2 := Lib.hid hL
      have HW2 := Lib.hid (HW.out.next ht hF)
      clear hL ht hF HL HW
      go_wp2_with fail
      refine (live_cut HL2.out (by rw [crash_len, HBL.out]; omega) (y : Int) (by intro b s h; obtain ⟨x, hx, h1, h2, h3⟩ := crash_mem h; have h4 := mem_sum l0 x hx; have := HSUM.out; exact ⟨h2, h3, by omega⟩)).mono ?_
      rintro e w3 ⟨rfl, F3, hL, ht, hF⟩
      have HL3 := Lib.hid hL
      have HW3 := Lib.hid (HW2.out.next ht hF)
      clear hL ht hF HL2 HW2
      go_wp2_with fail
      refine (live_segments HL3.out (by rw [cut_len, crash_len, HBL.out]; omega) (by intro b s h; obtain ⟨x, t, h1, h2⟩ := cut_mem h; obtain ⟨x', hx', h3, _, _⟩ := crash_mem h1; have h4 := mem_sum l0 x' hx'; have := HSUM.out; omega)).mono ?_
      rintro e w4 ⟨v, rfl, hR, hB⟩
      rw [← HY.out, told_st] at hR
      obtain ⟨m, hm⟩ : ∃ m, min (z / 2) (l0.getD (l0.length - 1) []).length = m := ⟨_, rfl⟩
      rw [hm] at hR
      rw [HY.out] at hm
      obtain ⟨A4, c4, hv⟩ := Kd.R_slice hR
      rw [told_len] at hv
      subst hv
      have HR4 := Lib.hid hR
      have HW4 := Lib.hid (HW3.out.below hB)
      have HB4 := Lib.hid (HL3.out.base.trans (hB.mono HL3.out.base.size))
      have HM := Lib.hid hm
      clear hR hB HL3 HW3 hm hq2 HBL HB1 HL1
      obtain ⟨wp, hwp⟩ : ∃ wp, wr = wp := ⟨_, rfl⟩
      clear hwp
      go_wp2_with fail
      go_loopw [50] (fun i wx => ∃ k : Nat, k ≤ l0.length ∧ i = .int .i64 k ∧ Aside0 (Drawn0 w4 wx))
        (fun i _ => l0.length - (intOf i).toNat)
      case atStart => exact ⟨0, Nat.zero_le _, rfl, ⟨Drawn0.refl _⟩⟩
      case round =>
        obtain ⟨k, hk, rfl, HD⟩ := hrel
        by_cases hlt : k < l0.length
        · have hget := List.getElem?_eq_getElem hlt
          obtain ⟨x, hx⟩ : ∃ x, l0[k] = x := ⟨_, rfl⟩
          rw [hx] at hget
          have hR := Kd.R_below HR4.out HD.out.below
          have hW := HW4.out.below HD.out.below
          obtain ⟨g5, c5, hv5, hc5, hw5⟩ := hW.at_ k (strOfNums x) (by rw [List.take_length, List.getElem?_map, hget]; rfl)
          injection hv5 with hv5 hl5 hc5'
          subst hv5
          have hsx : (strOfNums x).size = x.length := str_size x
          have hlb : x.length ≤ 1048576 := by have := mem_sum l0 x (List.mem_of_getElem? hget); have := HSUM.out; omega
          by_cases hl : k + 1 < l0.length
          · have hg2 : (told l0 m)[k]? = some x := by rw [told_get l0 m k hl]; exact hget
            obtain ⟨gb, cb, A3, c3, hv, hcb, hcell, hc3, hC⟩ := row_own hR k x hg2
            injection hv with hv hvl hvc
            subst hv
            have hcq := fun n => Kd.C_string (P := Try.prog) (c := c3) Try.underlying28 Try.underlying5 Try.underlying9 (Kd.C_drewN hC n)
            have d1 : decide ((k : Int) < (l0.length : Int) - 1) = true := decide_eq_true (by omega)
            have d2 : decide ((x.length : Int) > (x.length : Int)) = false := decide_eq_false (by omega)
            clear hR hW hC hg2 hget hx hl5 hc5' hvl hvc
            go_wp2
            go_quiet (fail)
            go_wp2
            go_roundw
            case rel => exact ⟨k + 1, by omega, by go_num, ⟨HD.out.step nq⟩⟩
            case measure => simp [intOf]; omega
          · have hkl : k = l0.length - 1 := by omega
            have hg2 : (told l0 m)[k]? = some (x.take m) := by
              rw [hkl, told_last l0 m (by omega), ← hkl, List.getD_eq_getElem?_getD, hget]
              rfl
            have hmx : m = min y x.length := by rw [← HM.out, ← hkl, List.getD_eq_getElem?_getD, hget]; rfl
            have hlm : (x.take m).length = m := by rw [List.length_take]; omega
            have hmle : m ≤ x.length := by omega
            obtain ⟨gb, cb, A3, c3, hv, hcb, hcell, hc3, hC⟩ := row_own hR k (x.take m) hg2
            injection hv with hv hvl hvc
            subst hv
            rw [hlm] at hcell hc3
            have d1 : decide ((k : Int) < (l0.length : Int) - 1) = false := decide_eq_false (by omega)
            have d2 : decide ((m : Int) > (x.length : Int)) = false := decide_eq_false (by omega)
            have d3 : decide ((x.length : Int) < (m : Int)) = false := decide_eq_false (by omega)
            clear hR hW hC hg2 hget hx hl5 hc5' hvl hvc hkl hmx hlm
            go_wp2
            go_quiet (fail)
            go_wp2
            go_roundw
            case rel => exact ⟨k + 1, by omega, by go_num, ⟨HD.out.step nq⟩⟩
            case measure => simp [intOf]; omega
        · have hkk : k = l0.length := by omega
          have hBB := Lib.hid (HB4.out.trans (HD.out.below.mono HB4.out.size))
          by_cases h0 : l0.length = 0
          · have d0 : ((l0.length : Int) == 0) = true := by rw [h0]; rfl
            go_wp2
            go_quiet (fail)
            go_wp2
            go_ret
            exact ⟨by first | rfl | simp, pw_below_drewN hBB.out _⟩
          · have hlt' : l0.length - 1 < l0.length := by omega
            have hget := List.getElem?_eq_getElem hlt'
            obtain ⟨x, hx⟩ : ∃ x, l0[l0.length - 1] = x := ⟨_, rfl⟩
            rw [hx] at hget
            have hR := Kd.R_below HR4.out HD.out.below
            have hW := HW4.out.below HD.out.below
            obtain ⟨g5, c5, hv5, hc5, hw5⟩ := hW.at_ (l0.length - 1) (strOfNums x) (by rw [List.take_length, List.getElem?_map, hget]; rfl)
            injection hv5 with hv5 hl5 hc5'
            subst hv5
            have hsx : (strOfNums x).size = x.length := str_size x
            have hlb : x.length ≤ 1048576 := by have := mem_sum l0 x (List.mem_of_getElem? hget); have := HSUM.out; omega
            have hg2 : (told l0 m)[l0.length - 1]? = some (x.take m) := by
              rw [told_last l0 m (by omega), List.getD_eq_getElem?_getD, hget]
              rfl
            have hmx : m = min y x.length := by rw [← HM.out, List.getD_eq_getElem?_getD, hget]; rfl
            have hlm : (x.take m).length = m := by rw [List.length_take]; omega
            obtain ⟨gb, cb, A3, c3, hv, hcb, hcell, hc3, hC⟩ := row_own hR (l0.length - 1) (x.take m) hg2
            injection hv with hv hvl hvc
            subst hv
            rw [hlm] at hcell hc3
            have d0 : ((l0.length : Int) == 0) = false := beq_eq_false_iff_ne.mpr (by omega)
            have hz2 : (z : Int) / 2 = (y : Int) := by have := HY.out; omega
            have hmin : (if x.length < y then (x.length : Int) else (y : Int)) = (m : Int) := by split <;> omega
            have hmin2 : (if (x.length : Int) < (y : Int) then (x.length : Int) else (y : Int)) = (m : Int) := by split <;> omega
            have hpos : 0 < l0.length := by omega
            clear hR hW hC hg2 hget hx hl5 hc5' hvl hvc hmx hlm hkk
            go_wp2
            go_quiet (fail)
            go_wp2
            go_ret
            exact ⟨by first | rfl | simp, pw_below_drewN hBB.out _⟩
end Go.Proofs.Ytkicgmhbcldbbaa.PD
