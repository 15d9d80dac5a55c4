/-
  The methods of a device that take bytes off, and that tell them: Crash, Cut, Segments. No macro, syntax, notation, axiom, sorry.
-/
import Derived.Test.YtklliflmdckadaaDoorDevD
namespace Go.Proofs.YtklliflmdckadaaDoor.DevC
open Go.RowKit Go.Proofs.YtklliflmdckadaaDoorW.PrintWords Go.Proofs.YtklliflmdckadaaDoor.DevW
set_option linter.unusedVariables false
set_option linter.unusedSimpArgs false
set_option maxRecDepth 100000

/-- How many bytes of the last segment a crash leaves. -/
def left (p : List Int × Int) (keep : Int) : Nat := (p.2 + max 0 (min keep ((p.1.length : Int) - p.2))).toNat
def dcrash (st : St) (keep : Int) : St := onLast (fun p => (p.1.take (left p keep), (left p keep : Int))) st
def dcut (st : St) (n : Int) : St := onLast (fun p => (p.1.take (max 0 (min n p.1.length)).toNat, min p.2 ((max 0 (min n p.1.length)).toNat : Int))) st
theorem left_le (p : List Int × Int) (keep : Int) (h0 : 0 ≤ p.2) (h1 : p.2 ≤ p.1.length) : left p keep ≤ p.1.length ∧ p.2 ≤ left p keep := by unfold left; omega

theorem i64_w (n : Int) : IntKind.i64.wrap n = wrap64 n := by unfold wrap64; exact IntKind.wrap_i64 n
theorem set_last {T : List Seg} {n : Nat} {x : Seg} (hn : T.length = n + 1) (hx : T[n]? = some x) (v : Value) (f : List Int × Int → List Int × Int) : stOf (T.set n (v, f x.2)) = onLast f (stOf T) := by
  rw [stOf_set]
  unfold onLast
  rw [stOf_len, hn, show n + 1 - 1 = n by omega, stOf_get hx]
set_option maxHeartbeats 1000000 in
theorem crash (w : World) (base g : Nat) (F : List Nat) (sv : Value) (T : List Seg) (nw : Int) (h : D w base g F sv T nw) (hl : T.length ≤ 1000000000000) (keep : Int) (hk0 : -9223372036854775808 ≤ keep) (hk1 : keep ≤ 9223372036854775807)
    (hb : ∀ b s, (b, s) ∈ stOf T → 0 ≤ s ∧ s ≤ b.length ∧ b.length ≤ 140737488355328) :
    Calls Tryd.prog 12 #[.pointer (some ⟨g, 0, none⟩), .int .i64 keep] w fun e w' => e = .returned (.tuple #[]) ∧ After w base g F (dcrash (stOf T) keep) nw w' := by
  have HD := Lib.hid h
  have HB := Lib.hid hb
  clear h hb
  by_cases h0 : T.length = 0
  · have c0 := HD.out.cell0
    obtain ⟨A0, cap0, he, _⟩ := HD.out.segs_slice
    subst he
    have hT : T = [] := List.eq_nil_of_length_eq_zero h0
    subst hT
    go_enter Tryd.func12, Tryd.ntmps12
    go_wp2
    refine bodyPost_ret (results_none rfl _ _ _) rfl ?_
    exact ⟨rfl, F, _, [], HD.out, rfl, Turned.refl _ _, fun k hk => .inl hk⟩
  · have c0 := HD.out.cell0
    obtain ⟨gs, cap, A, c, bl, s, he, hc, hgF, hgl, hget, hbc, ca, cb, fa, fb⟩ := seg_facts HD.out (T.length - 1) (by omega)
    subst he
    obtain ⟨n, hn⟩ : ∃ n, T.length = n + 1 := ⟨T.length - 1, by omega⟩
    rw [hn] at c0 ca cb fa fb hget
    rw [show n + 1 - 1 = n by omega] at ca cb fa fb hget
    obtain ⟨hs0, hs1, hbl⟩ := HB.out bl s (by unfold stOf; exact List.mem_map.2 ⟨_, List.mem_of_getElem? hget, rfl⟩)
    have hle := left_le (bl, s) keep hs0 hs1
    have HG := Lib.hid hget
    have HN := Lib.hid hn
    have hnl : n + 1 ≤ 1099511627776 := by omega
    clear hget hn hc
    go_enter Tryd.func12, Tryd.ntmps12
    go_wp2
    go_quiet (fail)
    have HD2 := Lib.hid (HD.out.drewN nq)
    have ca2 : (w.drewN nq).cell? ⟨gs, n * 2, none⟩ = some (.slice A bl.length c) := ca
    have cb2 : (w.drewN nq).cell? ⟨gs, n * 2 + 1, none⟩ = some (.int .i64 s) := cb
    have fa2 : (w.drewN nq).frozen? ⟨gs, n * 2, none⟩ = false := fa
    have fb2 : (w.drewN nq).frozen? ⟨gs, n * 2 + 1, none⟩ = false := fb
    have hz : w.heap.size = (w.drewN nq).heap.size := rfl
    have HT2 := Lib.hid ((Turned.refl F w).drewN nq)
    obtain ⟨w2, hw2⟩ : ∃ w2, w.drewN nq = w2 := ⟨_, rfl⟩
    rw [hw2] at HD2 ca2 cb2 fa2 fb2 hz HT2 ⊢
    rw [hz] at hgl
    clear hw2 HD ca cb fa fb c0 hz
    obtain ⟨m, hm⟩ : ∃ m : Nat, left (bl, s) keep = m := ⟨_, rfl⟩
    have hmi : (m : Int) = s + max 0 (min keep ((bl.length : Int) - s)) := by
      rw [← hm]; show ((s + max 0 (min keep ((bl.length : Int) - s))).toNat : Int) = _; omega
    rw [hm] at hle
    have hw1 : IntKind.i64.wrap ((bl.length : Int) - s) = (bl.length : Int) - s := by rw [i64_w]; unfold wrap64; omega
    obtain ⟨q, hq⟩ : ∃ q : Int, (if (bl.length : Int) - s < keep then (bl.length : Int) - s else keep) = q := ⟨_, rfl⟩
    have hqv : q = min keep ((bl.length : Int) - s) := by rw [← hq]; split <;> omega
    obtain ⟨r, hr⟩ : ∃ r : Int, (if 0 < q then q else 0) = r := ⟨_, rfl⟩
    have hrv : r = max 0 q := by rw [← hr]; split <;> omega
    have hw2 : IntKind.i64.wrap (s + r) = (m : Int) := by rw [i64_w, hmi, hrv, hqv]; unfold wrap64; omega
    have d1 : decide (0 ≤ (m : Int)) = true := decide_eq_true (by omega)
    have d2 : decide ((m : Int) ≤ (c : Int)) = true := decide_eq_true (by omega)
    have hmc : m ≤ c := by omega
    have HM := Lib.hid hm
    clear hqv hrv hmi hm
    go_wp2
    go_still_tail 26, (by kernel_rfl)
    change wpList _ _ _ _ _ w2.drew
    have HD3 := Lib.hid HD2.out.drew
    have HT3 := Lib.hid HT2.out.drew
    have ca3 : w2.drew.cell? ⟨gs, n * 2, none⟩ = some (.slice A bl.length c) := ca2
    have cb3 : w2.drew.cell? ⟨gs, n * 2 + 1, none⟩ = some (.int .i64 s) := cb2
    have fa3 : w2.drew.frozen? ⟨gs, n * 2, none⟩ = false := fa2
    have fb3 : w2.drew.frozen? ⟨gs, n * 2 + 1, none⟩ = false := fb2
    obtain ⟨w3, hw3⟩ : ∃ w3, w2.drew = w3 := ⟨_, rfl⟩
    rw [hw3] at HD3 HT3 ca3 cb3 fa3 fb3 ⊢
    clear hw3 HD2 HT2 ca2 cb2 fa2 fb2 hq hr hw1 hw2 d1 d2
    go_wp2
    go_end0
    have hE := HD3.out.storeBytes (v := .slice A m c) (b := bl.take m) (by decide) (by decide) (by decide) HG.out (World.grownBy.refl w3 _) (by
      have := own_takeB (HD3.out.rows _ _ HG.out) hle.1
      rw [List.length_take, Nat.min_eq_left hle.1]
      exact this) (.inl (by cases A <;> rfl))
    have hi : n < T.length := by rw [HN.out]; omega
    have hE2 := hE.storeSafe (by decide) (by decide) (List.getElem?_set_self hi) (m : Int)
    rw [show 2 * n = n * 2 by omega] at hE2
    refine ⟨rfl, _, _, _, hE2, ?_, ?_, foot_new (w1 := w) (Nat.le_refl _) (fun k hk => .inl hk) (v := .slice A bl.length c) (fun k hk => HD3.out.rowF _ _ HG.out k hk) (.inl (by cases A <;> rfl))⟩
    · rw [List.set_set]
      have := set_last HN.out HG.out (.slice A m c) (fun p => (p.1.take (left p keep), (left p keep : Int)))
      simp only [HM.out] at this
      exact this
    · exact (HT3.out.setCell (p := ⟨gs, n * 2, none⟩) (.inl hgF) _).setCell (p := ⟨gs, n * 2 + 1, none⟩) (.inl hgF) _

set_option maxHeartbeats 1000000 in
theorem cut (w : World) (base g : Nat) (F : List Nat) (sv : Value) (T : List Seg) (nw : Int) (h : D w base g F sv T nw) (hl : T.length ≤ 1000000000000) (nn : Int)
    (hb : ∀ b s, (b, s) ∈ stOf T → 0 ≤ s ∧ s ≤ b.length ∧ b.length ≤ 140737488355328) :
    Calls Tryd.prog 20 #[.pointer (some ⟨g, 0, none⟩), .int .i64 nn] w fun e w' => e = .returned (.tuple #[]) ∧ After w base g F (dcut (stOf T) nn) nw w' := by
  have HD := Lib.hid h
  have HB := Lib.hid hb
  clear h hb
  by_cases h0 : T.length = 0
  · have c0 := HD.out.cell0
    obtain ⟨A0, cap0, he, _⟩ := HD.out.segs_slice
    subst he
    have hT : T = [] := List.eq_nil_of_length_eq_zero h0
    subst hT
    go_enter Tryd.func20, Tryd.ntmps20
    go_wp2
    refine bodyPost_ret (results_none rfl _ _ _) rfl ?_
    exact ⟨rfl, F, _, [], HD.out, rfl, Turned.refl _ _, fun k hk => .inl hk⟩
  · have c0 := HD.out.cell0
    obtain ⟨gs, cap, A, c, bl, s, he, hc, hgF, hgl, hget, hbc, ca, cb, fa, fb⟩ := seg_facts HD.out (T.length - 1) (by omega)
    subst he
    obtain ⟨n, hn⟩ : ∃ n, T.length = n + 1 := ⟨T.length - 1, by omega⟩
    rw [hn] at c0 ca cb fa fb hget
    rw [show n + 1 - 1 = n by omega] at ca cb fa fb hget
    obtain ⟨hs0, hs1, hbl⟩ := HB.out bl s (by unfold stOf; exact List.mem_map.2 ⟨_, List.mem_of_getElem? hget, rfl⟩)
    have HG := Lib.hid hget
    have HF0 := Lib.hid HD.out.rowF
    have HN := Lib.hid hn
    have hnl : n + 1 ≤ 1099511627776 := by omega
    clear hget hn hc
    go_enter Tryd.func20, Tryd.ntmps20
    go_wp2
    go_quiet (fail)
    have HD2 := Lib.hid (HD.out.drewN nq)
    have ca2 : (w.drewN nq).cell? ⟨gs, n * 2, none⟩ = some (.slice A bl.length c) := ca
    have cb2 : (w.drewN nq).cell? ⟨gs, n * 2 + 1, none⟩ = some (.int .i64 s) := cb
    have fa2 : (w.drewN nq).frozen? ⟨gs, n * 2, none⟩ = false := fa
    have fb2 : (w.drewN nq).frozen? ⟨gs, n * 2 + 1, none⟩ = false := fb
    have hz : w.heap.size = (w.drewN nq).heap.size := rfl
    have HT2 := Lib.hid ((Turned.refl F w).drewN nq)
    obtain ⟨w2, hw2⟩ : ∃ w2, w.drewN nq = w2 := ⟨_, rfl⟩
    rw [hw2] at HD2 ca2 cb2 fa2 fb2 hz HT2 ⊢
    rw [hz] at hgl
    clear hw2 HD ca cb fa fb c0 hz
    obtain ⟨m, hm⟩ : ∃ m : Nat, (max 0 (min nn (bl.length : Int))).toNat = m := ⟨_, rfl⟩
    have hmi : (m : Int) = max 0 (min nn (bl.length : Int)) := by rw [← hm]; omega
    have hle : m ≤ bl.length := by omega
    obtain ⟨q, hq⟩ : ∃ q : Int, (if (bl.length : Int) < nn then (bl.length : Int) else nn) = q := ⟨_, rfl⟩
    have hqv : q = min nn (bl.length : Int) := by rw [← hq]; split <;> omega
    have hr : (if 0 < q then q else 0) = (m : Int) := by rw [hmi, hqv]; split <;> omega
    obtain ⟨z, hzz⟩ : ∃ z : Int, (if (m : Int) < s then (m : Int) else s) = z := ⟨_, rfl⟩
    have hzv : z = min s (m : Int) := by rw [← hzz]; split <;> omega
    have d1 : decide (0 ≤ (m : Int)) = true := decide_eq_true (by omega)
    have d2 : decide ((m : Int) ≤ (c : Int)) = true := decide_eq_true (by omega)
    have hmc : m ≤ c := by omega
    have HM := Lib.hid hm
    have HZ := Lib.hid hzv
    clear hqv hmi hm hzv
    go_wp2
    go_still_tail 16, (by kernel_rfl)
    change wpList _ _ _ _ _ w2.drew
    have HD3 := Lib.hid HD2.out.drew
    have HT3 := Lib.hid HT2.out.drew
    have ca3 : w2.drew.cell? ⟨gs, n * 2, none⟩ = some (.slice A bl.length c) := ca2
    have cb3 : w2.drew.cell? ⟨gs, n * 2 + 1, none⟩ = some (.int .i64 s) := cb2
    have fa3 : w2.drew.frozen? ⟨gs, n * 2, none⟩ = false := fa2
    have fb3 : w2.drew.frozen? ⟨gs, n * 2 + 1, none⟩ = false := fb2
    obtain ⟨w3, hw3⟩ : ∃ w3, w2.drew = w3 := ⟨_, rfl⟩
    rw [hw3] at HD3 HT3 ca3 cb3 fa3 fb3 ⊢
    clear hw3 HD2 HT2 ca2 cb2 fa2 fb2 hq hr d1 d2
    go_wp2
    have hgl3 : gs < w3.heap.size := World.block_lt_of_cell? w3 ⟨gs, n * 2, none⟩ ca3
    have hE := HD3.out.storeBytes (v := .slice A m c) (b := bl.take m) (by decide) (by decide) (by decide) HG.out (World.grownBy.refl w3 _) (by
      have := own_takeB (HD3.out.rows _ _ HG.out) hle
      rw [List.length_take, Nat.min_eq_left hle]
      exact this) (.inl (by cases A <;> rfl))
    rw [show 2 * n = n * 2 by omega] at hE
    have HE := Lib.hid hE
    have HT4 := Lib.hid (HT3.out.setCell (p := ⟨gs, n * 2, none⟩) (.inl hgF) (.slice A m c))
    have ca4 : (w3.setCell ⟨gs, n * 2, none⟩ (.slice A m c)).cell? ⟨gs, n * 2, none⟩ = some (.slice A m c) := World.cell?_setCell_same w3 ⟨gs, n * 2, none⟩ _ ca3
    have cb4 : (w3.setCell ⟨gs, n * 2, none⟩ (.slice A m c)).cell? ⟨gs, n * 2 + 1, none⟩ = some (.int .i64 s) := (World.cell?_setCell_other w3 _ _ _ (by intro h; injection h with _ h _; omega)).trans cb3
    have fb4 : (w3.setCell ⟨gs, n * 2, none⟩ (.slice A m c)).frozen? ⟨gs, n * 2 + 1, none⟩ = false := (World.frozen?_setCell _ _ _ _).trans fb3
    obtain ⟨w4, hw4⟩ : ∃ w4, w3.setCell ⟨gs, n * 2, none⟩ (.slice A m c) = w4 := ⟨_, rfl⟩
    rw [hw4] at HE HT4 ca4 cb4 fb4 ⊢
    clear hw4 hE HD3 HT3 ca3 cb3 fa3 fb3
    go_still_tail 13, (by kernel_rfl)
    change wpList _ _ _ _ _ w4.drew
    have HE5 := Lib.hid HE.out.drew
    have HT5 := Lib.hid HT4.out.drew
    have cb5 : w4.drew.cell? ⟨gs, n * 2 + 1, none⟩ = some (.int .i64 s) := cb4
    have fb5 : w4.drew.frozen? ⟨gs, n * 2 + 1, none⟩ = false := fb4
    obtain ⟨w5, hw5⟩ : ∃ w5, w4.drew = w5 := ⟨_, rfl⟩
    rw [hw5] at HE5 HT5 cb5 fb5 ⊢
    clear hw5 HE HT4 ca4 cb4 fb4
    go_wp2
    go_end0
    have hi : n < T.length := by rw [HN.out]; omega
    have hE2 := HE5.out.storeSafe (by decide) (by decide) (List.getElem?_set_self hi) z
    rw [show 2 * n = n * 2 by omega] at hE2
    refine ⟨rfl, _, _, _, hE2, ?_, ?_, foot_new (w1 := w) (Nat.le_refl _) (fun k hk => .inl hk) (v := .slice A bl.length c) (fun k hk => HF0.out n _ HG.out k hk) (.inl (by cases A <;> rfl))⟩
    · rw [List.set_set]
      have := set_last HN.out HG.out (.slice A m c) (fun p => (p.1.take (max 0 (min nn p.1.length)).toNat, min p.2 ((max 0 (min nn p.1.length)).toNat : Int)))
      simp only [HM.out] at this
      rw [← HZ.out] at this
      exact this
    · exact HT5.out.setCell (p := ⟨gs, n * 2 + 1, none⟩) (.inl hgF) _

end Go.Proofs.YtklliflmdckadaaDoor.DevC
