/-
  The law PendingFree walked. No macro, syntax, notation, axiom, sorry.
-/
import Derived.Test.YtecpginkacaebaaEntE
import Derived.Test.YtecpginkacaebaaEntF
import Derived.Test.YtecpginkacaebaaMapU
import Derived.Test.YtecpginkacaebaaTrn
namespace Go.Proofs.Ytecpginkacaebaa.PP
open Go.RowKit Go.Proofs.YtecpginkacaebaaW Go.Proofs.YtecpginkacaebaaW.PrintWords Go.Proofs.YtecpginkacaebaaW.PrintLast Go.Proofs.Ytecpginkacaebaa.Base Go.Proofs.Ytecpginkacaebaa.Heap Go.Proofs.Ytecpginkacaebaa.Nam Go.Proofs.Ytecpginkacaebaa.Ent Go.Proofs.Ytecpginkacaebaa.MapU Go.Proofs.Ytecpginkacaebaa.Trn
set_option linter.unusedVariables false
set_option linter.unusedSimpArgs false
set_option maxRecDepth 100000

/-! ### The first free number -/
theorem freeN_yes {ids : List Int} {k : Nat} {x : Int} (h : x ∈ ids) : freeN ids (k + 1) x = freeN ids k ((x + 1) % 65536) := if_pos h
theorem freeN_no {ids : List Int} {k : Nat} {x : Int} (h : x ∉ ids) : freeN ids (k + 1) x = x := if_neg h
theorem freeN_ok (ids : List Int) : ∀ (k : Nat) (x : Int), 0 ≤ x → x < 65536 → (∃ d : Nat, d < k ∧ (x + d) % 65536 ∉ ids) → freeN ids k x ∉ ids ∧ 0 ≤ freeN ids k x ∧ freeN ids k x < 65536
  | 0, x, _, _, h => by obtain ⟨d, hd, _⟩ := h; omega
  | k + 1, x, h0, h1, h => by
    by_cases hx : x ∈ ids
    · rw [freeN_yes hx]
      obtain ⟨d, hd, hn⟩ := h
      cases d with
      | zero => rw [show (x + ((0 : Nat) : Int)) % 65536 = x by omega] at hn; exact absurd hx hn
      | succ d => exact freeN_ok ids k ((x + 1) % 65536) (by omega) (by omega) ⟨d, by omega, by rw [show ((x + 1) % 65536 + (d : Int)) % 65536 = (x + ((d + 1 : Nat) : Int)) % 65536 by omega]; exact hn⟩
    · rw [freeN_no hx]
      exact ⟨hx, h0, h1⟩
/-- From x on the next free number is T. -/
def Toward (ids : List Int) (T x : Int) : Prop := 0 ≤ x ∧ x < 65536 ∧ ∃ k d : Nat, d < k ∧ (x + d) % 65536 ∉ ids ∧ freeN ids k x = T
theorem Toward.here {ids : List Int} {T x : Int} (h : Toward ids T x) (hx : x ∉ ids) : x = T := by
  obtain ⟨_, _, k, d, hd, _, hT⟩ := h
  cases k with
  | zero => omega
  | succ k => rw [freeN_no hx] at hT; exact hT
theorem Toward.next {ids : List Int} {T x : Int} (h : Toward ids T x) (hx : x ∈ ids) : Toward ids T ((x + 1) % 65536) := by
  obtain ⟨h0, h1, k, d, hd, hn, hT⟩ := h
  cases k with
  | zero => omega
  | succ k =>
    cases d with
    | zero => rw [show (x + ((0 : Nat) : Int)) % 65536 = x by omega] at hn; exact absurd hx hn
    | succ d =>
      rw [freeN_yes hx] at hT
      exact ⟨by omega, by omega, k, d, by omega, by rw [show ((x + 1) % 65536 + (d : Int)) % 65536 = (x + ((d + 1 : Nat) : Int)) % 65536 by omega]; exact hn, hT⟩

/-! ### The document's example -/
def e1_ : E := ⟨65535, ⟨#[]⟩, 0, ⟨#[]⟩, 0, 0⟩
def e2_ : E := ⟨0, ⟨#[]⟩, 0, ⟨#[]⟩, 0, 0⟩
theorem awake_ (w : World) : Calls Try.prog 5 #[] w fun x w' => x = .returned (.bool true) ∧ Below w.heap.size w w' := by
  have hown : Own (w.alloc (.cells (rw_ [e1_, e2_]).toArray 42 (0, 0))) w.heap.size (.slice (some ⟨w.heap.size, 0, none⟩) 2 2) [e1_, e2_] :=
    World.ownsRow_lit w _ 2 (Nat.le_refl _) (by decide) (by simp [rw_len])
  obtain ⟨A, c, hv, hc, hm, hC⟩ := hown.reads
  injection hv with hA _ hcc
  subst hA
  subst hcc
  have hf : freeN ([e1_, e2_].map E.id) 65536 65535 = 1 := by
    rw [show (65536 : Nat) = 65533 + 1 + 1 + 1 from rfl, freeN_yes (by simp [e1_]), freeN_yes (by simp [e2_]), freeN_no (by simp [e1_, e2_])]
    rfl
  have HF := Lib.hid hf
  have HC := Lib.hid hC
  have HB := Lib.hid (below_alloc (Below.refl w.heap.size w) (.cells (rw_ [e1_, e2_]).toArray 42 (0, 0)))
  clear hf hC hown hc hm
  go_enter Try.func5, Try.ntmps5
  go_wp2_with fail
  refine (free_ (some ⟨w.heap.size, 0, none⟩) 2 [e1_, e2_] 65535 _ HC.out (by omega) (by omega)).mono ?_
  rintro x w2 ⟨rfl, hb⟩
  rw [HF.out]
  have HB2 := Lib.hid (HB.out.trans (hb.mono (by simp)))
  clear hb
  go_wp2_with fail
  go_ret
  exact ⟨rfl, HB2.out⟩
/-! ### The law -/
abbrev kAct := Kd.pair (Kd.int .u8) (Kd.pair (Kd.int .u8) (Kd.pair (Kd.slice 5 (Kd.int .u8)) (Kd.pair (Kd.int .u8) (Kd.int .i8))))
abbrev LAct := (Int × Int × (List Int) × Int × Int)
def entA (x : LAct) : E := entryOf x.2.1 x.2.2.1 x.2.2.2.1 x.2.2.2.2
theorem at_act {w : World} {A : Option Addr} {n : Nat} {xs : List LAct} (h : Kd.C kAct w A n xs) (j : Nat) (x : LAct) (hj : xs[j]? = some x) :
    ∃ ad B c, A = some ad ∧ w.cell? (ad.add (j * 5)) = some (.int .u8 x.1) ∧ w.cell? ⟨(ad.add (j * 5)).block, (ad.add (j * 5)).off + 1, none⟩ = some (.int .u8 x.2.1) ∧ w.cell? ⟨(ad.add (j * 5)).block, (ad.add (j * 5)).off + 2, none⟩ = some (.slice B x.2.2.1.length c) ∧
      w.cell? ⟨(ad.add (j * 5)).block, (ad.add (j * 5)).off + 3, none⟩ = some (.int .u8 x.2.2.2.1) ∧ w.cell? ⟨(ad.add (j * 5)).block, (ad.add (j * 5)).off + 4, none⟩ = some (.int .i8 x.2.2.2.2) ∧ x.2.2.1.length ≤ c ∧ Kd.C (Kd.int .u8) w B x.2.2.1.length x.2.2.1 := by
  have hl : j < xs.length := (List.getElem?_eq_some_iff.1 hj).1
  obtain ⟨ad, ha, hc0⟩ := h.2.2 (by have := h.1; omega)
  obtain ⟨c, h1, h2, hc⟩ := hc0 j x hj
  obtain ⟨_, _, rfl, rfl, ⟨_, _, rfl, rfl, ⟨_, _, rfl, ⟨B, cb, rfl, hle, hC⟩, ⟨_, _, rfl, rfl, rfl⟩⟩⟩⟩ := h2
  refine ⟨ad, B, cb, ha, hc 0 _ rfl, ?_, ?_, ?_, ?_, hle, hC⟩
  · rw [← add_field ad (j * 5) 1 (by omega)]; exact hc 1 _ rfl
  · rw [← add_field ad (j * 5) 2 (by omega)]; exact hc 2 _ rfl
  · rw [← add_field ad (j * 5) 3 (by omega)]; exact hc 3 _ rfl
  · rw [← add_field ad (j * 5) 4 (by omega)]; exact hc 4 _ rfl
def WfA (x : LAct) : Prop := (0 ≤ x.1 ∧ x.1 < 256) ∧ (0 ≤ x.2.1 ∧ x.2.1 < 256) ∧ (B8 x.2.2.1 ∧ x.2.2.1.length ≤ 1048576) ∧ (0 ≤ x.2.2.2.1 ∧ x.2.2.2.1 < 256) ∧ (-128 ≤ x.2.2.2.2 ∧ x.2.2.2.2 < 128)
theorem WfA.out {x : LAct} (h : WfA x) : (0 ≤ x.1 ∧ x.1 < 256) ∧ (0 ≤ x.2.1 ∧ x.2.1 < 256) ∧ (B8 x.2.2.1 ∧ x.2.2.1.length ≤ 1048576) ∧ (0 ≤ x.2.2.2.1 ∧ x.2.2.2.1 < 256) ∧ (-128 ≤ x.2.2.2.2 ∧ x.2.2.2.2 < 128) := h
theorem entA_id (x : LAct) (h : WfA x) : 0 ≤ (entA x).id ∧ (entA x).id < 65536 ∧ (entA x).id ≠ 100 := by
  have h1 := h.2.1
  have e : (entA x).id = (x.2.1 % 24 - 4) % 65536 := rfl
  rw [e]
  omega
open Classical in
noncomputable def bolterlaw26_PendingFree.f (l0 : List LAct) (a1 : Int) : Option Bool := if (∀ x ∈ l0, WfA x) ∧ l0.length ≤ 1048576 ∧ 0 ≤ a1 ∧ a1 < 65536 then some true else none
/-- The head of the first loop. -/
structure FHead (w wr : World) (v : Value) (bm q : Nat) (l0 : List LAct) : Prop where
  own : Own wr w.heap.size v ((l0.take q).map entA)
  mu : MU wr bm q (fun y => decide (y ∈ ((l0.take q).map entA).map E.id))
  bm : w.heap.size ≤ bm
  below : Below w.heap.size w wr
theorem FHead.ne {w wr : World} {v : Value} {bm q : Nat} {l0 : List LAct} (h : FHead w wr v bm q l0) : some bm ≠ v.ownBlock := by
  intro e
  obtain ⟨cells, hc⟩ := own_typed h.own bm e.symm
  obtain ⟨es, cl, hb⟩ := mu_blk h.mu
  rw [hb] at hc
  cases hc
theorem FHead.other {w wr w2 : World} {v : Value} {bm q : Nat} {l0 : List LAct} {F : List Nat} (h : FHead w wr v bm q l0) (ht : Turned F wr w2) (hF : ∀ k ∈ F, wr.heap.size ≤ k) : FHead w w2 v bm q l0 :=
  ⟨ht.own h.own fun k hk hm => by have := own_lt h.own k hk; have := hF k hm; omega, mu_move h.mu (ht.block bm (mu_lt h.mu) fun hm => by have := hF bm hm; have := mu_lt h.mu; omega), h.bm, h.below.trans (ht.below (fun k hk => Nat.le_trans h.below.size (hF k hk)) h.below.size)⟩
theorem FHead.move {w wr w2 : World} {v : Value} {bm q : Nat} {l0 : List LAct} (h : FHead w wr v bm q l0) (hb : Below wr.heap.size wr w2) : FHead w w2 v bm q l0 := h.other (F := []) (Turned.of_below hb []) (by simp)
/-- A store into a variable that was made behind w3. -/
theorem FHead.stored {w w3 w4 w5 : World} {v : Value} {bm q g : Nat} {l0 : List LAct} (h3 : FHead w w3 v bm q l0) (h4 : FHead w w4 v bm q l0) (hg : w3.heap.size ≤ g) (hs : w4.grownBy w5 (some g)) : FHead w w5 v bm q l0 :=
  have ht : Turned [g] w4 w5 := Turned.of_grown hs fun k e => by injection e with e; simp [e]
  ⟨ht.own h4.own fun k hk hm => by have := own_lt h3.own k hk; have := List.mem_singleton.1 hm; omega, mu_move h4.mu (ht.block bm (mu_lt h4.mu) fun hm => by have := List.mem_singleton.1 hm; have := mu_lt h3.mu; omega), h4.bm,
    h4.below.trans (ht.below (fun k hk => by have := List.mem_singleton.1 hk; have := h3.below.size; omega) h4.below.size)⟩
theorem FHead.step {w wr w3 : World} {v v3 : Value} {bm q : Nat} {l0 : List LAct} {x : LAct} (h : FHead w wr v bm q l0) (hx : l0[q]? = some x) (ho : Own w3 w.heap.size v3 ((l0.take q).map entA ++ [entA x])) (hm : MU w3 bm (q + 1) (fun y => decide (y = (entA x).id) || decide (y ∈ ((l0.take q).map entA).map E.id)))
    (hb : Below w.heap.size w w3) : FHead w w3 v3 bm (q + 1) l0 := by
  have ht : (l0.take (q + 1)).map entA = (l0.take q).map entA ++ [entA x] := by rw [List.take_add_one, hx, Option.toList_some, List.map_append]; rfl
  have e1 : (fun y : Int => decide (y ∈ ((l0.take (q + 1)).map entA).map E.id)) = (fun y => decide (y = (entA x).id) || decide (y ∈ ((l0.take q).map entA).map E.id)) := by
    funext y
    rw [ht]
    by_cases h1 : y = (entA x).id <;> by_cases h2 : y ∈ ((l0.take q).map entA).map E.id <;> simp_all
  exact ⟨by rw [ht]; exact ho, by rw [e1]; exact hm, h.bm, hb⟩
set_option maxHeartbeats 8000000 in
theorem bolterlaw26_PendingFree.calls (A0 : Option Addr) (c0 : Nat) (l0 : List LAct) (a1 : Int) (r : Bool) (w : World) (hr0 : Kd.C kAct w A0 l0.length l0) (hc0 : l0.length ≤ c0) (h : bolterlaw26_PendingFree.f l0 a1 = some r) :
    Calls Try.prog 3 #[.slice A0 l0.length c0, .int .u16 a1] w fun e w' => e = .returned (.bool r) ∧ Below w.heap.size w w' := by
  unfold bolterlaw26_PendingFree.f at h
  by_cases hc : (∀ x ∈ l0, WfA x) ∧ l0.length ≤ 1048576 ∧ 0 ≤ a1 ∧ a1 < 65536
  case neg => rw [if_neg hc] at h; cases h
  rw [if_pos hc] at h
  obtain rfl := Option.some.inj h
  clear h
  obtain ⟨hwf, hln, ha0, ha1⟩ := hc
  have HR0 := Lib.hid hr0
  have HWF := Lib.hid hwf
  have HA := Lib.hid (And.intro ha0 ha1)
  clear hr0 hwf ha0 ha1
  have hmm := @run_makeMap Try.prog
  go_enter Try.func3, Try.ntmps3
  go_wp2_with fail
  refine (awake_ w).mono ?_
  rintro e w1 ⟨rfl, hb⟩
  have HB := Lib.hid hb
  clear hb
  go_wp2_with fail
  clear hmm
  obtain ⟨bm, hbm⟩ : ∃ bm, w1.heap.size = bm := ⟨_, rfl⟩
  have hM0 := mu_made w1
  have hX := below_alloc HB.out (.map #[] 0)
  have hle := HB.out.size
  (try rw [hbm])
  rw [hbm] at hM0 hle
  obtain ⟨w2, hw2⟩ : ∃ w2, w1.alloc (.map #[] 0) = w2 := ⟨_, rfl⟩
  rw [hw2] at hM0 hX ⊢
  have HH0 : Hid (FHead w w2 (.slice none 0 0) bm 0 l0) := Lib.hid ⟨World.ownsRow_nil _ _ _ _, by simpa using hM0, hle, hX⟩
  clear hM0 hX hle hbm hw2 HB
  go_loopw [5, 16] (fun v i wr => ∃ q : Nat, q ≤ l0.length ∧ i = .int .i64 q ∧ Hid (FHead w wr v bm q l0))
    (fun _ i _ => l0.length - (intOf i).toNat)
  case atStart => exact ⟨0, Nat.zero_le _, rfl, HH0⟩
  case round =>
    obtain ⟨q, hq, rfl, HH⟩ := hrel
    by_cases hlt : q < l0.length
    · obtain ⟨x, hx⟩ : ∃ x, l0[q]? = some x := ⟨_, List.getElem?_eq_getElem hlt⟩
      obtain ⟨ad, B, cb, ha, k0, k1, k2, k3, k4, hcb, hCB⟩ := at_act (Kd.C_below HR0.out HH.out.below) q x hx
      subst ha
      obtain ⟨x0, x1, x2, x3, x4⟩ := x
      simp only at k0 k1 k2 k3 k4 hcb hCB
      have hwx := HWF.out _ (List.mem_of_getElem? hx)
      have HWX := Lib.hid hwx
      have HCB := Lib.hid hCB
      have HX := Lib.hid hx
      clear hwx hCB hx
      go_wp2_with fail
      obtain ⟨wa, hwa⟩ : ∃ wa, wr.alloc (.cells #[.int .u8 x0, .int .u8 x1, .slice B x2.length cb, .int .u8 x3, .int .i8 x4] 31) = wa := ⟨_, rfl⟩
      have hba : Below wr.heap.size wr wa := by rw [← hwa]; exact below_alloc (Below.refl _ _) _
      have HHa := Lib.hid (HH.out.move hba)
      have HCa := Lib.hid (Kd.C_below HCB.out hba)
      rw [hwa]
      clear hwa hba k0 k1 k2 k3 k4
      with_reducible refine (entry_ x0 x1 x3 x4 B cb x2 wa HCa.out hcb (HWX.out).out.2.2.1.1 (HWX.out).out.2.2.1.2 (HWX.out).out.2.1 (HWX.out).out.2.2.2.1 (HWX.out).out.2.2.2.2).mono ?_
      rintro e w3 ⟨rfl, hb⟩
      have HH3 := Lib.hid (HHa.out.move hb)
      obtain ⟨en, hen⟩ : ∃ en, entryOf x1 x2 x3 x4 = en := ⟨_, rfl⟩
      rw [hen]
      have hidr := entA_id (x0, x1, x2, x3, x4) HWX.out
      have HEN := Lib.hid (show entA (x0, x1, x2, x3, x4) = en from hen)
      rw [HEN.out] at hidr
      have HID := Lib.hid hidr
      clear hb hen hidr hcb HHa HCa HCB HH
      go_wp2_with (first
        | ((with_reducible refine gate_al (t := 42) rfl ?_); refine ev_new rfl rfl ?_; intro g w4 hg hV4 hb4 hs4; have HG := Lib.hid (show w3.heap.size ≤ g by omega); have HH4 := Lib.hid (HH3.out.move hb4); have HV4 := Lib.hid hV4; clear hg hV4 hb4 hs4)
        | ((with_reducible refine gate_st (t := 42) rfl ?_); obtain ⟨w5, hrun5, hV5, hg5⟩ := Var.store HV4.out en; refine ev_store rfl rfl rfl rfl rfl hrun5 ?_; have HV5 := Lib.hid hV5; have HH5 : Hid (FHead w w5 _ bm q l0) := Lib.hid (HH3.out.stored HH4.out HG.out hg5); obtain ⟨w6, hmu, hm6, hg6⟩ := mu_put HH5.out.mu (by unfold maxLen; omega) en.id HID.out.1 HID.out.2.1; have hc5 := (blk_ en hV5).1; have HM6 := Lib.hid hm6; have HG6 := Lib.hid hg6; clear hrun5 hV5 hg5 hm6 hg6)
        | ((with_reducible refine gate_ld (t := 42) rfl ?_); have HV6 : Hid (Var w6 g en) := Lib.hid ((HG6.out.block g HV5.out.lt (fun e => by injection e with e; have := HG.out; have := mu_lt HH3.out.mu; omega)).trans HV5.out); refine ev_load rfl rfl rfl HV6.out.load ?_)
        | ((with_reducible refine gate_dst (N := 27) rfl ?_); refine ev_lit rfl (.inr rfl) rfl rfl ?_; intro g7 w7 hg7 hV7 hb7 hs7; have HV7 := Lib.hid hV7; have HO7 : Hid (Own w7 w.heap.size u5 ((l0.take q).map entA)) := Lib.hid (pw_own_below (HH5.out.own.kept HG6.out (.inr (fun e => HH5.out.ne e.symm))) hb7); have HM7 := Lib.hid (mu_move HM6.out (hb7.block bm (mu_lt HM6.out))); have HB7 := Lib.hid (((HH5.out.below.grown HG6.out (Nat.le_trans HH5.out.below.size (Nat.le_refl _)) (fun k hk => by injection hk with hk; rw [← hk]; exact HH5.out.bm))).trans (hb7.mono (Nat.le_trans HH5.out.below.size HG6.out.size))); clear hg7 hV7 hb7 hs7)
        | ((with_reducible refine gate_builtin (b := .append) (xs := #[.tmp 25, .tmp 27]) rfl ?_); at_builtin; refine ev_app rfl (.inr rfl) rfl rfl rfl HO7.out HV7.out HB7.out.size (by rw [List.length_map, List.length_take]; omega) ?_; intro v8 w8 hO8 hg8 hat8; have HO8 := Lib.hid hO8; have HM8 := Lib.hid (mu_move HM7.out (hg8.block bm (mu_lt HM7.out) HH3.out.ne)); have HB8 := Lib.hid (HB7.out.grown hg8 HB7.out.size (fun k hk => own_base HO7.out k hk)); clear hO8 hg8 hat8))
      go_roundw
      case rel => exact ⟨q + 1, by omega, by go_num, Lib.hid (HH3.out.step HX.out (by rw [HEN.out]; exact HO8.out) (by rw [HEN.out]; exact HM8.out) HB8.out)⟩
      case measure => simp [intOf]; omega
    · obtain rfl : q = l0.length := by omega
      obtain ⟨es, hes⟩ : ∃ es, (l0.take l0.length).map entA = es := ⟨_, rfl⟩
      have hel : es.length = l0.length := by rw [← hes]; simp
      obtain ⟨T, hT⟩ : ∃ T, freeN (es.map E.id) 65536 a1 = T := ⟨_, rfl⟩
      have h100 : (100 : Int) ∉ es.map E.id := by
        intro hm
        obtain ⟨e, he, h1⟩ := List.mem_map.1 hm
        rw [← hes] at he
        obtain ⟨x, hx, rfl⟩ := List.mem_map.1 he
        exact (entA_id x (HWF.out x (List.mem_of_mem_take hx))).2.2 h1
      have hd : ∃ d : Nat, d < 65536 ∧ (a1 + d) % 65536 ∉ es.map E.id := by
        refine ⟨((100 - a1) % 65536).toNat, by omega, ?_⟩
        rw [show (a1 + (((100 - a1) % 65536).toNat : Int)) % 65536 = 100 by omega]
        exact h100
      have hok := freeN_ok (es.map E.id) 65536 a1 HA.out.1 HA.out.2 hd
      rw [hT] at hok
      have HTW : Hid (Toward (es.map E.id) T a1) := by
        obtain ⟨d, hd1, hd2⟩ := hd
        exact Lib.hid ⟨HA.out.1, HA.out.2, 65536, d, hd1, hd2, hT⟩
      have HOK := Lib.hid hok
      have HTT := Lib.hid hT
      have HES := Lib.hid hes
      obtain ⟨A, c, hv, hcc, hcm, hC⟩ := HH.out.own.reads
      rw [hes] at hv hcc hC
      subst hv
      have HHO : Hid (MU wr bm l0.length (fun y => decide (y ∈ es.map E.id))) := Lib.hid (by have := HH.out.mu; rw [hes] at this; exact this)
      have HCC := Lib.hid hC
      have HBB := Lib.hid HH.out.below
      clear hes hok hd h100 hT hC hcc hcm HH hel
      go_wp2_with fail
      go_loopw [10] (fun v wx => ∃ x : Int, v = .int .u16 x ∧ Aside0 (Toward (es.map E.id) T x) ∧ Aside0 (MU wx bm l0.length (fun y => decide (y ∈ es.map E.id))) ∧ Aside0 (Kd.C kE wx A es.length es) ∧ Aside0 (Below w.heap.size w wx))
        (fun v _ => ((T - intOf v) % 65536).toNat)
      case atStart => exact ⟨a1, rfl, ⟨HTW.out⟩, ⟨HHO.out⟩, ⟨HCC.out⟩, ⟨HBB.out⟩⟩
      case round =>
        obtain ⟨x, rfl, HX, HM, HC, HB⟩ := hrel
        have hlook := mu_look HM.out x HX.out.1 HX.out.2.1
        by_cases hin : x ∈ es.map E.id
        · simp only [decide_eq_true hin] at hlook
          have hne : x ≠ T := fun e => HOK.out.1 (e ▸ hin)
          have HN := Lib.hid hne
          have hw := IntKind.wrap_u16 (x + 1)
          have HIN := Lib.hid hin
          clear hin hne
          go_wp2_with fail
          go_roundw
          case rel => exact ⟨(x + 1) % 65536, rfl, ⟨HX.out.next HIN.out⟩, ⟨HM.out⟩, ⟨HC.out⟩, ⟨HB.out⟩⟩
          case measure =>
            have h1 := HN.out
            have h2 := HOK.out.2
            have h3 := HX.out.1
            have h4 := HX.out.2.1
            simp only [intOf]
            omega
        · simp only [decide_eq_false hin] at hlook
          obtain rfl := HX.out.here hin
          have hbe : (x == x) = true := by simp
          clear hin
          go_wp2_with fail
          with_reducible refine (free_ A c es a1 _ HC.out HA.out.1 HA.out.2).mono ?_
          rintro e w9 ⟨rfl, hb⟩
          rw [HTT.out]
          have HB9 := Lib.hid (HB.out.trans (hb.mono HB.out.size))
          clear hb
          go_wp2_with fail
          go_ret
          exact ⟨by first | rfl | simp, HB9.out⟩
end Go.Proofs.Ytecpginkacaebaa.PP
