/-
  Tables parted and compared (pending.Expire, the law's same and all) walked. No macro, syntax, notation, axiom, sorry.
-/
import Derived.Test.YtecpginkacaebaaDoorEntG
import Derived.Test.YtecpginkacaebaaDoorPQx4
import Derived.Test.YtecpginkacaebaaDoorTrn
namespace Go.Proofs.YtecpginkacaebaaDoor.Ent
open Go.RowKit Go.Proofs.YtecpginkacaebaaDoorW Go.Proofs.YtecpginkacaebaaDoorW.PrintWords Go.Proofs.YtecpginkacaebaaDoorW.PrintLast Go.Proofs.YtecpginkacaebaaDoorW.PrintMore Go.Proofs.YtecpginkacaebaaDoor.Base Go.Proofs.YtecpginkacaebaaDoor.Heap Go.Proofs.YtecpginkacaebaaDoor.Trn
set_option linter.unusedVariables false
set_option linter.unusedSimpArgs false
set_option maxRecDepth 100000

theorem Var.c18 {w : World} {g : Nat} {e : E} (h : Var w g e) : w.cell? ⟨g, 18, none⟩ = some (.int .i64 e.un) := by
  obtain ⟨_, _, _, _, _, _, _, _, _, _, _, _, _, _, _, _, _, _, h⟩ := blk_ e h
  exact h
theorem Var.c9 {w : World} {g : Nat} {e : E} (h : Var w g e) : w.cell? ⟨g, 9, none⟩ = some (.string e.nm) ∧ w.cell? ⟨g, 10, none⟩ = some (.int .u16 e.ty) := by
  obtain ⟨_, _, _, _, _, _, _, _, _, h1, h2, _⟩ := blk_ e h
  exact ⟨h1, h2⟩
/-- In Expire's loop. -/
structure XHead (w wr : World) (v6 v7 : Value) (es : List E) (now : Int) : Prop where
  own6 : Own wr w.heap.size v6 (es.filter fun e => decide (e.un ≤ now))
  own7 : Own wr w.heap.size v7 (es.filter fun e => !decide (e.un ≤ now))
  apart : ∀ k, v6.ownBlock = some k → v7.ownBlock ≠ some k
  below : Below w.heap.size w wr
theorem XHead.other {w wr w2 : World} {v6 v7 : Value} {es : List E} {now : Int} {F : List Nat} (h : XHead w wr v6 v7 es now) (ht : Turned F wr w2) (hF : ∀ k ∈ F, wr.heap.size ≤ k) : XHead w w2 v6 v7 es now :=
  ⟨ht.own h.own6 fun k hk hm => by have := own_lt h.own6 k hk; have := hF k hm; omega, ht.own h.own7 fun k hk hm => by have := own_lt h.own7 k hk; have := hF k hm; omega, h.apart, h.below.trans (ht.below (fun k hk => Nat.le_trans h.below.size (hF k hk)) h.below.size)⟩
theorem XHead.move {w wr w2 : World} {v6 v7 : Value} {es : List E} {now : Int} (h : XHead w wr v6 v7 es now) (hb : Below wr.heap.size wr w2) : XHead w w2 v6 v7 es now := h.other (F := []) (Turned.of_below hb []) (by simp)
theorem XHead.stored {w w3 w4 w5 : World} {v6 v7 : Value} {es : List E} {now : Int} {g : Nat} (h3 : XHead w w3 v6 v7 es now) (h4 : XHead w w4 v6 v7 es now) (hg : w3.heap.size ≤ g) (hs : w4.grownBy w5 (some g)) : XHead w w5 v6 v7 es now :=
  have ht : Turned [g] w4 w5 := Turned.of_grown hs fun k e => by injection e with e; simp [e]
  ⟨ht.own h4.own6 fun k hk hm => by have := own_lt h3.own6 k hk; have := List.mem_singleton.1 hm; omega, ht.own h4.own7 fun k hk hm => by have := own_lt h3.own7 k hk; have := List.mem_singleton.1 hm; omega, h4.apart,
    h4.below.trans (ht.below (fun k hk => by have := List.mem_singleton.1 hk; have := h3.below.size; omega) h4.below.size)⟩
theorem XHead.more6 {w wr w2 : World} {v6 v7 v : Value} {es : List E} {now : Int} {e : E} (h : XHead w wr v6 v7 es now) (hd : decide (e.un ≤ now) = true) (ho : Own w2 w.heap.size v (es.filter (fun e => decide (e.un ≤ now)) ++ [e])) (hg : wr.grownBy w2 v6.ownBlock) (hat : v.ownBlock = v6.ownBlock ∨ v.ownBlock = some wr.heap.size) : XHead w w2 v v7 (es ++ [e]) now := by
  refine ⟨?_, ?_, ?_, h.below.grown hg h.below.size fun k hk => own_base h.own6 k hk⟩
  · rw [List.filter_append, show [e].filter (fun e => decide (e.un ≤ now)) = [e] by rw [List.filter_cons]; simp [hd]]; exact ho
  · rw [List.filter_append, show [e].filter (fun e => !decide (e.un ≤ now)) = [] by rw [List.filter_cons]; simp [hd], List.append_nil]
    refine h.own7.kept hg ?_
    cases h7 : v7.ownBlock with
    | none => exact .inl rfl
    | some k => exact .inr (fun e => h.apart k e.symm h7)
  · intro k hk h7
    rcases hat with hat | hat
    · exact h.apart k (hat ▸ hk) h7
    · have := own_lt h.own7 k h7
      rw [hat] at hk
      injection hk with hk
      omega
theorem XHead.more7 {w wr w2 : World} {v6 v7 v : Value} {es : List E} {now : Int} {e : E} (h : XHead w wr v6 v7 es now) (hd : decide (e.un ≤ now) = false) (ho : Own w2 w.heap.size v (es.filter (fun e => !decide (e.un ≤ now)) ++ [e])) (hg : wr.grownBy w2 v7.ownBlock) (hat : v.ownBlock = v7.ownBlock ∨ v.ownBlock = some wr.heap.size) : XHead w w2 v6 v (es ++ [e]) now := by
  refine ⟨?_, ?_, ?_, h.below.grown hg h.below.size fun k hk => own_base h.own7 k hk⟩
  · rw [List.filter_append, show [e].filter (fun e => decide (e.un ≤ now)) = [] by rw [List.filter_cons]; simp [hd], List.append_nil]
    refine h.own6.kept hg ?_
    cases h6 : v6.ownBlock with
    | none => exact .inl rfl
    | some k => exact .inr (fun e => h.apart k h6 e.symm)
  · rw [List.filter_append, show [e].filter (fun e => !decide (e.un ≤ now)) = [e] by rw [List.filter_cons]; simp [hd]]; exact ho
  · intro k hk h7
    rcases hat with hat | hat
    · exact h.apart k hk (hat ▸ h7)
    · have := own_lt h.own6 k hk
      rw [hat] at h7
      injection h7 with h7
      omega
set_option maxHeartbeats 4000000 in
theorem expire_ (A : Option Addr) (c : Nat) (es : List E) (now : Int) (w : World) (hC : Kd.C kE w A es.length es) (hl : es.length ≤ 1048576) :
    Calls Tryd.prog 9 #[.slice A es.length c, .int .i64 now] w fun x w' => ∃ v1 v2, x = .returned (.tuple #[v1, v2]) ∧ Own w' w.heap.size v1 (es.filter fun e => decide (e.un ≤ now)) ∧ Own w' w.heap.size v2 (es.filter fun e => !decide (e.un ≤ now)) ∧ Below w.heap.size w w' := by
  have HC := Lib.hid hC
  have HL := Lib.hid hl
  have HH0 : Hid (XHead w w (.slice none 0 0) (.slice none 0 0) (es.take 0) now) := Lib.hid ⟨World.ownsRow_nil _ _ _ _, World.ownsRow_nil _ _ _ _, fun k hk => by simp [Value.ownBlock] at hk, Below.refl _ _⟩
  clear hC
  go_enter Tryd.func9, Tryd.ntmps9
  go_wp2_with fail
  go_loopw [6, 7, 12] (fun v6 v7 i wr => ∃ q : Nat, q ≤ es.length ∧ i = .int .i64 q ∧ Hid (XHead w wr v6 v7 (es.take q) now))
    (fun _ _ i _ => es.length - (intOf i).toNat)
  case atStart => exact ⟨0, Nat.zero_le _, rfl, HH0⟩
  case round =>
    obtain ⟨q, hq, rfl, HH⟩ := hrel
    by_cases hlt : q < es.length
    · obtain ⟨e, he⟩ : ∃ e, es[q]? = some e := ⟨_, List.getElem?_eq_getElem hlt⟩
      obtain ⟨ad, ha, -⟩ := load_ (Kd.C_below HC.out HH.out.below) q e he
      subst ha
      have HLD := Lib.hid (load_at (Kd.C_below HC.out HH.out.below) q e he)
      have htk : es.take (q + 1) = es.take q ++ [e] := by rw [List.take_add_one, he]; rfl
      have HTK := Lib.hid htk
      clear he htk
      have hfl6 : ((es.take q).filter fun e => decide (e.un ≤ now)).length ≤ 1048576 := Nat.le_trans (List.length_filter_le _ _) (by rw [List.length_take]; have := HL.out; omega)
      have hfl7 : ((es.take q).filter fun e => !decide (e.un ≤ now)).length ≤ 1048576 := Nat.le_trans (List.length_filter_le _ _) (by rw [List.length_take]; have := HL.out; omega)
      have HF6 := Lib.hid hfl6
      have HF7 := Lib.hid hfl7
      clear hfl6 hfl7
      cases hd : decide (e.un ≤ now) with
      | true =>
        go_wp2_with (first
          | ((with_reducible refine gate_dst (N := 15) rfl ?_); refine ev_load (t := 42) rfl rfl rfl HLD.out ?_)
          | ((with_reducible refine gate_al (t := 42) rfl ?_); refine ev_new rfl rfl ?_; intro g w4 hg hV4 hb4 hs4; have HG := Lib.hid (show wr.heap.size ≤ g by omega); have HH4 := Lib.hid (HH.out.move hb4); have HV4 := Lib.hid hV4; clear hg hV4 hb4 hs4)
          | ((with_reducible refine gate_st (t := 42) rfl ?_); obtain ⟨w5, hrun5, hV5, hg5⟩ := Var.store HV4.out e; refine ev_store rfl rfl rfl rfl rfl hrun5 ?_; have HV5 := Lib.hid hV5; have HH5 := Lib.hid (HH.out.stored HH4.out HG.out hg5); have hc18 := hV5.c18; clear hrun5 hV5 hg5)
          | ((with_reducible refine gate_ld (t := 42) rfl ?_); refine ev_load rfl rfl rfl HV5.out.load ?_)
          | ((with_reducible refine gate_dst (N := 22) rfl ?_); refine ev_lit rfl (.inl rfl) rfl rfl ?_; intro g7 w7 hg7 hV7 hb7 hs7; have HV7 := Lib.hid hV7; have HH7 := Lib.hid (HH5.out.move hb7); clear hg7 hV7 hb7 hs7)
          | ((with_reducible refine gate_builtin (b := .append) (xs := #[.tmp 20, .tmp 22]) rfl ?_); at_builtin; refine ev_app rfl (.inl rfl) rfl rfl rfl HH7.out.own6 HV7.out HH7.out.below.size HF6.out ?_; intro v8 w8 hO8 hg8 hat8; have HH8 := Lib.hid (HH7.out.more6 hd hO8 hg8 hat8); clear hO8 hg8 hat8))
        go_roundw
        case rel => exact ⟨q + 1, by omega, by go_num, by rw [HTK.out]; exact HH8⟩
        case measure => simp [intOf]; omega
      | false =>
        go_wp2_with (first
          | ((with_reducible refine gate_dst (N := 15) rfl ?_); refine ev_load (t := 42) rfl rfl rfl HLD.out ?_)
          | ((with_reducible refine gate_al (t := 42) rfl ?_); refine ev_new rfl rfl ?_; intro g w4 hg hV4 hb4 hs4; have HG := Lib.hid (show wr.heap.size ≤ g by omega); have HH4 := Lib.hid (HH.out.move hb4); have HV4 := Lib.hid hV4; clear hg hV4 hb4 hs4)
          | ((with_reducible refine gate_st (t := 42) rfl ?_); obtain ⟨w5, hrun5, hV5, hg5⟩ := Var.store HV4.out e; refine ev_store rfl rfl rfl rfl rfl hrun5 ?_; have HV5 := Lib.hid hV5; have HH5 := Lib.hid (HH.out.stored HH4.out HG.out hg5); have hc18 := hV5.c18; clear hrun5 hV5 hg5)
          | ((with_reducible refine gate_ld (t := 42) rfl ?_); refine ev_load rfl rfl rfl HV5.out.load ?_)
          | ((with_reducible refine gate_dst (N := 26) rfl ?_); refine ev_lit rfl (.inr rfl) rfl rfl ?_; intro g7 w7 hg7 hV7 hb7 hs7; have HV7 := Lib.hid hV7; have HH7 := Lib.hid (HH5.out.move hb7); clear hg7 hV7 hb7 hs7)
          | ((with_reducible refine gate_builtin (b := .append) (xs := #[.tmp 24, .tmp 26]) rfl ?_); at_builtin; refine ev_app rfl (.inr rfl) rfl rfl rfl HH7.out.own7 HV7.out HH7.out.below.size HF7.out ?_; intro v8 w8 hO8 hg8 hat8; have HH8 := Lib.hid (HH7.out.more7 hd hO8 hg8 hat8); clear hO8 hg8 hat8))
        go_roundw
        case rel => exact ⟨q + 1, by omega, by go_num, by rw [HTK.out]; exact HH8⟩
        case measure => simp [intOf]; omega
    · obtain rfl : q = es.length := by omega
      have h1 := HH.out.own6
      have h2 := HH.out.own7
      rw [List.take_length] at h1 h2
      have H1 := Lib.hid h1
      have H2 := Lib.hid h2
      clear h1 h2
      go_wp2_with fail
      go_ret2
      exact ⟨_, _, rfl, H1.out, H2.out, HH.out.below⟩
/-! ### The law's comparisons: the same entries are the same -/
theorem recs_nil (k : Nat) : PQ.bolterlaw05_SameRecords.f (k + 1) [] [] = some true := rfl
theorem same_ (e : E) (w : World) : Calls Tryd.prog 12 #[(.agg #[.int .u16 e.id, .int .u16 0, .bool false, .int .i64 0, .bool false, .bool false, .bool false, .bool false, .int .i64 0, .string e.nm, .int .u16 e.ty, .slice none 0 0, .slice none 0 0, .slice none 0 0, .int .i64 0, .string e.cl, .int .i64 e.po, .bool false, .int .i64 e.un]), (.agg #[.int .u16 e.id, .int .u16 0, .bool false, .int .i64 0, .bool false, .bool false, .bool false, .bool false, .int .i64 0, .string e.nm, .int .u16 e.ty, .slice none 0 0, .slice none 0 0, .slice none 0 0, .int .i64 0, .string e.cl, .int .i64 e.po, .bool false, .int .i64 e.un])] w fun x w' => x = .returned (.bool true) ∧ Below w.heap.size w w' := by
  have nl : ∀ W : World, Kd.C PQ.k110 W none (([] : List PQ.S110).length) [] := fun W => ⟨rfl, by simp, fun h => absurd h (Nat.lt_irrefl 0)⟩
  refine PQ.bolterlaw26_same.calls 1 e.id 0 false 0 false false false false 0 e.nm e.ty none 0 [] none 0 [] none 0 [] 0 e.cl e.po false e.un e.id 0 false 0 false false false false 0 e.nm e.ty none 0 [] none 0 [] none 0 [] 0 e.cl e.po false e.un true w (nl w) (Nat.le_refl _) (nl w) (Nat.le_refl _) (nl w) (Nat.le_refl _) (nl w) (Nat.le_refl _) (nl w) (Nat.le_refl _) (nl w) (Nat.le_refl _) ?_
  unfold PQ.bolterlaw26_same.f PQ.bolterlaw05_Same.f
  simp [recs_nil 0]
def all_T6 : Bool × List (List Nat × List Nat) := (true, [([], []), ([], []), ([0, 1], [0, 1]), ([2], [2]), ([], []), ([], []), ([4, 5], [4, 5]), ([6], [6]), ([3, 7], [3, 7]), ([8], [8])])
def all_B6 : List Nat := [0, 0, 3, 7, 0, 0, 48, 112, 255, 511]
theorem all_tab6 : rtab .any (opsOf Tryd.f13 6) = all_T6 := by kernel_rfl
theorem all_bits6 : waitsOk all_T6.2 all_B6 = true := by kernel_rfl
set_option maxHeartbeats 4000000 in
theorem all_ (A1 : Option Addr) (c1 : Nat) (A2 : Option Addr) (c2 : Nat) (es : List E) (w : World) (hC1 : Kd.C kE w A1 es.length es) (hC2 : Kd.C kE w A2 es.length es) :
    Calls Tryd.prog 13 #[.slice A1 es.length c1, .slice A2 es.length c2] w fun x w' => x = .returned (.bool true) ∧ Below w.heap.size w w' := by
  have HC1 := Lib.hid hC1
  have HC2 := Lib.hid hC2
  have hlen : es.length ≤ 9223372036854775807 := hC1.2.1
  clear hC1 hC2
  go_enter Tryd.func13, Tryd.ntmps13
  go_wp2_with fail
  go_loopw [13] (fun i wr => ∃ k : Nat, k ≤ es.length ∧ i = .int .i64 k ∧ Aside0 (Below w.heap.size w wr))
    (fun i _ => es.length - (intOf i).toNat)
  case atStart => exact ⟨0, Nat.zero_le _, rfl, ⟨by repeat (first | exact Below.refl _ _ | apply pw_below_drewN | apply below_drew1)⟩⟩
  case round =>
    obtain ⟨k, hk, rfl, HB⟩ := hrel
    by_cases hlt : k < es.length
    · obtain ⟨e, he⟩ : ∃ e, es[k]? = some e := ⟨_, List.getElem?_eq_getElem hlt⟩
      obtain ⟨ad1, ha1, -⟩ := load_ (Kd.C_below HC1.out HB.out) k e he
      obtain ⟨ad2, ha2, -⟩ := load_ (Kd.C_below HC2.out HB.out) k e he
      subst ha1
      subst ha2
      have HE := Lib.hid he
      have h1 := Kd.C_below HC1.out HB.out
      have h2 := Kd.C_below HC2.out HB.out
      have H12 := Lib.hid (And.intro h1 h2)
      clear he h1 h2
      go_wp2_with fail
      refine start_ (n := 10) (ds := ([] : List Nat)) (S := fun w' => Kd.C kE w' (some ad1) es.length es ∧ Kd.C kE w' (some ad2) es.length es ∧ Below w.heap.size w w') #[false, false, false, false, false, false, false, false, false, false] (by kernel_rfl) rfl rfl ⟨H12.out.1, H12.out.2, below_drew1 HB.out⟩ (fun hHeld => ?_)
      refine with_tabW all_tab6 all_bits6 (fun HT_ HW_ => ?_)
      generalize wr.drew = w2 at hHeld ⊢
      refine pure_ (i := 0) (N := (some 16)) (v := ?_) (a' := ?_) #[true, false, false, false, false, false, false, false, false, false] rfl rfl (any_of HT_.out (by kernel_rfl)) (fun _ _ _ h => h) (Or.inl ⟨by rfl, ?_⟩) ?_ ?_
      rotate_left
      · intro w'
        go_simp
        with_reducible rfl
      rotate_left
      · simp only [Act.put, List.setIfInBounds_toArray, List.set_cons_zero, List.set_cons_succ, i64_w, i32_w]
        rfl
      refine pure_ (i := 1) (N := (some 17)) (v := ?_) (a' := ?_) #[true, true, false, false, false, false, false, false, false, false] rfl rfl (any_of HT_.out (by kernel_rfl)) (fun _ _ _ h => h) (Or.inl ⟨by rfl, ?_⟩) ?_ ?_
      rotate_left
      · intro w'
        go_simp
        with_reducible rfl
      rotate_left
      · simp only [Act.put, List.setIfInBounds_toArray, List.set_cons_zero, List.set_cons_succ, i64_w, i32_w]
        rfl
      refine pure_ (i := 2) (N := (some 18)) (v := ?_) (a' := ?_) #[true, true, true, false, false, false, false, false, false, false] rfl rfl (any_of HT_.out (by kernel_rfl)) (fun _ _ _ h => h) (Or.inl ⟨by rfl, ?_⟩) ?_ ?_
      rotate_left
      · intro w'
        go_simp
        with_reducible rfl
      rotate_left
      · simp only [Act.put, List.setIfInBounds_toArray, List.set_cons_zero, List.set_cons_succ, i64_w, i32_w]
        rfl
      refine pure_ (i := 4) (N := (some 20)) (v := ?_) (a' := ?_) #[true, true, true, false, true, false, false, false, false, false] rfl rfl (any_of HT_.out (by kernel_rfl)) (fun _ _ _ h => h) (Or.inl ⟨by rfl, ?_⟩) ?_ ?_
      rotate_left
      · intro w'
        go_simp
        with_reducible rfl
      rotate_left
      · simp only [Act.put, List.setIfInBounds_toArray, List.set_cons_zero, List.set_cons_succ, i64_w, i32_w]
        rfl
      refine pure_ (i := 5) (N := (some 21)) (v := ?_) (a' := ?_) #[true, true, true, false, true, true, false, false, false, false] rfl rfl (any_of HT_.out (by kernel_rfl)) (fun _ _ _ h => h) (Or.inl ⟨by rfl, ?_⟩) ?_ ?_
      rotate_left
      · intro w'
        go_simp
        with_reducible rfl
      rotate_left
      · simp only [Act.put, List.setIfInBounds_toArray, List.set_cons_zero, List.set_cons_succ, i64_w, i32_w]
        rfl
      refine pure_ (i := 6) (N := (some 22)) (v := ?_) (a' := ?_) #[true, true, true, false, true, true, true, false, false, false] rfl rfl (any_of HT_.out (by kernel_rfl)) (fun _ _ _ h => h) (Or.inl ⟨by rfl, ?_⟩) ?_ ?_
      rotate_left
      · intro w'
        go_simp
        with_reducible rfl
      rotate_left
      · simp only [Act.put, List.setIfInBounds_toArray, List.set_cons_zero, List.set_cons_succ, i64_w, i32_w]
        rfl
      refine take_ (i := 3) (N := (some 19)) (v := (.agg #[.int .u16 e.id, .int .u16 0, .bool false, .int .i64 0, .bool false, .bool false, .bool false, .bool false, .int .i64 0, .string e.nm, .int .u16 e.ty, .slice none 0 0, .slice none 0 0, .slice none 0 0, .int .i64 0, .string e.cl, .int .i64 e.po, .bool false, .int .i64 e.un])) (a' := ?_) #[true, true, true, true, true, true, true, false, false, false] rfl rfl (take_ofW HT_.out HW_.out (by kernel_rfl)) (fun _ _ _ h => h) (Or.inl ⟨by rfl, ?_⟩) hHeld ?_ ?_
      · intro w' hS
        exact run_ld (t := 42) rfl rfl (load_at hS.1 k e HE.out)
      rotate_left
      · simp only [Act.put, List.setIfInBounds_toArray, List.set_cons_zero, List.set_cons_succ, i64_w, i32_w]
        rfl
      refine take_ (i := 7) (N := (some 23)) (v := (.agg #[.int .u16 e.id, .int .u16 0, .bool false, .int .i64 0, .bool false, .bool false, .bool false, .bool false, .int .i64 0, .string e.nm, .int .u16 e.ty, .slice none 0 0, .slice none 0 0, .slice none 0 0, .int .i64 0, .string e.cl, .int .i64 e.po, .bool false, .int .i64 e.un])) (a' := ?_) #[true, true, true, true, true, true, true, true, false, false] rfl rfl (take_ofW HT_.out HW_.out (by kernel_rfl)) (fun _ _ _ h => h) (Or.inl ⟨by rfl, ?_⟩) hHeld ?_ ?_
      · intro w' hS
        exact run_ld (t := 42) rfl rfl (load_at hS.2.1 k e HE.out)
      rotate_left
      · simp only [Act.put, List.setIfInBounds_toArray, List.set_cons_zero, List.set_cons_succ, i64_w, i32_w]
        rfl
      refine one_ (i := 8) (N := (some 24)) #[true, true, true, true, true, true, true, true, true, false] rfl rfl (one_of HT_.out (by kernel_rfl)) (by decide) (fun K hK => ?_)
      refine goes_ Tryd.func12 (by kernel_rfl) rfl #[(.agg #[.int .u16 e.id, .int .u16 0, .bool false, .int .i64 0, .bool false, .bool false, .bool false, .bool false, .int .i64 0, .string e.nm, .int .u16 e.ty, .slice none 0 0, .slice none 0 0, .slice none 0 0, .int .i64 0, .string e.cl, .int .i64 e.po, .bool false, .int .i64 e.un]), (.agg #[.int .u16 e.id, .int .u16 0, .bool false, .int .i64 0, .bool false, .bool false, .bool false, .bool false, .int .i64 0, .string e.nm, .int .u16 e.ty, .slice none 0 0, .slice none 0 0, .slice none 0 0, .int .i64 0, .string e.cl, .int .i64 e.po, .bool false, .int .i64 e.un])] (by rfl) rfl rfl (by (try simp only [List.map_toArray, List.map_cons, List.map_nil]); rfl) ?_
      with_reducible refine (same_ e _).mono ?_
      rintro x w4 ⟨rfl, hb⟩
      refine ⟨_, rfl, ?_⟩
      refine hK.out _ _ ⟨Kd.C_below hHeld.1 hb, Kd.C_below hHeld.2.1 hb, hHeld.2.2.trans (hb.mono hHeld.2.2.size)⟩ (fun hHeld => ?_)
      clear hK K
      refine norm_ (a' := ?_) ?_ ?_
      rotate_left
      · show Act.put _ (some 24) _ = _
        simp only [Act.put, List.setIfInBounds_toArray, List.set_cons_zero, List.set_cons_succ, i64_w, i32_w]
        rfl
      refine pure_ (i := 9) (N := (some 25)) (v := ?_) (a' := ?_) #[true, true, true, true, true, true, true, true, true, true] rfl rfl (any_of HT_.out (by kernel_rfl)) (fun _ _ _ h => h) (Or.inl ⟨by rfl, ?_⟩) ?_ ?_
      rotate_left
      · intro w'
        go_simp
        with_reducible rfl
      rotate_left
      · simp only [Act.put, List.setIfInBounds_toArray, List.set_cons_zero, List.set_cons_succ, i64_w, i32_w]
        rfl
      refine done_ (done_of HT_.out (by kernel_rfl)) ?_
      have HB2 := Lib.hid hHeld.2.2
      clear hHeld
      go_wp2_with fail
      go_roundw
      case rel => exact ⟨k + 1, by omega, by go_num, ⟨HB2.out⟩⟩
      case measure => simp [intOf]; omega
    · obtain rfl : k = es.length := by omega
      go_wp2_with fail
      go_ret
      exact ⟨rfl, HB.out⟩
end Go.Proofs.YtecpginkacaebaaDoor.Ent
