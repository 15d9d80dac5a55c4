/-
  The law PendingKeeps walked. No macro, syntax, notation, axiom, sorry.
-/
import Derived.Test.YtecpginkacaebaaPPx20
import Derived.Test.YtecpginkacaebaaEntI
namespace Go.Proofs.Ytecpginkacaebaa.PP
open Go.RowKit Go.Proofs.YtecpginkacaebaaW Go.Proofs.YtecpginkacaebaaW.PrintWords Go.Proofs.YtecpginkacaebaaW.PrintLast Go.Proofs.YtecpginkacaebaaW.PrintMore Go.Proofs.Ytecpginkacaebaa.Base Go.Proofs.Ytecpginkacaebaa.Heap Go.Proofs.Ytecpginkacaebaa.Nam Go.Proofs.Ytecpginkacaebaa.Ent Go.Proofs.Ytecpginkacaebaa.Trn
set_option linter.unusedVariables false
set_option linter.unusedSimpArgs false
set_option maxRecDepth 100000

theorem two_types (ty : TypeId) (x : Value) (W : World) : (Builtin.append_ #[25, 26] ty #[.slice none 0 0, x]).run Try.prog W = (Builtin.append_ #[25, 25] ty #[.slice none 0 0, x]).run Try.prog W := by
  obtain ⟨i0, hi, hz0, hz1, hz2⟩ := info_parts info_
  simp [Builtin.append_, run_underlying Try.underlying25, run_underlying Try.underlying26, sizeOf, typeInfo, hi]
section
variable {ops : Array Oper} {rest : List Oper} {o : Oper} {a : Act} {Q : Exit → Act → World → Prop} {W : World}
/-- append([]Entry(nil), t...). -/
theorem ev_copy (hgd : o.guard = none) {x : Operand} (ho : o.op = .call { callee := .builtin .append, args := #[.const (.slice none 0 0), x], argTypes := #[25, 26] }) {v : Value} {base : Nat} {es : List E} (hx : a.eval x = v) (HO : Own W base v es) (hl : es.length ≤ 1048576)
    (h : ∀ v1 W1, Own W1 W.heap.size v1 es → Below W.heap.size W W1 → wpList Try.prog ops Q rest (a.put o.dst v1) W1) : wpList Try.prog ops Q (o :: rest) a W := by
  obtain ⟨i0, hi, hzz⟩ := Option.map_eq_some_iff.1 info_
  simp only [Prod.mk.injEq] at hzz
  obtain ⟨hz0, hz1, hz2⟩ := hzz
  have key : ∃ v1 W1, (Builtin.append_ #[25, 25] o.type #[.slice none 0 0, v]).run Try.prog W = .ok v1 W1 ∧ Own W1 W.heap.size v1 es ∧ Below W.heap.size W W1 := by
    obtain ⟨A, c, hv, hlc, hcm, hC⟩ := HO.reads
    cases A with
    | none =>
      subst hv
      obtain ⟨h0, h1⟩ := HO.none_
      have hes : es = [] := List.eq_nil_of_length_eq_zero h0
      subst hes
      subst h1
      exact ⟨.slice none 0 0, W, by kernel_rfl, World.ownsRow_nil _ _ _ _, Below.refl _ _⟩
    | some ad =>
      subst hv
      have h1 : ∀ u ∈ rw_ es, u.oneCell' = true := by
        intro u hu
        obtain ⟨y, hy, hu⟩ := List.mem_flatMap.1 hu
        exact cs_one y u hu
      obtain ⟨v1, w1, hr, hown, hg, _⟩ := run_append_own (P := Try.prog) W W.heap.size 25 o.type 42 i0 _ 19 184 Try.underlying25 hi hz0 hz1 hz2 rfl (by omega) (.slice none 0 0) 0 [] (World.ownsRow_nil W _ _ _) ad es.length c (rw_ es) (rw_len es) (C_cells hC) h1 (by simp only [maxLen]; omega) (by omega) (Nat.le_refl _)
      exact ⟨v1, w1, hr, by simpa [Own, rw_] using hown, ⟨hg.os, hg.tape, hg.output, hg.size, fun k hk => hg.block k hk (by simp [Value.ownBlock])⟩⟩
  obtain ⟨v1, W1, hr, h1, h2⟩ := key
  have hrun : (execOp a.eval o).run Try.prog W = .ok (.value v1) W1 := by
    have hs0 : a.eval (.const (.slice none 0 0)) = .slice none 0 0 := rfl
    unfold execOp
    simp only [ho, resolve, invoke, builtin, Sem.run_bind, Sem.run_pure, Result.andThen_ok, List.map_toArray, List.map_cons, List.map_nil, hx, hs0, two_types, hr]
  exact Kd.event_run hgd hrun (h v1 W1 h1 h2)
end
theorem Var.setId {w : World} {g : Nat} {e : E} (h : Var w g e) (n : Int) : Var (w.setCell ⟨g, 0, none⟩ (.int .u16 n)) g { e with id := n } := by
  have := blk_set h 0 (.int .u16 n)
  exact this
def e98 : E := ⟨98, ⟨#[]⟩, 0, ⟨#[]⟩, 0, 0⟩
def with99 (e : E) : E := ⟨99, e.nm, e.ty, e.cl, e.po, e.un⟩
open Classical in
noncomputable def bolterlaw26_PendingKeeps.f (l0 : List LAct) (a0 a1 : Int) (l2 : List Int) (a3 a4 : Int) : Option Bool := if (∀ x ∈ l0, WfA x) ∧ l0.length ≤ 1048576 ∧ WfA (a0, a1, l2, a3, a4) then some true else none
structure KHead (w wr : World) (v : Value) (es : List E) : Prop where
  own : Own wr w.heap.size v es
  ids : ∀ (j : Nat) (e : E), es[j]? = some e → e.id = j
  below : Below w.heap.size w wr
theorem KHead.other {w wr w2 : World} {v : Value} {es : List E} {F : List Nat} (h : KHead w wr v es) (ht : Turned F wr w2) (hF : ∀ k ∈ F, wr.heap.size ≤ k) : KHead w w2 v es :=
  ⟨ht.own h.own fun k hk hm => by have := own_lt h.own k hk; have := hF k hm; omega, h.ids, h.below.trans (ht.below (fun k hk => Nat.le_trans h.below.size (hF k hk)) h.below.size)⟩
theorem KHead.move {w wr w2 : World} {v : Value} {es : List E} (h : KHead w wr v es) (hb : Below wr.heap.size wr w2) : KHead w w2 v es := h.other (F := []) (Turned.of_below hb []) (by simp)
theorem KHead.turn {w w3 w4 w5 : World} {v : Value} {es : List E} {g : Nat} (h3 : KHead w w3 v es) (h4 : KHead w w4 v es) (hg : w3.heap.size ≤ g) (ht : Turned [g] w4 w5) : KHead w w5 v es :=
  ⟨ht.own h4.own fun k hk hm => by have := own_lt h3.own k hk; have := List.mem_singleton.1 hm; omega, h4.ids, h4.below.trans (ht.below (fun k hk => by have := List.mem_singleton.1 hk; have := h3.below.size; omega) h4.below.size)⟩
theorem KHead.stored {w w3 w4 w5 : World} {v : Value} {es : List E} {g : Nat} (h3 : KHead w w3 v es) (h4 : KHead w w4 v es) (hg : w3.heap.size ≤ g) (hs : w4.grownBy w5 (some g)) : KHead w w5 v es := h3.turn h4 hg (Turned.of_grown hs fun k e => by injection e with e; simp [e])
theorem KHead.more {w wr w2 : World} {v v2 : Value} {es : List E} {e : E} (h : KHead w wr v es) (he : e.id = es.length) (ho : Own w2 w.heap.size v2 (es ++ [e])) (hg : wr.grownBy w2 v.ownBlock) : KHead w w2 v2 (es ++ [e]) := by
  refine ⟨ho, fun j x hj => ?_, h.below.grown hg h.below.size fun k hk => own_base h.own k hk⟩
  by_cases hl : j < es.length
  · rw [List.getElem?_append_left hl] at hj
    exact h.ids j x hj
  · have := (List.getElem?_eq_some_iff.1 hj).1
    simp at this
    have hj2 : j = es.length := by omega
    subst hj2
    rw [List.getElem?_append_right (Nat.le_refl _)] at hj
    simp at hj
    rw [← hj, he]
def keeps_T19 : Bool × List (List Nat × List Nat) := (true, [([], []), ([0], [0]), ([1], [1]), ([2], [2]), ([3, 2], [2, 3]), ([2, 4], [2, 4]), ([5, 2], [5]), ([6], [6]), ([7, 6], [6, 7]), ([6], [6]), ([9, 6], [6, 9]), ([10, 6], [6, 10]), ([8, 11, 6], [6, 8, 11]), ([6, 12], [6, 12]), ([13, 6], [13]), ([14], [14]), ([15, 14], [14, 15]), ([14], [14]), ([17, 14], [14, 17]), ([18, 14], [14, 18]), ([16, 19, 14], [14, 16, 19]), ([14, 20], [14, 20]), ([21, 14], [21]), ([22], [22]), ([22], [22]), ([24, 22], [22, 24]), ([23, 25, 22], [22, 23, 25]), ([26, 22], [22, 26]), ([22], [22]), ([27, 28, 22, 22], [22, 27, 28]), ([22, 29], [22, 29]), ([30, 29], [30]), ([31], [31]), ([31], [31]), ([33, 31], [31, 33]), ([32, 34, 31], [31, 32, 34]), ([35, 31], [31, 35]), ([36, 31], [31, 36]), ([37, 31], [31, 37]), ([31, 38], [31, 38]), ([39, 31], [39]), ([40], [40]), ([40], [40]), ([41, 42, 40, 40], [40, 41, 42]), ([40, 43], [40, 43]), ([44, 43, 0, 1, 2, 3, 4, 5, 6, 7, 8, 9, 10, 11, 12, 13, 14, 15, 16, 17, 18, 19, 20, 21, 22, 23, 24, 25, 26, 27, 28, 29, 30, 31, 32, 33, 34, 35, 36, 37, 38, 39, 40, 41, 42, 43, 44], [44])])
def keeps_B19 : List Nat := [0, 1, 3, 7, 15, 31, 63, 127, 255, 127, 639, 1663, 4095, 8191, 16383, 32767, 65535, 32767, 163839, 425983, 1048575, 2097151, 4194303, 8388607, 8388607, 25165823, 67108863, 134217727, 8388607, 536870911, 1073741823, 2147483647, 4294967295, 4294967295, 12884901887, 34359738367, 68719476735, 137438953471, 274877906943, 549755813887, 1099511627775, 2199023255551, 2199023255551, 8796093022207, 17592186044415, 35184372088831]
theorem keeps_tab19 : rtab .any (opsOf Try.f4 19) = keeps_T19 := by kernel_rfl
theorem keeps_bits19 : waitsOk keeps_T19.2 keeps_B19 = true := by kernel_rfl
set_option maxHeartbeats 8000000 in
theorem bolterlaw26_PendingKeeps.calls (A0 : Option Addr) (c0 : Nat) (l0 : List LAct) (a0 a1 : Int) (A2 : Option Addr) (c2 : Nat) (l2 : List Int) (a3 a4 : Int) (r : Bool) (w : World) (hr0 : Kd.C kAct w A0 l0.length l0) (hc0 : l0.length ≤ c0) (hr2 : Kd.C (Kd.int .u8) w A2 l2.length l2) (hc2 : l2.length ≤ c2) (h : bolterlaw26_PendingKeeps.f l0 a0 a1 l2 a3 a4 = some r) :
    Calls Try.prog 4 #[.slice A0 l0.length c0, .agg #[.int .u8 a0, .int .u8 a1, .slice A2 l2.length c2, .int .u8 a3, .int .i8 a4]] w fun e w' => e = .returned (.bool r) ∧ Below w.heap.size w w' := by
  unfold bolterlaw26_PendingKeeps.f at h
  by_cases hc : (∀ x ∈ l0, WfA x) ∧ l0.length ≤ 1048576 ∧ WfA (a0, a1, l2, a3, a4)
  case neg => rw [if_neg hc] at h; cases h
  rw [if_pos hc] at h
  obtain rfl := Option.some.inj h
  clear h
  obtain ⟨hwf, hln, hwa⟩ := hc
  have HR0 := Lib.hid hr0
  have HR2 := Lib.hid hr2
  have HC2 := Lib.hid hc2
  have HWF := Lib.hid hwf
  have HWA := Lib.hid hwa
  have HBX := Lib.hid (blk_new w (.cells #[.int .u8 a0, .int .u8 a1, .slice A2 l2.length c2, .int .u8 a3, .int .i8 a4] 31))
  have HBB := Lib.hid (below_alloc (Below.refl w.heap.size w) (.cells #[.int .u8 a0, .int .u8 a1, .slice A2 l2.length c2, .int .u8 a3, .int .i8 a4] 31))
  obtain ⟨bx, hbx⟩ : ∃ bx, w.heap.size = bx := ⟨_, rfl⟩
  clear hr0 hr2 hwf hwa hc2
  go_enter Try.func4, Try.ntmps4
  go_wp2_with fail
  refine (awake_ _).mono ?_
  rintro e w1 ⟨rfl, hb⟩
  have HB := Lib.hid (HBB.out.trans (hb.mono (by simp)))
  have HX := Lib.hid (blk_below HBX.out hb)
  (try rw [hbx])
  rw [hbx] at HX
  have HBE := Lib.hid hbx
  clear hb HBX HBB hbx
  go_wp2_with fail
  have HH0 : Hid (KHead w w1 (.slice none 0 0) []) := Lib.hid ⟨World.ownsRow_nil _ _ _ _, fun j e h => by simp at h, HB.out⟩
  go_loopw [5, 19] (fun v i wr => ∃ (q : Nat) (es : List E), q ≤ l0.length ∧ i = .int .i64 q ∧ Hid (es.length = min q 10) ∧ Hid (KHead w wr v es) ∧ Hid (wr.heap[bx]? = some (.cells #[.int .u8 a0, .int .u8 a1, .slice A2 l2.length c2, .int .u8 a3, .int .i8 a4] 31 (0, 0))))
    (fun _ i _ => l0.length - (intOf i).toNat)
  case atStart => exact ⟨0, [], Nat.zero_le _, rfl, Lib.hid (by simp), HH0, HX⟩
  case round =>
    obtain ⟨q, es, hq, rfl, HEL, HH, HX⟩ := hrel
    by_cases hlt : q < l0.length
    · obtain ⟨x, hx⟩ : ∃ x, l0[q]? = some x := ⟨_, List.getElem?_eq_getElem hlt⟩
      obtain ⟨ad, B, cb, ha, k0, k1, k2, k3, k4, hcb, hCB⟩ := at_act (Kd.C_below HR0.out HH.out.below) q x hx
      subst ha
      obtain ⟨x0, x1, x2, x3, x4⟩ := x
      simp only at k0 k1 k2 k3 k4 hcb hCB
      have hwx := HWF.out _ (List.mem_of_getElem? hx)
      have HWX := Lib.hid hwx
      have HCB := Lib.hid hCB
      clear hwx hCB hx
      by_cases h10 : q < 10
      · have d10 : decide ((q : Int) < 10) = true := decide_eq_true (by omega)
        have H10 := Lib.hid h10
        clear h10
        go_wp2_with fail
        obtain ⟨wa, hwa⟩ : ∃ wa, wr.alloc (.cells #[.int .u8 x0, .int .u8 x1, .slice B x2.length cb, .int .u8 x3, .int .i8 x4] 31) = wa := ⟨_, rfl⟩
        have hba : Below wr.heap.size wr wa := by rw [← hwa]; exact below_alloc (Below.refl _ _) _
        have HHa := Lib.hid (HH.out.move hba)
        have HCa := Lib.hid (Kd.C_below HCB.out hba)
        have HXa := Lib.hid (blk_below HX.out hba)
        rw [hwa]
        clear hwa hba k0 k1 k2 k3 k4
        with_reducible refine (entry_ x0 x1 x3 x4 B cb x2 wa HCa.out hcb (HWX.out).out.2.2.1.1 (HWX.out).out.2.2.1.2 (HWX.out).out.2.1 (HWX.out).out.2.2.2.1 (HWX.out).out.2.2.2.2).mono ?_
        rintro e w3 ⟨rfl, hb⟩
        have HH3 := Lib.hid (HHa.out.move hb)
        have HX3 := Lib.hid (blk_below HXa.out hb)
        obtain ⟨en, hen⟩ : ∃ en, entryOf x1 x2 x3 x4 = en := ⟨_, rfl⟩
        rw [hen]
        clear hb hen hcb HHa HCa HCB HH HX HXa
        have hw16 : IntKind.u16.wrap (q : Int) = q := by rw [IntKind.wrap_u16]; have := H10.out; omega
        go_wp2_with (first
          | ((with_reducible refine gate_al (t := 42) rfl ?_); refine ev_new rfl rfl ?_; intro g w4 hg hV4 hb4 hs4; have HG := Lib.hid (show w3.heap.size ≤ g by omega); have HH4 := Lib.hid (HH3.out.move hb4); have HX4 := Lib.hid (blk_below HX3.out hb4); have HV4 := Lib.hid hV4; clear hg hV4 hb4 hs4)
          | ((with_reducible refine gate_st (t := 42) rfl ?_); obtain ⟨w5, hrun5, hV5, hg5⟩ := Var.store HV4.out en; refine ev_store rfl rfl rfl rfl rfl hrun5 ?_; have HV5 := Lib.hid hV5; have HH5 := Lib.hid (HH3.out.stored HH4.out HG.out hg5); have HX5 : Hid (w5.heap[bx]? = some (.cells #[.int .u8 a0, .int .u8 a1, .slice A2 l2.length c2, .int .u8 a3, .int .i8 a4] 31 (0, 0))) := Lib.hid ((hg5.block bx (blk_lt HX4.out) (fun e => by injection e with e; have := blk_lt HX3.out; have := HG.out; omega)).trans HX4.out); have hc0 := (blk_ en hV5).1; have hf0 := blk_frozen hV5 0; clear hrun5 hV5 hg5)
          | ((with_reducible refine gate_ld (t := 42) rfl ?_); have HV6 := Lib.hid (Var.setId HV5.out (q : Int)); have ht6 : Turned [g] w5 (w5.setCell ⟨g, 0, none⟩ (.int .u16 q)) := (Turned.refl _ _).setCell (.inl (by simp)) _; have HH6 := Lib.hid (HH3.out.turn HH5.out HG.out ht6); have HX6 := Lib.hid (ht6.blk HX5.out (fun hm => by have := List.mem_singleton.1 hm; have := blk_lt HX3.out; have := HG.out; omega)); refine ev_load rfl rfl rfl HV6.out.load ?_; clear ht6)
          | ((with_reducible refine gate_dst (N := 33) rfl ?_); refine ev_lit rfl (.inr rfl) (e := { en with id := (q : Int) }) rfl rfl ?_; intro g7 w7 hg7 hV7 hb7 hs7; have HV7 := Lib.hid hV7; have HH7 := Lib.hid (HH6.out.move hb7); have HX7 := Lib.hid (blk_below HX6.out hb7); clear hg7 hV7 hb7 hs7)
          | ((with_reducible refine gate_builtin (b := .append) (xs := #[.tmp 31, .tmp 33]) rfl ?_); at_builtin; refine ev_app rfl (.inr rfl) rfl rfl rfl HH7.out.own HV7.out HH7.out.below.size (by have := HEL.out; omega) ?_; intro v8 w8 hO8 hg8 hat8; have HH8 := Lib.hid (HH7.out.more (e := { en with id := (q : Int) }) (by rw [HEL.out]; have := H10.out; show (q : Int) = _; omega) hO8 hg8); have HX8 : Hid (w8.heap[bx]? = some (.cells #[.int .u8 a0, .int .u8 a1, .slice A2 l2.length c2, .int .u8 a3, .int .i8 a4] 31 (0, 0))) := Lib.hid ((hg8.block bx (blk_lt HX7.out) (fun e => by obtain ⟨cells, hcc⟩ := own_typed HH7.out.own bx e.symm; rw [HX7.out] at hcc; injection hcc with hcc; injection hcc with _ hcc; exact absurd hcc (by decide))).trans HX7.out); clear hO8 hg8 hat8))
        go_roundw
        case rel => exact ⟨q + 1, _, by omega, by go_num, Lib.hid (by rw [List.length_append, HEL.out]; have := H10.out; simp; omega), HH8, HX8⟩
        case measure => simp [intOf]; omega
      · have d10 : decide ((q : Int) < 10) = false := decide_eq_false (by omega)
        have H10 := Lib.hid h10
        clear h10
        go_wp2_with fail
        have hba := below_alloc (Below.refl wr.heap.size wr) (.cells #[.int .u8 x0, .int .u8 x1, .slice B x2.length cb, .int .u8 x3, .int .i8 x4] 31)
        have HHa := Lib.hid (HH.out.move hba)
        have HXa := Lib.hid (blk_below HX.out hba)
        clear hba
        go_roundw
        case rel => exact ⟨q + 1, es, by omega, by go_num, Lib.hid (by rw [HEL.out]; have := H10.out; omega), HHa, HXa⟩
        case measure => simp [intOf]; omega
    · obtain rfl : q = l0.length := by omega
      obtain ⟨A, c, hv, hcc, hcm, hC⟩ := HH.out.own.reads
      have hN : A = none → es.length = 0 ∧ c = 0 := fun h => by
        have := HH.out.own
        rw [hv, h] at this
        exact this.none_
      subst hv
      have hel := HEL.out
      have HN := Lib.hid hN
      have HCC := Lib.hid hcc
      have HC := Lib.hid hC
      have hid9 : ∀ z : Int, 10 ≤ z → z ∉ es.map E.id := by
        intro z hz hm
        obtain ⟨y, hy, h1⟩ := List.mem_map.1 hm
        obtain ⟨j, hj, rfl⟩ := List.getElem_of_mem hy
        have := HH.out.ids j es[j] (List.getElem?_eq_getElem hj)
        omega
      have HI9 := Lib.hid hid9
      have H10 : Hid (es.length ≤ 10) := Lib.hid (by omega)
      clear hcc hcm hC hN hel hid9 HEL
      go_wp2_with ((with_reducible refine gate_dst (N := 37) rfl ?_); refine ev_copy rfl rfl rfl HH.out.own (by have := H10.out; omega) ?_; intro v9 w9 hO9 hb9; have HB9 := Lib.hid (HH.out.below.trans (hb9.mono HH.out.below.size)); have HO9 := Lib.hid hO9; have HC9 := Lib.hid (Kd.C_below HC.out hb9); obtain ⟨x0, x1, x2, x3, x4⟩ := cells5 (blk_below HX.out hb9); clear hO9 hb9)
      clear x0 x1 x2 x3 x4
      with_reducible refine (entry_ a0 a1 a3 a4 A2 c2 l2 w9 (Kd.C_below HR2.out HB9.out) HC2.out (HWA.out).out.2.2.1.1 (HWA.out).out.2.2.1.2 (HWA.out).out.2.1 (HWA.out).out.2.2.2.1 (HWA.out).out.2.2.2.2).mono ?_
      rintro e w10 ⟨rfl, hb⟩
      obtain ⟨en, hen⟩ : ∃ en, entryOf a1 l2 a3 a4 = en := ⟨_, rfl⟩
      rw [hen]
      obtain ⟨A9, c9, hv9, hcc9, hcm9, hCW9⟩ := HO9.out.reads
      subst hv9
      have HK10 : Hid (Kd.C kE w10 A es.length es ∧ Kd.C kE w10 A9 es.length es ∧ Below w.heap.size w w10) := Lib.hid ⟨Kd.C_below HC9.out hb, Kd.C_below hCW9 hb, HB9.out.trans (hb.mono HB9.out.size)⟩
      clear hb hen hcc9 hcm9 hCW9 HO9 HC9 HB9 HC
      go_wp2_with (first
        | ((with_reducible refine gate_al (t := 42) rfl ?_); refine ev_new rfl rfl ?_; intro g w4 hg hV4 hb4 hs4; have HG := Lib.hid (show w10.heap.size ≤ g by omega); have HGW := Lib.hid (show w.heap.size ≤ g by have := HK10.out.2.2.size; omega); have HK4 : Hid (Kd.C kE w4 A es.length es ∧ Kd.C kE w4 A9 es.length es ∧ Below w.heap.size w w4) := Lib.hid ⟨Kd.C_below HK10.out.1 hb4, Kd.C_below HK10.out.2.1 hb4, HK10.out.2.2.trans (hb4.mono HK10.out.2.2.size)⟩; have HV4 := Lib.hid hV4; have HB4 := Lib.hid hb4; clear hg hV4 hb4 hs4)
        | ((with_reducible refine gate_st (t := 42) rfl ?_); obtain ⟨w5, hrun5, hV5, hg5⟩ := Var.store HV4.out en; refine ev_store rfl rfl rfl rfl rfl hrun5 ?_; have HV5 := Lib.hid hV5; have HB5 : Hid (Below w10.heap.size w10 w5) := Lib.hid (HB4.out.grown hg5 HB4.out.size (fun k hk => by injection hk with hk; rw [← hk]; exact HG.out)); have hc0 := (blk_ en hV5).1; have hf0 := blk_frozen hV5 0; clear hrun5 hV5 hg5)
        | ((with_reducible refine gate_ld (t := 42) rfl ?_); have HV6 := Lib.hid (Var.setId HV5.out 99); have HB6 : Hid (Below w10.heap.size w10 (w5.setCell ⟨g, 0, none⟩ (.int .u16 99))) := Lib.hid (HB5.out.setCell (p := ⟨g, 0, none⟩) HG.out _); refine ev_load rfl rfl rfl HV6.out.load ?_))
      obtain ⟨w6, hw6⟩ : ∃ w6, w5.setCell ⟨g, 0, none⟩ (.int .u16 99) = w6 := ⟨_, rfl⟩
      rw [hw6] at HV6 HB6 ⊢
      clear hc0 hf0 hw6 HV5 HB5 HV4 HB4 HK4
      have HV6 : Hid (Var w6 g (with99 en)) := HV6
      have HK6 : Hid (Kd.C kE w6 A es.length es ∧ Kd.C kE w6 A9 es.length es ∧ Below w.heap.size w w6) := Lib.hid ⟨Kd.C_below HK10.out.1 HB6.out, Kd.C_below HK10.out.2.1 HB6.out, HK10.out.2.2.trans (HB6.out.mono HK10.out.2.2.size)⟩
      refine (add_ok A c es (with99 en) w6 HK6.out.1 HCC.out HN.out (by have := H10.out; omega) (HI9.out 99 (by omega))).mono ?_
      rintro x w7 ⟨v1, rfl, hO1, hb⟩
      have HK7 : Hid (Kd.C kE w7 A es.length es ∧ Kd.C kE w7 A9 es.length es ∧ Below w.heap.size w w7 ∧ Var w7 g (with99 en)) := Lib.hid ⟨Kd.C_below HK6.out.1 hb, Kd.C_below HK6.out.2.1 hb, HK6.out.2.2.trans (hb.mono HK6.out.2.2.size), HV6.out.below hb⟩
      obtain ⟨A1, c1, hv1, hcc1, hcm1, hC1⟩ := hO1.reads
      subst hv1
      have HC1 := Lib.hid hC1
      clear hb hO1 hC1 hcm1 hcc1 HK6 HV6 HB6 HK10
      go_wp2_with fail
      refine (add_ok A c es e98 w7 HK7.out.1 HCC.out HN.out (by have := H10.out; omega) (HI9.out 98 (by omega))).mono ?_
      rintro x w8 ⟨v2, rfl, hO2, hb⟩
      have HK8 : Hid (Kd.C kE w8 A es.length es ∧ Kd.C kE w8 A9 es.length es ∧ Below w.heap.size w w8 ∧ Var w8 g (with99 en) ∧ Kd.C kE w8 A1 (es ++ [(with99 en)]).length (es ++ [(with99 en)])) := Lib.hid ⟨Kd.C_below HK7.out.1 hb, Kd.C_below HK7.out.2.1 hb, HK7.out.2.2.1.trans (hb.mono HK7.out.2.2.1.size), HK7.out.2.2.2.below hb, Kd.C_below HC1.out hb⟩
      obtain ⟨A3, c3, hv2, hcc2, hcm2, hC2⟩ := hO2.reads
      subst hv2
      have HC3 := Lib.hid hC2
      obtain ⟨k9, k10⟩ := HK8.out.2.2.2.1.c9
      clear hb hO2 hC2 hcm2 hcc2 HK7 HC1
      go_wp2_with fail
      with_reducible refine (match_ A c es 0 (with99 en).nm (with99 en).ty w8 HK8.out.1 HN.out (by have := H10.out; omega)).mono ?_
      rintro x w11 ⟨hb, hx⟩
      have hx3 : ∃ u0 u1 u2, x = .returned (.tuple #[u0, u1, u2]) := by
        rcases hx with ⟨_, _, _, _, _, _, h, _⟩ | ⟨_, h⟩ <;> exact ⟨_, _, _, h⟩
      obtain ⟨u0, u1, u2, rfl⟩ := hx3
      clear hx k9 k10
      have HK11 : Hid (Kd.C kE w11 A es.length es ∧ Kd.C kE w11 A9 es.length es ∧ Below w.heap.size w w11 ∧ Var w11 g (with99 en) ∧ Kd.C kE w11 A1 (es ++ [(with99 en)]).length (es ++ [(with99 en)]) ∧ Kd.C kE w11 A3 (es ++ [e98]).length (es ++ [e98])) := Lib.hid ⟨Kd.C_below HK8.out.1 hb, Kd.C_below HK8.out.2.1 hb, HK8.out.2.2.1.trans (hb.mono HK8.out.2.2.1.size), HK8.out.2.2.2.1.below hb, Kd.C_below HK8.out.2.2.2.2 hb, Kd.C_below HC3.out hb⟩
      clear hb HK8 HC3
      go_wp2_with fail
      with_reducible refine (expire_ A c es 3 w11 HK11.out.1 (by have := H10.out; omega)).mono ?_
      rintro x w12 ⟨y1, y2, rfl, -, -, hb⟩
      have HK12 : Hid (Kd.C kE w12 A es.length es ∧ Kd.C kE w12 A9 es.length es ∧ Below w.heap.size w w12 ∧ Var w12 g (with99 en) ∧ Kd.C kE w12 A1 (es ++ [(with99 en)]).length (es ++ [(with99 en)]) ∧ Kd.C kE w12 A3 (es ++ [e98]).length (es ++ [e98])) := Lib.hid ⟨Kd.C_below HK11.out.1 hb, Kd.C_below HK11.out.2.1 hb, HK11.out.2.2.1.trans (hb.mono HK11.out.2.2.1.size), HK11.out.2.2.2.1.below hb, Kd.C_below HK11.out.2.2.2.2.1 hb, Kd.C_below HK11.out.2.2.2.2.2 hb⟩
      clear hb HK11
      have hl1 : (es ++ [(with99 en)]).length = es.length + 1 := by simp
      have hl2 : (es ++ [e98]).length = es.length + 1 := by simp
      have HG1 : Hid ((es ++ [(with99 en)])[es.length]? = some (with99 en)) := Lib.hid (by simp)
      have HG2 : Hid ((es ++ [e98])[es.length]? = some e98) := Lib.hid (by simp)
      obtain ⟨p1, hp1, -⟩ := load_ HK12.out.2.2.2.2.1 es.length (with99 en) HG1.out
      obtain ⟨p2, hp2, -⟩ := load_ HK12.out.2.2.2.2.2 es.length _ HG2.out
      subst hp1
      subst hp2
      have hwn : IntKind.i64.wrap ((es.length : Int) + 1) = (es.length : Int) + 1 := IntWalk.i64_in _ (by have := H10.out; omega)
      have hwn2 : wrap64 ((es.length : Int) + 1) = (es.length : Int) + 1 := w64 (by omega) (by have := H10.out; omega)
      clear hl1 hl2
      have hlt1 : (es.length : Int) < (es.length : Int) + 1 := by omega
      go_wp2_with fail
      refine start_ (n := 46) (ds := ([] : List Nat)) (S := fun w' => Kd.C kE w' A es.length es ∧ Kd.C kE w' A9 es.length es ∧ Below w.heap.size w w' ∧ Var w' g (with99 en) ∧ Kd.C kE w' (some p1) (es ++ [with99 en]).length (es ++ [with99 en]) ∧ Kd.C kE w' (some p2) (es ++ [e98]).length (es ++ [e98])) #[false, false, false, false, false, false, false, false, false, false, false, false, false, false, false, false, false, false, false, false, false, false, false, false, false, false, false, false, false, false, false, false, false, false, false, false, false, false, false, false, false, false, false, false, false, false] (by kernel_rfl) rfl rfl ⟨HK12.out.1, HK12.out.2.1, below_drew1 HK12.out.2.2.1, HK12.out.2.2.2.1, HK12.out.2.2.2.2.1, HK12.out.2.2.2.2.2⟩ (fun hHeld => ?_)
      refine with_tabW keeps_tab19 keeps_bits19 (fun HT_ HW_ => ?_)
      generalize w12.drew = w13 at hHeld ⊢
      refine pure_ (i := 0) (N := (some 67)) (v := ?_) (a' := ?_) #[true, false, false, false, false, false, false, false, false, false, false, false, false, false, false, false, false, false, false, false, false, false, false, false, false, false, false, false, false, false, false, false, false, false, false, false, false, false, false, false, false, false, false, false, false, false] rfl rfl (any_of HT_.out (by kernel_rfl)) (fun _ _ _ h => h) (Or.inl ⟨by rfl, ?_⟩) ?_ ?_
      rotate_left
      · intro w'
        go_simp
        with_reducible rfl
      rotate_left
      · simp only [Act.put, List.setIfInBounds_toArray, List.set_cons_zero, List.set_cons_succ, i64_w, i32_w]
        rfl
      refine pure_ (i := 1) (N := (some 68)) (v := ?_) (a' := ?_) #[true, true, false, false, false, false, false, false, false, false, false, false, false, false, false, false, false, false, false, false, false, false, false, false, false, false, false, false, false, false, false, false, false, false, false, false, false, false, false, false, false, false, false, false, false, false] rfl rfl (any_of HT_.out (by kernel_rfl)) (fun _ _ _ h => h) (Or.inl ⟨by rfl, ?_⟩) ?_ ?_
      rotate_left
      · intro w'
        go_simp
        with_reducible rfl
      rotate_left
      · simp only [Act.put, List.setIfInBounds_toArray, List.set_cons_zero, List.set_cons_succ, i64_w, i32_w]
        rfl
      refine pure_ (i := 2) (N := (some 69)) (v := ?_) (a' := ?_) #[true, true, true, false, false, false, false, false, false, false, false, false, false, false, false, false, false, false, false, false, false, false, false, false, false, false, false, false, false, false, false, false, false, false, false, false, false, false, false, false, false, false, false, false, false, false] rfl rfl (any_of HT_.out (by kernel_rfl)) (fun _ _ _ h => h) (Or.inl ⟨by rfl, ?_⟩) ?_ ?_
      rotate_left
      · intro w'
        go_simp
        with_reducible rfl
      rotate_left
      · simp only [Act.put, List.setIfInBounds_toArray, List.set_cons_zero, List.set_cons_succ, i64_w, i32_w]
        rfl
      refine pure_ (i := 3) (N := (some 70)) (v := ?_) (a' := ?_) #[true, true, true, true, false, false, false, false, false, false, false, false, false, false, false, false, false, false, false, false, false, false, false, false, false, false, false, false, false, false, false, false, false, false, false, false, false, false, false, false, false, false, false, false, false, false] rfl rfl (any_of HT_.out (by kernel_rfl)) (fun _ _ _ h => h) (Or.inl ⟨by rfl, ?_⟩) ?_ ?_
      rotate_left
      · intro w'
        go_simp
        with_reducible rfl
      rotate_left
      · simp only [Act.put, List.setIfInBounds_toArray, List.set_cons_zero, List.set_cons_succ, i64_w, i32_w]
        rfl
      refine pure_ (i := 4) (N := (some 71)) (v := ?_) (a' := ?_) #[true, true, true, true, true, false, false, false, false, false, false, false, false, false, false, false, false, false, false, false, false, false, false, false, false, false, false, false, false, false, false, false, false, false, false, false, false, false, false, false, false, false, false, false, false, false] rfl rfl (any_of HT_.out (by kernel_rfl)) (fun _ _ _ h => h) (Or.inl ⟨by rfl, ?_⟩) ?_ ?_
      rotate_left
      · intro w'
        go_simp
        with_reducible rfl
      rotate_left
      · simp only [Act.put, List.setIfInBounds_toArray, List.set_cons_zero, List.set_cons_succ, i64_w, i32_w]
        rfl
      refine pure_ (i := 5) (N := (some 72)) (v := ?_) (a' := ?_) #[true, true, true, true, true, true, false, false, false, false, false, false, false, false, false, false, false, false, false, false, false, false, false, false, false, false, false, false, false, false, false, false, false, false, false, false, false, false, false, false, false, false, false, false, false, false] rfl rfl (any_of HT_.out (by kernel_rfl)) (fun _ _ _ h => h) (Or.inl ⟨by rfl, ?_⟩) ?_ ?_
      rotate_left
      · intro w'
        go_simp
        with_reducible rfl
      rotate_left
      · simp only [Act.put, List.setIfInBounds_toArray, List.set_cons_zero, List.set_cons_succ, i64_w, i32_w]
        rfl
      refine pure_ (i := 6) (N := (some 73)) (v := ?_) (a' := ?_) #[true, true, true, true, true, true, true, false, false, false, false, false, false, false, false, false, false, false, false, false, false, false, false, false, false, false, false, false, false, false, false, false, false, false, false, false, false, false, false, false, false, false, false, false, false, false] rfl rfl (any_of HT_.out (by kernel_rfl)) (fun _ _ _ h => h) (Or.inl ⟨by rfl, ?_⟩) ?_ ?_
      rotate_left
      · intro w'
        go_simp
        with_reducible rfl
      rotate_left
      · simp only [Act.put, List.setIfInBounds_toArray, List.set_cons_zero, List.set_cons_succ, i64_w, i32_w]
        rfl
      refine pure_ (i := 7) (N := (some 74)) (v := ?_) (a' := ?_) #[true, true, true, true, true, true, true, true, false, false, false, false, false, false, false, false, false, false, false, false, false, false, false, false, false, false, false, false, false, false, false, false, false, false, false, false, false, false, false, false, false, false, false, false, false, false] rfl rfl (any_of HT_.out (by kernel_rfl)) (fun _ _ _ h => h) (Or.inl ⟨by rfl, ?_⟩) ?_ ?_
      rotate_left
      · intro w'
        go_simp
        with_reducible rfl
      rotate_left
      · simp only [Act.put, List.setIfInBounds_toArray, List.set_cons_zero, List.set_cons_succ, i64_w, i32_w]
        rfl
      refine pure_ (i := 8) (N := (some 75)) (v := ?_) (a' := ?_) #[true, true, true, true, true, true, true, true, true, false, false, false, false, false, false, false, false, false, false, false, false, false, false, false, false, false, false, false, false, false, false, false, false, false, false, false, false, false, false, false, false, false, false, false, false, false] rfl rfl (any_of HT_.out (by kernel_rfl)) (fun _ _ _ h => h) (Or.inl ⟨by rfl, ?_⟩) ?_ ?_
      rotate_left
      · intro w'
        go_simp
        with_reducible rfl
      rotate_left
      · simp only [Act.put, List.setIfInBounds_toArray, List.set_cons_zero, List.set_cons_succ, i64_w, i32_w]
        rfl
      refine pure_ (i := 9) (N := (some 76)) (v := ?_) (a' := ?_) #[true, true, true, true, true, true, true, true, true, true, false, false, false, false, false, false, false, false, false, false, false, false, false, false, false, false, false, false, false, false, false, false, false, false, false, false, false, false, false, false, false, false, false, false, false, false] rfl rfl (any_of HT_.out (by kernel_rfl)) (fun _ _ _ h => h) (Or.inl ⟨by rfl, ?_⟩) ?_ ?_
      rotate_left
      · intro w'
        go_simp
        with_reducible rfl
      rotate_left
      · simp only [Act.put, List.setIfInBounds_toArray, List.set_cons_zero, List.set_cons_succ, i64_w, i32_w]
        rfl
      refine pure_ (i := 10) (N := (some 77)) (v := ?_) (a' := ?_) #[true, true, true, true, true, true, true, true, true, true, true, false, false, false, false, false, false, false, false, false, false, false, false, false, false, false, false, false, false, false, false, false, false, false, false, false, false, false, false, false, false, false, false, false, false, false] rfl rfl (any_of HT_.out (by kernel_rfl)) (fun _ _ _ h => h) (Or.inl ⟨by rfl, ?_⟩) ?_ ?_
      rotate_left
      · intro w'
        go_simp
        with_reducible rfl
      rotate_left
      · simp only [Act.put, List.setIfInBounds_toArray, List.set_cons_zero, List.set_cons_succ, i64_w, i32_w]
        rfl
      refine pure_ (i := 11) (N := (some 78)) (v := ?_) (a' := ?_) #[true, true, true, true, true, true, true, true, true, true, true, true, false, false, false, false, false, false, false, false, false, false, false, false, false, false, false, false, false, false, false, false, false, false, false, false, false, false, false, false, false, false, false, false, false, false] rfl rfl (any_of HT_.out (by kernel_rfl)) (fun _ _ _ h => h) (Or.inl ⟨by rfl, ?_⟩) ?_ ?_
      rotate_left
      · intro w'
        go_simp
        with_reducible rfl
      rotate_left
      · simp only [Act.put, List.setIfInBounds_toArray, List.set_cons_zero, List.set_cons_succ, i64_w, i32_w]
        rfl
      refine pure_ (i := 12) (N := (some 79)) (v := ?_) (a' := ?_) #[true, true, true, true, true, true, true, true, true, true, true, true, true, false, false, false, false, false, false, false, false, false, false, false, false, false, false, false, false, false, false, false, false, false, false, false, false, false, false, false, false, false, false, false, false, false] rfl rfl (any_of HT_.out (by kernel_rfl)) (fun _ _ _ h => h) (Or.inl ⟨by rfl, ?_⟩) ?_ ?_
      rotate_left
      · intro w'
        go_simp
        with_reducible rfl
      rotate_left
      · simp only [Act.put, List.setIfInBounds_toArray, List.set_cons_zero, List.set_cons_succ, i64_w, i32_w]
        rfl
      refine pure_ (i := 13) (N := (some 80)) (v := ?_) (a' := ?_) #[true, true, true, true, true, true, true, true, true, true, true, true, true, true, false, false, false, false, false, false, false, false, false, false, false, false, false, false, false, false, false, false, false, false, false, false, false, false, false, false, false, false, false, false, false, false] rfl rfl (any_of HT_.out (by kernel_rfl)) (fun _ _ _ h => h) (Or.inl ⟨by rfl, ?_⟩) ?_ ?_
      rotate_left
      · intro w'
        go_simp
        with_reducible rfl
      rotate_left
      · simp only [Act.put, List.setIfInBounds_toArray, List.set_cons_zero, List.set_cons_succ, i64_w, i32_w]
        rfl
      refine pure_ (i := 14) (N := (some 81)) (v := ?_) (a' := ?_) #[true, true, true, true, true, true, true, true, true, true, true, true, true, true, true, false, false, false, false, false, false, false, false, false, false, false, false, false, false, false, false, false, false, false, false, false, false, false, false, false, false, false, false, false, false, false] rfl rfl (any_of HT_.out (by kernel_rfl)) (fun _ _ _ h => h) (Or.inl ⟨by rfl, ?_⟩) ?_ ?_
      rotate_left
      · intro w'
        go_simp
        with_reducible rfl
      rotate_left
      · simp only [Act.put, List.setIfInBounds_toArray, List.set_cons_zero, List.set_cons_succ, i64_w, i32_w]
        rfl
      refine pure_ (i := 15) (N := (some 82)) (v := ?_) (a' := ?_) #[true, true, true, true, true, true, true, true, true, true, true, true, true, true, true, true, false, false, false, false, false, false, false, false, false, false, false, false, false, false, false, false, false, false, false, false, false, false, false, false, false, false, false, false, false, false] rfl rfl (any_of HT_.out (by kernel_rfl)) (fun _ _ _ h => h) (Or.inl ⟨by rfl, ?_⟩) ?_ ?_
      rotate_left
      · intro w'
        go_simp
        with_reducible rfl
      rotate_left
      · simp only [Act.put, List.setIfInBounds_toArray, List.set_cons_zero, List.set_cons_succ, i64_w, i32_w]
        rfl
      refine pure_ (i := 16) (N := (some 83)) (v := ?_) (a' := ?_) #[true, true, true, true, true, true, true, true, true, true, true, true, true, true, true, true, true, false, false, false, false, false, false, false, false, false, false, false, false, false, false, false, false, false, false, false, false, false, false, false, false, false, false, false, false, false] rfl rfl (any_of HT_.out (by kernel_rfl)) (fun _ _ _ h => h) (Or.inl ⟨by rfl, ?_⟩) ?_ ?_
      rotate_left
      · intro w'
        go_simp
        with_reducible rfl
      rotate_left
      · simp only [Act.put, List.setIfInBounds_toArray, List.set_cons_zero, List.set_cons_succ, i64_w, i32_w]
        rfl
      refine pure_ (i := 17) (N := (some 84)) (v := ?_) (a' := ?_) #[true, true, true, true, true, true, true, true, true, true, true, true, true, true, true, true, true, true, false, false, false, false, false, false, false, false, false, false, false, false, false, false, false, false, false, false, false, false, false, false, false, false, false, false, false, false] rfl rfl (any_of HT_.out (by kernel_rfl)) (fun _ _ _ h => h) (Or.inl ⟨by rfl, ?_⟩) ?_ ?_
      rotate_left
      · intro w'
        go_simp
        with_reducible rfl
      rotate_left
      · simp only [Act.put, List.setIfInBounds_toArray, List.set_cons_zero, List.set_cons_succ, i64_w, i32_w]
        rfl
      refine pure_ (i := 18) (N := (some 85)) (v := ?_) (a' := ?_) #[true, true, true, true, true, true, true, true, true, true, true, true, true, true, true, true, true, true, true, false, false, false, false, false, false, false, false, false, false, false, false, false, false, false, false, false, false, false, false, false, false, false, false, false, false, false] rfl rfl (any_of HT_.out (by kernel_rfl)) (fun _ _ _ h => h) (Or.inl ⟨by rfl, ?_⟩) ?_ ?_
      rotate_left
      · intro w'
        go_simp
        with_reducible rfl
      rotate_left
      · simp only [Act.put, List.setIfInBounds_toArray, List.set_cons_zero, List.set_cons_succ, i64_w, i32_w]
        rfl
      refine pure_ (i := 19) (N := (some 86)) (v := ?_) (a' := ?_) #[true, true, true, true, true, true, true, true, true, true, true, true, true, true, true, true, true, true, true, true, false, false, false, false, false, false, false, false, false, false, false, false, false, false, false, false, false, false, false, false, false, false, false, false, false, false] rfl rfl (any_of HT_.out (by kernel_rfl)) (fun _ _ _ h => h) (Or.inl ⟨by rfl, ?_⟩) ?_ ?_
      rotate_left
      · intro w'
        go_simp
        with_reducible rfl
      rotate_left
      · simp only [Act.put, List.setIfInBounds_toArray, List.set_cons_zero, List.set_cons_succ, i64_w, i32_w]
        rfl
      refine pure_ (i := 20) (N := (some 87)) (v := ?_) (a' := ?_) #[true, true, true, true, true, true, true, true, true, true, true, true, true, true, true, true, true, true, true, true, true, false, false, false, false, false, false, false, false, false, false, false, false, false, false, false, false, false, false, false, false, false, false, false, false, false] rfl rfl (any_of HT_.out (by kernel_rfl)) (fun _ _ _ h => h) (Or.inl ⟨by rfl, ?_⟩) ?_ ?_
      rotate_left
      · intro w'
        go_simp
        with_reducible rfl
      rotate_left
      · simp only [Act.put, List.setIfInBounds_toArray, List.set_cons_zero, List.set_cons_succ, i64_w, i32_w]
        rfl
      refine pure_ (i := 21) (N := (some 88)) (v := ?_) (a' := ?_) #[true, true, true, true, true, true, true, true, true, true, true, true, true, true, true, true, true, true, true, true, true, true, false, false, false, false, false, false, false, false, false, false, false, false, false, false, false, false, false, false, false, false, false, false, false, false] rfl rfl (any_of HT_.out (by kernel_rfl)) (fun _ _ _ h => h) (Or.inl ⟨by rfl, ?_⟩) ?_ ?_
      rotate_left
      · intro w'
        go_simp
        with_reducible rfl
      rotate_left
      · simp only [Act.put, List.setIfInBounds_toArray, List.set_cons_zero, List.set_cons_succ, i64_w, i32_w]
        rfl
      refine pure_ (i := 22) (N := (some 89)) (v := ?_) (a' := ?_) #[true, true, true, true, true, true, true, true, true, true, true, true, true, true, true, true, true, true, true, true, true, true, true, false, false, false, false, false, false, false, false, false, false, false, false, false, false, false, false, false, false, false, false, false, false, false] rfl rfl (any_of HT_.out (by kernel_rfl)) (fun _ _ _ h => h) (Or.inl ⟨by rfl, ?_⟩) ?_ ?_
      rotate_left
      · intro w'
        go_simp
        with_reducible rfl
      rotate_left
      · simp only [Act.put, List.setIfInBounds_toArray, List.set_cons_zero, List.set_cons_succ, i64_w, i32_w]
        rfl
      refine pure_ (i := 23) (N := (some 90)) (v := ?_) (a' := ?_) #[true, true, true, true, true, true, true, true, true, true, true, true, true, true, true, true, true, true, true, true, true, true, true, true, false, false, false, false, false, false, false, false, false, false, false, false, false, false, false, false, false, false, false, false, false, false] rfl rfl (any_of HT_.out (by kernel_rfl)) (fun _ _ _ h => h) (Or.inl ⟨by rfl, ?_⟩) ?_ ?_
      rotate_left
      · intro w'
        go_simp
        with_reducible rfl
      rotate_left
      · simp only [Act.put, List.setIfInBounds_toArray, List.set_cons_zero, List.set_cons_succ, i64_w, i32_w]
        rfl
      refine pure_ (i := 24) (N := (some 91)) (v := ?_) (a' := ?_) #[true, true, true, true, true, true, true, true, true, true, true, true, true, true, true, true, true, true, true, true, true, true, true, true, true, false, false, false, false, false, false, false, false, false, false, false, false, false, false, false, false, false, false, false, false, false] rfl rfl (any_of HT_.out (by kernel_rfl)) (fun _ _ _ h => h) (Or.inl ⟨by rfl, ?_⟩) ?_ ?_
      rotate_left
      · intro w'
        go_simp
        with_reducible rfl
      rotate_left
      · simp only [Act.put, List.setIfInBounds_toArray, List.set_cons_zero, List.set_cons_succ, i64_w, i32_w]
        rfl
      refine pure_ (i := 25) (N := (some 92)) (v := ?_) (a' := ?_) #[true, true, true, true, true, true, true, true, true, true, true, true, true, true, true, true, true, true, true, true, true, true, true, true, true, true, false, false, false, false, false, false, false, false, false, false, false, false, false, false, false, false, false, false, false, false] rfl rfl (any_of HT_.out (by kernel_rfl)) (fun _ _ _ h => h) (Or.inl ⟨by rfl, ?_⟩) ?_ ?_
      rotate_left
      · intro w'
        go_simp
        with_reducible rfl
      rotate_left
      · simp only [Act.put, List.setIfInBounds_toArray, List.set_cons_zero, List.set_cons_succ, i64_w, i32_w]
        rfl
      refine pure_ (i := 26) (N := (some 93)) (v := ?_) (a' := ?_) #[true, true, true, true, true, true, true, true, true, true, true, true, true, true, true, true, true, true, true, true, true, true, true, true, true, true, true, false, false, false, false, false, false, false, false, false, false, false, false, false, false, false, false, false, false, false] rfl rfl (any_of HT_.out (by kernel_rfl)) (fun _ _ _ h => h) (Or.inl ⟨by rfl, ?_⟩) ?_ ?_
      rotate_left
      · intro w'
        go_simp
        with_reducible rfl
      rotate_left
      · simp only [Act.put, List.setIfInBounds_toArray, List.set_cons_zero, List.set_cons_succ, i64_w, i32_w]
        rfl
      refine take_ (i := 27) (N := (some 94)) (v := (.agg #[.int .u16 (with99 en).id, .int .u16 0, .bool false, .int .i64 0, .bool false, .bool false, .bool false, .bool false, .int .i64 0, .string (with99 en).nm, .int .u16 (with99 en).ty, .slice none 0 0, .slice none 0 0, .slice none 0 0, .int .i64 0, .string (with99 en).cl, .int .i64 (with99 en).po, .bool false, .int .i64 (with99 en).un])) (a' := ?_) #[true, true, true, true, true, true, true, true, true, true, true, true, true, true, true, true, true, true, true, true, true, true, true, true, true, true, true, true, false, false, false, false, false, false, false, false, false, false, false, false, false, false, false, false, false, false] rfl rfl (take_ofW HT_.out HW_.out (by kernel_rfl)) (fun _ _ _ h => h) (Or.inl ⟨by rfl, ?_⟩) hHeld ?_ ?_
      · intro w' hS
        exact run_ld (t := 42) rfl rfl (load_at hS.2.2.2.2.1 es.length (with99 en) HG1.out)
      rotate_left
      · simp only [Act.put, List.setIfInBounds_toArray, List.set_cons_zero, List.set_cons_succ, i64_w, i32_w]
        rfl
      refine take_ (i := 28) (N := (some 95)) (v := (.agg #[.int .u16 (with99 en).id, .int .u16 0, .bool false, .int .i64 0, .bool false, .bool false, .bool false, .bool false, .int .i64 0, .string (with99 en).nm, .int .u16 (with99 en).ty, .slice none 0 0, .slice none 0 0, .slice none 0 0, .int .i64 0, .string (with99 en).cl, .int .i64 (with99 en).po, .bool false, .int .i64 (with99 en).un])) (a' := ?_) #[true, true, true, true, true, true, true, true, true, true, true, true, true, true, true, true, true, true, true, true, true, true, true, true, true, true, true, true, true, false, false, false, false, false, false, false, false, false, false, false, false, false, false, false, false, false] rfl rfl (take_ofW HT_.out HW_.out (by kernel_rfl)) (fun _ _ _ h => h) (Or.inl ⟨by rfl, ?_⟩) hHeld ?_ ?_
      · intro w' hS
        exact run_ld (t := 42) rfl rfl hS.2.2.2.1.load
      rotate_left
      · simp only [Act.put, List.setIfInBounds_toArray, List.set_cons_zero, List.set_cons_succ, i64_w, i32_w]
        rfl
      refine one_ (i := 29) (N := (some 96)) #[true, true, true, true, true, true, true, true, true, true, true, true, true, true, true, true, true, true, true, true, true, true, true, true, true, true, true, true, true, true, false, false, false, false, false, false, false, false, false, false, false, false, false, false, false, false] rfl rfl (one_of HT_.out (by kernel_rfl)) (by decide) (fun K hK => ?_)
      refine goes_ Try.func11 (by kernel_rfl) rfl #[(.agg #[.int .u16 (with99 en).id, .int .u16 0, .bool false, .int .i64 0, .bool false, .bool false, .bool false, .bool false, .int .i64 0, .string (with99 en).nm, .int .u16 (with99 en).ty, .slice none 0 0, .slice none 0 0, .slice none 0 0, .int .i64 0, .string (with99 en).cl, .int .i64 (with99 en).po, .bool false, .int .i64 (with99 en).un]), (.agg #[.int .u16 (with99 en).id, .int .u16 0, .bool false, .int .i64 0, .bool false, .bool false, .bool false, .bool false, .int .i64 0, .string (with99 en).nm, .int .u16 (with99 en).ty, .slice none 0 0, .slice none 0 0, .slice none 0 0, .int .i64 0, .string (with99 en).cl, .int .i64 (with99 en).po, .bool false, .int .i64 (with99 en).un])] (by rfl) rfl rfl (by (try simp only [List.map_toArray, List.map_cons, List.map_nil]); rfl) ?_
      with_reducible refine (same_ (with99 en) _).mono ?_
      rintro x w4 ⟨rfl, hb⟩
      refine ⟨_, rfl, ?_⟩
      refine hK.out _ _ ⟨Kd.C_below hHeld.1 hb, Kd.C_below hHeld.2.1 hb, hHeld.2.2.1.trans (hb.mono hHeld.2.2.1.size), hHeld.2.2.2.1.below hb, Kd.C_below hHeld.2.2.2.2.1 hb, Kd.C_below hHeld.2.2.2.2.2 hb⟩ (fun hHeld => ?_)
      clear hK K
      refine norm_ (a' := ?_) ?_ ?_
      rotate_left
      · show Act.put _ (some 96) _ = _
        simp only [Act.put, List.setIfInBounds_toArray, List.set_cons_zero, List.set_cons_succ, i64_w, i32_w]
        rfl
      refine pure_ (i := 30) (N := (some 97)) (v := ?_) (a' := ?_) #[true, true, true, true, true, true, true, true, true, true, true, true, true, true, true, true, true, true, true, true, true, true, true, true, true, true, true, true, true, true, true, false, false, false, false, false, false, false, false, false, false, false, false, false, false, false] rfl rfl (any_of HT_.out (by kernel_rfl)) (fun _ _ _ h => h) (Or.inl ⟨by rfl, ?_⟩) ?_ ?_
      rotate_left
      · intro w'
        go_simp
        with_reducible rfl
      rotate_left
      · simp only [Act.put, List.setIfInBounds_toArray, List.set_cons_zero, List.set_cons_succ, i64_w, i32_w]
        rfl
      refine pure_ (i := 31) (N := (some 98)) (v := ?_) (a' := ?_) #[true, true, true, true, true, true, true, true, true, true, true, true, true, true, true, true, true, true, true, true, true, true, true, true, true, true, true, true, true, true, true, true, false, false, false, false, false, false, false, false, false, false, false, false, false, false] rfl rfl (any_of HT_.out (by kernel_rfl)) (fun _ _ _ h => h) (Or.inl ⟨by rfl, ?_⟩) ?_ ?_
      rotate_left
      · intro w'
        go_simp
        with_reducible rfl
      rotate_left
      · simp only [Act.put, List.setIfInBounds_toArray, List.set_cons_zero, List.set_cons_succ, i64_w, i32_w]
        rfl
      refine pure_ (i := 32) (N := (some 99)) (v := ?_) (a' := ?_) #[true, true, true, true, true, true, true, true, true, true, true, true, true, true, true, true, true, true, true, true, true, true, true, true, true, true, true, true, true, true, true, true, true, false, false, false, false, false, false, false, false, false, false, false, false, false] rfl rfl (any_of HT_.out (by kernel_rfl)) (fun _ _ _ h => h) (Or.inl ⟨by rfl, ?_⟩) ?_ ?_
      rotate_left
      · intro w'
        go_simp
        with_reducible rfl
      rotate_left
      · simp only [Act.put, List.setIfInBounds_toArray, List.set_cons_zero, List.set_cons_succ, i64_w, i32_w]
        rfl
      refine pure_ (i := 33) (N := (some 100)) (v := ?_) (a' := ?_) #[true, true, true, true, true, true, true, true, true, true, true, true, true, true, true, true, true, true, true, true, true, true, true, true, true, true, true, true, true, true, true, true, true, true, false, false, false, false, false, false, false, false, false, false, false, false] rfl rfl (any_of HT_.out (by kernel_rfl)) (fun _ _ _ h => h) (Or.inl ⟨by rfl, ?_⟩) ?_ ?_
      rotate_left
      · intro w'
        go_simp
        with_reducible rfl
      rotate_left
      · simp only [Act.put, List.setIfInBounds_toArray, List.set_cons_zero, List.set_cons_succ, i64_w, i32_w]
        rfl
      refine pure_ (i := 34) (N := (some 101)) (v := ?_) (a' := ?_) #[true, true, true, true, true, true, true, true, true, true, true, true, true, true, true, true, true, true, true, true, true, true, true, true, true, true, true, true, true, true, true, true, true, true, true, false, false, false, false, false, false, false, false, false, false, false] rfl rfl (any_of HT_.out (by kernel_rfl)) (fun _ _ _ h => h) (Or.inl ⟨by rfl, ?_⟩) ?_ ?_
      rotate_left
      · intro w'
        go_simp
        with_reducible rfl
      rotate_left
      · simp only [Act.put, List.setIfInBounds_toArray, List.set_cons_zero, List.set_cons_succ, i64_w, i32_w]
        rfl
      refine pure_ (i := 35) (N := (some 102)) (v := ?_) (a' := ?_) #[true, true, true, true, true, true, true, true, true, true, true, true, true, true, true, true, true, true, true, true, true, true, true, true, true, true, true, true, true, true, true, true, true, true, true, true, false, false, false, false, false, false, false, false, false, false] rfl rfl (any_of HT_.out (by kernel_rfl)) (fun _ _ _ h => h) (Or.inl ⟨by rfl, ?_⟩) ?_ ?_
      rotate_left
      · intro w'
        go_simp
        with_reducible rfl
      rotate_left
      · simp only [Act.put, List.setIfInBounds_toArray, List.set_cons_zero, List.set_cons_succ, i64_w, i32_w]
        rfl
      refine pure_ (i := 36) (N := (some 103)) (v := ?_) (a' := ?_) #[true, true, true, true, true, true, true, true, true, true, true, true, true, true, true, true, true, true, true, true, true, true, true, true, true, true, true, true, true, true, true, true, true, true, true, true, true, false, false, false, false, false, false, false, false, false] rfl rfl (any_of HT_.out (by kernel_rfl)) (fun _ _ _ h => h) (Or.inl ⟨by rfl, ?_⟩) ?_ ?_
      rotate_left
      · intro w'
        go_simp
        with_reducible rfl
      rotate_left
      · simp only [Act.put, List.setIfInBounds_toArray, List.set_cons_zero, List.set_cons_succ, i64_w, i32_w]
        rfl
      refine take_ (i := 37) (N := (some 104)) (v := ?_) (a' := ?_) #[true, true, true, true, true, true, true, true, true, true, true, true, true, true, true, true, true, true, true, true, true, true, true, true, true, true, true, true, true, true, true, true, true, true, true, true, true, true, false, false, false, false, false, false, false, false] rfl rfl (take_ofW HT_.out HW_.out (by kernel_rfl)) (fun _ _ _ h => h) (Or.inl ⟨by rfl, ?_⟩) hHeld ?_ ?_
      rotate_left
      · intro w' hS
        obtain ⟨p, hp, k0, -⟩ := at_ hS.2.2.2.2.2 es.length e98 HG2.out
        cases hp
        have k1 : w'.cell? (p2.add (es.length * 19)) = some (.int .u16 98) := k0
        clear k0
        go_simp
        with_reducible rfl
      rotate_left
      · simp only [Act.put, List.setIfInBounds_toArray, List.set_cons_zero, List.set_cons_succ, i64_w, i32_w]
        rfl
      refine pure_ (i := 38) (N := (some 105)) (v := ?_) (a' := ?_) #[true, true, true, true, true, true, true, true, true, true, true, true, true, true, true, true, true, true, true, true, true, true, true, true, true, true, true, true, true, true, true, true, true, true, true, true, true, true, true, false, false, false, false, false, false, false] rfl rfl (any_of HT_.out (by kernel_rfl)) (fun _ _ _ h => h) (Or.inl ⟨by rfl, ?_⟩) ?_ ?_
      rotate_left
      · intro w'
        go_simp
        with_reducible rfl
      rotate_left
      · simp only [Act.put, List.setIfInBounds_toArray, List.set_cons_zero, List.set_cons_succ, i64_w, i32_w]
        rfl
      refine pure_ (i := 39) (N := (some 106)) (v := ?_) (a' := ?_) #[true, true, true, true, true, true, true, true, true, true, true, true, true, true, true, true, true, true, true, true, true, true, true, true, true, true, true, true, true, true, true, true, true, true, true, true, true, true, true, true, false, false, false, false, false, false] rfl rfl (any_of HT_.out (by kernel_rfl)) (fun _ _ _ h => h) (Or.inl ⟨by rfl, ?_⟩) ?_ ?_
      rotate_left
      · intro w'
        go_simp
        with_reducible rfl
      rotate_left
      · simp only [Act.put, List.setIfInBounds_toArray, List.set_cons_zero, List.set_cons_succ, i64_w, i32_w]
        rfl
      refine pure_ (i := 40) (N := (some 107)) (v := ?_) (a' := ?_) #[true, true, true, true, true, true, true, true, true, true, true, true, true, true, true, true, true, true, true, true, true, true, true, true, true, true, true, true, true, true, true, true, true, true, true, true, true, true, true, true, true, false, false, false, false, false] rfl rfl (any_of HT_.out (by kernel_rfl)) (fun _ _ _ h => h) (Or.inl ⟨by rfl, ?_⟩) ?_ ?_
      rotate_left
      · intro w'
        go_simp
        with_reducible rfl
      rotate_left
      · simp only [Act.put, List.setIfInBounds_toArray, List.set_cons_zero, List.set_cons_succ, i64_w, i32_w]
        rfl
      refine pure_ (i := 41) (N := (some 108)) (v := ?_) (a' := ?_) #[true, true, true, true, true, true, true, true, true, true, true, true, true, true, true, true, true, true, true, true, true, true, true, true, true, true, true, true, true, true, true, true, true, true, true, true, true, true, true, true, true, true, false, false, false, false] rfl rfl (any_of HT_.out (by kernel_rfl)) (fun _ _ _ h => h) (Or.inl ⟨by rfl, ?_⟩) ?_ ?_
      rotate_left
      · intro w'
        go_simp
        with_reducible rfl
      rotate_left
      · simp only [Act.put, List.setIfInBounds_toArray, List.set_cons_zero, List.set_cons_succ, i64_w, i32_w]
        rfl
      refine pure_ (i := 42) (N := (some 109)) (v := ?_) (a' := ?_) #[true, true, true, true, true, true, true, true, true, true, true, true, true, true, true, true, true, true, true, true, true, true, true, true, true, true, true, true, true, true, true, true, true, true, true, true, true, true, true, true, true, true, true, false, false, false] rfl rfl (any_of HT_.out (by kernel_rfl)) (fun _ _ _ h => h) (Or.inl ⟨by rfl, ?_⟩) ?_ ?_
      rotate_left
      · intro w'
        go_simp
        with_reducible rfl
      rotate_left
      · simp only [Act.put, List.setIfInBounds_toArray, List.set_cons_zero, List.set_cons_succ, i64_w, i32_w]
        rfl
      refine one_ (i := 43) (N := (some 110)) #[true, true, true, true, true, true, true, true, true, true, true, true, true, true, true, true, true, true, true, true, true, true, true, true, true, true, true, true, true, true, true, true, true, true, true, true, true, true, true, true, true, true, true, true, false, false] rfl rfl (one_of HT_.out (by kernel_rfl)) (by decide) (fun K hK => ?_)
      refine goes_ Try.func12 (by kernel_rfl) rfl #[.slice A es.length c, .slice A9 es.length c9] (by rfl) rfl rfl (by (try simp only [List.map_toArray, List.map_cons, List.map_nil]); rfl) ?_
      with_reducible refine (all_ A c A9 c9 es _ hHeld.1 hHeld.2.1).mono ?_
      rintro x w4 ⟨rfl, hb⟩
      refine ⟨_, rfl, ?_⟩
      refine hK.out _ _ ⟨Kd.C_below hHeld.1 hb, Kd.C_below hHeld.2.1 hb, hHeld.2.2.1.trans (hb.mono hHeld.2.2.1.size), hHeld.2.2.2.1.below hb, Kd.C_below hHeld.2.2.2.2.1 hb, Kd.C_below hHeld.2.2.2.2.2 hb⟩ (fun hHeld => ?_)
      clear hK K
      refine norm_ (a' := ?_) ?_ ?_
      rotate_left
      · show Act.put _ (some 110) _ = _
        simp only [Act.put, List.setIfInBounds_toArray, List.set_cons_zero, List.set_cons_succ, i64_w, i32_w]
        rfl
      refine pure_ (i := 44) (N := (some 111)) (v := ?_) (a' := ?_) #[true, true, true, true, true, true, true, true, true, true, true, true, true, true, true, true, true, true, true, true, true, true, true, true, true, true, true, true, true, true, true, true, true, true, true, true, true, true, true, true, true, true, true, true, true, false] rfl rfl (any_of HT_.out (by kernel_rfl)) (fun _ _ _ h => h) (Or.inl ⟨by rfl, ?_⟩) ?_ ?_
      rotate_left
      · intro w'
        go_simp
        with_reducible rfl
      rotate_left
      · simp only [Act.put, List.setIfInBounds_toArray, List.set_cons_zero, List.set_cons_succ, i64_w, i32_w]
        rfl
      refine pure_ (i := 45) (N := (some 4)) (v := ?_) (a' := ?_) #[true, true, true, true, true, true, true, true, true, true, true, true, true, true, true, true, true, true, true, true, true, true, true, true, true, true, true, true, true, true, true, true, true, true, true, true, true, true, true, true, true, true, true, true, true, true] rfl rfl (any_of HT_.out (by kernel_rfl)) (fun _ _ _ h => h) (Or.inl ⟨by rfl, ?_⟩) ?_ ?_
      rotate_left
      · intro w'
        go_simp
        with_reducible rfl
      rotate_left
      · simp only [Act.put, List.setIfInBounds_toArray, List.set_cons_zero, List.set_cons_succ, i64_w, i32_w]
        rfl
      refine done_ (done_of HT_.out (by kernel_rfl)) ?_
      (try go_wp2)
      go_ret
      exact ⟨rfl, hHeld.2.2.1⟩
end Go.Proofs.Ytecpginkacaebaa.PP
