/-
  Tables copied and appended to (slices.Clone, slices.Clip, pending.Add) walked. No macro, syntax, notation, axiom, sorry.
-/
import Derived.Test.YtecpginkacaebaaDoorEntS
import Derived.Test.YtecpginkacaebaaDoorEntF
namespace Go.Proofs.YtecpginkacaebaaDoor.Ent
open Go.RowKit Go.Proofs.YtecpginkacaebaaDoorW Go.Proofs.YtecpginkacaebaaDoorW.PrintWords Go.Proofs.YtecpginkacaebaaDoorW.PrintLast Go.Proofs.YtecpginkacaebaaDoorW.PrintMore Go.Proofs.YtecpginkacaebaaDoor.Base Go.Proofs.YtecpginkacaebaaDoor.Heap
set_option linter.unusedVariables false
set_option linter.unusedSimpArgs false
set_option maxRecDepth 100000

theorem Own.none_ {w : World} {base : Nat} {n c : Nat} {es : List E} (h : Own w base (.slice none n c) es) : es.length = 0 ∧ c = 0 := by
  rcases h.2 with ⟨hv, h0⟩ | ⟨g, cap, cur, hv, _⟩
  · injection hv with _ _ hc
    exact ⟨h0, hc⟩
  · injection hv with hv
    cases hv
theorem C_cells {W : World} {b : Addr} {n : Nat} {es : List E} (HC : Kd.C kE W (some b) n es) : ∀ j u, (rw_ es)[j]? = some u → W.cell? (b.add j) = some u := by
  intro j u hj
  have hjl : j < (rw_ es).length := (List.getElem?_eq_some_iff.1 hj).1
  rw [rw_len] at hjl
  obtain ⟨e, he⟩ : ∃ e, es[j / 19]? = some e := ⟨_, List.getElem?_eq_getElem (by omega)⟩
  obtain ⟨ad', ha', hc0⟩ := HC.2.2 (by have := HC.1; omega)
  injection ha' with ha'
  subst ha'
  obtain ⟨c1, h1, h2, hcc⟩ := hc0 (j / 19) e he
  have h3 : c1 = cs e := h2
  subst h3
  have h4 := rw_at es (j / 19) e he (j % 19) (by omega)
  rw [show j / 19 * 19 + j % 19 = j by omega, hj] at h4
  have := hcc (j % 19) u h4.symm
  rw [show kE.sz = 19 from rfl, show j / 19 * 19 + j % 19 = j by omega] at this
  exact this
theorem load_at {w : World} {ad : Addr} {n : Nat} {xs : List E} (h : Kd.C kE w (some ad) n xs) (j : Nat) (e : E) (hj : xs[j]? = some e) : (loadVar 42 (ad.add (j * 19))).run Tryd.prog w = .ok (.agg #[.int .u16 e.id, .int .u16 0, .bool false, .int .i64 0, .bool false, .bool false, .bool false, .bool false, .int .i64 0, .string e.nm, .int .u16 e.ty, .slice none 0 0, .slice none 0 0, .slice none 0 0, .int .i64 0, .string e.cl, .int .i64 e.po, .bool false, .int .i64 e.un]) w := by
  obtain ⟨ad', ha, hr⟩ := load_ h j e hj
  injection ha with ha
  subst ha
  exact hr
section
variable {ops : Array Oper} {rest : List Oper} {o : Oper} {a : Act} {Q : Exit → Act → World → Prop} {W : World} {K : Act → World → Prop}
/-- append(v, s...), v of the call's own. -/
theorem run_apps {base : Nat} {t : TypeId} (ht : Row t) {s x : Operand} (ho : o.op = .call { callee := .builtin .append, args := #[s, x], argTypes := #[t, t] }) {v : Value} {es ns : List E} {ad : Addr} {c : Nat} (hs : a.eval s = v) (hx : a.eval x = .slice (some ad) ns.length c)
    (HO : Own W base v es) (HC : Kd.C kE W (some ad) ns.length ns) (hb : base ≤ W.heap.size) (hl : es.length ≤ 1048576) (hl2 : ns.length ≤ 1048576) :
    ∃ v1 W1, (execOp a.eval o).run Tryd.prog W = .ok (.value v1) W1 ∧ Own W1 base v1 (es ++ ns) ∧ W.grownBy W1 v.ownBlock ∧ (v1.ownBlock = v.ownBlock ∨ v1.ownBlock = some W.heap.size) := by
  obtain ⟨i0, hi, hzz⟩ := Option.map_eq_some_iff.1 info_
  simp only [Prod.mk.injEq] at hzz
  obtain ⟨hz0, hz1, hz2⟩ := hzz
  have h1 : ∀ u ∈ rw_ ns, u.oneCell' = true := by
    intro u hu
    obtain ⟨y, hy, hu⟩ := List.mem_flatMap.1 hu
    exact cs_one y u hu
  obtain ⟨v1, w1, hr, hown, hg, _, hat⟩ := run_append_own_at (P := Tryd.prog) W base t o.type 42 i0 _ 19 184 ht.under hi hz0 hz1 hz2 rfl (by omega) v es.length (rw_ es) HO ad ns.length c (rw_ ns) (rw_len ns) (C_cells HC) h1 (by simp only [maxLen]; omega) (by omega) hb
  refine ⟨v1, w1, ?_, ?_, hg, hat⟩
  · unfold execOp
    simp only [ho, resolve, invoke, builtin, Sem.run_bind, Sem.run_pure, Result.andThen_ok, List.map_toArray, List.map_cons, List.map_nil, hs, hx, hr]
  · unfold Own
    rw [List.length_append, rw_app]
    exact hown
theorem ev_apps (hgd : o.guard = none) {base : Nat} {t : TypeId} (ht : Row t) {s x : Operand} (ho : o.op = .call { callee := .builtin .append, args := #[s, x], argTypes := #[t, t] }) {v : Value} {es ns : List E} {ad : Addr} {c : Nat} (hs : a.eval s = v) (hx : a.eval x = .slice (some ad) ns.length c)
    (HO : Own W base v es) (HC : Kd.C kE W (some ad) ns.length ns) (hb : base ≤ W.heap.size) (hl : es.length ≤ 1048576) (hl2 : ns.length ≤ 1048576)
    (h : ∀ v1 W1, Own W1 base v1 (es ++ ns) → W.grownBy W1 v.ownBlock → (v1.ownBlock = v.ownBlock ∨ v1.ownBlock = some W.heap.size) → wpList Tryd.prog ops Q rest (a.put o.dst v1) W1) : wpList Tryd.prog ops Q (o :: rest) a W := by
  obtain ⟨v1, W1, hr, h1, h2, h3⟩ := run_apps ht ho hs hx HO HC hb hl hl2
  exact Kd.event_run hgd hr (h v1 W1 h1 h2 h3)
end
theorem eq_nil (w : World) : (binOp .eql 25 (.slice none 0 0) (.slice none 0 0)).run Tryd.prog w = .ok (.bool true) w := by kernel_rfl
theorem eq_some (ad : Addr) (n c : Nat) (w : World) : (binOp .eql 25 (.slice (some ad) n c) (.slice none 0 0)).run Tryd.prog w = .ok (.bool false) w := by kernel_rfl
theorem clone_ (A : Option Addr) (c : Nat) (es : List E) (w : World) (hC : Kd.C kE w A es.length es) (hN : A = none → es.length = 0 ∧ c = 0) (hl : es.length ≤ 1048576) :
    Calls Tryd.prog 18 #[.slice A es.length c] w fun x w' => ∃ v, x = .returned v ∧ Own w' w.heap.size v es ∧ Below w.heap.size w w' := by
  cases A with
  | none =>
    obtain ⟨h0, h1⟩ := hN rfl
    have hes : es = [] := List.eq_nil_of_length_eq_zero h0
    subst hes
    subst h1
    clear hC hN
    have hq := eq_nil
    go_enter Tryd.func18, Tryd.ntmps18
    go_wp2_with fail
    go_ret
    exact ⟨_, rfl, World.ownsRow_nil _ _ _ _, Below.refl _ _⟩
  | some ad =>
    have HC := Lib.hid hC
    have HL := Lib.hid hl
    have hO0 : Own (w.alloc (.cells #[] 42)) w.heap.size (.slice (some ⟨w.heap.size, 0, none⟩) 0 0) [] := World.ownsRow_lit w #[] 0 (Nat.le_refl _) (Nat.zero_le _) rfl
    have HO0 := Lib.hid hO0
    clear hC hN hl hO0
    have hq := eq_some ad es.length c
    go_enter Tryd.func18, Tryd.ntmps18
    go_wp2_with ((with_reducible refine gate_builtin (b := .append) (xs := #[.tmp 5, .tmp 6]) rfl ?_); at_builtin; refine ev_apps rfl (.inr rfl) rfl rfl rfl HO0.out (Kd.C_below HC.out (below_alloc (Below.refl _ _) _)) (by simp) (by simp) HL.out ?_; intro v1 w1 hO hg hat; have HO1 := Lib.hid hO; have HB1 := Lib.hid ((below_alloc (Below.refl w.heap.size w) (.cells #[] 42)).grown hg (by simp) (fun k hk => own_base HO0.out k hk)); clear hO hg hat)
    go_ret
    exact ⟨v1, rfl, HO1.out, HB1.out⟩
theorem clip_ (A : Option Addr) (n c : Nat) (w : World) (hn : n ≤ c) (hN : A = none → n = 0 ∧ c = 0) :
    Calls Tryd.prog 17 #[.slice A n c] w fun x w' => x = .returned (.slice A n n) ∧ w' = w := by
  have h0 : (0 : Int) ≤ (n : Int) := by omega
  have h1 : (n : Int) ≤ (c : Int) := by omega
  have h2 : (if n = 0 then A else A) = A := by split <;> rfl
  obtain ⟨i0, hi, hz0, hz1, hz2⟩ := info_parts info_
  have hel : Tryd.prog.elem 25 = 42 := by simp [Program.elem, Tryd.underlying25]
  have hu : Tryd.prog.underlying 25 = some (.slice (Tryd.prog.elem 25)) := by rw [hel]; exact Tryd.underlying25
  have hsl : ∀ W : World, (Instr.slice 25 (.slice A n c) none (some (.int .i64 (n : Int))) (some (.int .i64 (n : Int)))).run Tryd.prog W = .ok (.slice A n n) W := by
    intro W
    rw [run_slice_hm W _ A n c hu .i64 .i64 (n : Int) (n : Int) h0 (Int.le_refl _) h1, hel]
    simp [sizeOf, typeInfo, hi, hz1, sliced, Result.andThen]
    intro hh
    cases A with
    | none => rfl
    | some b => simp [Addr.add]
  clear hi hz0 hz1 hz2 hel hu h2
  go_enter Tryd.func17, Tryd.ntmps17
  go_wp2_with fail
  go_ret
  exact ⟨rfl, rfl⟩
def add_T5 : Bool × List (List Nat × List Nat) := (true, [([], []), ([0], [0]), ([1, 1], [1]), ([], []), ([3], [3]), ([2, 4, 2], [2, 4]), ([5, 5, 0, 1, 2, 3, 4, 5], [5]), ([6, 0, 1, 2, 3, 4, 5, 6], [])])
def add_B5 : List Nat := [0, 1, 3, 0, 8, 31, 63, 127]
theorem add_tab5 : rtab .any (opsOf Tryd.f7 5) = add_T5 := by kernel_rfl
theorem add_bits5 : waitsOk add_T5.2 add_B5 = true := by kernel_rfl
set_option maxHeartbeats 4000000 in
theorem add_ok (A : Option Addr) (c : Nat) (es : List E) (e : E) (w : World) (hC : Kd.C kE w A es.length es) (hc : es.length ≤ c) (hN : A = none → es.length = 0 ∧ c = 0) (hl : es.length < 16) (hn : e.id ∉ es.map E.id) :
    Calls Tryd.prog 7 #[.slice A es.length c, (.agg #[.int .u16 e.id, .int .u16 0, .bool false, .int .i64 0, .bool false, .bool false, .bool false, .bool false, .int .i64 0, .string e.nm, .int .u16 e.ty, .slice none 0 0, .slice none 0 0, .slice none 0 0, .int .i64 0, .string e.cl, .int .i64 e.po, .bool false, .int .i64 e.un])] w fun x w' => ∃ v, x = .returned (.tuple #[v, .nilIface]) ∧ Own w' w.heap.size v (es ++ [e]) ∧ Below w.heap.size w w' := by
  have HC := Lib.hid hC
  have HN := Lib.hid hN
  have HCC := Lib.hid hc
  have d1 : decide ((es.length : Int) ≥ 16) = false := decide_eq_false (by omega)
  have d2 : decide (16 ≤ (es.length : Int)) = false := decide_eq_false (by omega)
  have HL := Lib.hid hl
  have hany := any_id es e.id
  rw [decide_eq_false hn] at hany
  have HANY := Lib.hid hany
  clear hC hN hc hl hn hany
  go_enter Tryd.func7, Tryd.ntmps7
  go_wp2_with ((with_reducible refine gate_bx (t := 42) rfl ?_); refine ev_box rfl rfl rfl ?_; intro b w1 hb hV hb1 hs1; have HV := Lib.hid hV; have HB := Lib.hid hb1; clear hb hV hb1 hs1)
  with_reducible refine (containsFunc_ 16 b _ A c es _ (Kd.C_below HC.out HB.out) eg_add (add1_ e b _ HV.out)).mono ?_
  rintro x w2 ⟨rfl, hb⟩
  rw [HANY.out]
  have HV2 := Lib.hid (HV.out.below hb)
  have HB2 := Lib.hid (HB.out.trans (hb.mono HB.out.size))
  have HC2 := Lib.hid (Kd.C_below HC.out HB2.out)
  clear hb HV HB
  go_wp2_with fail
  refine start_ (n := 8) (ds := ([] : List Nat)) (S := fun w' => Var w' b e ∧ Kd.C kE w' A es.length es ∧ Below w.heap.size w w') #[false, false, false, false, false, false, false, false] (by kernel_rfl) rfl rfl ⟨HV2.out, HC2.out, below_drew1 HB2.out⟩ (fun hHeld => ?_)
  refine with_tabW add_tab5 add_bits5 (fun HT_ HW_ => ?_)
  generalize w2.drew = w3 at hHeld ⊢
  clear HV2 HC2 HB2
  refine pure_ (i := 0) (N := (some 16)) (v := ?_) (a' := ?_) #[true, false, false, false, false, false, false, false] rfl rfl (any_of HT_.out (by kernel_rfl)) (fun _ _ _ h => h) (Or.inl ⟨by rfl, ?_⟩) ?_ ?_
  rotate_left
  · intro w'
    go_simp
    with_reducible rfl
  rotate_left
  · simp only [Act.put, List.setIfInBounds_toArray, List.set_cons_zero, List.set_cons_succ, i64_w, i32_w]
    rfl
  refine take_ (i := 3) (N := (some 19)) (v := (.agg #[.int .u16 e.id, .int .u16 0, .bool false, .int .i64 0, .bool false, .bool false, .bool false, .bool false, .int .i64 0, .string e.nm, .int .u16 e.ty, .slice none 0 0, .slice none 0 0, .slice none 0 0, .int .i64 0, .string e.cl, .int .i64 e.po, .bool false, .int .i64 e.un])) (a' := ?_) #[true, false, false, true, false, false, false, false] rfl rfl (take_ofW HT_.out HW_.out (by kernel_rfl)) (fun _ _ _ h => h) (Or.inl ⟨by rfl, ?_⟩) hHeld ?_ ?_
  · intro w' hS
    exact run_ld (t := 42) rfl rfl hS.1.load
  rotate_left
  · simp only [Act.put, List.setIfInBounds_toArray, List.set_cons_zero, List.set_cons_succ, i64_w, i32_w]
    rfl
  refine two_ (i := 1) (j := 4) (Ni := (some 17)) (Nj := (some 20)) #[true, true, false, true, false, false, false, false] #[true, false, false, true, true, false, false, false] rfl rfl rfl rfl (two_of HT_.out (by kernel_rfl)) (by decide) (by decide) (fun K hK => ?_) (fun K hK => ?_)
  · refine goes_ Tryd.func18 (by kernel_rfl) rfl #[.slice A es.length c] (by rfl) rfl rfl (by (try simp only [List.map_toArray, List.map_cons, List.map_nil]); rfl) ?_
    with_reducible refine (clone_ A c es _ hHeld.2.1 HN.out (by have := HL.out; omega)).mono ?_
    rintro x w4 ⟨v, rfl, hO, hb⟩
    obtain ⟨A9, c9, hv, hc9, hm9, hC9⟩ := hO.reads
    subst hv
    have HN9 : Hid (A9 = none → es.length = 0 ∧ c9 = 0) := Lib.hid (fun h => by subst h; exact hO.none_)
    have HC9 := Lib.hid hC9
    have HL9 := Lib.hid hc9
    refine ⟨_, rfl, ?_⟩
    refine hK.out _ _ ⟨hHeld.1.below hb, Kd.C_below hHeld.2.1 hb, hHeld.2.2.trans (hb.mono hHeld.2.2.size)⟩ (fun hHeld => ?_)
    clear hK K
    refine norm_ (a' := ?_) ?_ ?_
    rotate_left
    · show Act.put _ (some 17) _ = _
      simp only [Act.put, List.setIfInBounds_toArray, List.set_cons_zero, List.set_cons_succ, i64_w, i32_w]
      rfl
    refine two_ (i := 2) (j := 4) (Ni := (some 18)) (Nj := (some 20)) #[true, true, true, true, false, false, false, false] #[true, true, false, true, true, false, false, false] rfl rfl rfl rfl (two_of HT_.out (by kernel_rfl)) (by decide) (by decide) (fun K hK => ?_) (fun K hK => ?_)
    · refine goes_ Tryd.func17 (by kernel_rfl) rfl #[.slice A9 es.length c9] (by rfl) rfl rfl (by (try simp only [List.map_toArray, List.map_cons, List.map_nil]); rfl) ?_
      with_reducible refine (clip_ A9 es.length c9 _ HL9.out HN9.out).mono ?_
      rintro x w5 ⟨rfl, rfl⟩
      refine ⟨_, rfl, ?_⟩
      refine hK.out _ _ hHeld (fun hHeld => ?_)
      clear hK K
      refine norm_ (a' := ?_) ?_ ?_
      rotate_left
      · show Act.put _ (some 18) _ = _
        simp only [Act.put, List.setIfInBounds_toArray, List.set_cons_zero, List.set_cons_succ, i64_w, i32_w]
        rfl
      refine one_ (i := 4) (N := (some 20)) #[true, true, true, true, true, false, false, false] rfl rfl (one_of HT_.out (by kernel_rfl)) (by decide) (fun K hK => ?_)
      refine st_lit (by rfl) (.inr rfl) rfl rfl ?_
      intro g w6 hg hV6 hb hs6
      have HLV := Lib.hid hV6
      have HC9 := Lib.hid (Kd.C_below HC9.out hb)
      clear hg hV6 hs6
      refine hK.out _ _ ⟨hHeld.1.below hb, Kd.C_below hHeld.2.1 hb, hHeld.2.2.trans (hb.mono hHeld.2.2.size)⟩ (fun hHeld => ?_)
      clear hK K
      refine norm_ (a' := ?_) ?_ ?_
      rotate_left
      · show Act.put _ (some 20) _ = _
        simp only [Act.put, List.setIfInBounds_toArray, List.set_cons_zero, List.set_cons_succ, i64_w, i32_w]
        rfl
      refine one_ (i := 5) (N := (some 21)) #[true, true, true, true, true, true, false, false] rfl rfl (one_of HT_.out (by kernel_rfl)) (by decide) (fun K hK => ?_)
      refine st_grow (by rfl) (.inr rfl) rfl rfl rfl HC9.out (fun h => ⟨(HN9.out h).1, (HN9.out h).1⟩) (by omega) HLV.out (by have := HL.out; omega) ?_
      intro v1 w7 hO7 hb
      have HO7 := Lib.hid (own_less hO7 hHeld.2.2.size)
      refine hK.out _ _ ⟨hHeld.1.below hb, Kd.C_below hHeld.2.1 hb, hHeld.2.2.trans (hb.mono hHeld.2.2.size)⟩ (fun hHeld => ?_)
      clear hK K
      refine norm_ (a' := ?_) ?_ ?_
      rotate_left
      · show Act.put _ (some 21) _ = _
        simp only [Act.put, List.setIfInBounds_toArray, List.set_cons_zero, List.set_cons_succ, i64_w, i32_w]
        rfl
      refine pure_ (i := 6) (N := (some 4)) (v := ?_) (a' := ?_) #[true, true, true, true, true, true, true, false] rfl rfl (any_of HT_.out (by kernel_rfl)) (fun _ _ _ h => h) (Or.inl ⟨by rfl, ?_⟩) ?_ ?_
      rotate_left
      · intro w'
        go_simp
        with_reducible rfl
      rotate_left
      · simp only [Act.put, List.setIfInBounds_toArray, List.set_cons_zero, List.set_cons_succ, i64_w, i32_w]
        rfl
      refine pure_ (i := 7) (N := (some 5)) (v := ?_) (a' := ?_) #[true, true, true, true, true, true, true, true] rfl rfl (any_of HT_.out (by kernel_rfl)) (fun _ _ _ h => h) (Or.inl ⟨by rfl, ?_⟩) ?_ ?_
      rotate_left
      · intro w'
        go_simp
        with_reducible rfl
      rotate_left
      · simp only [Act.put, List.setIfInBounds_toArray, List.set_cons_zero, List.set_cons_succ, i64_w, i32_w]
        rfl
      refine done_ (done_of HT_.out (by kernel_rfl)) ?_
      (try go_wp2)
      go_ret2
      exact ⟨_, rfl, HO7.out, hHeld.2.2⟩
    · refine st_lit (by rfl) (.inr rfl) rfl rfl ?_
      intro g w6 hg hV6 hb hs6
      have HLV := Lib.hid hV6
      have HC9 := Lib.hid (Kd.C_below HC9.out hb)
      clear hg hV6 hs6
      refine hK.out _ _ ⟨hHeld.1.below hb, Kd.C_below hHeld.2.1 hb, hHeld.2.2.trans (hb.mono hHeld.2.2.size)⟩ (fun hHeld => ?_)
      clear hK K
      refine norm_ (a' := ?_) ?_ ?_
      rotate_left
      · show Act.put _ (some 20) _ = _
        simp only [Act.put, List.setIfInBounds_toArray, List.set_cons_zero, List.set_cons_succ, i64_w, i32_w]
        rfl
      refine one_ (i := 2) (N := (some 18)) #[true, true, true, true, true, false, false, false] rfl rfl (one_of HT_.out (by kernel_rfl)) (by decide) (fun K hK => ?_)
      refine goes_ Tryd.func17 (by kernel_rfl) rfl #[.slice A9 es.length c9] (by rfl) rfl rfl (by (try simp only [List.map_toArray, List.map_cons, List.map_nil]); rfl) ?_
      with_reducible refine (clip_ A9 es.length c9 _ HL9.out HN9.out).mono ?_
      rintro x w5 ⟨rfl, rfl⟩
      refine ⟨_, rfl, ?_⟩
      refine hK.out _ _ hHeld (fun hHeld => ?_)
      clear hK K
      refine norm_ (a' := ?_) ?_ ?_
      rotate_left
      · show Act.put _ (some 18) _ = _
        simp only [Act.put, List.setIfInBounds_toArray, List.set_cons_zero, List.set_cons_succ, i64_w, i32_w]
        rfl
      refine one_ (i := 5) (N := (some 21)) #[true, true, true, true, true, true, false, false] rfl rfl (one_of HT_.out (by kernel_rfl)) (by decide) (fun K hK => ?_)
      refine st_grow (by rfl) (.inr rfl) rfl rfl rfl HC9.out (fun h => ⟨(HN9.out h).1, (HN9.out h).1⟩) (by omega) HLV.out (by have := HL.out; omega) ?_
      intro v1 w7 hO7 hb
      have HO7 := Lib.hid (own_less hO7 hHeld.2.2.size)
      refine hK.out _ _ ⟨hHeld.1.below hb, Kd.C_below hHeld.2.1 hb, hHeld.2.2.trans (hb.mono hHeld.2.2.size)⟩ (fun hHeld => ?_)
      clear hK K
      refine norm_ (a' := ?_) ?_ ?_
      rotate_left
      · show Act.put _ (some 21) _ = _
        simp only [Act.put, List.setIfInBounds_toArray, List.set_cons_zero, List.set_cons_succ, i64_w, i32_w]
        rfl
      refine pure_ (i := 6) (N := (some 4)) (v := ?_) (a' := ?_) #[true, true, true, true, true, true, true, false] rfl rfl (any_of HT_.out (by kernel_rfl)) (fun _ _ _ h => h) (Or.inl ⟨by rfl, ?_⟩) ?_ ?_
      rotate_left
      · intro w'
        go_simp
        with_reducible rfl
      rotate_left
      · simp only [Act.put, List.setIfInBounds_toArray, List.set_cons_zero, List.set_cons_succ, i64_w, i32_w]
        rfl
      refine pure_ (i := 7) (N := (some 5)) (v := ?_) (a' := ?_) #[true, true, true, true, true, true, true, true] rfl rfl (any_of HT_.out (by kernel_rfl)) (fun _ _ _ h => h) (Or.inl ⟨by rfl, ?_⟩) ?_ ?_
      rotate_left
      · intro w'
        go_simp
        with_reducible rfl
      rotate_left
      · simp only [Act.put, List.setIfInBounds_toArray, List.set_cons_zero, List.set_cons_succ, i64_w, i32_w]
        rfl
      refine done_ (done_of HT_.out (by kernel_rfl)) ?_
      (try go_wp2)
      go_ret2
      exact ⟨_, rfl, HO7.out, hHeld.2.2⟩
  · refine st_lit (by rfl) (.inr rfl) rfl rfl ?_
    intro g w6 hg hV6 hb hs6
    have HLV := Lib.hid hV6
    clear hg hV6 hs6
    refine hK.out _ _ ⟨hHeld.1.below hb, Kd.C_below hHeld.2.1 hb, hHeld.2.2.trans (hb.mono hHeld.2.2.size)⟩ (fun hHeld => ?_)
    clear hK K
    refine norm_ (a' := ?_) ?_ ?_
    rotate_left
    · show Act.put _ (some 20) _ = _
      simp only [Act.put, List.setIfInBounds_toArray, List.set_cons_zero, List.set_cons_succ, i64_w, i32_w]
      rfl
    refine one_ (i := 1) (N := (some 17)) #[true, true, false, true, true, false, false, false] rfl rfl (one_of HT_.out (by kernel_rfl)) (by decide) (fun K hK => ?_)
    refine goes_ Tryd.func18 (by kernel_rfl) rfl #[.slice A es.length c] (by rfl) rfl rfl (by (try simp only [List.map_toArray, List.map_cons, List.map_nil]); rfl) ?_
    with_reducible refine (clone_ A c es _ hHeld.2.1 HN.out (by have := HL.out; omega)).mono ?_
    rintro x w4 ⟨v, rfl, hO, hb⟩
    obtain ⟨A9, c9, hv, hc9, hm9, hC9⟩ := hO.reads
    subst hv
    have HN9 : Hid (A9 = none → es.length = 0 ∧ c9 = 0) := Lib.hid (fun h => by subst h; exact hO.none_)
    have HC9 := Lib.hid hC9
    have HL9 := Lib.hid hc9
    have HLV := Lib.hid (HLV.out.below hb)
    refine ⟨_, rfl, ?_⟩
    refine hK.out _ _ ⟨hHeld.1.below hb, Kd.C_below hHeld.2.1 hb, hHeld.2.2.trans (hb.mono hHeld.2.2.size)⟩ (fun hHeld => ?_)
    clear hK K
    refine norm_ (a' := ?_) ?_ ?_
    rotate_left
    · show Act.put _ (some 17) _ = _
      simp only [Act.put, List.setIfInBounds_toArray, List.set_cons_zero, List.set_cons_succ, i64_w, i32_w]
      rfl
    refine one_ (i := 2) (N := (some 18)) #[true, true, true, true, true, false, false, false] rfl rfl (one_of HT_.out (by kernel_rfl)) (by decide) (fun K hK => ?_)
    refine goes_ Tryd.func17 (by kernel_rfl) rfl #[.slice A9 es.length c9] (by rfl) rfl rfl (by (try simp only [List.map_toArray, List.map_cons, List.map_nil]); rfl) ?_
    with_reducible refine (clip_ A9 es.length c9 _ HL9.out HN9.out).mono ?_
    rintro x w5 ⟨rfl, rfl⟩
    refine ⟨_, rfl, ?_⟩
    refine hK.out _ _ hHeld (fun hHeld => ?_)
    clear hK K
    refine norm_ (a' := ?_) ?_ ?_
    rotate_left
    · show Act.put _ (some 18) _ = _
      simp only [Act.put, List.setIfInBounds_toArray, List.set_cons_zero, List.set_cons_succ, i64_w, i32_w]
      rfl
    refine one_ (i := 5) (N := (some 21)) #[true, true, true, true, true, true, false, false] rfl rfl (one_of HT_.out (by kernel_rfl)) (by decide) (fun K hK => ?_)
    refine st_grow (by rfl) (.inr rfl) rfl rfl rfl HC9.out (fun h => ⟨(HN9.out h).1, (HN9.out h).1⟩) (by omega) HLV.out (by have := HL.out; omega) ?_
    intro v1 w7 hO7 hb
    have HO7 := Lib.hid (own_less hO7 hHeld.2.2.size)
    refine hK.out _ _ ⟨hHeld.1.below hb, Kd.C_below hHeld.2.1 hb, hHeld.2.2.trans (hb.mono hHeld.2.2.size)⟩ (fun hHeld => ?_)
    clear hK K
    refine norm_ (a' := ?_) ?_ ?_
    rotate_left
    · show Act.put _ (some 21) _ = _
      simp only [Act.put, List.setIfInBounds_toArray, List.set_cons_zero, List.set_cons_succ, i64_w, i32_w]
      rfl
    refine pure_ (i := 6) (N := (some 4)) (v := ?_) (a' := ?_) #[true, true, true, true, true, true, true, false] rfl rfl (any_of HT_.out (by kernel_rfl)) (fun _ _ _ h => h) (Or.inl ⟨by rfl, ?_⟩) ?_ ?_
    rotate_left
    · intro w'
      go_simp
      with_reducible rfl
    rotate_left
    · simp only [Act.put, List.setIfInBounds_toArray, List.set_cons_zero, List.set_cons_succ, i64_w, i32_w]
      rfl
    refine pure_ (i := 7) (N := (some 5)) (v := ?_) (a' := ?_) #[true, true, true, true, true, true, true, true] rfl rfl (any_of HT_.out (by kernel_rfl)) (fun _ _ _ h => h) (Or.inl ⟨by rfl, ?_⟩) ?_ ?_
    rotate_left
    · intro w'
      go_simp
      with_reducible rfl
    rotate_left
    · simp only [Act.put, List.setIfInBounds_toArray, List.set_cons_zero, List.set_cons_succ, i64_w, i32_w]
      rfl
    refine done_ (done_of HT_.out (by kernel_rfl)) ?_
    (try go_wp2)
    go_ret2
    exact ⟨_, rfl, HO7.out, hHeld.2.2⟩
theorem add_full (A : Option Addr) (c : Nat) (es : List E) (e : E) (w : World) (hl : 16 ≤ es.length) :
    Calls Tryd.prog 7 #[.slice A es.length c, (.agg #[.int .u16 e.id, .int .u16 0, .bool false, .int .i64 0, .bool false, .bool false, .bool false, .bool false, .int .i64 0, .string e.nm, .int .u16 e.ty, .slice none 0 0, .slice none 0 0, .slice none 0 0, .int .i64 0, .string e.cl, .int .i64 e.po, .bool false, .int .i64 e.un])] w fun x w' => x = .returned (.tuple #[.slice none 0 0, .iface 43 (.int .i64 9)]) ∧ Below w.heap.size w w' := by
  have d1 : decide ((es.length : Int) ≥ 16) = true := decide_eq_true (by omega)
  have d2 : decide (16 ≤ (es.length : Int)) = true := decide_eq_true (by omega)
  clear hl
  go_enter Tryd.func7, Tryd.ntmps7
  go_wp2_with ((with_reducible refine gate_bx (t := 42) rfl ?_); refine ev_box rfl rfl rfl ?_; intro b w1 hb hV hb1 hs1; have HB := Lib.hid hb1; clear hb hV hb1 hs1)
  go_ret2
  exact ⟨rfl, HB.out⟩
theorem add_twice (A : Option Addr) (c : Nat) (es : List E) (e : E) (w : World) (hC : Kd.C kE w A es.length es) (hl : es.length < 16) (hn : e.id ∈ es.map E.id) :
    Calls Tryd.prog 7 #[.slice A es.length c, (.agg #[.int .u16 e.id, .int .u16 0, .bool false, .int .i64 0, .bool false, .bool false, .bool false, .bool false, .int .i64 0, .string e.nm, .int .u16 e.ty, .slice none 0 0, .slice none 0 0, .slice none 0 0, .int .i64 0, .string e.cl, .int .i64 e.po, .bool false, .int .i64 e.un])] w fun x w' => x = .returned (.tuple #[.slice none 0 0, .iface 43 (.int .i64 7)]) ∧ Below w.heap.size w w' := by
  have HC := Lib.hid hC
  have d1 : decide ((es.length : Int) ≥ 16) = false := decide_eq_false (by omega)
  have d2 : decide (16 ≤ (es.length : Int)) = false := decide_eq_false (by omega)
  have hany := any_id es e.id
  rw [decide_eq_true hn] at hany
  have HANY := Lib.hid hany
  clear hC hl hn hany
  go_enter Tryd.func7, Tryd.ntmps7
  go_wp2_with ((with_reducible refine gate_bx (t := 42) rfl ?_); refine ev_box rfl rfl rfl ?_; intro b w1 hb hV hb1 hs1; have HV := Lib.hid hV; have HB := Lib.hid hb1; clear hb hV hb1 hs1)
  with_reducible refine (containsFunc_ 16 b _ A c es _ (Kd.C_below HC.out HB.out) eg_add (add1_ e b _ HV.out)).mono ?_
  rintro x w2 ⟨rfl, hb⟩
  rw [HANY.out]
  have HB2 := Lib.hid (HB.out.trans (hb.mono HB.out.size))
  clear hb HV HB
  go_wp2_with fail
  go_ret2
  exact ⟨rfl, HB2.out⟩
end Go.Proofs.YtecpginkacaebaaDoor.Ent
