/-
  Steps over entries: loads, stores, literals, appends, at one operation of a list and of a region. No macro, syntax, notation, axiom, sorry.
-/
import Derived.Test.YtecpginkacaebaaDoorEnt
import Derived.Deep.RegionLaw
namespace Go.Proofs.YtecpginkacaebaaDoor.Ent
open Go.RowKit Go.Proofs.YtecpginkacaebaaDoorW Go.Proofs.YtecpginkacaebaaDoorW.PrintWords Go.Proofs.YtecpginkacaebaaDoorW.PrintLast Go.Proofs.YtecpginkacaebaaDoor.Base Go.Proofs.YtecpginkacaebaaDoor.Heap
set_option linter.unusedVariables false
set_option linter.unusedSimpArgs false
set_option maxRecDepth 100000

section
variable {ops : Array Oper} {rest : List Oper} {o : Oper} {a : Act} {Q : Exit → Act → World → Prop} {W : World} {K : Act → World → Prop}
theorem wp_val {P : Program} {v : Value} {W1 : World} (hrun : (execOp a.eval o).run P W = .ok (.value v) W1) (h : K (a.put o.dst v) W1) : Oper.wp P o a W K Q := by
  unfold Oper.wp
  rw [hrun]
  exact h
theorem run_ld {P : Program} {t : TypeId} {x : Operand} (ho : o.op = .load t x) {ad : Addr} (hx : a.eval x = .pointer (some ad)) {v : Value} (hr : (loadVar t ad).run P W = .ok v W) : (execOp a.eval o).run P W = .ok (.value v) W := by
  unfold execOp
  simp only [ho, hx, Instr.loadAt, Instr.sureAddr, Sem.run_bind, Sem.run_pure, Result.andThen_ok, hr]
theorem st_load {P : Program} (hw : Region.wanted o (yielded ops a.tmps) = true) {t : TypeId} {x : Operand} (ho : o.op = .load t x) {ad : Addr} (hx : a.eval x = .pointer (some ad)) {v : Value} (hr : (loadVar t ad).run P W = .ok v W)
    (h : K (a.put o.dst v) W) : if Region.wanted o (yielded ops a.tmps) = true then Oper.wp P o a W K Q else K (a.put o.dst undef) W := by
  rw [if_pos hw]
  exact wp_val (run_ld ho hx hr) h
theorem st_store {P : Program} (hw : Region.wanted o (yielded ops a.tmps) = true) (hN : o.dst = none) {t : TypeId} {p x : Operand} (ho : o.op = .store t p x) {ad : Addr} (hp : a.eval p = .pointer (some ad)) {v : Value} (hx : a.eval x = v) {W1 : World} (hr : (storeVar t ad v).run P W = .ok () W1)
    (h : K a W1) : if Region.wanted o (yielded ops a.tmps) = true then Oper.wp P o a W K Q else K (a.put o.dst undef) W := by
  rw [if_pos hw]
  have hrun : (execOp a.eval o).run P W = .ok .skip W1 := by
    unfold execOp
    simp only [ho, hp, hx, Instr.storeAt, Instr.sureAddr, Sem.run_bind, Sem.run_pure, Result.andThen_ok, hr]
  unfold Oper.wp
  rw [hrun]
  show K (a.put o.dst undef) W1
  rw [hN]
  exact h
theorem yl_load {P : Program} {S : World → Prop} (hw : Region.wanted o (yielded ops a.tmps) = true) {t : TypeId} {x : Operand} (ho : o.op = .load t x) {ad : Addr} (hx : a.eval x = .pointer (some ad)) {v : Value} (hr : ∀ W, S W → (loadVar t ad).run P W = .ok v W) : YieldsIf P ops S o v a :=
  .inl ⟨hw, fun w hS => run_ld ho hx (hr w hS)⟩
end
theorem lit25 (e : E) (W : World) : (Instr.buildSlice 24 1 #[(0, (.agg #[.int .u16 e.id, .int .u16 0, .bool false, .int .i64 0, .bool false, .bool false, .bool false, .bool false, .int .i64 0, .string e.nm, .int .u16 e.ty, .slice none 0 0, .slice none 0 0, .slice none 0 0, .int .i64 0, .string e.cl, .int .i64 e.po, .bool false, .int .i64 e.un]))]).run Tryd.prog W = .ok (.slice (some ⟨W.heap.size, 0, none⟩) 1 1) (W.alloc (.cells (cs e).toArray 42 (0, 0))) := by kernel_rfl
theorem lit26 (e : E) (W : World) : (Instr.buildSlice 25 1 #[(0, (.agg #[.int .u16 e.id, .int .u16 0, .bool false, .int .i64 0, .bool false, .bool false, .bool false, .bool false, .int .i64 0, .string e.nm, .int .u16 e.ty, .slice none 0 0, .slice none 0 0, .slice none 0 0, .int .i64 0, .string e.cl, .int .i64 e.po, .bool false, .int .i64 e.un]))]).run Tryd.prog W = .ok (.slice (some ⟨W.heap.size, 0, none⟩) 1 1) (W.alloc (.cells (cs e).toArray 42 (0, 0))) := by kernel_rfl
/-- Which of the two types of rows of entries. -/
def Row (t : TypeId) : Prop := t = 24 ∨ t = 25
theorem Row.under {t : TypeId} (h : Row t) : Tryd.prog.underlying t = some (.slice 42) := by
  rcases h with rfl | rfl
  · exact Tryd.underlying24
  · exact Tryd.underlying25
section
variable {ops : Array Oper} {rest : List Oper} {o : Oper} {a : Act} {Q : Exit → Act → World → Prop} {W : World} {K : Act → World → Prop}
theorem run_lit {t : TypeId} (ht : Row t) {x : Operand} (ho : o.op = .buildSlice t 1 #[(0, x)]) {e : E} (hx : a.eval x = (.agg #[.int .u16 e.id, .int .u16 0, .bool false, .int .i64 0, .bool false, .bool false, .bool false, .bool false, .int .i64 0, .string e.nm, .int .u16 e.ty, .slice none 0 0, .slice none 0 0, .slice none 0 0, .int .i64 0, .string e.cl, .int .i64 e.po, .bool false, .int .i64 e.un])) :
    (execOp a.eval o).run Tryd.prog W = .ok (.value (.slice (some ⟨W.heap.size, 0, none⟩) 1 1)) (W.alloc (.cells (cs e).toArray 42 (0, 0))) := by
  unfold execOp
  simp only [ho]
  show ((Instr.buildSlice t 1 (#[(0, x)].map fun (i, x) => (i, a.eval x)) >>= fun v => pure (Next.value v)).run Tryd.prog W) = _
  have e1 : (#[((0 : Nat), x)].map fun (i, x) => (i, a.eval x)) = #[(0, (.agg #[.int .u16 e.id, .int .u16 0, .bool false, .int .i64 0, .bool false, .bool false, .bool false, .bool false, .int .i64 0, .string e.nm, .int .u16 e.ty, .slice none 0 0, .slice none 0 0, .slice none 0 0, .int .i64 0, .string e.cl, .int .i64 e.po, .bool false, .int .i64 e.un]))] := by simp [hx]
  rw [e1, Sem.run_bind]
  rcases ht with rfl | rfl
  · rw [lit25]; rfl
  · rw [lit26]; rfl
theorem ev_lit (hgd : o.guard = none) {t : TypeId} (ht : Row t) {x : Operand} (ho : o.op = .buildSlice t 1 #[(0, x)]) {e : E} (hx : a.eval x = (.agg #[.int .u16 e.id, .int .u16 0, .bool false, .int .i64 0, .bool false, .bool false, .bool false, .bool false, .int .i64 0, .string e.nm, .int .u16 e.ty, .slice none 0 0, .slice none 0 0, .slice none 0 0, .int .i64 0, .string e.cl, .int .i64 e.po, .bool false, .int .i64 e.un]))
    (h : ∀ g W1, g = W.heap.size → Var W1 g e → Below W.heap.size W W1 → W1.heap.size = g + 1 → wpList Tryd.prog ops Q rest (a.put o.dst (.slice (some ⟨g, 0, none⟩) 1 1)) W1) : wpList Tryd.prog ops Q (o :: rest) a W :=
  Kd.event_run hgd (run_lit ht ho hx) (h _ _ rfl (blk_new W _) (below_alloc (Below.refl _ _) _) (by simp))
theorem st_lit (hw : Region.wanted o (yielded ops a.tmps) = true) {t : TypeId} (ht : Row t) {x : Operand} (ho : o.op = .buildSlice t 1 #[(0, x)]) {e : E} (hx : a.eval x = (.agg #[.int .u16 e.id, .int .u16 0, .bool false, .int .i64 0, .bool false, .bool false, .bool false, .bool false, .int .i64 0, .string e.nm, .int .u16 e.ty, .slice none 0 0, .slice none 0 0, .slice none 0 0, .int .i64 0, .string e.cl, .int .i64 e.po, .bool false, .int .i64 e.un]))
    (h : ∀ g W1, g = W.heap.size → Var W1 g e → Below W.heap.size W W1 → W1.heap.size = g + 1 → K (a.put o.dst (.slice (some ⟨g, 0, none⟩) 1 1)) W1) : if Region.wanted o (yielded ops a.tmps) = true then Oper.wp Tryd.prog o a W K Q else K (a.put o.dst undef) W := by
  rw [if_pos hw]
  exact wp_val (run_lit ht ho hx) (h _ _ rfl (blk_new W _) (below_alloc (Below.refl _ _) _) (by simp))
theorem Var.news {g : Nat} {e : E} (h : Var W g e) : ∀ j u, (cs e)[j]? = some u → W.cell? ((⟨g, 0, none⟩ : Addr).add j) = some u := fun j u hj => by
  rw [Addr.add_lit, Nat.zero_add, blk_cell h]
  simpa using hj
/-- append(v, e), v of the call's own. -/
theorem run_app {base : Nat} {t : TypeId} (ht : Row t) {s x : Operand} (ho : o.op = .call { callee := .builtin .append, args := #[s, x], argTypes := #[t, t] }) {v : Value} {es : List E} {g : Nat} {e : E} (hs : a.eval s = v) (hx : a.eval x = .slice (some ⟨g, 0, none⟩) 1 1)
    (HO : Own W base v es) (HV : Var W g e) (hb : base ≤ W.heap.size) (hl : es.length ≤ 1048576) :
    ∃ v1 W1, (execOp a.eval o).run Tryd.prog W = .ok (.value v1) W1 ∧ Own W1 base v1 (es ++ [e]) ∧ W.grownBy W1 v.ownBlock ∧ (v1.ownBlock = v.ownBlock ∨ v1.ownBlock = some W.heap.size) := by
  obtain ⟨i0, hi, hzz⟩ := Option.map_eq_some_iff.1 info_
  simp only [Prod.mk.injEq] at hzz
  obtain ⟨hz0, hz1, hz2⟩ := hzz
  obtain ⟨v1, w1, hr, hown, hg, _, hat⟩ := run_append_own_at (P := Tryd.prog) W base t o.type 42 i0 _ 19 184 ht.under hi hz0 hz1 hz2 rfl (by omega) v es.length (rw_ es) HO ⟨g, 0, none⟩ 1 1 (cs e) (by rw [cs_len]) HV.news (cs_one e) (by simp only [maxLen]; omega) (by omega) hb
  refine ⟨v1, w1, ?_, ?_, hg, hat⟩
  · unfold execOp
    simp only [ho, resolve, invoke, builtin, Sem.run_bind, Sem.run_pure, Result.andThen_ok, List.map_toArray, List.map_cons, List.map_nil, hs, hx, hr]
  · unfold Own
    rw [List.length_append, rw_app, show rw_ [e] = cs e by simp [rw_]]
    exact hown
theorem ev_app (hgd : o.guard = none) {base : Nat} {t : TypeId} (ht : Row t) {s x : Operand} (ho : o.op = .call { callee := .builtin .append, args := #[s, x], argTypes := #[t, t] }) {v : Value} {es : List E} {g : Nat} {e : E} (hs : a.eval s = v) (hx : a.eval x = .slice (some ⟨g, 0, none⟩) 1 1)
    (HO : Own W base v es) (HV : Var W g e) (hb : base ≤ W.heap.size) (hl : es.length ≤ 1048576)
    (h : ∀ v1 W1, Own W1 base v1 (es ++ [e]) → W.grownBy W1 v.ownBlock → (v1.ownBlock = v.ownBlock ∨ v1.ownBlock = some W.heap.size) → wpList Tryd.prog ops Q rest (a.put o.dst v1) W1) : wpList Tryd.prog ops Q (o :: rest) a W := by
  obtain ⟨v1, W1, hr, h1, h2, h3⟩ := run_app ht ho hs hx HO HV hb hl
  exact Kd.event_run hgd hr (h v1 W1 h1 h2 h3)
/-- append(s, e), s full. -/
theorem run_grow {t : TypeId} (ht : Row t) {s x : Operand} (ho : o.op = .call { callee := .builtin .append, args := #[s, x], argTypes := #[t, t] }) {A : Option Addr} {es : List E} {m c : Nat} {ns : List E} {ad : Addr} {c0 : Nat} (hs : a.eval s = .slice A es.length c) (hx : a.eval x = .slice (some ad) m c0)
    (HC : Kd.C kE W A es.length es) (hA : A = none → es.length = 0 ∧ c = 0) (hc : c < es.length + m) (hnl : ns.length = m) (HN : ∀ j u, (rw_ ns)[j]? = some u → W.cell? (ad.add j) = some u) (hl : es.length ≤ 1048576) (hm : m ≤ 1048576) :
    ∃ v1 W1, (execOp a.eval o).run Tryd.prog W = .ok (.value v1) W1 ∧ Own W1 W.heap.size v1 (es ++ ns) ∧ Below W.heap.size W W1 := by
  obtain ⟨i0, hi, hzz⟩ := Option.map_eq_some_iff.1 info_
  simp only [Prod.mk.injEq] at hzz
  obtain ⟨hz0, hz1, hz2⟩ := hzz
  have h1 : ∀ u ∈ rw_ ns, u.oneCell' = true := by
    intro u hu
    obtain ⟨y, hy, hu⟩ := List.mem_flatMap.1 hu
    exact cs_one y u hu
  have fin : ∀ v1 W1, W1.ownsRow W.heap.size 42 19 v1 (es.length + m) (rw_ es ++ rw_ ns) → Own W1 W.heap.size v1 (es ++ ns) := by
    intro v1 W1 h
    unfold Own
    rw [List.length_append, rw_app, hnl]
    exact h
  cases A with
  | none =>
    obtain ⟨h0, h00⟩ := hA rfl
    have hes : es = [] := List.eq_nil_of_length_eq_zero h0
    subst hes
    subst h00
    obtain ⟨v1, w1, hr, hown, hg, _⟩ := run_append_own (P := Tryd.prog) W W.heap.size t o.type 42 i0 _ 19 184 ht.under hi hz0 hz1 hz2 rfl (by omega) (.slice none 0 0) 0 [] (World.ownsRow_nil W _ _ _) ad m c0 (rw_ ns) (by rw [rw_len, hnl]) HN h1 (by simp only [maxLen]; omega) (by omega) (Nat.le_refl _)
    refine ⟨v1, w1, ?_, fin v1 w1 (by simpa [rw_] using hown), ⟨hg.os, hg.tape, hg.output, hg.size, fun k hk => hg.block k hk (by simp [Value.ownBlock])⟩⟩
    have hs' : a.eval s = .slice none 0 0 := hs
    unfold execOp
    simp only [ho, resolve, invoke, builtin, Sem.run_bind, Sem.run_pure, Result.andThen_ok, List.map_toArray, List.map_cons, List.map_nil, hs', hx, hr]
  | some b =>
    have holds : ∀ j u, (rw_ es)[j]? = some u → W.cell? (b.add j) = some u := by
      intro j u hj
      have hjl : j < (rw_ es).length := (List.getElem?_eq_some_iff.1 hj).1
      rw [rw_len] at hjl
      obtain ⟨e, he⟩ : ∃ e, es[j / 19]? = some e := ⟨_, List.getElem?_eq_getElem (by omega)⟩
      obtain ⟨ad', ha', hc0⟩ := HC.2.2 (by omega)
      injection ha' with ha'
      subst ha'
      obtain ⟨c1, h1, h2, hcc⟩ := hc0 (j / 19) e he
      have h3 : c1 = cs e := h2
      subst h3
      have h4 := rw_at es (j / 19) e he (j % 19) (by omega)
      rw [show j / 19 * 19 + j % 19 = j by omega, hj] at h4
      have := hcc (j % 19) u h4.symm
      rw [show kE.sz = 19 from rfl, show j / 19 * 19 + j % 19 = j by omega] at this
      exact this
    obtain ⟨v1, w1, hr, hown, hg⟩ := run_append_arg_grows (P := Tryd.prog) W t o.type 42 i0 _ 19 184 ht.under hi hz0 hz1 hz2 rfl (by omega) b es.length c (rw_ es) (rw_len es) holds ad m c0 (rw_ ns) (by rw [rw_len, hnl]) HN hc (by simp only [maxLen]; omega) (by omega)
    refine ⟨v1, w1, ?_, fin v1 w1 hown, ⟨hg.os, hg.tape, hg.output, hg.size, fun k hk => hg.block k hk (by simp)⟩⟩
    unfold execOp
    simp only [ho, resolve, invoke, builtin, Sem.run_bind, Sem.run_pure, Result.andThen_ok, List.map_toArray, List.map_cons, List.map_nil, hs, hx, hr]
theorem st_grow (hw : Region.wanted o (yielded ops a.tmps) = true) {t : TypeId} (ht : Row t) {s x : Operand} (ho : o.op = .call { callee := .builtin .append, args := #[s, x], argTypes := #[t, t] }) {A : Option Addr} {es : List E} {c : Nat} {g : Nat} {e : E} (hs : a.eval s = .slice A es.length c) (hx : a.eval x = .slice (some ⟨g, 0, none⟩) 1 1)
    (HC : Kd.C kE W A es.length es) (hA : A = none → es.length = 0 ∧ c = 0) (hc : c < es.length + 1) (HV : Var W g e) (hl : es.length ≤ 1048576)
    (h : ∀ v1 W1, Own W1 W.heap.size v1 (es ++ [e]) → Below W.heap.size W W1 → K (a.put o.dst v1) W1) : if Region.wanted o (yielded ops a.tmps) = true then Oper.wp Tryd.prog o a W K Q else K (a.put o.dst undef) W := by
  rw [if_pos hw]
  obtain ⟨v1, W1, hr, h1, h2⟩ := run_grow (m := 1) (ns := [e]) ht ho hs hx HC hA hc rfl (by rw [show rw_ [e] = cs e by simp [rw_]]; exact HV.news) hl (by omega)
  exact wp_val hr (h v1 W1 h1 h2)
end
end Go.Proofs.YtecpginkacaebaaDoor.Ent
