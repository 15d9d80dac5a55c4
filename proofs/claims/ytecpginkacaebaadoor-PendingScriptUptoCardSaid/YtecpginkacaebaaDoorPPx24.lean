/-
  The law PendingScript walked. No macro, syntax, notation, axiom, sorry.
-/
import Derived.Test.YtecpginkacaebaaDoorPPx19
import Derived.Test.YtecpginkacaebaaDoorEntI
import Derived.Test.YtecpginkacaebaaDoorNum
namespace Go.Proofs.YtecpginkacaebaaDoor.PP
open Go.RowKit Go.Proofs.YtecpginkacaebaaDoorW Go.Proofs.YtecpginkacaebaaDoorW.PrintWords Go.Proofs.YtecpginkacaebaaDoorW.PrintLast Go.Proofs.YtecpginkacaebaaDoorW.PrintMore Go.Proofs.YtecpginkacaebaaDoor.Base Go.Proofs.YtecpginkacaebaaDoor.Heap Go.Proofs.YtecpginkacaebaaDoor.Nam Go.Proofs.YtecpginkacaebaaDoor.Ent Go.Proofs.YtecpginkacaebaaDoor.Trn Go.Proofs.YtecpginkacaebaaDoor.Num
set_option linter.unusedVariables false
set_option linter.unusedSimpArgs false
set_option maxRecDepth 100000

open Classical in
noncomputable def bolterlaw26_PendingScript.f (l0 : List LAct) : Option Bool := if (∀ x ∈ l0, WfA x) ∧ l0.length ≤ 1048576 then some true else none
structure SHead (w wr : World) (v3 v4 : Value) (es : List E) : Prop where
  own3 : Own wr w.heap.size v3 es
  own4 : Own wr w.heap.size v4 es
  len : es.length ≤ 16
  below : Below w.heap.size w wr
theorem SHead.other {w wr w2 : World} {v3 v4 : Value} {es : List E} {F : List Nat} (h : SHead w wr v3 v4 es) (ht : Turned F wr w2) (hF : ∀ k ∈ F, wr.heap.size ≤ k) : SHead w w2 v3 v4 es :=
  ⟨ht.own h.own3 fun k hk hm => by have := own_lt h.own3 k hk; have := hF k hm; omega, ht.own h.own4 fun k hk hm => by have := own_lt h.own4 k hk; have := hF k hm; omega, h.len, h.below.trans (ht.below (fun k hk => Nat.le_trans h.below.size (hF k hk)) h.below.size)⟩
theorem SHead.move {w wr w2 : World} {v3 v4 : Value} {es : List E} (h : SHead w wr v3 v4 es) (hb : Below wr.heap.size wr w2) : SHead w w2 v3 v4 es := h.other (F := []) (Turned.of_below hb []) (by simp)
theorem SHead.stored {w w3 w4 w5 : World} {v3 v4 : Value} {es : List E} {g : Nat} (h3 : SHead w w3 v3 v4 es) (h4 : SHead w w4 v3 v4 es) (hg : w3.heap.size ≤ g) (hs : w4.grownBy w5 (some g)) : SHead w w5 v3 v4 es :=
  have ht : Turned [g] w4 w5 := Turned.of_grown hs fun k e => by injection e with e; simp [e]
  ⟨ht.own h4.own3 fun k hk hm => by have := own_lt h3.own3 k hk; have := List.mem_singleton.1 hm; omega, ht.own h4.own4 fun k hk hm => by have := own_lt h3.own4 k hk; have := List.mem_singleton.1 hm; omega, h4.len,
    h4.below.trans (ht.below (fun k hk => by have := List.mem_singleton.1 hk; have := h3.below.size; omega) h4.below.size)⟩
theorem SHead.c3 {w wr : World} {v4 : Value} {A : Option Addr} {n c : Nat} {es : List E} (h : SHead w wr (.slice A n c) v4 es) : Kd.C kE wr A es.length es := by
  obtain ⟨A9, c9, hv, -, -, hC⟩ := h.own3.reads
  injection hv with h1 h2 h3
  subst h1
  exact hC
theorem SHead.c4 {w wr : World} {v3 : Value} {A : Option Addr} {n c : Nat} {es : List E} (h : SHead w wr v3 (.slice A n c) es) : Kd.C kE wr A es.length es := by
  obtain ⟨A9, c9, hv, -, -, hC⟩ := h.own4.reads
  injection hv with h1 h2 h3
  subst h1
  exact hC
theorem SHead.cap4 {w wr : World} {v3 : Value} {A : Option Addr} {n c : Nat} {es : List E} (h : SHead w wr v3 (.slice A n c) es) : es.length ≤ c := by
  obtain ⟨A9, c9, hv, hc, -, -⟩ := h.own4.reads
  injection hv with h1 h2 h3
  rw [h3]
  exact hc
structure Held (w : World) (g : Nat) (en : E) (A : Option Addr) (es : List E) (v : Value) (ts : List E) (w' : World) : Prop where
  var : Var w' g en
  c4 : Kd.C kE w' A es.length es
  own : Own w' w.heap.size v ts
  below : Below w.heap.size w w'
theorem Held.move {w : World} {g : Nat} {en : E} {A : Option Addr} {es ts : List E} {v : Value} {w1 w2 : World} (h : Held w g en A es v ts w1) (hb : Below w1.heap.size w1 w2) : Held w g en A es v ts w2 :=
  ⟨h.var.below hb, Kd.C_below h.c4 hb, h.own.below hb, h.below.trans (hb.mono h.below.size)⟩
section
variable {ops : Array Oper} {o : Oper} {a : Act} {K : Act → World → Prop} {Q : Exit → Act → World → Prop} {W : World}
theorem app_nil {t : TypeId} (ht : Row t) (ty : TypeId) (W : World) : (Builtin.append_ #[t, t] ty #[.slice none 0 0, .slice none 0 0]).run Tryd.prog W = .ok (.slice none 0 0) W := by
  rcases ht with rfl | rfl <;> kernel_rfl
theorem st_copy (hw : Region.wanted o (yielded ops a.tmps) = true) {t : TypeId} (ht : Row t) {s x : Operand} (ho : o.op = .call { callee := .builtin .append, args := #[s, x], argTypes := #[t, t] }) {A : Option Addr} {c : Nat} {ns : List E} (hs : a.eval s = .slice none 0 0) (hx : a.eval x = .slice A ns.length c)
    (HC : Kd.C kE W A ns.length ns) (hN : A = none → ns.length = 0 ∧ c = 0) (hl : ns.length ≤ 1048576)
    (h : ∀ v1 W1, Own W1 W.heap.size v1 ns → Below W.heap.size W W1 → K (a.put o.dst v1) W1) : if Region.wanted o (yielded ops a.tmps) = true then Oper.wp Tryd.prog o a W K Q else K (a.put o.dst undef) W := by
  rw [if_pos hw]
  cases A with
  | none =>
    obtain ⟨h0, h1⟩ := hN rfl
    have hns : ns = [] := List.eq_nil_of_length_eq_zero h0
    subst hns
    subst h1
    exact wp_val (rc_ ho hs hx (app_nil ht _ _)) (h _ _ (World.ownsRow_nil _ _ _ _) (Below.refl _ _))
  | some ad =>
    obtain ⟨v1, W1, hr, h1, h2, h3⟩ := run_apps (es := []) ht ho hs hx (World.ownsRow_nil W W.heap.size _ _) HC (Nat.le_refl _) (by simp) hl
    exact wp_val hr (h v1 W1 h1 ⟨h2.os, h2.tape, h2.output, h2.size, fun k hk => h2.block k hk (by simp [Value.ownBlock])⟩)
theorem st_app (hw : Region.wanted o (yielded ops a.tmps) = true) {base : Nat} {t : TypeId} (ht : Row t) {s x : Operand} (ho : o.op = .call { callee := .builtin .append, args := #[s, x], argTypes := #[t, t] }) {v : Value} {es : List E} {g : Nat} {e : E} (hs : a.eval s = v) (hx : a.eval x = .slice (some ⟨g, 0, none⟩) 1 1)
    (HO : Own W base v es) (HV : Var W g e) (hb : base ≤ W.heap.size) (hl : es.length ≤ 1048576)
    (h : ∀ v1 W1, Own W1 base v1 (es ++ [e]) → W.grownBy W1 v.ownBlock → (v1.ownBlock = v.ownBlock ∨ v1.ownBlock = some W.heap.size) → K (a.put o.dst v1) W1) : if Region.wanted o (yielded ops a.tmps) = true then Oper.wp Tryd.prog o a W K Q else K (a.put o.dst undef) W := by
  rw [if_pos hw]
  obtain ⟨v1, W1, hr, h1, h2, h3⟩ := run_app ht ho hs hx HO HV hb hl
  exact wp_val hr (h v1 W1 h1 h2 h3)
theorem st_apps (hw : Region.wanted o (yielded ops a.tmps) = true) {base : Nat} {t : TypeId} (ht : Row t) {s x : Operand} (ho : o.op = .call { callee := .builtin .append, args := #[s, x], argTypes := #[t, t] }) {v : Value} {es ns : List E} {ad : Addr} {c : Nat} (hs : a.eval s = v) (hx : a.eval x = .slice (some ad) ns.length c)
    (HO : Own W base v es) (HC : Kd.C kE W (some ad) ns.length ns) (hb : base ≤ W.heap.size) (hl : es.length ≤ 1048576) (hl2 : ns.length ≤ 1048576)
    (h : ∀ v1 W1, Own W1 base v1 (es ++ ns) → W.grownBy W1 v.ownBlock → (v1.ownBlock = v.ownBlock ∨ v1.ownBlock = some W.heap.size) → K (a.put o.dst v1) W1) : if Region.wanted o (yielded ops a.tmps) = true then Oper.wp Tryd.prog o a W K Q else K (a.put o.dst undef) W := by
  rw [if_pos hw]
  obtain ⟨v1, W1, hr, h1, h2, h3⟩ := run_apps ht ho hs hx HO HC hb hl hl2
  exact wp_val hr (h v1 W1 h1 h2 h3)
end
/-- The first hit so far. -/
def First (es : List E) (k : Nat) (p : E → Bool) (z : Int) : Prop := (z = -1 ∧ ∀ (j : Nat) (y : E), j < k → es[j]? = some y → p y = false) ∨ ∃ j : Nat, z = j ∧ j < k ∧ (∃ y, es[j]? = some y ∧ p y = true) ∧ ∀ (i : Nat) (y : E), i < j → es[i]? = some y → p y = false
theorem First.zero (es : List E) (p : E → Bool) : First es 0 p (-1) := .inl ⟨rfl, fun j y hj => absurd hj (Nat.not_lt_zero j)⟩
theorem First.no {es : List E} {k : Nat} {p : E → Bool} {z : Int} {e : E} (h : First es k p z) (he : es[k]? = some e) (hp : p e = false) : First es (k + 1) p z := by
  rcases h with ⟨h1, h2⟩ | ⟨j, h1, h2, h3, h4⟩
  · refine .inl ⟨h1, fun i y hi hy => ?_⟩
    by_cases hk : i = k
    · subst hk
      rw [he] at hy
      injection hy with hy
      rw [← hy]
      exact hp
    · exact h2 i y (by omega) hy
  · exact .inr ⟨j, h1, by omega, h3, h4⟩
theorem First.hit {es : List E} {k : Nat} {p : E → Bool} {e : E} (h : First es k p (-1)) (he : es[k]? = some e) (hp : p e = true) : First es (k + 1) p k := by
  rcases h with ⟨h1, h2⟩ | ⟨j, h1, h2, h3, h4⟩
  · exact .inr ⟨k, rfl, by omega, ⟨e, he, hp⟩, h2⟩
  · omega
theorem First.kept {es : List E} {k j : Nat} {p : E → Bool} (h : First es k p (j : Int)) : First es (k + 1) p (j : Int) := by
  rcases h with ⟨h1, h2⟩ | ⟨i, h1, h2, h3, h4⟩
  · omega
  · exact .inr ⟨i, h1, by omega, h3, h4⟩
theorem First.split {es : List E} {k : Nat} {p : E → Bool} {z : Int} (h : First es k p z) : z = -1 ∨ ∃ j : Nat, z = (j : Int) := by
  rcases h with ⟨h1, _⟩ | ⟨j, h1, _⟩
  · exact .inl h1
  · exact .inr ⟨j, h1⟩
theorem First.none {es : List E} {p : E → Bool} {z : Int} (h : First es es.length p z) (hn : ∀ (j : Nat) (y : E), es[j]? = some y → p y = false) : z = -1 := by
  rcases h with ⟨h1, _⟩ | ⟨j, _, _, ⟨y, h3, h4⟩, _⟩
  · exact h1
  · rw [hn j y h3] at h4
    cases h4
theorem First.at_ {es : List E} {p : E → Bool} {z : Int} {k : Nat} {e : E} (h : First es es.length p z) (he : es[k]? = some e) (hp : p e = true) (hn : ∀ (j : Nat) (y : E), j < k → es[j]? = some y → p y = false) : z = (k : Int) := by
  have hk := (List.getElem?_eq_some_iff.1 he).1
  rcases h with ⟨_, h2⟩ | ⟨j, h1, _, ⟨y, h3, h4⟩, h5⟩
  · rw [h2 k e hk he] at hp
    cases hp
  · rw [h1]
    by_cases hjk : j < k
    · rw [hn j y hjk h3] at h4
      cases h4
    · by_cases hkj : k < j
      · rw [h5 k e hkj he] at hp
        cases hp
      · omega
theorem question_ne {e en : E} (h : hit en.id en.nm en.ty e = false) (hid : e.id = en.id) : (e.nm.toList == en.nm.toList && (e.ty == en.ty)) = false := by
  unfold hit at h
  rw [decide_eq_true hid, Bool.true_and] at h
  cases h1 : (e.ty == en.ty) with
  | false => simp
  | true =>
    have h2 : e.ty = en.ty := by simpa using h1
    rw [decide_eq_true h2, Bool.and_true] at h
    have h3 := of_decide_eq_false h
    have h4 : (e.nm.toList == en.nm.toList) = false := by
      rw [beq_eq_false_iff_ne]
      intro h
      apply h3
      rw [ByteArray.toList_eq, ByteArray.toList_eq] at h
      exact ByteArray.ext (Array.toList_inj.1 h)
    rw [h4, Bool.false_and]
/-! ### Parts of a row of entries -/
theorem C_take {w : World} {ad : Addr} {es : List E} (h : Kd.C kE w (some ad) es.length es) (k : Nat) : Kd.C kE w (some ad) (es.take k).length (es.take k) := by
  refine ⟨rfl, Nat.le_trans (by rw [List.length_take]; omega) h.2.1, fun h0 => ?_⟩
  obtain ⟨ad', ha, hc0⟩ := h.2.2 (by rw [List.length_take] at h0; omega)
  refine ⟨ad', ha, fun j x hj => ?_⟩
  have hjl := (List.getElem?_eq_some_iff.1 hj).1
  rw [List.length_take] at hjl
  rw [List.getElem?_take_of_lt (by omega)] at hj
  exact hc0 j x hj
theorem C_drop {w : World} {g c : Nat} {es : List E} (h : Kd.C kE w (some ⟨g, 0, none⟩) es.length es) (hc : es.length ≤ c) (k : Nat) (hk : k ≤ es.length) : Kd.C kE w (some (if c = k then (⟨g, 0, none⟩ : Addr) else ⟨g, k * 19, none⟩)) (es.drop k).length (es.drop k) := by
  refine ⟨rfl, Nat.le_trans (by rw [List.length_drop]; omega) h.2.1, fun h0 => ?_⟩
  rw [List.length_drop] at h0
  obtain ⟨ad', ha, hc0⟩ := h.2.2 (by omega)
  injection ha with ha
  subst ha
  rw [if_neg (by omega)]
  refine ⟨_, rfl, fun j x hj => ?_⟩
  rw [List.getElem?_drop] at hj
  obtain ⟨q, h1, h2, h3⟩ := hc0 (k + j) x hj
  refine ⟨q, h1, h2, fun i v hi => ?_⟩
  have := h3 i v hi
  rw [show kE.sz = 19 from rfl] at this ⊢
  rw [Addr.add_lit] at this ⊢
  rw [show k * 19 + (j * 19 + i) = 0 + ((k + j) * 19 + i) by rw [Nat.add_mul]; omega]
  exact this
theorem Own.base_ {w : World} {base n c : Nat} {ad : Addr} {es : List E} (h : Own w base (.slice (some ad) n c) es) : ∃ g, ad = ⟨g, 0, none⟩ := by
  rcases h.2 with ⟨hv, h0⟩ | ⟨g, cap, cur, hv, _⟩
  · cases hv
  · injection hv with h1
    injection h1 with h1
    exact ⟨g, h1⟩
theorem slice_hi (g n c i : Nat) (hi : i ≤ c) (hin : i ≤ n) (W : World) : (Instr.slice 24 (.slice (some ⟨g, 0, none⟩) n c) none (some (.int .i64 (i : Int))) none).run Tryd.prog W = .ok (.slice (some ⟨g, 0, none⟩) i c) W := by
  obtain ⟨i0, hi0, hz0, hz1, hz2⟩ := info_parts info_
  have hel : Tryd.prog.elem 24 = 42 := by simp [Program.elem, Tryd.underlying24]
  have hu : Tryd.prog.underlying 24 = some (.slice (Tryd.prog.elem 24)) := by rw [hel]; exact Tryd.underlying24
  have hsz : ∀ W : World, (sizeOf 42).run Tryd.prog W = .ok 19 W := fun W => by simp [sizeOf, typeInfo, hi0, hz1]
  rw [run_slice_h W _ _ n c hu .i64 (i : Int) (by omega) (by omega), hel]
  simp only [hsz, Result.andThen, sliced, Int.toNat_natCast, Nat.zero_mul, Option.map_some, Addr.add_lit, Nat.zero_add, Nat.sub_zero]
  congr 2
  split <;> rfl
theorem slice_lo (g n c i : Nat) (hn : n ≤ c) (hi : i + 1 ≤ n) (W : World) : (Instr.slice 24 (.slice (some ⟨g, 0, none⟩) n c) (some (.int .i64 ((i : Int) + 1))) none none).run Tryd.prog W = .ok (.slice (some (if c = i + 1 then (⟨g, 0, none⟩ : Addr) else ⟨g, (i + 1) * 19, none⟩)) (n - (i + 1)) (c - (i + 1))) W := by
  obtain ⟨i0, hi0, hz0, hz1, hz2⟩ := info_parts info_
  have hel : Tryd.prog.elem 24 = 42 := by simp [Program.elem, Tryd.underlying24]
  have hu : Tryd.prog.underlying 24 = some (.slice (Tryd.prog.elem 24)) := by rw [hel]; exact Tryd.underlying24
  have hsz : ∀ W : World, (sizeOf 42).run Tryd.prog W = .ok 19 W := fun W => by simp [sizeOf, typeInfo, hi0, hz1]
  rw [run_slice_l W _ _ n c hu .i64 ((i : Int) + 1) (by omega) (by omega), hel]
  have e1 : ((i : Int) + 1).toNat = i + 1 := by omega
  simp only [hsz, Result.andThen, sliced, e1, Addr.add_lit, Nat.zero_add, Option.map_some]
  congr 2
  split <;> rfl
section
variable {ops : Array Oper} {rest : List Oper} {o : Oper} {a : Act} {Q : Exit → Act → World → Prop} {W : World}
theorem ev_gload {P : Program} (hw : Region.wanted o (yielded ops a.tmps) = true) {t : TypeId} {x : Operand} (ho : o.op = .load t x) {ad : Addr} (hx : a.eval x = .pointer (some ad)) {v : Value} (hr : (loadVar t ad).run P W = .ok v W)
    (h : wpList P ops Q rest (a.put o.dst v) W) : wpList P ops Q (o :: rest) a W := wpList_step fun K hK => st_load hw ho hx hr (hK _ _ h)
end
attribute [local go_sem high] PQ.eqA37
def script_T38 : Bool × List (List Nat × List Nat) := (true, [([], []), ([], []), ([1], [1]), ([], []), ([3], [3]), ([2, 4, 2], [2, 4]), ([0, 5, 0], [0]), ([5, 6, 0, 1, 2, 3, 4, 5, 6], [1, 5])])
def script_B38 : List Nat := [0, 0, 2, 0, 8, 30, 63, 127]
theorem script_tab38 : rtab .any (opsOf Tryd.f4 38) = script_T38 := by kernel_rfl
theorem script_bits38 : waitsOk script_T38.2 script_B38 = true := by kernel_rfl
def script_T51 : Bool × List (List Nat × List Nat) := (true, [([], []), ([], []), ([], []), ([1, 2], [1, 2]), ([3], [3]), ([0, 4], [0, 4]), ([5], [5])])
def script_B51 : List Nat := [0, 0, 0, 6, 14, 31, 63]
theorem script_tab51 : rtab .any (opsOf Tryd.f4 51) = script_T51 := by kernel_rfl
theorem script_bits51 : waitsOk script_T51.2 script_B51 = true := by kernel_rfl
def script_T53 : Bool × List (List Nat × List Nat) := (true, [([], []), ([], []), ([], []), ([1, 2], [1, 2]), ([3], [3]), ([], []), ([], []), ([6], [6]), ([5, 7], [5, 7]), ([4, 8, 4], [4, 8]), ([0, 9, 0], [0]), ([9, 10, 0, 1, 2, 3, 4, 5, 6, 7, 8, 9, 10], [1, 5, 9])])
def script_B53 : List Nat := [0, 0, 0, 6, 14, 0, 0, 64, 224, 510, 1023, 2047]
theorem script_tab53 : rtab .any (opsOf Tryd.f4 53) = script_T53 := by kernel_rfl
theorem script_bits53 : waitsOk script_T53.2 script_B53 = true := by kernel_rfl
set_option maxHeartbeats 16000000 in
theorem bolterlaw26_PendingScript.calls (A0 : Option Addr) (c0 : Nat) (l0 : List LAct) (r : Bool) (w : World) (hr0 : Kd.C kAct w A0 l0.length l0) (hc0 : l0.length ≤ c0) (hE : Num.ErrT w) (h : bolterlaw26_PendingScript.f l0 = some r) :
    Calls Tryd.prog 4 #[.slice A0 l0.length c0] w fun e w' => e = .returned (.bool r) ∧ Below w.heap.size w w' := by
  unfold bolterlaw26_PendingScript.f at h
  by_cases hc : (∀ x ∈ l0, WfA x) ∧ l0.length ≤ 1048576
  case neg => rw [if_neg hc] at h; cases h
  rw [if_pos hc] at h
  obtain rfl := Option.some.inj h
  clear h
  obtain ⟨hwf, hln⟩ := hc
  have HR0 := Lib.hid hr0
  have HWF := Lib.hid hwf
  have HE := Lib.hid hE
  clear hr0 hwf hE
  go_enter Tryd.func4, Tryd.ntmps4
  go_wp2_with fail
  refine (awake_ _).mono ?_
  rintro e w1 ⟨rfl, hb⟩
  have HH0 : Hid (SHead w w1 (.slice none 0 0) (.slice none 0 0) []) := Lib.hid ⟨World.ownsRow_nil _ _ _ _, World.ownsRow_nil _ _ _ _, by simp, hb⟩
  clear hb
  go_wp2_with fail
  go_loopw [3, 4, 29] (fun v3 v4 i wr => ∃ (q : Nat) (es : List E), q ≤ l0.length ∧ i = .int .i64 q ∧ Hid (SHead w wr v3 v4 es))
    (fun _ _ i _ => l0.length - (intOf i).toNat)
  case atStart => exact ⟨0, [], Nat.zero_le _, rfl, HH0⟩
  case round =>
    obtain ⟨q, es, hq, rfl, HH⟩ := hrel
    by_cases hlt : q < l0.length
    · obtain ⟨x, hx⟩ : ∃ x, l0[q]? = some x := ⟨_, List.getElem?_eq_getElem hlt⟩
      obtain ⟨ad, B, cb, ha, k0, k1, k2, k3, k4, hcb, hCB⟩ := at_act (Kd.C_below HR0.out HH.out.below) q x hx
      subst ha
      obtain ⟨x0, x1, x2, x3, x4⟩ := x
      simp only at k0 k1 k2 k3 k4 hcb hCB
      have hwx := HWF.out _ (List.mem_of_getElem? hx)
      have HWX := Lib.hid hwx
      have HCB := Lib.hid hCB
      clear hwx hCB hx
      obtain ⟨A3, c3, hv3, hcc3, hcm3, hC3⟩ := HH.out.own3.reads
      obtain ⟨A4, c4, hv4, hcc4, hcm4, hC4⟩ := HH.out.own4.reads
      have hN3 : A3 = none → es.length = 0 ∧ c3 = 0 := fun h => by
        have := HH.out.own3
        rw [hv3, h] at this
        exact this.none_
      have HN3 := Lib.hid hN3
      have HCC3 := Lib.hid hcc3
      subst hv3
      subst hv4
      clear hcm3 hC3 hcc4 hcm4 hC4 hN3 hcc3
      go_wp2_with fail
      have hbx := blk_new wr (.cells #[.int .u8 x0, .int .u8 x1, .slice B x2.length cb, .int .u8 x3, .int .i8 x4] 52)
      obtain ⟨wa, hwa⟩ : ∃ wa, wr.alloc (.cells #[.int .u8 x0, .int .u8 x1, .slice B x2.length cb, .int .u8 x3, .int .i8 x4] 52) = wa := ⟨_, rfl⟩
      have hba : Below wr.heap.size wr wa := by rw [← hwa]; exact below_alloc (Below.refl _ _) _
      have HHa := Lib.hid (HH.out.move hba)
      have HCa := Lib.hid (Kd.C_below HCB.out hba)
      obtain ⟨bx, hbe⟩ : ∃ bx, wr.heap.size = bx := ⟨_, rfl⟩
      have HBR := Lib.hid (show w.heap.size ≤ bx by rw [← hbe]; exact HH.out.below.size)
      rw [hwa] at hbx ⊢
      rw [hbe] at hbx ⊢
      have HXa := Lib.hid hbx
      clear hwa hba k0 k1 k2 k3 k4 hbx HH HCB hbe
      with_reducible refine (entry_ x0 x1 x3 x4 B cb x2 wa HCa.out hcb (HWX.out).out.2.2.1.1 (HWX.out).out.2.2.1.2 (HWX.out).out.2.1 (HWX.out).out.2.2.2.1 (HWX.out).out.2.2.2.2).mono ?_
      rintro e w3 ⟨rfl, hb⟩
      have HH3 := Lib.hid (HHa.out.move hb)
      have HX3 := Lib.hid (blk_below HXa.out hb)
      obtain ⟨en, hen⟩ : ∃ en, entryOf x1 x2 x3 x4 = en := ⟨_, rfl⟩
      rw [hen]
      clear hb hen hcb HHa HCa HXa
      obtain ⟨hz0, hz1⟩ := (HWX.out).out.1
      simp only at hz0 hz1
      go_upto_block 2 with (first
        | ((with_reducible refine gate_al (t := 42) rfl ?_); refine ev_new rfl rfl ?_; intro g w4 hg hV4 hb4 hs4; have HG := Lib.hid (show w3.heap.size ≤ g by omega); have HH4 := Lib.hid (HH3.out.move hb4); have HX4 := Lib.hid (blk_below HX3.out hb4); have HV4 := Lib.hid hV4; clear hg hV4 hb4 hs4)
        | ((with_reducible refine gate_st (t := 42) rfl ?_); obtain ⟨w5, hrun5, hV5, hg5⟩ := Var.store HV4.out en; refine ev_store rfl rfl rfl rfl rfl hrun5 ?_; have HV5 := Lib.hid hV5; have HH5 := Lib.hid (HH3.out.stored HH4.out HG.out hg5); have HX5 : Hid (w5.heap[bx]? = some (.cells #[.int .u8 x0, .int .u8 x1, .slice B x2.length cb, .int .u8 x3, .int .i8 x4] 52 (0, 0))) := Lib.hid ((hg5.block bx (blk_lt HX4.out) (fun e => by injection e with e; have := blk_lt HX3.out; have := HG.out; omega)).trans HX4.out); have hy0 := (cells5 HX5.out).1; clear hrun5 hV5 hg5))
      obtain ⟨q5, hq5⟩ : ∃ q5, x0 % 5 = q5 := ⟨_, rfl⟩
      rw [hq5]
      have hq : q5 = 0 ∨ q5 = 1 ∨ q5 = 2 ∨ q5 = 3 ∨ q5 = 4 := by omega
      have HQ := Lib.hid hq
      clear hq hq5 hy0 hz0 hz1 HV4 HH4 HX4 HX3 HH3
      go_cut [3, 4] (fun v3 v4 wx => Aside0 (∃ es2, SHead w wx v3 v4 es2))
      case first =>
        rcases HQ.out with rfl | rfl | rfl | rfl | rfl
        · as_aux_lemma =>
          have hN4 : A4 = none → es.length = 0 ∧ c4 = 0 := fun h => by
            have := HH5.out.own4
            rw [h] at this
            exact this.none_
          have HN4 := Lib.hid hN4
          clear hN4 HX5
          go_wp2_with fail
          go_loopw [8, 79] (fun v8 i wy => ∃ (k : Nat) (n : Int), k ≤ es.length ∧ i = .int .i64 k ∧ v8 = .int .i64 n ∧ Hid (n = if en.id ∈ (es.take k).map E.id then 7 else 0) ∧ Hid (SHead w wy (.slice A3 es.length c3) (.slice A4 es.length c4) es) ∧ Hid (Var wy g en))
            (fun _ i _ => es.length - (intOf i).toNat)
          case atStart => exact ⟨0, 0, Nat.zero_le _, rfl, rfl, Lib.hid (by simp), HH5, HV5⟩
          case round =>
            obtain ⟨k, n, hk, rfl, rfl, HNN, HHy, HVy⟩ := hrel
            by_cases hkl : k < es.length
            · obtain ⟨e, he⟩ : ∃ e, es[k]? = some e := ⟨_, List.getElem?_eq_getElem hkl⟩
              obtain ⟨ad4, ha, -⟩ := load_ HHy.out.c4 k e he
              subst ha
              have HLD := Lib.hid (load_at HHy.out.c4 k e he)
              have htk : es.take (k + 1) = es.take k ++ [e] := by rw [List.take_add_one, he]; rfl
              have HTK := Lib.hid htk
              clear he htk
              have hwk : wrap64 ((k : Int) + 1) = (k : Int) + 1 := w64 (by omega) (by have := HHy.out.len; omega)
              have hwk2 : IntKind.i64.wrap ((k : Int) + 1) = (k : Int) + 1 := IntWalk.i64_in _ (by have := HHy.out.len; omega)
              have hy0 := (blk_ en HVy.out).1
              by_cases hid : e.id = en.id
              · have d1 : (e.id == en.id) = true := by simp [hid]
                have HID := Lib.hid hid
                clear hid hy0
                go_wp2_with (first
                  | ((with_reducible refine gate_dst (N := 82) rfl ?_); refine ev_load (t := 42) rfl rfl rfl HLD.out ?_)
                  | ((with_reducible refine gate_al (t := 42) rfl ?_); refine ev_new rfl rfl ?_; intro g6 w6 hg hV6 hb6 hs6; have HG6 := Lib.hid (show wr.heap.size ≤ g6 by omega); have HH6 := Lib.hid (HHy.out.move hb6); have HVw6 := Lib.hid (HVy.out.below hb6); have HV6 := Lib.hid hV6; clear hg hV6 hb6 hs6)
                  | ((with_reducible refine gate_st (t := 42) rfl ?_); obtain ⟨w7, hrun7, hV7, hg7⟩ := Var.store HV6.out e; refine ev_store rfl rfl rfl rfl rfl hrun7 ?_; have HH7 := Lib.hid (HHy.out.stored HH6.out HG6.out hg7); have HVw7 : Hid (Var w7 g en) := Lib.hid ((hg7.block g HVw6.out.lt (fun e => by injection e with e; have := HVy.out.lt; have := HG6.out; omega)).trans HVw6.out); have hx0 := (blk_ e hV7).1; have hy0 := (blk_ en HVw7.out).1; clear hrun7 hV7 hg7))
                go_roundw
                case rel => exact ⟨k + 1, 7, by omega, by first | go_num | simp, rfl, Lib.hid (by rw [HTK.out, if_pos (by rw [List.map_append]; simp [HID.out])]), HH7, HVw7⟩
                case measure => simp [intOf]; omega
              · have d1 : (e.id == en.id) = false := by simp [hid]
                have HID := Lib.hid hid
                clear hid hy0
                go_wp2_with (first
                  | ((with_reducible refine gate_dst (N := 82) rfl ?_); refine ev_load (t := 42) rfl rfl rfl HLD.out ?_)
                  | ((with_reducible refine gate_al (t := 42) rfl ?_); refine ev_new rfl rfl ?_; intro g6 w6 hg hV6 hb6 hs6; have HG6 := Lib.hid (show wr.heap.size ≤ g6 by omega); have HH6 := Lib.hid (HHy.out.move hb6); have HVw6 := Lib.hid (HVy.out.below hb6); have HV6 := Lib.hid hV6; clear hg hV6 hb6 hs6)
                  | ((with_reducible refine gate_st (t := 42) rfl ?_); obtain ⟨w7, hrun7, hV7, hg7⟩ := Var.store HV6.out e; refine ev_store rfl rfl rfl rfl rfl hrun7 ?_; have HH7 := Lib.hid (HHy.out.stored HH6.out HG6.out hg7); have HVw7 : Hid (Var w7 g en) := Lib.hid ((hg7.block g HVw6.out.lt (fun e => by injection e with e; have := HVy.out.lt; have := HG6.out; omega)).trans HVw6.out); have hx0 := (blk_ e hV7).1; have hy0 := (blk_ en HVw7.out).1; clear hrun7 hV7 hg7))
                go_roundw
                case rel => exact ⟨k + 1, n, by omega, by first | go_num | simp, rfl, Lib.hid (by rw [HTK.out, HNN.out, List.map_append, List.map_cons, List.map_nil]; simp only [List.mem_append, List.mem_singleton]; have h9 : ¬ en.id = e.id := fun h => HID.out h.symm; simp only [h9, or_false]), HH7, HVw7⟩
                case measure => simp [intOf]; omega
            · obtain rfl : k = es.length := by omega
              have hnn := HNN.out
              rw [List.take_length] at hnn
              have HN2 := Lib.hid hnn
              clear hnn HNN hk hkl
              by_cases h16 : es.length < 16
              · have d2 : decide (16 ≤ es.length) = false := decide_eq_false (by omega)
                have d3 : decide ((16 : Int) ≤ (es.length : Int)) = false := decide_eq_false (by omega)
                have HL16 := Lib.hid h16
                clear h16
                by_cases hm : en.id ∈ es.map E.id
                · obtain rfl : n = 7 := by rw [HN2.out, if_pos hm]
                  have HM := Lib.hid hm
                  clear hm
                  go_wp2_with (((with_reducible refine gate_ld (t := 42) rfl ?_); refine ev_load rfl rfl rfl HVy.out.load ?_))
                  refine (add_twice A3 c3 es en _ HHy.out.c3 HL16.out HM.out).mono ?_
                  rintro x w8 ⟨rfl, hb⟩
                  have HH8 := Lib.hid (HHy.out.move hb)
                  clear hb
                  go_wp2_with fail
                  refine (number_ 7 w8 (HE.out.below HH8.out.below)).mono ?_
                  rintro x w9 ⟨rfl, hb⟩
                  have HH9 := Lib.hid (HH8.out.move hb)
                  clear hb
                  go_wp2_with fail
                  go_meet
                  exact ⟨⟨es, HH9.out⟩⟩
                · obtain rfl : n = 0 := by rw [HN2.out, if_neg hm]
                  have HM := Lib.hid hm
                  clear hm
                  go_wp2_with (((with_reducible refine gate_ld (t := 42) rfl ?_); refine ev_load rfl rfl rfl HVy.out.load ?_))
                  refine (add_ok A3 c3 es en _ HHy.out.c3 HCC3.out HN3.out HL16.out HM.out).mono ?_
                  rintro x w8 ⟨v, rfl, hO, hb⟩
                  have HH8 := Lib.hid (HHy.out.move hb)
                  have HO8 : Hid (Own w8 w.heap.size v (es ++ [en])) := Lib.hid (own_less hO HHy.out.below.size)
                  have HV8 := Lib.hid (HVy.out.below hb)
                  clear hO hb
                  go_wp2_with fail
                  refine (number_nil w8).mono ?_
                  rintro x w9 ⟨rfl, hb⟩
                  have HH9 := Lib.hid (HH8.out.move hb)
                  have HO9 := Lib.hid (HO8.out.below hb)
                  have HV9 := Lib.hid (HV8.out.below hb)
                  clear hb HH8 HO8 HV8
                  go_upto_region 38 with fail
                  refine start_ (n := 8) (ds := ([] : List Nat)) (S := Held w g en A4 es v (es ++ [en])) #[false, false, false, false, false, false, false, false] (by kernel_rfl) rfl rfl ⟨HV9.out, HH9.out.c4, HO9.out, below_drew1 HH9.out.below⟩ (fun hHeld => ?_)
                  refine with_tabW script_tab38 script_bits38 (fun HT_ HW_ => ?_)
                  refine pure_ (i := 0) (N := (some 120)) (v := ?_) (a' := ?_) #[true, false, false, false, false, false, false, false] rfl rfl (any_of HT_.out (by kernel_rfl)) (fun _ _ _ h => h) (Or.inl ⟨by rfl, ?_⟩) ?_ ?_
                  rotate_left
                  · intro w'
                    go_simp
                    with_reducible rfl
                  rotate_left
                  · simp only [Act.put, List.setIfInBounds_toArray, List.set_cons_zero, List.set_cons_succ, i64_w, i32_w]
                    rfl
                  refine pure_ (i := 1) (N := (some 121)) (v := ?_) (a' := ?_) #[true, true, false, false, false, false, false, false] rfl rfl (any_of HT_.out (by kernel_rfl)) (fun _ _ _ h => h) (Or.inl ⟨by rfl, ?_⟩) ?_ ?_
                  rotate_left
                  · intro w'
                    go_simp
                    with_reducible rfl
                  rotate_left
                  · simp only [Act.put, List.setIfInBounds_toArray, List.set_cons_zero, List.set_cons_succ, i64_w, i32_w]
                    rfl
                  refine take_ (i := 3) (N := (some 123)) (v := (.agg #[.int .u16 en.id, .int .u16 0, .bool false, .int .i64 0, .bool false, .bool false, .bool false, .bool false, .int .i64 0, .string en.nm, .int .u16 en.ty, .slice none 0 0, .slice none 0 0, .slice none 0 0, .int .i64 0, .string en.cl, .int .i64 en.po, .bool false, .int .i64 en.un])) (a' := ?_) #[true, true, false, true, false, false, false, false] rfl rfl (take_ofW HT_.out HW_.out (by kernel_rfl)) (fun _ _ _ h => h) (Or.inl ⟨by rfl, ?_⟩) hHeld ?_ ?_
                  · intro w' hS
                    exact run_ld (t := 42) rfl rfl hS.var.load
                  rotate_left
                  · simp only [Act.put, List.setIfInBounds_toArray, List.set_cons_zero, List.set_cons_succ, i64_w, i32_w]
                    rfl
                  refine two_ (i := 2) (j := 4) (Ni := (some 122)) (Nj := (some 124)) #[true, true, true, true, false, false, false, false] #[true, true, false, true, true, false, false, false] rfl rfl rfl rfl (two_of HT_.out (by kernel_rfl)) (by decide) (by decide) (fun K hK => ?_) (fun K hK => ?_)
                  · refine st_copy (by rfl) (.inl rfl) rfl rfl rfl hHeld.c4 HN4.out (by have := HL16.out; omega) ?_
                    intro v1 wc hO1 hb
                    have HS1 := Lib.hid hHeld
                    have HO1 := Lib.hid hO1
                    have HB1 := Lib.hid hb
                    clear hO1
                    refine hK.out _ _ (hHeld.move hb) (fun hHeld => ?_)
                    clear hK K
                    refine norm_ (a' := ?_) ?_ ?_
                    rotate_left
                    · show Act.put _ (some 122) _ = _
                      simp only [Act.put, List.setIfInBounds_toArray, List.set_cons_zero, List.set_cons_succ, i64_w, i32_w]
                      rfl
                    refine one_ (i := 4) (N := (some 124)) #[true, true, true, true, true, false, false, false] rfl rfl (one_of HT_.out (by kernel_rfl)) (by decide) (fun K hK => ?_)
                    refine st_lit (by rfl) (.inl rfl) rfl rfl ?_
                    intro g8 wd hg8 hV8 hb hs8
                    have HLV := Lib.hid hV8
                    have HO1 := Lib.hid (HO1.out.below hb)
                    have HB1 := Lib.hid (HB1.out.trans (hb.mono HB1.out.size))
                    clear hg8 hV8 hs8
                    refine hK.out _ _ (hHeld.move hb) (fun hHeld => ?_)
                    clear hK K
                    refine norm_ (a' := ?_) ?_ ?_
                    rotate_left
                    · show Act.put _ (some 124) _ = _
                      simp only [Act.put, List.setIfInBounds_toArray, List.set_cons_zero, List.set_cons_succ, i64_w, i32_w]
                      rfl
                    refine one_ (i := 5) (N := (some 125)) #[true, true, true, true, true, true, false, false] rfl rfl (one_of HT_.out (by kernel_rfl)) (by decide) (fun K hK => ?_)
                    refine st_app (by rfl) (.inl rfl) rfl rfl rfl HO1.out HLV.out HB1.out.size (by have := HL16.out; omega) ?_
                    intro v2 wz hO2 hg2 hat2
                    have hb2 := HB1.out.grown hg2 HB1.out.size (fun k hk => own_base HO1.out k hk)
                    have HO2 := Lib.hid (own_less hO2 HS1.out.below.size)
                    refine hK.out _ _ (HS1.out.move hb2) (fun hHeld => ?_)
                    clear hK K
                    refine norm_ (a' := ?_) ?_ ?_
                    rotate_left
                    · show Act.put _ (some 125) _ = _
                      simp only [Act.put, List.setIfInBounds_toArray, List.set_cons_zero, List.set_cons_succ, i64_w, i32_w]
                      rfl
                    refine pure_ (i := 6) (N := (some 3)) (v := ?_) (a' := ?_) #[true, true, true, true, true, true, true, false] rfl rfl (any_of HT_.out (by kernel_rfl)) (fun _ _ _ h => h) (Or.inl ⟨by rfl, ?_⟩) ?_ ?_
                    rotate_left
                    · intro w'
                      go_simp
                      with_reducible rfl
                    rotate_left
                    · simp only [Act.put, List.setIfInBounds_toArray, List.set_cons_zero, List.set_cons_succ, i64_w, i32_w]
                      rfl
                    refine pure_ (i := 7) (N := (some 4)) (v := ?_) (a' := ?_) #[true, true, true, true, true, true, true, true] rfl rfl (any_of HT_.out (by kernel_rfl)) (fun _ _ _ h => h) (Or.inl ⟨by rfl, ?_⟩) ?_ ?_
                    rotate_left
                    · intro w'
                      go_simp
                      with_reducible rfl
                    rotate_left
                    · simp only [Act.put, List.setIfInBounds_toArray, List.set_cons_zero, List.set_cons_succ, i64_w, i32_w]
                      rfl
                    refine done_ (done_of HT_.out (by kernel_rfl)) ?_
                    go_wp2_with fail
                    go_meet
                    exact ⟨⟨es ++ [en], hHeld.own, HO2.out, by rw [List.length_append]; have := HL16.out; simp; omega, hHeld.below⟩⟩
                  · refine st_lit (by rfl) (.inl rfl) rfl rfl ?_
                    intro g8 wd hg8 hV8 hb hs8
                    have HLV := Lib.hid hV8
                    clear hg8 hV8 hs8
                    refine hK.out _ _ (hHeld.move hb) (fun hHeld => ?_)
                    clear hK K
                    refine norm_ (a' := ?_) ?_ ?_
                    rotate_left
                    · show Act.put _ (some 124) _ = _
                      simp only [Act.put, List.setIfInBounds_toArray, List.set_cons_zero, List.set_cons_succ, i64_w, i32_w]
                      rfl
                    refine one_ (i := 2) (N := (some 122)) #[true, true, true, true, true, false, false, false] rfl rfl (one_of HT_.out (by kernel_rfl)) (by decide) (fun K hK => ?_)
                    refine st_copy (by rfl) (.inl rfl) rfl rfl rfl hHeld.c4 HN4.out (by have := HL16.out; omega) ?_
                    intro v1 wc hO1 hb
                    have HS1 := Lib.hid hHeld
                    have HO1 := Lib.hid hO1
                    have HB1 := Lib.hid hb
                    have HLV := Lib.hid (HLV.out.below hb)
                    clear hO1
                    refine hK.out _ _ (hHeld.move hb) (fun hHeld => ?_)
                    clear hK K
                    refine norm_ (a' := ?_) ?_ ?_
                    rotate_left
                    · show Act.put _ (some 122) _ = _
                      simp only [Act.put, List.setIfInBounds_toArray, List.set_cons_zero, List.set_cons_succ, i64_w, i32_w]
                      rfl
                    refine one_ (i := 5) (N := (some 125)) #[true, true, true, true, true, true, false, false] rfl rfl (one_of HT_.out (by kernel_rfl)) (by decide) (fun K hK => ?_)
                    refine st_app (by rfl) (.inl rfl) rfl rfl rfl HO1.out HLV.out HB1.out.size (by have := HL16.out; omega) ?_
                    intro v2 wz hO2 hg2 hat2
                    have hb2 := HB1.out.grown hg2 HB1.out.size (fun k hk => own_base HO1.out k hk)
                    have HO2 := Lib.hid (own_less hO2 HS1.out.below.size)
                    refine hK.out _ _ (HS1.out.move hb2) (fun hHeld => ?_)
                    clear hK K
                    refine norm_ (a' := ?_) ?_ ?_
                    rotate_left
                    · show Act.put _ (some 125) _ = _
                      simp only [Act.put, List.setIfInBounds_toArray, List.set_cons_zero, List.set_cons_succ, i64_w, i32_w]
                      rfl
                    refine pure_ (i := 6) (N := (some 3)) (v := ?_) (a' := ?_) #[true, true, true, true, true, true, true, false] rfl rfl (any_of HT_.out (by kernel_rfl)) (fun _ _ _ h => h) (Or.inl ⟨by rfl, ?_⟩) ?_ ?_
                    rotate_left
                    · intro w'
                      go_simp
                      with_reducible rfl
                    rotate_left
                    · simp only [Act.put, List.setIfInBounds_toArray, List.set_cons_zero, List.set_cons_succ, i64_w, i32_w]
                      rfl
                    refine pure_ (i := 7) (N := (some 4)) (v := ?_) (a' := ?_) #[true, true, true, true, true, true, true, true] rfl rfl (any_of HT_.out (by kernel_rfl)) (fun _ _ _ h => h) (Or.inl ⟨by rfl, ?_⟩) ?_ ?_
                    rotate_left
                    · intro w'
                      go_simp
                      with_reducible rfl
                    rotate_left
                    · simp only [Act.put, List.setIfInBounds_toArray, List.set_cons_zero, List.set_cons_succ, i64_w, i32_w]
                      rfl
                    refine done_ (done_of HT_.out (by kernel_rfl)) ?_
                    go_wp2_with fail
                    go_meet
                    exact ⟨⟨es ++ [en], hHeld.own, HO2.out, by rw [List.length_append]; have := HL16.out; simp; omega, hHeld.below⟩⟩
              · have d2 : decide (16 ≤ es.length) = true := decide_eq_true (by omega)
                have d3 : decide ((16 : Int) ≤ (es.length : Int)) = true := decide_eq_true (by omega)
                have HL16 : Hid (16 ≤ es.length) := Lib.hid (by omega)
                clear h16 HN2
                go_wp2_with (((with_reducible refine gate_ld (t := 42) rfl ?_); refine ev_load rfl rfl rfl HVy.out.load ?_))
                refine (add_full A3 c3 es en _ HL16.out).mono ?_
                rintro x w8 ⟨rfl, hb⟩
                have HH8 := Lib.hid (HHy.out.move hb)
                clear hb
                go_wp2_with fail
                refine (number_ 9 w8 (HE.out.below HH8.out.below)).mono ?_
                rintro x w9 ⟨rfl, hb⟩
                have HH9 := Lib.hid (HH8.out.move hb)
                clear hb
                go_wp2_with fail
                go_meet
                exact ⟨⟨es, HH9.out⟩⟩
        · as_aux_lemma =>
          have hN4 : A4 = none → es.length = 0 ∧ c4 = 0 := fun h => by
            have := HH5.out.own4
            rw [h] at this
            exact this.none_
          have HN4 := Lib.hid hN4
          clear hN4 HX5
          go_wp2_with fail
          go_loopw [8, 79] (fun v8 i wy => ∃ (k : Nat) (n : Int), k ≤ es.length ∧ i = .int .i64 k ∧ v8 = .int .i64 n ∧ Hid (n = if en.id ∈ (es.take k).map E.id then 7 else 0) ∧ Hid (SHead w wy (.slice A3 es.length c3) (.slice A4 es.length c4) es) ∧ Hid (Var wy g en))
            (fun _ i _ => es.length - (intOf i).toNat)
          case atStart => exact ⟨0, 0, Nat.zero_le _, rfl, rfl, Lib.hid (by simp), HH5, HV5⟩
          case round =>
            obtain ⟨k, n, hk, rfl, rfl, HNN, HHy, HVy⟩ := hrel
            by_cases hkl : k < es.length
            · obtain ⟨e, he⟩ : ∃ e, es[k]? = some e := ⟨_, List.getElem?_eq_getElem hkl⟩
              obtain ⟨ad4, ha, -⟩ := load_ HHy.out.c4 k e he
              subst ha
              have HLD := Lib.hid (load_at HHy.out.c4 k e he)
              have htk : es.take (k + 1) = es.take k ++ [e] := by rw [List.take_add_one, he]; rfl
              have HTK := Lib.hid htk
              clear he htk
              have hwk : wrap64 ((k : Int) + 1) = (k : Int) + 1 := w64 (by omega) (by have := HHy.out.len; omega)
              have hwk2 : IntKind.i64.wrap ((k : Int) + 1) = (k : Int) + 1 := IntWalk.i64_in _ (by have := HHy.out.len; omega)
              have hy0 := (blk_ en HVy.out).1
              by_cases hid : e.id = en.id
              · have d1 : (e.id == en.id) = true := by simp [hid]
                have HID := Lib.hid hid
                clear hid hy0
                go_wp2_with (first
                  | ((with_reducible refine gate_dst (N := 82) rfl ?_); refine ev_load (t := 42) rfl rfl rfl HLD.out ?_)
                  | ((with_reducible refine gate_al (t := 42) rfl ?_); refine ev_new rfl rfl ?_; intro g6 w6 hg hV6 hb6 hs6; have HG6 := Lib.hid (show wr.heap.size ≤ g6 by omega); have HH6 := Lib.hid (HHy.out.move hb6); have HVw6 := Lib.hid (HVy.out.below hb6); have HV6 := Lib.hid hV6; clear hg hV6 hb6 hs6)
                  | ((with_reducible refine gate_st (t := 42) rfl ?_); obtain ⟨w7, hrun7, hV7, hg7⟩ := Var.store HV6.out e; refine ev_store rfl rfl rfl rfl rfl hrun7 ?_; have HH7 := Lib.hid (HHy.out.stored HH6.out HG6.out hg7); have HVw7 : Hid (Var w7 g en) := Lib.hid ((hg7.block g HVw6.out.lt (fun e => by injection e with e; have := HVy.out.lt; have := HG6.out; omega)).trans HVw6.out); have hx0 := (blk_ e hV7).1; have hy0 := (blk_ en HVw7.out).1; clear hrun7 hV7 hg7))
                go_roundw
                case rel => exact ⟨k + 1, 7, by omega, by first | go_num | simp, rfl, Lib.hid (by rw [HTK.out, if_pos (by rw [List.map_append]; simp [HID.out])]), HH7, HVw7⟩
                case measure => simp [intOf]; omega
              · have d1 : (e.id == en.id) = false := by simp [hid]
                have HID := Lib.hid hid
                clear hid hy0
                go_wp2_with (first
                  | ((with_reducible refine gate_dst (N := 82) rfl ?_); refine ev_load (t := 42) rfl rfl rfl HLD.out ?_)
                  | ((with_reducible refine gate_al (t := 42) rfl ?_); refine ev_new rfl rfl ?_; intro g6 w6 hg hV6 hb6 hs6; have HG6 := Lib.hid (show wr.heap.size ≤ g6 by omega); have HH6 := Lib.hid (HHy.out.move hb6); have HVw6 := Lib.hid (HVy.out.below hb6); have HV6 := Lib.hid hV6; clear hg hV6 hb6 hs6)
                  | ((with_reducible refine gate_st (t := 42) rfl ?_); obtain ⟨w7, hrun7, hV7, hg7⟩ := Var.store HV6.out e; refine ev_store rfl rfl rfl rfl rfl hrun7 ?_; have HH7 := Lib.hid (HHy.out.stored HH6.out HG6.out hg7); have HVw7 : Hid (Var w7 g en) := Lib.hid ((hg7.block g HVw6.out.lt (fun e => by injection e with e; have := HVy.out.lt; have := HG6.out; omega)).trans HVw6.out); have hx0 := (blk_ e hV7).1; have hy0 := (blk_ en HVw7.out).1; clear hrun7 hV7 hg7))
                go_roundw
                case rel => exact ⟨k + 1, n, by omega, by first | go_num | simp, rfl, Lib.hid (by rw [HTK.out, HNN.out, List.map_append, List.map_cons, List.map_nil]; simp only [List.mem_append, List.mem_singleton]; have h9 : ¬ en.id = e.id := fun h => HID.out h.symm; simp only [h9, or_false]), HH7, HVw7⟩
                case measure => simp [intOf]; omega
            · obtain rfl : k = es.length := by omega
              have hnn := HNN.out
              rw [List.take_length] at hnn
              have HN2 := Lib.hid hnn
              clear hnn HNN hk hkl
              by_cases h16 : es.length < 16
              · have d2 : decide (16 ≤ es.length) = false := decide_eq_false (by omega)
                have d3 : decide ((16 : Int) ≤ (es.length : Int)) = false := decide_eq_false (by omega)
                have HL16 := Lib.hid h16
                clear h16
                by_cases hm : en.id ∈ es.map E.id
                · obtain rfl : n = 7 := by rw [HN2.out, if_pos hm]
                  have HM := Lib.hid hm
                  clear hm
                  go_wp2_with (((with_reducible refine gate_ld (t := 42) rfl ?_); refine ev_load rfl rfl rfl HVy.out.load ?_))
                  refine (add_twice A3 c3 es en _ HHy.out.c3 HL16.out HM.out).mono ?_
                  rintro x w8 ⟨rfl, hb⟩
                  have HH8 := Lib.hid (HHy.out.move hb)
                  clear hb
                  go_wp2_with fail
                  refine (number_ 7 w8 (HE.out.below HH8.out.below)).mono ?_
                  rintro x w9 ⟨rfl, hb⟩
                  have HH9 := Lib.hid (HH8.out.move hb)
                  clear hb
                  go_wp2_with fail
                  go_meet
                  exact ⟨⟨es, HH9.out⟩⟩
                · obtain rfl : n = 0 := by rw [HN2.out, if_neg hm]
                  have HM := Lib.hid hm
                  clear hm
                  go_wp2_with (((with_reducible refine gate_ld (t := 42) rfl ?_); refine ev_load rfl rfl rfl HVy.out.load ?_))
                  refine (add_ok A3 c3 es en _ HHy.out.c3 HCC3.out HN3.out HL16.out HM.out).mono ?_
                  rintro x w8 ⟨v, rfl, hO, hb⟩
                  have HH8 := Lib.hid (HHy.out.move hb)
                  have HO8 : Hid (Own w8 w.heap.size v (es ++ [en])) := Lib.hid (own_less hO HHy.out.below.size)
                  have HV8 := Lib.hid (HVy.out.below hb)
                  clear hO hb
                  go_wp2_with fail
                  refine (number_nil w8).mono ?_
                  rintro x w9 ⟨rfl, hb⟩
                  have HH9 := Lib.hid (HH8.out.move hb)
                  have HO9 := Lib.hid (HO8.out.below hb)
                  have HV9 := Lib.hid (HV8.out.below hb)
                  clear hb HH8 HO8 HV8
                  go_upto_region 38 with fail
                  refine start_ (n := 8) (ds := ([] : List Nat)) (S := Held w g en A4 es v (es ++ [en])) #[false, false, false, false, false, false, false, false] (by kernel_rfl) rfl rfl ⟨HV9.out, HH9.out.c4, HO9.out, below_drew1 HH9.out.below⟩ (fun hHeld => ?_)
                  refine with_tabW script_tab38 script_bits38 (fun HT_ HW_ => ?_)
                  refine pure_ (i := 0) (N := (some 120)) (v := ?_) (a' := ?_) #[true, false, false, false, false, false, false, false] rfl rfl (any_of HT_.out (by kernel_rfl)) (fun _ _ _ h => h) (Or.inl ⟨by rfl, ?_⟩) ?_ ?_
                  rotate_left
                  · intro w'
                    go_simp
                    with_reducible rfl
                  rotate_left
                  · simp only [Act.put, List.setIfInBounds_toArray, List.set_cons_zero, List.set_cons_succ, i64_w, i32_w]
                    rfl
                  refine pure_ (i := 1) (N := (some 121)) (v := ?_) (a' := ?_) #[true, true, false, false, false, false, false, false] rfl rfl (any_of HT_.out (by kernel_rfl)) (fun _ _ _ h => h) (Or.inl ⟨by rfl, ?_⟩) ?_ ?_
                  rotate_left
                  · intro w'
                    go_simp
                    with_reducible rfl
                  rotate_left
                  · simp only [Act.put, List.setIfInBounds_toArray, List.set_cons_zero, List.set_cons_succ, i64_w, i32_w]
                    rfl
                  refine take_ (i := 3) (N := (some 123)) (v := (.agg #[.int .u16 en.id, .int .u16 0, .bool false, .int .i64 0, .bool false, .bool false, .bool false, .bool false, .int .i64 0, .string en.nm, .int .u16 en.ty, .slice none 0 0, .slice none 0 0, .slice none 0 0, .int .i64 0, .string en.cl, .int .i64 en.po, .bool false, .int .i64 en.un])) (a' := ?_) #[true, true, false, true, false, false, false, false] rfl rfl (take_ofW HT_.out HW_.out (by kernel_rfl)) (fun _ _ _ h => h) (Or.inl ⟨by rfl, ?_⟩) hHeld ?_ ?_
                  · intro w' hS
                    exact run_ld (t := 42) rfl rfl hS.var.load
                  rotate_left
                  · simp only [Act.put, List.setIfInBounds_toArray, List.set_cons_zero, List.set_cons_succ, i64_w, i32_w]
                    rfl
                  refine two_ (i := 2) (j := 4) (Ni := (some 122)) (Nj := (some 124)) #[true, true, true, true, false, false, false, false] #[true, true, false, true, true, false, false, false] rfl rfl rfl rfl (two_of HT_.out (by kernel_rfl)) (by decide) (by decide) (fun K hK => ?_) (fun K hK => ?_)
                  · refine st_copy (by rfl) (.inl rfl) rfl rfl rfl hHeld.c4 HN4.out (by have := HL16.out; omega) ?_
                    intro v1 wc hO1 hb
                    have HS1 := Lib.hid hHeld
                    have HO1 := Lib.hid hO1
                    have HB1 := Lib.hid hb
                    clear hO1
                    refine hK.out _ _ (hHeld.move hb) (fun hHeld => ?_)
                    clear hK K
                    refine norm_ (a' := ?_) ?_ ?_
                    rotate_left
                    · show Act.put _ (some 122) _ = _
                      simp only [Act.put, List.setIfInBounds_toArray, List.set_cons_zero, List.set_cons_succ, i64_w, i32_w]
                      rfl
                    refine one_ (i := 4) (N := (some 124)) #[true, true, true, true, true, false, false, false] rfl rfl (one_of HT_.out (by kernel_rfl)) (by decide) (fun K hK => ?_)
                    refine st_lit (by rfl) (.inl rfl) rfl rfl ?_
                    intro g8 wd hg8 hV8 hb hs8
                    have HLV := Lib.hid hV8
                    have HO1 := Lib.hid (HO1.out.below hb)
                    have HB1 := Lib.hid (HB1.out.trans (hb.mono HB1.out.size))
                    clear hg8 hV8 hs8
                    refine hK.out _ _ (hHeld.move hb) (fun hHeld => ?_)
                    clear hK K
                    refine norm_ (a' := ?_) ?_ ?_
                    rotate_left
                    · show Act.put _ (some 124) _ = _
                      simp only [Act.put, List.setIfInBounds_toArray, List.set_cons_zero, List.set_cons_succ, i64_w, i32_w]
                      rfl
                    refine one_ (i := 5) (N := (some 125)) #[true, true, true, true, true, true, false, false] rfl rfl (one_of HT_.out (by kernel_rfl)) (by decide) (fun K hK => ?_)
                    refine st_app (by rfl) (.inl rfl) rfl rfl rfl HO1.out HLV.out HB1.out.size (by have := HL16.out; omega) ?_
                    intro v2 wz hO2 hg2 hat2
                    have hb2 := HB1.out.grown hg2 HB1.out.size (fun k hk => own_base HO1.out k hk)
                    have HO2 := Lib.hid (own_less hO2 HS1.out.below.size)
                    refine hK.out _ _ (HS1.out.move hb2) (fun hHeld => ?_)
                    clear hK K
                    refine norm_ (a' := ?_) ?_ ?_
                    rotate_left
                    · show Act.put _ (some 125) _ = _
                      simp only [Act.put, List.setIfInBounds_toArray, List.set_cons_zero, List.set_cons_succ, i64_w, i32_w]
                      rfl
                    refine pure_ (i := 6) (N := (some 3)) (v := ?_) (a' := ?_) #[true, true, true, true, true, true, true, false] rfl rfl (any_of HT_.out (by kernel_rfl)) (fun _ _ _ h => h) (Or.inl ⟨by rfl, ?_⟩) ?_ ?_
                    rotate_left
                    · intro w'
                      go_simp
                      with_reducible rfl
                    rotate_left
                    · simp only [Act.put, List.setIfInBounds_toArray, List.set_cons_zero, List.set_cons_succ, i64_w, i32_w]
                      rfl
                    refine pure_ (i := 7) (N := (some 4)) (v := ?_) (a' := ?_) #[true, true, true, true, true, true, true, true] rfl rfl (any_of HT_.out (by kernel_rfl)) (fun _ _ _ h => h) (Or.inl ⟨by rfl, ?_⟩) ?_ ?_
                    rotate_left
                    · intro w'
                      go_simp
                      with_reducible rfl
                    rotate_left
                    · simp only [Act.put, List.setIfInBounds_toArray, List.set_cons_zero, List.set_cons_succ, i64_w, i32_w]
                      rfl
                    refine done_ (done_of HT_.out (by kernel_rfl)) ?_
                    go_wp2_with fail
                    go_meet
                    exact ⟨⟨es ++ [en], hHeld.own, HO2.out, by rw [List.length_append]; have := HL16.out; simp; omega, hHeld.below⟩⟩
                  · refine st_lit (by rfl) (.inl rfl) rfl rfl ?_
                    intro g8 wd hg8 hV8 hb hs8
                    have HLV := Lib.hid hV8
                    clear hg8 hV8 hs8
                    refine hK.out _ _ (hHeld.move hb) (fun hHeld => ?_)
                    clear hK K
                    refine norm_ (a' := ?_) ?_ ?_
                    rotate_left
                    · show Act.put _ (some 124) _ = _
                      simp only [Act.put, List.setIfInBounds_toArray, List.set_cons_zero, List.set_cons_succ, i64_w, i32_w]
                      rfl
                    refine one_ (i := 2) (N := (some 122)) #[true, true, true, true, true, false, false, false] rfl rfl (one_of HT_.out (by kernel_rfl)) (by decide) (fun K hK => ?_)
                    refine st_copy (by rfl) (.inl rfl) rfl rfl rfl hHeld.c4 HN4.out (by have := HL16.out; omega) ?_
                    intro v1 wc hO1 hb
                    have HS1 := Lib.hid hHeld
                    have HO1 := Lib.hid hO1
                    have HB1 := Lib.hid hb
                    have HLV := Lib.hid (HLV.out.below hb)
                    clear hO1
                    refine hK.out _ _ (hHeld.move hb) (fun hHeld => ?_)
                    clear hK K
                    refine norm_ (a' := ?_) ?_ ?_
                    rotate_left
                    · show Act.put _ (some 122) _ = _
                      simp only [Act.put, List.setIfInBounds_toArray, List.set_cons_zero, List.set_cons_succ, i64_w, i32_w]
                      rfl
                    refine one_ (i := 5) (N := (some 125)) #[true, true, true, true, true, true, false, false] rfl rfl (one_of HT_.out (by kernel_rfl)) (by decide) (fun K hK => ?_)
                    refine st_app (by rfl) (.inl rfl) rfl rfl rfl HO1.out HLV.out HB1.out.size (by have := HL16.out; omega) ?_
                    intro v2 wz hO2 hg2 hat2
                    have hb2 := HB1.out.grown hg2 HB1.out.size (fun k hk => own_base HO1.out k hk)
                    have HO2 := Lib.hid (own_less hO2 HS1.out.below.size)
                    refine hK.out _ _ (HS1.out.move hb2) (fun hHeld => ?_)
                    clear hK K
                    refine norm_ (a' := ?_) ?_ ?_
                    rotate_left
                    · show Act.put _ (some 125) _ = _
                      simp only [Act.put, List.setIfInBounds_toArray, List.set_cons_zero, List.set_cons_succ, i64_w, i32_w]
                      rfl
                    refine pure_ (i := 6) (N := (some 3)) (v := ?_) (a' := ?_) #[true, true, true, true, true, true, true, false] rfl rfl (any_of HT_.out (by kernel_rfl)) (fun _ _ _ h => h) (Or.inl ⟨by rfl, ?_⟩) ?_ ?_
                    rotate_left
                    · intro w'
                      go_simp
                      with_reducible rfl
                    rotate_left
                    · simp only [Act.put, List.setIfInBounds_toArray, List.set_cons_zero, List.set_cons_succ, i64_w, i32_w]
                      rfl
                    refine pure_ (i := 7) (N := (some 4)) (v := ?_) (a' := ?_) #[true, true, true, true, true, true, true, true] rfl rfl (any_of HT_.out (by kernel_rfl)) (fun _ _ _ h => h) (Or.inl ⟨by rfl, ?_⟩) ?_ ?_
                    rotate_left
                    · intro w'
                      go_simp
                      with_reducible rfl
                    rotate_left
                    · simp only [Act.put, List.setIfInBounds_toArray, List.set_cons_zero, List.set_cons_succ, i64_w, i32_w]
                      rfl
                    refine done_ (done_of HT_.out (by kernel_rfl)) ?_
                    go_wp2_with fail
                    go_meet
                    exact ⟨⟨es ++ [en], hHeld.own, HO2.out, by rw [List.length_append]; have := HL16.out; simp; omega, hHeld.below⟩⟩
              · have d2 : decide (16 ≤ es.length) = true := decide_eq_true (by omega)
                have d3 : decide ((16 : Int) ≤ (es.length : Int)) = true := decide_eq_true (by omega)
                have HL16 : Hid (16 ≤ es.length) := Lib.hid (by omega)
                clear h16 HN2
                go_wp2_with (((with_reducible refine gate_ld (t := 42) rfl ?_); refine ev_load rfl rfl rfl HVy.out.load ?_))
                refine (add_full A3 c3 es en _ HL16.out).mono ?_
                rintro x w8 ⟨rfl, hb⟩
                have HH8 := Lib.hid (HHy.out.move hb)
                clear hb
                go_wp2_with fail
                refine (number_ 9 w8 (HE.out.below HH8.out.below)).mono ?_
                rintro x w9 ⟨rfl, hb⟩
                have HH9 := Lib.hid (HH8.out.move hb)
                clear hb
                go_wp2_with fail
                go_meet
                exact ⟨⟨es, HH9.out⟩⟩
        · as_aux_lemma =>
          have hN4 : A4 = none → es.length = 0 ∧ c4 = 0 := fun h => by
            have := HH5.out.own4
            rw [h] at this
            exact this.none_
          have HN4 := Lib.hid hN4
          clear hN4 HX5
          go_wp2_with fail
          go_loopw [8, 79] (fun v8 i wy => ∃ (k : Nat) (n : Int), k ≤ es.length ∧ i = .int .i64 k ∧ v8 = .int .i64 n ∧ Hid (n = if en.id ∈ (es.take k).map E.id then 7 else 0) ∧ Hid (SHead w wy (.slice A3 es.length c3) (.slice A4 es.length c4) es) ∧ Hid (Var wy g en))
            (fun _ i _ => es.length - (intOf i).toNat)
          case atStart => exact ⟨0, 0, Nat.zero_le _, rfl, rfl, Lib.hid (by simp), HH5, HV5⟩
          case round =>
            obtain ⟨k, n, hk, rfl, rfl, HNN, HHy, HVy⟩ := hrel
            by_cases hkl : k < es.length
            · obtain ⟨e, he⟩ : ∃ e, es[k]? = some e := ⟨_, List.getElem?_eq_getElem hkl⟩
              obtain ⟨ad4, ha, -⟩ := load_ HHy.out.c4 k e he
              subst ha
              have HLD := Lib.hid (load_at HHy.out.c4 k e he)
              have htk : es.take (k + 1) = es.take k ++ [e] := by rw [List.take_add_one, he]; rfl
              have HTK := Lib.hid htk
              clear he htk
              have hwk : wrap64 ((k : Int) + 1) = (k : Int) + 1 := w64 (by omega) (by have := HHy.out.len; omega)
              have hwk2 : IntKind.i64.wrap ((k : Int) + 1) = (k : Int) + 1 := IntWalk.i64_in _ (by have := HHy.out.len; omega)
              have hy0 := (blk_ en HVy.out).1
              by_cases hid : e.id = en.id
              · have d1 : (e.id == en.id) = true := by simp [hid]
                have HID := Lib.hid hid
                clear hid hy0
                go_wp2_with (first
                  | ((with_reducible refine gate_dst (N := 82) rfl ?_); refine ev_load (t := 42) rfl rfl rfl HLD.out ?_)
                  | ((with_reducible refine gate_al (t := 42) rfl ?_); refine ev_new rfl rfl ?_; intro g6 w6 hg hV6 hb6 hs6; have HG6 := Lib.hid (show wr.heap.size ≤ g6 by omega); have HH6 := Lib.hid (HHy.out.move hb6); have HVw6 := Lib.hid (HVy.out.below hb6); have HV6 := Lib.hid hV6; clear hg hV6 hb6 hs6)
                  | ((with_reducible refine gate_st (t := 42) rfl ?_); obtain ⟨w7, hrun7, hV7, hg7⟩ := Var.store HV6.out e; refine ev_store rfl rfl rfl rfl rfl hrun7 ?_; have HH7 := Lib.hid (HHy.out.stored HH6.out HG6.out hg7); have HVw7 : Hid (Var w7 g en) := Lib.hid ((hg7.block g HVw6.out.lt (fun e => by injection e with e; have := HVy.out.lt; have := HG6.out; omega)).trans HVw6.out); have hx0 := (blk_ e hV7).1; have hy0 := (blk_ en HVw7.out).1; clear hrun7 hV7 hg7))
                go_roundw
                case rel => exact ⟨k + 1, 7, by omega, by first | go_num | simp, rfl, Lib.hid (by rw [HTK.out, if_pos (by rw [List.map_append]; simp [HID.out])]), HH7, HVw7⟩
                case measure => simp [intOf]; omega
              · have d1 : (e.id == en.id) = false := by simp [hid]
                have HID := Lib.hid hid
                clear hid hy0
                go_wp2_with (first
                  | ((with_reducible refine gate_dst (N := 82) rfl ?_); refine ev_load (t := 42) rfl rfl rfl HLD.out ?_)
                  | ((with_reducible refine gate_al (t := 42) rfl ?_); refine ev_new rfl rfl ?_; intro g6 w6 hg hV6 hb6 hs6; have HG6 := Lib.hid (show wr.heap.size ≤ g6 by omega); have HH6 := Lib.hid (HHy.out.move hb6); have HVw6 := Lib.hid (HVy.out.below hb6); have HV6 := Lib.hid hV6; clear hg hV6 hb6 hs6)
                  | ((with_reducible refine gate_st (t := 42) rfl ?_); obtain ⟨w7, hrun7, hV7, hg7⟩ := Var.store HV6.out e; refine ev_store rfl rfl rfl rfl rfl hrun7 ?_; have HH7 := Lib.hid (HHy.out.stored HH6.out HG6.out hg7); have HVw7 : Hid (Var w7 g en) := Lib.hid ((hg7.block g HVw6.out.lt (fun e => by injection e with e; have := HVy.out.lt; have := HG6.out; omega)).trans HVw6.out); have hx0 := (blk_ e hV7).1; have hy0 := (blk_ en HVw7.out).1; clear hrun7 hV7 hg7))
                go_roundw
                case rel => exact ⟨k + 1, n, by omega, by first | go_num | simp, rfl, Lib.hid (by rw [HTK.out, HNN.out, List.map_append, List.map_cons, List.map_nil]; simp only [List.mem_append, List.mem_singleton]; have h9 : ¬ en.id = e.id := fun h => HID.out h.symm; simp only [h9, or_false]), HH7, HVw7⟩
                case measure => simp [intOf]; omega
            · obtain rfl : k = es.length := by omega
              have hnn := HNN.out
              rw [List.take_length] at hnn
              have HN2 := Lib.hid hnn
              clear hnn HNN hk hkl
              by_cases h16 : es.length < 16
              · have d2 : decide (16 ≤ es.length) = false := decide_eq_false (by omega)
                have d3 : decide ((16 : Int) ≤ (es.length : Int)) = false := decide_eq_false (by omega)
                have HL16 := Lib.hid h16
                clear h16
                by_cases hm : en.id ∈ es.map E.id
                · obtain rfl : n = 7 := by rw [HN2.out, if_pos hm]
                  have HM := Lib.hid hm
                  clear hm
                  go_wp2_with (((with_reducible refine gate_ld (t := 42) rfl ?_); refine ev_load rfl rfl rfl HVy.out.load ?_))
                  refine (add_twice A3 c3 es en _ HHy.out.c3 HL16.out HM.out).mono ?_
                  rintro x w8 ⟨rfl, hb⟩
                  have HH8 := Lib.hid (HHy.out.move hb)
                  clear hb
                  go_wp2_with fail
                  refine (number_ 7 w8 (HE.out.below HH8.out.below)).mono ?_
                  rintro x w9 ⟨rfl, hb⟩
                  have HH9 := Lib.hid (HH8.out.move hb)
                  clear hb
                  go_wp2_with fail
                  go_meet
                  exact ⟨⟨es, HH9.out⟩⟩
                · obtain rfl : n = 0 := by rw [HN2.out, if_neg hm]
                  have HM := Lib.hid hm
                  clear hm
                  go_wp2_with (((with_reducible refine gate_ld (t := 42) rfl ?_); refine ev_load rfl rfl rfl HVy.out.load ?_))
                  refine (add_ok A3 c3 es en _ HHy.out.c3 HCC3.out HN3.out HL16.out HM.out).mono ?_
                  rintro x w8 ⟨v, rfl, hO, hb⟩
                  have HH8 := Lib.hid (HHy.out.move hb)
                  have HO8 : Hid (Own w8 w.heap.size v (es ++ [en])) := Lib.hid (own_less hO HHy.out.below.size)
                  have HV8 := Lib.hid (HVy.out.below hb)
                  clear hO hb
                  go_wp2_with fail
                  refine (number_nil w8).mono ?_
                  rintro x w9 ⟨rfl, hb⟩
                  have HH9 := Lib.hid (HH8.out.move hb)
                  have HO9 := Lib.hid (HO8.out.below hb)
                  have HV9 := Lib.hid (HV8.out.below hb)
                  clear hb HH8 HO8 HV8
                  go_upto_region 38 with fail
                  refine start_ (n := 8) (ds := ([] : List Nat)) (S := Held w g en A4 es v (es ++ [en])) #[false, false, false, false, false, false, false, false] (by kernel_rfl) rfl rfl ⟨HV9.out, HH9.out.c4, HO9.out, below_drew1 HH9.out.below⟩ (fun hHeld => ?_)
                  refine with_tabW script_tab38 script_bits38 (fun HT_ HW_ => ?_)
                  refine pure_ (i := 0) (N := (some 120)) (v := ?_) (a' := ?_) #[true, false, false, false, false, false, false, false] rfl rfl (any_of HT_.out (by kernel_rfl)) (fun _ _ _ h => h) (Or.inl ⟨by rfl, ?_⟩) ?_ ?_
                  rotate_left
                  · intro w'
                    go_simp
                    with_reducible rfl
                  rotate_left
                  · simp only [Act.put, List.setIfInBounds_toArray, List.set_cons_zero, List.set_cons_succ, i64_w, i32_w]
                    rfl
                  refine pure_ (i := 1) (N := (some 121)) (v := ?_) (a' := ?_) #[true, true, false, false, false, false, false, false] rfl rfl (any_of HT_.out (by kernel_rfl)) (fun _ _ _ h => h) (Or.inl ⟨by rfl, ?_⟩) ?_ ?_
                  rotate_left
                  · intro w'
                    go_simp
                    with_reducible rfl
                  rotate_left
                  · simp only [Act.put, List.setIfInBounds_toArray, List.set_cons_zero, List.set_cons_succ, i64_w, i32_w]
                    rfl
                  refine take_ (i := 3) (N := (some 123)) (v := (.agg #[.int .u16 en.id, .int .u16 0, .bool false, .int .i64 0, .bool false, .bool false, .bool false, .bool false, .int .i64 0, .string en.nm, .int .u16 en.ty, .slice none 0 0, .slice none 0 0, .slice none 0 0, .int .i64 0, .string en.cl, .int .i64 en.po, .bool false, .int .i64 en.un])) (a' := ?_) #[true, true, false, true, false, false, false, false] rfl rfl (take_ofW HT_.out HW_.out (by kernel_rfl)) (fun _ _ _ h => h) (Or.inl ⟨by rfl, ?_⟩) hHeld ?_ ?_
                  · intro w' hS
                    exact run_ld (t := 42) rfl rfl hS.var.load
                  rotate_left
                  · simp only [Act.put, List.setIfInBounds_toArray, List.set_cons_zero, List.set_cons_succ, i64_w, i32_w]
                    rfl
                  refine two_ (i := 2) (j := 4) (Ni := (some 122)) (Nj := (some 124)) #[true, true, true, true, false, false, false, false] #[true, true, false, true, true, false, false, false] rfl rfl rfl rfl (two_of HT_.out (by kernel_rfl)) (by decide) (by decide) (fun K hK => ?_) (fun K hK => ?_)
                  · refine st_copy (by rfl) (.inl rfl) rfl rfl rfl hHeld.c4 HN4.out (by have := HL16.out; omega) ?_
                    intro v1 wc hO1 hb
                    have HS1 := Lib.hid hHeld
                    have HO1 := Lib.hid hO1
                    have HB1 := Lib.hid hb
                    clear hO1
                    refine hK.out _ _ (hHeld.move hb) (fun hHeld => ?_)
                    clear hK K
                    refine norm_ (a' := ?_) ?_ ?_
                    rotate_left
                    · show Act.put _ (some 122) _ = _
                      simp only [Act.put, List.setIfInBounds_toArray, List.set_cons_zero, List.set_cons_succ, i64_w, i32_w]
                      rfl
                    refine one_ (i := 4) (N := (some 124)) #[true, true, true, true, true, false, false, false] rfl rfl (one_of HT_.out (by kernel_rfl)) (by decide) (fun K hK => ?_)
                    refine st_lit (by rfl) (.inl rfl) rfl rfl ?_
                    intro g8 wd hg8 hV8 hb hs8
                    have HLV := Lib.hid hV8
                    have HO1 := Lib.hid (HO1.out.below hb)
                    have HB1 := Lib.hid (HB1.out.trans (hb.mono HB1.out.size))
                    clear hg8 hV8 hs8
                    refine hK.out _ _ (hHeld.move hb) (fun hHeld => ?_)
                    clear hK K
                    refine norm_ (a' := ?_) ?_ ?_
                    rotate_left
                    · show Act.put _ (some 124) _ = _
                      simp only [Act.put, List.setIfInBounds_toArray, List.set_cons_zero, List.set_cons_succ, i64_w, i32_w]
                      rfl
                    refine one_ (i := 5) (N := (some 125)) #[true, true, true, true, true, true, false, false] rfl rfl (one_of HT_.out (by kernel_rfl)) (by decide) (fun K hK => ?_)
                    refine st_app (by rfl) (.inl rfl) rfl rfl rfl HO1.out HLV.out HB1.out.size (by have := HL16.out; omega) ?_
                    intro v2 wz hO2 hg2 hat2
                    have hb2 := HB1.out.grown hg2 HB1.out.size (fun k hk => own_base HO1.out k hk)
                    have HO2 := Lib.hid (own_less hO2 HS1.out.below.size)
                    refine hK.out _ _ (HS1.out.move hb2) (fun hHeld => ?_)
                    clear hK K
                    refine norm_ (a' := ?_) ?_ ?_
                    rotate_left
                    · show Act.put _ (some 125) _ = _
                      simp only [Act.put, List.setIfInBounds_toArray, List.set_cons_zero, List.set_cons_succ, i64_w, i32_w]
                      rfl
                    refine pure_ (i := 6) (N := (some 3)) (v := ?_) (a' := ?_) #[true, true, true, true, true, true, true, false] rfl rfl (any_of HT_.out (by kernel_rfl)) (fun _ _ _ h => h) (Or.inl ⟨by rfl, ?_⟩) ?_ ?_
                    rotate_left
                    · intro w'
                      go_simp
                      with_reducible rfl
                    rotate_left
                    · simp only [Act.put, List.setIfInBounds_toArray, List.set_cons_zero, List.set_cons_succ, i64_w, i32_w]
                      rfl
                    refine pure_ (i := 7) (N := (some 4)) (v := ?_) (a' := ?_) #[true, true, true, true, true, true, true, true] rfl rfl (any_of HT_.out (by kernel_rfl)) (fun _ _ _ h => h) (Or.inl ⟨by rfl, ?_⟩) ?_ ?_
                    rotate_left
                    · intro w'
                      go_simp
                      with_reducible rfl
                    rotate_left
                    · simp only [Act.put, List.setIfInBounds_toArray, List.set_cons_zero, List.set_cons_succ, i64_w, i32_w]
                      rfl
                    refine done_ (done_of HT_.out (by kernel_rfl)) ?_
                    go_wp2_with fail
                    go_meet
                    exact ⟨⟨es ++ [en], hHeld.own, HO2.out, by rw [List.length_append]; have := HL16.out; simp; omega, hHeld.below⟩⟩
                  · refine st_lit (by rfl) (.inl rfl) rfl rfl ?_
                    intro g8 wd hg8 hV8 hb hs8
                    have HLV := Lib.hid hV8
                    clear hg8 hV8 hs8
                    refine hK.out _ _ (hHeld.move hb) (fun hHeld => ?_)
                    clear hK K
                    refine norm_ (a' := ?_) ?_ ?_
                    rotate_left
                    · show Act.put _ (some 124) _ = _
                      simp only [Act.put, List.setIfInBounds_toArray, List.set_cons_zero, List.set_cons_succ, i64_w, i32_w]
                      rfl
                    refine one_ (i := 2) (N := (some 122)) #[true, true, true, true, true, false, false, false] rfl rfl (one_of HT_.out (by kernel_rfl)) (by decide) (fun K hK => ?_)
                    refine st_copy (by rfl) (.inl rfl) rfl rfl rfl hHeld.c4 HN4.out (by have := HL16.out; omega) ?_
                    intro v1 wc hO1 hb
                    have HS1 := Lib.hid hHeld
                    have HO1 := Lib.hid hO1
                    have HB1 := Lib.hid hb
                    have HLV := Lib.hid (HLV.out.below hb)
                    clear hO1
                    refine hK.out _ _ (hHeld.move hb) (fun hHeld => ?_)
                    clear hK K
                    refine norm_ (a' := ?_) ?_ ?_
                    rotate_left
                    · show Act.put _ (some 122) _ = _
                      simp only [Act.put, List.setIfInBounds_toArray, List.set_cons_zero, List.set_cons_succ, i64_w, i32_w]
                      rfl
                    refine one_ (i := 5) (N := (some 125)) #[true, true, true, true, true, true, false, false] rfl rfl (one_of HT_.out (by kernel_rfl)) (by decide) (fun K hK => ?_)
                    refine st_app (by rfl) (.inl rfl) rfl rfl rfl HO1.out HLV.out HB1.out.size (by have := HL16.out; omega) ?_
                    intro v2 wz hO2 hg2 hat2
                    have hb2 := HB1.out.grown hg2 HB1.out.size (fun k hk => own_base HO1.out k hk)
                    have HO2 := Lib.hid (own_less hO2 HS1.out.below.size)
                    refine hK.out _ _ (HS1.out.move hb2) (fun hHeld => ?_)
                    clear hK K
                    refine norm_ (a' := ?_) ?_ ?_
                    rotate_left
                    · show Act.put _ (some 125) _ = _
                      simp only [Act.put, List.setIfInBounds_toArray, List.set_cons_zero, List.set_cons_succ, i64_w, i32_w]
                      rfl
                    refine pure_ (i := 6) (N := (some 3)) (v := ?_) (a' := ?_) #[true, true, true, true, true, true, true, false] rfl rfl (any_of HT_.out (by kernel_rfl)) (fun _ _ _ h => h) (Or.inl ⟨by rfl, ?_⟩) ?_ ?_
                    rotate_left
                    · intro w'
                      go_simp
                      with_reducible rfl
                    rotate_left
                    · simp only [Act.put, List.setIfInBounds_toArray, List.set_cons_zero, List.set_cons_succ, i64_w, i32_w]
                      rfl
                    refine pure_ (i := 7) (N := (some 4)) (v := ?_) (a' := ?_) #[true, true, true, true, true, true, true, true] rfl rfl (any_of HT_.out (by kernel_rfl)) (fun _ _ _ h => h) (Or.inl ⟨by rfl, ?_⟩) ?_ ?_
                    rotate_left
                    · intro w'
                      go_simp
                      with_reducible rfl
                    rotate_left
                    · simp only [Act.put, List.setIfInBounds_toArray, List.set_cons_zero, List.set_cons_succ, i64_w, i32_w]
                      rfl
                    refine done_ (done_of HT_.out (by kernel_rfl)) ?_
                    go_wp2_with fail
                    go_meet
                    exact ⟨⟨es ++ [en], hHeld.own, HO2.out, by rw [List.length_append]; have := HL16.out; simp; omega, hHeld.below⟩⟩
              · have d2 : decide (16 ≤ es.length) = true := decide_eq_true (by omega)
                have d3 : decide ((16 : Int) ≤ (es.length : Int)) = true := decide_eq_true (by omega)
                have HL16 : Hid (16 ≤ es.length) := Lib.hid (by omega)
                clear h16 HN2
                go_wp2_with (((with_reducible refine gate_ld (t := 42) rfl ?_); refine ev_load rfl rfl rfl HVy.out.load ?_))
                refine (add_full A3 c3 es en _ HL16.out).mono ?_
                rintro x w8 ⟨rfl, hb⟩
                have HH8 := Lib.hid (HHy.out.move hb)
                clear hb
                go_wp2_with fail
                refine (number_ 9 w8 (HE.out.below HH8.out.below)).mono ?_
                rintro x w9 ⟨rfl, hb⟩
                have HH9 := Lib.hid (HH8.out.move hb)
                clear hb
                go_wp2_with fail
                go_meet
                exact ⟨⟨es, HH9.out⟩⟩
        · as_aux_lemma =>
          clear HX5
          have HP0 : Hid (First es 0 (hit en.id en.nm en.ty) (-1)) := Lib.hid (First.zero _ _)
          go_wp2_with fail
          go_loopw [13, 130] (fun v13 i wr => ∃ (k : Nat) (z : Int), k ≤ es.length ∧ i = .int .i64 k ∧ v13 = .int .i64 z ∧ Hid (First es k (hit en.id en.nm en.ty) z) ∧ Hid (SHead w wr (.slice A3 es.length c3) (.slice A4 es.length c4) es) ∧ Hid (Var wr g en))
            (fun _ i _ => es.length - (intOf i).toNat)
          case atStart => exact ⟨0, -1, Nat.zero_le _, rfl, rfl, HP0, HH5, HV5⟩
          case round =>
            obtain ⟨k, z, hk, rfl, rfl, HFI, HHy, HVy⟩ := hrel
            by_cases hkl : k < es.length
            · obtain ⟨e, he⟩ : ∃ e, es[k]? = some e := ⟨_, List.getElem?_eq_getElem hkl⟩
              obtain ⟨ad4, ha, -⟩ := load_ HHy.out.c4 k e he
              subst ha
              have HLD := Lib.hid (load_at HHy.out.c4 k e he)
              have HGE := Lib.hid he
              clear he
              have hwk : wrap64 ((k : Int) + 1) = (k : Int) + 1 := w64 (by omega) (by have := HHy.out.len; omega)
              have hwk2 : IntKind.i64.wrap ((k : Int) + 1) = (k : Int) + 1 := IntWalk.i64_in _ (by have := HHy.out.len; omega)
              cases hh : hit en.id en.nm en.ty e with
              | false =>
                have HF2 := Lib.hid (HFI.out.no HGE.out hh)
                by_cases hid : e.id = en.id
                · have d1 : (e.id == en.id) = true := by simp [hid]
                  have d2 : (e.nm.toList == en.nm.toList && (e.ty == en.ty)) = false := question_ne hh hid
                  clear hid hh
                  go_wp2_with (first
                    | ((with_reducible refine gate_dst (N := 134) rfl ?_); refine ev_load (t := 42) rfl rfl rfl HLD.out ?_)
                    | ((with_reducible refine gate_al (t := 42) rfl ?_); refine ev_new rfl rfl ?_; intro g6 w6 hg hV6 hb6 hs6; have HG6 := Lib.hid (show wr.heap.size ≤ g6 by omega); have HH6 := Lib.hid (HHy.out.move hb6); have HVw6 := Lib.hid (HVy.out.below hb6); have HV6 := Lib.hid hV6; clear hg hV6 hb6 hs6)
                    | ((with_reducible refine gate_st (t := 42) rfl ?_); obtain ⟨w7, hrun7, hV7, hg7⟩ := Var.store HV6.out e; refine ev_store rfl rfl rfl rfl rfl hrun7 ?_; have HH7 := Lib.hid (HHy.out.stored HH6.out HG6.out hg7); have HVw7 : Hid (Var w7 g en) := Lib.hid ((hg7.block g HVw6.out.lt (fun e => by injection e with e; have := HVy.out.lt; have := HG6.out; omega)).trans HVw6.out); have hx0 := (blk_ e hV7).1; have hy0 := (blk_ en HVw7.out).1; obtain ⟨hx9, hx10⟩ := Var.c9 hV7; obtain ⟨hy9, hy10⟩ := HVw7.out.c9; clear hrun7 hV7 hg7))
                  go_roundw
                  case rel => exact ⟨k + 1, z, by omega, by first | go_num | simp, rfl, HF2, HH7, HVw7⟩
                  case measure => simp [intOf]; omega
                · have d1 : (e.id == en.id) = false := by simp [hid]
                  clear hid hh
                  go_wp2_with (first
                    | ((with_reducible refine gate_dst (N := 134) rfl ?_); refine ev_load (t := 42) rfl rfl rfl HLD.out ?_)
                    | ((with_reducible refine gate_al (t := 42) rfl ?_); refine ev_new rfl rfl ?_; intro g6 w6 hg hV6 hb6 hs6; have HG6 := Lib.hid (show wr.heap.size ≤ g6 by omega); have HH6 := Lib.hid (HHy.out.move hb6); have HVw6 := Lib.hid (HVy.out.below hb6); have HV6 := Lib.hid hV6; clear hg hV6 hb6 hs6)
                    | ((with_reducible refine gate_st (t := 42) rfl ?_); obtain ⟨w7, hrun7, hV7, hg7⟩ := Var.store HV6.out e; refine ev_store rfl rfl rfl rfl rfl hrun7 ?_; have HH7 := Lib.hid (HHy.out.stored HH6.out HG6.out hg7); have HVw7 : Hid (Var w7 g en) := Lib.hid ((hg7.block g HVw6.out.lt (fun e => by injection e with e; have := HVy.out.lt; have := HG6.out; omega)).trans HVw6.out); have hx0 := (blk_ e hV7).1; have hy0 := (blk_ en HVw7.out).1; obtain ⟨hx9, hx10⟩ := Var.c9 hV7; obtain ⟨hy9, hy10⟩ := HVw7.out.c9; clear hrun7 hV7 hg7))
                  go_roundw
                  case rel => exact ⟨k + 1, z, by omega, by first | go_num | simp, rfl, HF2, HH7, HVw7⟩
                  case measure => simp [intOf]; omega
              | true =>
                have h3 : e.id = en.id ∧ e.nm = en.nm ∧ e.ty = en.ty := by simpa [hit] using hh
                have d1 : (e.id == en.id) = true := by simp [h3.1]
                have d2 : (e.nm.toList == en.nm.toList && (e.ty == en.ty)) = true := by rw [h3.2.1, h3.2.2]; simp
                have HHT := Lib.hid hh
                clear hh h3
                rcases HFI.out.split with rfl | ⟨j, rfl⟩
                · have HF2 := Lib.hid (HFI.out.hit HGE.out HHT.out)
                  go_wp2_with (first
                    | ((with_reducible refine gate_dst (N := 134) rfl ?_); refine ev_load (t := 42) rfl rfl rfl HLD.out ?_)
                    | ((with_reducible refine gate_al (t := 42) rfl ?_); refine ev_new rfl rfl ?_; intro g6 w6 hg hV6 hb6 hs6; have HG6 := Lib.hid (show wr.heap.size ≤ g6 by omega); have HH6 := Lib.hid (HHy.out.move hb6); have HVw6 := Lib.hid (HVy.out.below hb6); have HV6 := Lib.hid hV6; clear hg hV6 hb6 hs6)
                    | ((with_reducible refine gate_st (t := 42) rfl ?_); obtain ⟨w7, hrun7, hV7, hg7⟩ := Var.store HV6.out e; refine ev_store rfl rfl rfl rfl rfl hrun7 ?_; have HH7 := Lib.hid (HHy.out.stored HH6.out HG6.out hg7); have HVw7 : Hid (Var w7 g en) := Lib.hid ((hg7.block g HVw6.out.lt (fun e => by injection e with e; have := HVy.out.lt; have := HG6.out; omega)).trans HVw6.out); have hx0 := (blk_ e hV7).1; have hy0 := (blk_ en HVw7.out).1; obtain ⟨hx9, hx10⟩ := Var.c9 hV7; obtain ⟨hy9, hy10⟩ := HVw7.out.c9; clear hrun7 hV7 hg7))
                  go_roundw
                  case rel => exact ⟨k + 1, k, by omega, by first | go_num | simp, rfl, HF2, HH7, HVw7⟩
                  case measure => simp [intOf]; omega
                · have HF2 := Lib.hid (HFI.out.kept)
                  have dj : decide ((j : Int) < 0) = false := decide_eq_false (by omega)
                  go_wp2_with (first
                    | ((with_reducible refine gate_dst (N := 134) rfl ?_); refine ev_load (t := 42) rfl rfl rfl HLD.out ?_)
                    | ((with_reducible refine gate_al (t := 42) rfl ?_); refine ev_new rfl rfl ?_; intro g6 w6 hg hV6 hb6 hs6; have HG6 := Lib.hid (show wr.heap.size ≤ g6 by omega); have HH6 := Lib.hid (HHy.out.move hb6); have HVw6 := Lib.hid (HVy.out.below hb6); have HV6 := Lib.hid hV6; clear hg hV6 hb6 hs6)
                    | ((with_reducible refine gate_st (t := 42) rfl ?_); obtain ⟨w7, hrun7, hV7, hg7⟩ := Var.store HV6.out e; refine ev_store rfl rfl rfl rfl rfl hrun7 ?_; have HH7 := Lib.hid (HHy.out.stored HH6.out HG6.out hg7); have HVw7 : Hid (Var w7 g en) := Lib.hid ((hg7.block g HVw6.out.lt (fun e => by injection e with e; have := HVy.out.lt; have := HG6.out; omega)).trans HVw6.out); have hx0 := (blk_ e hV7).1; have hy0 := (blk_ en HVw7.out).1; obtain ⟨hx9, hx10⟩ := Var.c9 hV7; obtain ⟨hy9, hy10⟩ := HVw7.out.c9; clear hrun7 hV7 hg7))
                  go_roundw
                  case rel => exact ⟨k + 1, j, by omega, by first | go_num | simp, rfl, HF2, HH7, HVw7⟩
                  case measure => simp [intOf]; omega
            · obtain rfl : k = es.length := by omega
              clear hk hkl
              have hy0 := (blk_ en HVy.out).1
              obtain ⟨hy9, hy10⟩ := HVy.out.c9
              go_wp2_with fail
              with_reducible refine (match_ A3 c3 es en.id en.nm en.ty _ HHy.out.c3 HN3.out (by have := HHy.out.len; omega)).mono ?_
              rintro x w8 ⟨hb, hx⟩
              have HH8 := Lib.hid (HHy.out.move hb)
              have HSZ := Lib.hid (HHy.out.below.size)
              clear hb hy0 hy9 hy10
              rcases hx with ⟨k, e, v, he, hh, hn, rfl, hO⟩ | ⟨hn, rfl⟩
              · obtain rfl : z = (k : Int) := HFI.out.at_ he hh hn
                have hkl := (List.getElem?_eq_some_iff.1 he).1
                obtain ⟨ad4, ha, -⟩ := load_ HH8.out.c4 k e he
                subst ha
                obtain ⟨g4, ha⟩ := Own.base_ HH8.out.own4
                subst ha
                have hcc9 := HH8.out.cap4
                have HGE := Lib.hid he
                have HO8 : Hid (Own w8 w.heap.size v (es.eraseIdx k)) := Lib.hid (own_less hO HSZ.out)
                have HKL := Lib.hid hkl
                have HCC := Lib.hid hcc9
                have dk : decide ((0 : Int) ≤ (k : Int)) = true := decide_eq_true (by omega)
                clear hn hO hh he hkl hcc9
                go_upto_region 51 with (first
                  | ((with_reducible refine gate_al (t := 42) rfl ?_); refine ev_new rfl rfl ?_; intro g6 w6 hg hV6 hb6 hs6; have HG6 := Lib.hid (show w8.heap.size ≤ g6 by omega); have HH6 := Lib.hid (HH8.out.move hb6); have HO6 := Lib.hid (Own.below HO8.out hb6); have HV6 := Lib.hid hV6; clear hg hV6 hb6 hs6)
                  | ((with_reducible refine gate_st (t := 42) rfl ?_); obtain ⟨w7, hrun7, hV7, hg7⟩ := Var.store HV6.out e; refine ev_store rfl rfl rfl rfl rfl hrun7 ?_; have HH7 := Lib.hid (HH8.out.stored HH6.out HG6.out hg7); have HV7 := Lib.hid hV7; have HO7 : Hid (Own w7 w.heap.size v (es.eraseIdx k)) := Lib.hid ((Turned.of_grown (F := [g6]) hg7 fun q e => by injection e with e; simp [e]).own HO6.out fun q hq hm => by have h1 := own_lt HO8.out q hq; have h2 := List.mem_singleton.1 hm; have h3 := HG6.out; omega); clear hrun7 hV7 hg7))
                have q1 : (0 : Int) ≤ (k : Int) := by omega
                have q2 : (k : Int) < (es.length : Int) := by have := HKL.out; omega
                refine start_ (n := 7) (ds := ([] : List Nat)) (S := Held w g6 e (some ⟨g4, 0, none⟩) es v (es.eraseIdx k)) #[false, false, false, false, false, false, false] (by kernel_rfl) rfl rfl ⟨HV7.out, HH7.out.c4, HO7.out, below_drew1 HH7.out.below⟩ (fun hHeld => ?_)
                refine with_tabW script_tab51 script_bits51 (fun HT_ HW_ => ?_)
                refine pure_ (i := 1) (N := (some 187)) (v := ?_) (a' := ?_) #[false, true, false, false, false, false, false] rfl rfl (any_of HT_.out (by kernel_rfl)) (fun _ _ _ h => h) (Or.inl ⟨by rfl, ?_⟩) ?_ ?_
                rotate_left
                · intro w'
                  go_simp
                  with_reducible rfl
                rotate_left
                · simp only [Act.put, List.setIfInBounds_toArray, List.set_cons_zero, List.set_cons_succ, i64_w, i32_w]
                  rfl
                refine pure_ (i := 2) (N := (some 188)) (v := ?_) (a' := ?_) #[false, true, true, false, false, false, false] rfl rfl (any_of HT_.out (by kernel_rfl)) (fun _ _ _ h => h) (Or.inl ⟨by rfl, ?_⟩) ?_ ?_
                rotate_left
                · intro w'
                  go_simp
                  with_reducible rfl
                rotate_left
                · simp only [Act.put, List.setIfInBounds_toArray, List.set_cons_zero, List.set_cons_succ, i64_w, i32_w]
                  rfl
                refine pure_ (i := 3) (N := (some 189)) (v := ?_) (a' := ?_) #[false, true, true, true, false, false, false] rfl rfl (any_of HT_.out (by kernel_rfl)) (fun _ _ _ h => h) (Or.inl ⟨by rfl, ?_⟩) ?_ ?_
                rotate_left
                · intro w'
                  go_simp
                  with_reducible rfl
                rotate_left
                · simp only [Act.put, List.setIfInBounds_toArray, List.set_cons_zero, List.set_cons_succ, i64_w, i32_w]
                  rfl
                refine take_ (i := 0) (N := (some 186)) (v := (.agg #[.int .u16 e.id, .int .u16 0, .bool false, .int .i64 0, .bool false, .bool false, .bool false, .bool false, .int .i64 0, .string e.nm, .int .u16 e.ty, .slice none 0 0, .slice none 0 0, .slice none 0 0, .int .i64 0, .string e.cl, .int .i64 e.po, .bool false, .int .i64 e.un])) (a' := ?_) #[true, true, true, true, false, false, false] rfl rfl (take_ofW HT_.out HW_.out (by kernel_rfl)) (fun _ _ _ h => h) (Or.inl ⟨by rfl, ?_⟩) hHeld ?_ ?_
                · intro w' hS
                  exact run_ld (t := 42) rfl rfl hS.var.load
                rotate_left
                · simp only [Act.put, List.setIfInBounds_toArray, List.set_cons_zero, List.set_cons_succ, i64_w, i32_w]
                  rfl
                refine take_ (i := 4) (N := (some 190)) (v := (.agg #[.int .u16 e.id, .int .u16 0, .bool false, .int .i64 0, .bool false, .bool false, .bool false, .bool false, .int .i64 0, .string e.nm, .int .u16 e.ty, .slice none 0 0, .slice none 0 0, .slice none 0 0, .int .i64 0, .string e.cl, .int .i64 e.po, .bool false, .int .i64 e.un])) (a' := ?_) #[true, true, true, true, true, false, false] rfl rfl (take_ofW HT_.out HW_.out (by kernel_rfl)) (fun _ _ _ h => h) (Or.inl ⟨by rfl, ?_⟩) hHeld ?_ ?_
                · intro w' hS
                  have h9 := load_at hS.c4 k e HGE.out
                  rw [Addr.add_lit, Nat.zero_add] at h9
                  exact run_ld (t := 42) rfl rfl (by first | exact h9 | exact load_at hS.c4 k e HGE.out)
                rotate_left
                · simp only [Act.put, List.setIfInBounds_toArray, List.set_cons_zero, List.set_cons_succ, i64_w, i32_w]
                  rfl
                refine one_ (i := 5) (N := (some 191)) #[true, true, true, true, true, true, false] rfl rfl (one_of HT_.out (by kernel_rfl)) (by decide) (fun K hK => ?_)
                refine goes_ Tryd.func12 (by kernel_rfl) rfl #[(.agg #[.int .u16 e.id, .int .u16 0, .bool false, .int .i64 0, .bool false, .bool false, .bool false, .bool false, .int .i64 0, .string e.nm, .int .u16 e.ty, .slice none 0 0, .slice none 0 0, .slice none 0 0, .int .i64 0, .string e.cl, .int .i64 e.po, .bool false, .int .i64 e.un]), (.agg #[.int .u16 e.id, .int .u16 0, .bool false, .int .i64 0, .bool false, .bool false, .bool false, .bool false, .int .i64 0, .string e.nm, .int .u16 e.ty, .slice none 0 0, .slice none 0 0, .slice none 0 0, .int .i64 0, .string e.cl, .int .i64 e.po, .bool false, .int .i64 e.un])] (by rfl) rfl rfl (by (try simp only [List.map_toArray, List.map_cons, List.map_nil]); rfl) ?_
                with_reducible refine (same_ e _).mono ?_
                rintro x wq ⟨rfl, hb⟩
                refine ⟨_, rfl, ?_⟩
                refine hK.out _ _ (hHeld.move hb) (fun hHeld => ?_)
                clear hK K
                refine norm_ (a' := ?_) ?_ ?_
                rotate_left
                · show Act.put _ (some 191) _ = _
                  simp only [Act.put, List.setIfInBounds_toArray, List.set_cons_zero, List.set_cons_succ, i64_w, i32_w]
                  rfl
                refine pure_ (i := 6) (N := (some 192)) (v := ?_) (a' := ?_) #[true, true, true, true, true, true, true] rfl rfl (any_of HT_.out (by kernel_rfl)) (fun _ _ _ h => h) (Or.inl ⟨by rfl, ?_⟩) ?_ ?_
                rotate_left
                · intro w'
                  go_simp
                  with_reducible rfl
                rotate_left
                · simp only [Act.put, List.setIfInBounds_toArray, List.set_cons_zero, List.set_cons_succ, i64_w, i32_w]
                  rfl
                refine done_ (done_of HT_.out (by kernel_rfl)) ?_
                go_upto_region 53 with fail
                have hsB := slice_hi g4 es.length c4 k (by have := HKL.out; have := HCC.out; omega) (by have := HKL.out; omega)
                have hsC := slice_lo g4 es.length c4 k HCC.out HKL.out
                obtain ⟨a0, ha0⟩ : ∃ a0, (if c4 = k + 1 then (⟨g4, 0, none⟩ : Addr) else ⟨g4, (k + 1) * 19, none⟩) = a0 := ⟨_, rfl⟩
                rw [ha0] at hsC
                have HA0 := Lib.hid ha0
                have hwk : wrap64 ((k : Int) + 1) = (k : Int) + 1 := w64 (by omega) (by have := HHy.out.len; omega)
                have hwk2 : IntKind.i64.wrap ((k : Int) + 1) = (k : Int) + 1 := IntWalk.i64_in _ (by have := HHy.out.len; omega)
                have HTL : Hid ((es.take k).length = k) := Lib.hid (by rw [List.length_take]; have := HKL.out; omega)
                have HDL : Hid ((es.drop (k + 1)).length = es.length - (k + 1)) := Lib.hid List.length_drop
                obtain ⟨m, hm⟩ : ∃ m, es.length - (k + 1) = m := ⟨_, rfl⟩
                rw [hm] at hsC HDL
                clear ha0 hm
                refine start_ (n := 12) (ds := ([] : List Nat)) (S := Held w g6 e (some ⟨g4, 0, none⟩) es v (es.eraseIdx k)) #[false, false, false, false, false, false, false, false, false, false, false, false] (by kernel_rfl) rfl rfl ⟨hHeld.var, hHeld.c4, hHeld.own, below_drew1 hHeld.below⟩ (fun hHeld => ?_)
                refine with_tabW script_tab53 script_bits53 (fun HT_ HW_ => ?_)
                refine pure_ (i := 0) (N := (some 193)) (v := ?_) (a' := ?_) #[true, false, false, false, false, false, false, false, false, false, false, false] rfl rfl (any_of HT_.out (by kernel_rfl)) (fun _ _ _ h => h) (Or.inl ⟨by rfl, ?_⟩) ?_ ?_
                rotate_left
                · intro w'
                  go_simp
                  with_reducible rfl
                rotate_left
                · simp only [Act.put, List.setIfInBounds_toArray, List.set_cons_zero, List.set_cons_succ, i64_w, i32_w]
                  rfl
                refine pure_ (i := 1) (N := (some 194)) (v := ?_) (a' := ?_) #[true, true, false, false, false, false, false, false, false, false, false, false] rfl rfl (any_of HT_.out (by kernel_rfl)) (fun _ _ _ h => h) (Or.inl ⟨by rfl, ?_⟩) ?_ ?_
                rotate_left
                · intro w'
                  go_simp
                  with_reducible rfl
                rotate_left
                · simp only [Act.put, List.setIfInBounds_toArray, List.set_cons_zero, List.set_cons_succ, i64_w, i32_w]
                  rfl
                refine pure_ (i := 2) (N := (some 195)) (v := ?_) (a' := ?_) #[true, true, true, false, false, false, false, false, false, false, false, false] rfl rfl (any_of HT_.out (by kernel_rfl)) (fun _ _ _ h => h) (Or.inl ⟨by rfl, ?_⟩) ?_ ?_
                rotate_left
                · intro w'
                  go_simp
                  with_reducible rfl
                rotate_left
                · simp only [Act.put, List.setIfInBounds_toArray, List.set_cons_zero, List.set_cons_succ, i64_w, i32_w]
                  rfl
                refine pure_ (i := 3) (N := (some 196)) (v := ?_) (a' := ?_) #[true, true, true, true, false, false, false, false, false, false, false, false] rfl rfl (any_of HT_.out (by kernel_rfl)) (fun _ _ _ h => h) (Or.inl ⟨by rfl, ?_⟩) ?_ ?_
                rotate_left
                · intro w'
                  go_simp
                  with_reducible rfl
                rotate_left
                · simp only [Act.put, List.setIfInBounds_toArray, List.set_cons_zero, List.set_cons_succ, i64_w, i32_w]
                  rfl
                refine pure_ (i := 5) (N := (some 198)) (v := ?_) (a' := ?_) #[true, true, true, true, false, true, false, false, false, false, false, false] rfl rfl (any_of HT_.out (by kernel_rfl)) (fun _ _ _ h => h) (Or.inl ⟨by rfl, ?_⟩) ?_ ?_
                rotate_left
                · intro w'
                  go_simp
                  with_reducible rfl
                rotate_left
                · simp only [Act.put, List.setIfInBounds_toArray, List.set_cons_zero, List.set_cons_succ, i64_w, i32_w]
                  rfl
                refine pure_ (i := 6) (N := (some 199)) (v := ?_) (a' := ?_) #[true, true, true, true, false, true, true, false, false, false, false, false] rfl rfl (any_of HT_.out (by kernel_rfl)) (fun _ _ _ h => h) (Or.inl ⟨by rfl, ?_⟩) ?_ ?_
                rotate_left
                · intro w'
                  go_simp
                  with_reducible rfl
                rotate_left
                · simp only [Act.put, List.setIfInBounds_toArray, List.set_cons_zero, List.set_cons_succ, i64_w, i32_w]
                  rfl
                refine pure_ (i := 7) (N := (some 200)) (v := ?_) (a' := ?_) #[true, true, true, true, false, true, true, true, false, false, false, false] rfl rfl (any_of HT_.out (by kernel_rfl)) (fun _ _ _ h => h) (Or.inl ⟨by rfl, ?_⟩) ?_ ?_
                rotate_left
                · intro w'
                  go_simp
                  with_reducible rfl
                rotate_left
                · simp only [Act.put, List.setIfInBounds_toArray, List.set_cons_zero, List.set_cons_succ, i64_w, i32_w]
                  rfl
                refine pure_ (i := 8) (N := (some 201)) (v := ?_) (a' := ?_) #[true, true, true, true, false, true, true, true, true, false, false, false] rfl rfl (any_of HT_.out (by kernel_rfl)) (fun _ _ _ h => h) (Or.inl ⟨by rfl, ?_⟩) ?_ ?_
                rotate_left
                · intro w'
                  go_simp
                  with_reducible rfl
                rotate_left
                · simp only [Act.put, List.setIfInBounds_toArray, List.set_cons_zero, List.set_cons_succ, i64_w, i32_w]
                  rfl
                refine one_ (i := 4) (N := (some 197)) #[true, true, true, true, true, true, true, true, true, false, false, false] rfl rfl (one_of HT_.out (by kernel_rfl)) (by decide) (fun K hK => ?_)
                refine st_copy (ns := es.take k) (A := some ⟨g4, 0, none⟩) (c := c4) (by rfl) (.inl rfl) rfl rfl (by rw [HTL.out]; rfl) (C_take hHeld.c4 k) (fun h => by cases h) (by rw [HTL.out]; have := HKL.out; have := HHy.out.len; omega) ?_
                intro v1 wc hO1 hb
                have HS1 := Lib.hid hHeld
                have HO1 := Lib.hid hO1
                have HB1 := Lib.hid hb
                clear hO1
                refine hK.out _ _ (hHeld.move hb) (fun hHeld => ?_)
                clear hK K
                refine norm_ (a' := ?_) ?_ ?_
                rotate_left
                · show Act.put _ (some 197) _ = _
                  simp only [Act.put, List.setIfInBounds_toArray, List.set_cons_zero, List.set_cons_succ, i64_w, i32_w]
                  rfl
                refine one_ (i := 9) (N := (some 202)) #[true, true, true, true, true, true, true, true, true, true, false, false] rfl rfl (one_of HT_.out (by kernel_rfl)) (by decide) (fun K hK => ?_)
                refine st_apps (ns := es.drop (k + 1)) (ad := a0) (c := c4 - (k + 1)) (by rfl) (.inl rfl) rfl rfl (by rw [HDL.out]; rfl) HO1.out (by rw [← HA0.out]; exact C_drop hHeld.c4 HCC.out (k + 1) HKL.out) HB1.out.size (by rw [HTL.out]; have := HKL.out; have := HHy.out.len; omega) (by rw [List.length_drop]; have := HHy.out.len; omega) ?_
                intro v2 wz hO2 hg2 hat2
                have hb2 := HB1.out.grown hg2 HB1.out.size (fun k hk => own_base HO1.out k hk)
                have HO2 := Lib.hid (own_less hO2 HS1.out.below.size)
                refine hK.out _ _ (HS1.out.move hb2) (fun hHeld => ?_)
                clear hK K
                refine norm_ (a' := ?_) ?_ ?_
                rotate_left
                · show Act.put _ (some 202) _ = _
                  simp only [Act.put, List.setIfInBounds_toArray, List.set_cons_zero, List.set_cons_succ, i64_w, i32_w]
                  rfl
                refine pure_ (i := 10) (N := (some 3)) (v := ?_) (a' := ?_) #[true, true, true, true, true, true, true, true, true, true, true, false] rfl rfl (any_of HT_.out (by kernel_rfl)) (fun _ _ _ h => h) (Or.inl ⟨by rfl, ?_⟩) ?_ ?_
                rotate_left
                · intro w'
                  go_simp
                  with_reducible rfl
                rotate_left
                · simp only [Act.put, List.setIfInBounds_toArray, List.set_cons_zero, List.set_cons_succ, i64_w, i32_w]
                  rfl
                refine pure_ (i := 11) (N := (some 4)) (v := ?_) (a' := ?_) #[true, true, true, true, true, true, true, true, true, true, true, true] rfl rfl (any_of HT_.out (by kernel_rfl)) (fun _ _ _ h => h) (Or.inl ⟨by rfl, ?_⟩) ?_ ?_
                rotate_left
                · intro w'
                  go_simp
                  with_reducible rfl
                rotate_left
                · simp only [Act.put, List.setIfInBounds_toArray, List.set_cons_zero, List.set_cons_succ, i64_w, i32_w]
                  rfl
                refine done_ (done_of HT_.out (by kernel_rfl)) ?_
                go_wp2_with fail
                go_meet
                exact ⟨⟨es.eraseIdx k, hHeld.own, by rw [List.eraseIdx_eq_take_drop_succ]; exact HO2.out, by rw [List.length_eraseIdx]; split <;> have := HHy.out.len <;> omega, hHeld.below⟩⟩
              · obtain rfl : z = -1 := HFI.out.none hn
                clear hn
                go_wp2_with (first
                  | ((with_reducible refine gate_al (t := 42) rfl ?_); refine ev_new rfl rfl ?_; intro g6 w6 hg hV6 hb6 hs6; have HG6 := Lib.hid (show w8.heap.size ≤ g6 by omega); have HH6 := Lib.hid (HH8.out.move hb6); have HV6 := Lib.hid hV6; clear hg hV6 hb6 hs6)
                  | ((with_reducible refine gate_st (t := 42) rfl ?_); obtain ⟨w7, hrun7, hV7, hg7⟩ := Var.store HV6.out zE; refine ev_store rfl rfl rfl rfl rfl hrun7 ?_; have HH7 := Lib.hid (HH8.out.stored HH6.out HG6.out hg7); have HV7 := Lib.hid hV7; clear hrun7 hV7 hg7)
                  | ((with_reducible refine gate_dst (N := 178) rfl ?_); refine ev_gload (t := 42) (by rfl) rfl rfl HV7.out.load ?_))
                refine (same_ zE _).mono ?_
                rintro x w9 ⟨rfl, hb⟩
                have HH9 := Lib.hid (HH7.out.move hb)
                clear hb
                go_wp2_with fail
                go_meet
                exact ⟨⟨es, HH9.out⟩⟩
        · as_aux_lemma =>
          have hz4 := (HWX.out).out.2.2.2.2
          simp only at hz4
          have hw4 : IntKind.i64.wrap x4 = x4 := IntWalk.i64_in _ (by omega)
          have hw5 : wrap64 x4 = x4 := w64 (by omega) (by omega)
          have HW4 := Lib.hid hw4
          have HW5 := Lib.hid hw5
          clear hz4 hw4 hw5
          have HX0 : Hid (XHead w5 w5 (.slice none 0 0) (.slice none 0 0) (es.take 0) x4) := Lib.hid ⟨World.ownsRow_nil _ _ _ _, World.ownsRow_nil _ _ _ _, fun k hk => by simp [Value.ownBlock] at hk, Below.refl _ _⟩
          go_wp2_with fail
          go_loopw [19, 20, 40] (fun v6 v7 i wr => ∃ k : Nat, k ≤ es.length ∧ i = .int .i64 k ∧ Hid (XHead w5 wr v6 v7 (es.take k) x4))
            (fun _ _ i _ => es.length - (intOf i).toNat)
          case atStart => exact ⟨0, Nat.zero_le _, rfl, HX0⟩
          case round =>
            obtain ⟨k, hk, rfl, HH⟩ := hrel
            have HL := Lib.hid (HH5.out.len)
            by_cases hkl : k < es.length
            · obtain ⟨e, he⟩ : ∃ e, es[k]? = some e := ⟨_, List.getElem?_eq_getElem hkl⟩
              have hC4 := Kd.C_below HH5.out.c4 HH.out.below
              obtain ⟨ad4, ha, -⟩ := load_ hC4 k e he
              subst ha
              have HLD := Lib.hid (load_at hC4 k e he)
              have htk : es.take (k + 1) = es.take k ++ [e] := by rw [List.take_add_one, he]; rfl
              have HTK := Lib.hid htk
              clear he htk hC4
              have hfl6 : ((es.take k).filter fun e => decide (e.un ≤ x4)).length ≤ 1048576 := Nat.le_trans (List.length_filter_le _ _) (by rw [List.length_take]; have := HL.out; omega)
              have hfl7 : ((es.take k).filter fun e => !decide (e.un ≤ x4)).length ≤ 1048576 := Nat.le_trans (List.length_filter_le _ _) (by rw [List.length_take]; have := HL.out; omega)
              have HF6 := Lib.hid hfl6
              have HF7 := Lib.hid hfl7
              have hwk : wrap64 ((k : Int) + 1) = (k : Int) + 1 := w64 (by omega) (by have := HL.out; omega)
              have hwk2 : IntKind.i64.wrap ((k : Int) + 1) = (k : Int) + 1 := IntWalk.i64_in _ (by have := HL.out; omega)
              clear hfl6 hfl7
              have hw4 := HW4.out
              have hw5 := HW5.out
              cases hd : decide (e.un ≤ x4) with
              | true =>
                go_wp2_with (first
                  | ((with_reducible refine gate_dst (N := 43) rfl ?_); refine ev_load (t := 42) rfl rfl rfl HLD.out ?_)
                  | ((with_reducible refine gate_al (t := 42) rfl ?_); refine ev_new rfl rfl ?_; intro g6 w6 hg hV4 hb4 hs4; have HG := Lib.hid (show wr.heap.size ≤ g6 by omega); have HHa := Lib.hid (HH.out.move hb4); have HV4 := Lib.hid hV4; clear hg hV4 hb4 hs4)
                  | ((with_reducible refine gate_st (t := 42) rfl ?_); obtain ⟨wb, hrun5, hVb, hgb⟩ := Var.store HV4.out e; refine ev_store rfl rfl rfl rfl rfl hrun5 ?_; have HVb := Lib.hid hVb; have HHb := Lib.hid (HH.out.stored HHa.out HG.out hgb); have hc18 := hVb.c18; obtain ⟨-, -, -, -, y4⟩ := cells5 (blk_below HX5.out HHb.out.below); clear hrun5 hVb hgb)
                  | ((with_reducible refine gate_ld (t := 42) rfl ?_); refine ev_load rfl rfl rfl HVb.out.load ?_)
                  | ((with_reducible refine gate_dst (N := 52) rfl ?_); refine ev_lit rfl (.inl rfl) rfl rfl ?_; intro g7 w7 hg7 hV7 hb7 hs7; have HV7 := Lib.hid hV7; have HH7 := Lib.hid (HHb.out.move hb7); clear hg7 hV7 hb7 hs7)
                  | ((with_reducible refine gate_builtin (b := .append) (xs := #[.tmp 50, .tmp 52]) rfl ?_); at_builtin; refine ev_app rfl (.inl rfl) rfl rfl rfl HH7.out.own6 HV7.out HH7.out.below.size HF6.out ?_; intro v8 w8 hO8 hg8 hat8; have HH8 := Lib.hid (HH7.out.more6 hd hO8 hg8 hat8); clear hO8 hg8 hat8))
                go_roundw
                case rel => clear hw4 hw5; exact ⟨k + 1, by omega, by first | go_num | simp, by rw [HTK.out]; exact HH8⟩
                case measure => clear hw4 hw5; simp [intOf]; omega
              | false =>
                go_wp2_with (first
                  | ((with_reducible refine gate_dst (N := 43) rfl ?_); refine ev_load (t := 42) rfl rfl rfl HLD.out ?_)
                  | ((with_reducible refine gate_al (t := 42) rfl ?_); refine ev_new rfl rfl ?_; intro g6 w6 hg hV4 hb4 hs4; have HG := Lib.hid (show wr.heap.size ≤ g6 by omega); have HHa := Lib.hid (HH.out.move hb4); have HV4 := Lib.hid hV4; clear hg hV4 hb4 hs4)
                  | ((with_reducible refine gate_st (t := 42) rfl ?_); obtain ⟨wb, hrun5, hVb, hgb⟩ := Var.store HV4.out e; refine ev_store rfl rfl rfl rfl rfl hrun5 ?_; have HVb := Lib.hid hVb; have HHb := Lib.hid (HH.out.stored HHa.out HG.out hgb); have hc18 := hVb.c18; obtain ⟨-, -, -, -, y4⟩ := cells5 (blk_below HX5.out HHb.out.below); clear hrun5 hVb hgb)
                  | ((with_reducible refine gate_ld (t := 42) rfl ?_); refine ev_load rfl rfl rfl HVb.out.load ?_)
                  | ((with_reducible refine gate_dst (N := 56) rfl ?_); refine ev_lit rfl (.inl rfl) rfl rfl ?_; intro g7 w7 hg7 hV7 hb7 hs7; have HV7 := Lib.hid hV7; have HH7 := Lib.hid (HHb.out.move hb7); clear hg7 hV7 hb7 hs7)
                  | ((with_reducible refine gate_builtin (b := .append) (xs := #[.tmp 54, .tmp 56]) rfl ?_); at_builtin; refine ev_app rfl (.inl rfl) rfl rfl rfl HH7.out.own7 HV7.out HH7.out.below.size HF7.out ?_; intro v8 w8 hO8 hg8 hat8; have HH8 := Lib.hid (HH7.out.more7 hd hO8 hg8 hat8); clear hO8 hg8 hat8))
                go_roundw
                case rel => clear hw4 hw5; exact ⟨k + 1, by omega, by first | go_num | simp, by rw [HTK.out]; exact HH8⟩
                case measure => clear hw4 hw5; simp [intOf]; omega
            · obtain rfl : k = es.length := by omega
              have h1 := HH.out.own6
              have h2 := HH.out.own7
              rw [List.take_length] at h1 h2
              obtain ⟨gs, hgs⟩ : ∃ gs, (es.filter fun e => decide (e.un ≤ x4)) = gs := ⟨_, rfl⟩
              obtain ⟨ss, hss⟩ : ∃ ss, (es.filter fun e => !decide (e.un ≤ x4)) = ss := ⟨_, rfl⟩
              rw [hgs] at h1
              rw [hss] at h2
              have hsl : ss.length ≤ 16 := by rw [← hss]; exact Nat.le_trans (List.length_filter_le _ _) HL.out
              obtain ⟨A6, c6, hv6, hcc6, hcm6, hC6⟩ := h1.reads
              subst hv6
              have H2 := Lib.hid h2
              have HC6 := Lib.hid hC6
              have HGS := Lib.hid hgs
              have HSS := Lib.hid hss
              have HSL := Lib.hid hsl
              have HBW := Lib.hid HH.out.below
              clear h1 h2 hgs hss hsl hcc6 hcm6 hC6 hk hkl HH
              obtain ⟨-, -, -, -, y4⟩ := cells5 (blk_below HX5.out HBW.out)
              have hw4 := HW4.out
              have hw5 := HW5.out
              go_wp2_with fail
              clear hw4 hw5
              with_reducible refine (expire_ A3 c3 es x4 _ (Kd.C_below HH5.out.c3 HBW.out) (by have := HL.out; omega)).mono ?_
              rintro x w8 ⟨v1, v2, rfl, hO1, hO2, hb⟩
              rw [HGS.out] at hO1
              rw [HSS.out] at hO2
              obtain ⟨A7, c7, hv7, hcc7, hcm7, hC7⟩ := hO1.reads
              subst hv7
              have HC7 := Lib.hid hC7
              have HC6 := Lib.hid (Kd.C_below HC6.out hb)
              have H28 := Lib.hid (Own.below H2.out hb)
              have HO2 := Lib.hid (own_less hO2 (Nat.le_trans HH5.out.below.size HBW.out.size))
              have HBB := Lib.hid ((HH5.out.below.trans (HBW.out.mono HH5.out.below.size)).trans (hb.mono (Nat.le_trans HH5.out.below.size HBW.out.size)))
              have H24 := Lib.hid (own_less H28.out HH5.out.below.size)
              clear hO1 hO2 hcc7 hcm7 hC7 hb H28 H2 y4
              go_wp2_with fail
              refine (all_ A7 c7 A6 c6 gs _ HC7.out HC6.out).mono ?_
              rintro e w9 ⟨rfl, hb⟩
              have HF3 : Hid (Own w9 w.heap.size v2 ss) := Lib.hid (Own.below HO2.out hb)
              have HF4 := Lib.hid (Own.below H24.out hb)
              have HFB := Lib.hid (HBB.out.trans (hb.mono HBB.out.size))
              clear hb
              go_wp2_with fail
              go_meet
              exact ⟨⟨ss, HF3.out, HF4.out, HSL.out, HFB.out⟩⟩
      case rest => as_aux_lemma =>
        obtain ⟨es2, HH⟩ := hcut.out
        clear hcut
        obtain ⟨A5, c5, hv3, hcc3, hcm3, hC3⟩ := HH.own3.reads
        obtain ⟨A6, c6, hv4, hcc4, hcm4, hC4⟩ := HH.own4.reads
        subst hv3
        subst hv4
        have HH := Lib.hid HH
        have HC3 := Lib.hid hC3
        have HC4 := Lib.hid hC4
        clear hcc3 hcm3 hC3 hcc4 hcm4 hC4 HX5 HH5 HV5
        have hwk : IntKind.i64.wrap ((q : Int) + 1) = (q : Int) + 1 := IntWalk.i64_in _ (by omega)
        go_wp2_with fail
        refine (all_ A5 c5 A6 c6 es2 _ HC3.out HC4.out).mono ?_
        rintro e w7 ⟨rfl, hb⟩
        have HH7 := Lib.hid (HH.out.move hb)
        clear hb
        go_wp2_with fail
        go_roundw
        case rel => exact ⟨q + 1, es2, by omega, by first | go_num | simp, HH7⟩
        case measure => simp [intOf]; omega
    · obtain rfl : q = l0.length := by omega
      clear hq hlt
      go_wp2_with fail
      go_ret
      exact ⟨by first | rfl | simp, HH.out.below⟩
end Go.Proofs.YtecpginkacaebaaDoor.PP
