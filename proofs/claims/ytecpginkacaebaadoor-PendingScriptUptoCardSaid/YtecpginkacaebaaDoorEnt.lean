/-
  Entries of a table of queries as cells, and the table's functions walked. No macro, syntax, notation, axiom, sorry.
-/
import Derived.Test.YtecpginkacaebaaDoorPPx1
import Derived.Test.YtecpginkacaebaaDoorHandM
namespace Go.Proofs.YtecpginkacaebaaDoor.Ent
open Go.RowKit Go.Proofs.YtecpginkacaebaaDoorW Go.Proofs.YtecpginkacaebaaDoorW.PrintWords Go.Proofs.YtecpginkacaebaaDoorW.PrintLast Go.Proofs.YtecpginkacaebaaDoor.Base Go.Proofs.YtecpginkacaebaaDoor.Heap Go.Proofs.YtecpginkacaebaaDoor.Nam Go.Proofs.YtecpginkacaebaaDoor.PP
set_option linter.unusedVariables false
set_option linter.unusedSimpArgs false
set_option maxRecDepth 100000

/-- An entry whose query is a question alone. -/
structure E where
  id : Int
  nm : ByteArray
  ty : Int
  cl : ByteArray
  po : Int
  un : Int
def cs (e : E) : List Value := [.int .u16 e.id, .int .u16 0, .bool false, .int .i64 0, .bool false, .bool false, .bool false, .bool false, .int .i64 0, .string e.nm, .int .u16 e.ty, .slice none 0 0, .slice none 0 0, .slice none 0 0, .int .i64 0, .string e.cl, .int .i64 e.po, .bool false, .int .i64 e.un]
def ev (e : E) : Value := .agg #[.int .u16 e.id, .int .u16 0, .bool false, .int .i64 0, .bool false, .bool false, .bool false, .bool false, .int .i64 0, .string e.nm, .int .u16 e.ty, .slice none 0 0, .slice none 0 0, .slice none 0 0, .int .i64 0, .string e.cl, .int .i64 e.po, .bool false, .int .i64 e.un]
theorem cs_len (e : E) : (cs e).length = 19 := rfl
theorem cs_one (e : E) : ∀ u ∈ cs e, u.oneCell' = true := by
  intro u hu
  simp only [cs, List.mem_cons, List.not_mem_nil, or_false] at hu
  rcases hu with rfl | rfl | rfl | rfl | rfl | rfl | rfl | rfl | rfl | rfl | rfl | rfl | rfl | rfl | rfl | rfl | rfl | rfl | rfl <;> rfl
def kE : Kd E where
  sz := 19
  E := []
  K := fun _ x c => c = cs x
  M := fun _ _ _ x c => c = cs x
  K_len := fun h => by rw [h]; rfl
  K_one := fun h u hu => by rw [h] at hu; exact cs_one _ u hu
  K_below := fun _ h => h
  K_of_M := fun h => h
  M_mono := fun _ h => h
  M_bound := fun h => h
  M_move := fun _ h => h
  M_lower := fun _ h => h
theorem at_ {w : World} {A : Option Addr} {n : Nat} {xs : List E} (h : Kd.C kE w A n xs) (j : Nat) (e : E) (hj : xs[j]? = some e) : ∃ ad, A = some ad ∧ w.cell? (ad.add (j * 19)) = some (.int .u16 e.id) ∧ w.cell? ⟨(ad.add (j * 19)).block, (ad.add (j * 19)).off + 1, none⟩ = some (.int .u16 0) ∧ w.cell? ⟨(ad.add (j * 19)).block, (ad.add (j * 19)).off + 2, none⟩ = some (.bool false) ∧ w.cell? ⟨(ad.add (j * 19)).block, (ad.add (j * 19)).off + 3, none⟩ = some (.int .i64 0) ∧ w.cell? ⟨(ad.add (j * 19)).block, (ad.add (j * 19)).off + 4, none⟩ = some (.bool false) ∧ w.cell? ⟨(ad.add (j * 19)).block, (ad.add (j * 19)).off + 5, none⟩ = some (.bool false) ∧ w.cell? ⟨(ad.add (j * 19)).block, (ad.add (j * 19)).off + 6, none⟩ = some (.bool false) ∧ w.cell? ⟨(ad.add (j * 19)).block, (ad.add (j * 19)).off + 7, none⟩ = some (.bool false) ∧ w.cell? ⟨(ad.add (j * 19)).block, (ad.add (j * 19)).off + 8, none⟩ = some (.int .i64 0) ∧ w.cell? ⟨(ad.add (j * 19)).block, (ad.add (j * 19)).off + 9, none⟩ = some (.string e.nm) ∧ w.cell? ⟨(ad.add (j * 19)).block, (ad.add (j * 19)).off + 10, none⟩ = some (.int .u16 e.ty) ∧ w.cell? ⟨(ad.add (j * 19)).block, (ad.add (j * 19)).off + 11, none⟩ = some (.slice none 0 0) ∧ w.cell? ⟨(ad.add (j * 19)).block, (ad.add (j * 19)).off + 12, none⟩ = some (.slice none 0 0) ∧ w.cell? ⟨(ad.add (j * 19)).block, (ad.add (j * 19)).off + 13, none⟩ = some (.slice none 0 0) ∧ w.cell? ⟨(ad.add (j * 19)).block, (ad.add (j * 19)).off + 14, none⟩ = some (.int .i64 0) ∧ w.cell? ⟨(ad.add (j * 19)).block, (ad.add (j * 19)).off + 15, none⟩ = some (.string e.cl) ∧ w.cell? ⟨(ad.add (j * 19)).block, (ad.add (j * 19)).off + 16, none⟩ = some (.int .i64 e.po) ∧ w.cell? ⟨(ad.add (j * 19)).block, (ad.add (j * 19)).off + 17, none⟩ = some (.bool false) ∧ w.cell? ⟨(ad.add (j * 19)).block, (ad.add (j * 19)).off + 18, none⟩ = some (.int .i64 e.un) := by
  have hl : j < xs.length := (List.getElem?_eq_some_iff.1 hj).1
  obtain ⟨ad, ha, hc0⟩ := h.2.2 (by have := h.1; omega)
  obtain ⟨c, h1, h2, hc⟩ := hc0 j e hj
  have h3 : c = cs e := h2
  subst h3
  exact ⟨ad, ha, hc 0 _ rfl,
    by rw [← add_field ad (j * 19) 1 (by omega)]; exact hc 1 _ rfl,
    by rw [← add_field ad (j * 19) 2 (by omega)]; exact hc 2 _ rfl,
    by rw [← add_field ad (j * 19) 3 (by omega)]; exact hc 3 _ rfl,
    by rw [← add_field ad (j * 19) 4 (by omega)]; exact hc 4 _ rfl,
    by rw [← add_field ad (j * 19) 5 (by omega)]; exact hc 5 _ rfl,
    by rw [← add_field ad (j * 19) 6 (by omega)]; exact hc 6 _ rfl,
    by rw [← add_field ad (j * 19) 7 (by omega)]; exact hc 7 _ rfl,
    by rw [← add_field ad (j * 19) 8 (by omega)]; exact hc 8 _ rfl,
    by rw [← add_field ad (j * 19) 9 (by omega)]; exact hc 9 _ rfl,
    by rw [← add_field ad (j * 19) 10 (by omega)]; exact hc 10 _ rfl,
    by rw [← add_field ad (j * 19) 11 (by omega)]; exact hc 11 _ rfl,
    by rw [← add_field ad (j * 19) 12 (by omega)]; exact hc 12 _ rfl,
    by rw [← add_field ad (j * 19) 13 (by omega)]; exact hc 13 _ rfl,
    by rw [← add_field ad (j * 19) 14 (by omega)]; exact hc 14 _ rfl,
    by rw [← add_field ad (j * 19) 15 (by omega)]; exact hc 15 _ rfl,
    by rw [← add_field ad (j * 19) 16 (by omega)]; exact hc 16 _ rfl,
    by rw [← add_field ad (j * 19) 17 (by omega)]; exact hc 17 _ rfl,
    by rw [← add_field ad (j * 19) 18 (by omega)]; exact hc 18 _ rfl⟩
/-- The cells of entries in line. -/
def rw_ (xs : List E) : List Value := xs.flatMap cs
theorem rw_app (xs ys : List E) : rw_ (xs ++ ys) = rw_ xs ++ rw_ ys := by simp [rw_]
theorem rw_len (xs : List E) : (rw_ xs).length = xs.length * 19 := by
  induction xs with
  | nil => rfl
  | cons x r ih =>
    have e1 : rw_ (x :: r) = cs x ++ rw_ r := rfl
    rw [e1, List.length_append, ih, cs_len, List.length_cons]
    omega
theorem rw_at : ∀ (xs : List E) (j : Nat) (e : E), xs[j]? = some e → ∀ i, i < 19 → (rw_ xs)[j * 19 + i]? = (cs e)[i]?
  | [], j, e, h, i, hi => by simp at h
  | x :: r, 0, e, h, i, hi => by
    have e1 : rw_ (x :: r) = cs x ++ rw_ r := rfl
    have e2 : x = e := by simpa using h
    subst e2
    rw [e1, Nat.zero_mul, Nat.zero_add, List.getElem?_append_left (by rw [cs_len]; exact hi)]
  | x :: r, j + 1, e, h, i, hi => by
    have e1 : rw_ (x :: r) = cs x ++ rw_ r := rfl
    rw [e1, List.getElem?_append_right (by rw [cs_len]; omega), cs_len, show (j + 1) * 19 + i - 19 = j * 19 + i by omega]
    exact rw_at r j e (by simpa using h) i hi
theorem rw_take (xs : List E) (k : Nat) : (rw_ xs).take (k * 19) = rw_ (xs.take k) := by
  induction xs generalizing k with
  | nil => simp [rw_]
  | cons x r ih =>
    cases k with
    | zero => simp [rw_]
    | succ k =>
      have e1 : rw_ (x :: r) = cs x ++ rw_ r := rfl
      have e2 : rw_ ((x :: r).take (k + 1)) = cs x ++ rw_ (r.take k) := rfl
      rw [e1, e2, List.take_append, cs_len, List.take_of_length_le (by rw [cs_len]; omega), show (k + 1) * 19 - 19 = k * 19 by omega, ih]
theorem rw_drop (xs : List E) (k : Nat) : (rw_ xs).drop (k * 19) = rw_ (xs.drop k) := by
  induction xs generalizing k with
  | nil => simp [rw_]
  | cons x r ih =>
    cases k with
    | zero => simp [rw_]
    | succ k =>
      have e1 : rw_ (x :: r) = cs x ++ rw_ r := rfl
      have e2 : rw_ ((x :: r).drop (k + 1)) = rw_ (r.drop k) := rfl
      rw [e1, e2, List.drop_append, cs_len, List.drop_of_length_le (by rw [cs_len]; omega), show (k + 1) * 19 - 19 = k * 19 by omega, ih]
      rfl
/-- A row of entries of one's own. -/
def Own (w : World) (base : Nat) (v : Value) (xs : List E) : Prop := w.ownsRow base 42 19 v xs.length (rw_ xs)
theorem Own.reads {w : World} {base : Nat} {v : Value} {xs : List E} (h : Own w base v xs) : ∃ A c, v = .slice A xs.length c ∧ xs.length ≤ c ∧ c ≤ maxLen ∧ Kd.C kE w A xs.length xs := by
  rcases h.2 with ⟨hv, h0⟩ | ⟨g, cap, cur, hv, hb, hg, hc, hm, hs, ht⟩
  · have : xs = [] := List.eq_nil_of_length_eq_zero h0
    subst this
    exact ⟨none, 0, hv, Nat.le_refl _, Nat.zero_le _, rfl, by simp, fun h => absurd h (Nat.lt_irrefl 0)⟩
  · refine ⟨_, cap, hv, hc, hm, rfl, by simp only [maxLen] at hm; omega, fun _ => ⟨_, rfl, fun j p hj => ⟨cs p, cs_len p, rfl, fun i u hu => ?_⟩⟩⟩
    have hi : i < 19 := by have := (List.getElem?_eq_some_iff.1 hu).1; rwa [cs_len] at this
    have hjl : j < xs.length := (List.getElem?_eq_some_iff.1 hj).1
    have hx : w.ownsRow base 42 19 (.slice (some ⟨g, 0, none⟩) xs.length cap) xs.length (rw_ xs) := by rw [← hv]; exact h
    have key := hx.cellAt (j * 19 + i) (by omega)
    rw [rw_at xs j p hj i hi, hu] at key
    have ha : (⟨g, 0, none⟩ : Addr).add (j * 19 + i) = ⟨g, j * 19 + i, none⟩ := by unfold Addr.add; split <;> simp_all
    rw [show j * kE.sz + i = j * 19 + i from rfl, ha]
    exact key
theorem Own.below {w w1 : World} {base : Nat} {v : Value} {xs : List E} (h : Own w base v xs) (hb : Below w.heap.size w w1) : Own w1 base v xs := pw_own_below h hb
theorem C_nil (w : World) : Kd.C kE w none 0 [] := ⟨rfl, by simp, fun h => absurd h (Nat.lt_irrefl 0)⟩
theorem blk_ {w : World} {g : Nat} (e : E) (h : w.heap[g]? = some (.cells (cs e).toArray 42 (0, 0))) : w.cell? ⟨g, 0, none⟩ = some (.int .u16 e.id) ∧ w.cell? ⟨g, 1, none⟩ = some (.int .u16 0) ∧ w.cell? ⟨g, 2, none⟩ = some (.bool false) ∧ w.cell? ⟨g, 3, none⟩ = some (.int .i64 0) ∧ w.cell? ⟨g, 4, none⟩ = some (.bool false) ∧ w.cell? ⟨g, 5, none⟩ = some (.bool false) ∧ w.cell? ⟨g, 6, none⟩ = some (.bool false) ∧ w.cell? ⟨g, 7, none⟩ = some (.bool false) ∧ w.cell? ⟨g, 8, none⟩ = some (.int .i64 0) ∧ w.cell? ⟨g, 9, none⟩ = some (.string e.nm) ∧ w.cell? ⟨g, 10, none⟩ = some (.int .u16 e.ty) ∧ w.cell? ⟨g, 11, none⟩ = some (.slice none 0 0) ∧ w.cell? ⟨g, 12, none⟩ = some (.slice none 0 0) ∧ w.cell? ⟨g, 13, none⟩ = some (.slice none 0 0) ∧ w.cell? ⟨g, 14, none⟩ = some (.int .i64 0) ∧ w.cell? ⟨g, 15, none⟩ = some (.string e.cl) ∧ w.cell? ⟨g, 16, none⟩ = some (.int .i64 e.po) ∧ w.cell? ⟨g, 17, none⟩ = some (.bool false) ∧ w.cell? ⟨g, 18, none⟩ = some (.int .i64 e.un) := by
  have k : w.heap[g]? = some (.cells #[.int .u16 e.id, .int .u16 0, .bool false, .int .i64 0, .bool false, .bool false, .bool false, .bool false, .int .i64 0, .string e.nm, .int .u16 e.ty, .slice none 0 0, .slice none 0 0, .slice none 0 0, .int .i64 0, .string e.cl, .int .i64 e.po, .bool false, .int .i64 e.un] 42 (0, 0)) := h
  exact ⟨by rw [blk_cell k]; rfl, by rw [blk_cell k]; rfl, by rw [blk_cell k]; rfl, by rw [blk_cell k]; rfl, by rw [blk_cell k]; rfl, by rw [blk_cell k]; rfl, by rw [blk_cell k]; rfl, by rw [blk_cell k]; rfl, by rw [blk_cell k]; rfl, by rw [blk_cell k]; rfl, by rw [blk_cell k]; rfl, by rw [blk_cell k]; rfl, by rw [blk_cell k]; rfl, by rw [blk_cell k]; rfl, by rw [blk_cell k]; rfl, by rw [blk_cell k]; rfl, by rw [blk_cell k]; rfl, by rw [blk_cell k]; rfl, by rw [blk_cell k]; rfl⟩
theorem info_ : (Tryd.prog.info? 42).map (fun i => (i.zero, i.size, i.bytes)) = some (some (.agg #[(.int .u16 0), (.int .u16 0), (.bool false), (.int .i64 0), (.bool false), (.bool false), (.bool false), (.bool false), (.int .i64 0), (.string ⟨#[]⟩), (.int .u16 0), (.slice none 0 0), (.slice none 0 0), (.slice none 0 0), (.int .i64 0), (.string ⟨#[]⟩), (.int .i64 0), (.bool false), (.int .i64 0)]), 19, 184) := by kernel_rfl
/-- A load of many cells at once. -/
theorem run_loadAt {P : Program} (ty : TypeId) (ad : Addr) (seg : List Value) (d : TypeDesc) (w : World) (hc : ∀ j v, seg[j]? = some v → w.cell? (ad.add j) = some v)
    (hu : P.underlying ty = some d) (hd : (match d with | .struct _ | .array _ _ => true | _ => false) = true) (hi : (P.info? ty).map (·.size) = some seg.length) :
    (Instr.loadAt ty (.pointer (some ad))).run P w = .ok (.agg seg.toArray) w := by
  have hl := run_loadCells_list (P := P) w ad seg hc
  cases hq : P.info? ty with
  | none => simp [hq] at hi
  | some i =>
    have hs : i.size = seg.length := by simpa [hq] using hi
    have hagg : (isAgg ty).run P w = .ok true w := by
      unfold isAgg
      rw [Sem.run_bind, run_underlying hu w]
      cases d <;> simp_all
    simp [Instr.loadAt, Instr.sureAddr, loadVar, Sem.run_bind, hagg, sizeOf, typeInfo, hq, hs, hl]
theorem size_ : (Tryd.prog.info? 42).map (·.size) = some 19 := by kernel_rfl
theorem add_add (ad : Addr) (m i : Nat) : (ad.add m).add i = ad.add (m + i) := by
  unfold Addr.add
  by_cases hm : m = 0
  · subst hm; simp
  · by_cases hi : i = 0
    · subst hi; simp [hm]
    · simp [hm, hi, Nat.add_assoc]
theorem run_loadE (ad : Addr) (e : E) (w : World) (hc : ∀ j v, (cs e)[j]? = some v → w.cell? (ad.add j) = some v) : (loadVar 42 ad).run Tryd.prog w = .ok (.agg #[.int .u16 e.id, .int .u16 0, .bool false, .int .i64 0, .bool false, .bool false, .bool false, .bool false, .int .i64 0, .string e.nm, .int .u16 e.ty, .slice none 0 0, .slice none 0 0, .slice none 0 0, .int .i64 0, .string e.cl, .int .i64 e.po, .bool false, .int .i64 e.un]) w := by
  have h := run_loadAt (P := Tryd.prog) 42 ad (cs e) _ w hc Tryd.underlying42 rfl size_
  have e1 : (Instr.loadAt 42 (.pointer (some ad))) = loadVar 42 ad := by
    show (do loadVar 42 (← Instr.sureAddr (.pointer (some ad)))) = _
    simp [Instr.sureAddr]
  rw [e1] at h
  exact h
section
variable {P : Program} {ops : Array Oper} {rest : List Oper} {o : Oper} {a : Act} {Q : Exit → Act → World → Prop} {W : World}
theorem gate_ld {t : TypeId} {p : Tmp} (_ho : o.op = .load t (.tmp p)) (h : wpList P ops Q (o :: rest) a W) : wpList P ops Q (o :: rest) a W := h
theorem gate_al {t : TypeId} (_ho : o.op = .alloc t) (h : wpList P ops Q (o :: rest) a W) : wpList P ops Q (o :: rest) a W := h
theorem gate_bx {t : TypeId} {p : Tmp} (_ho : o.op = .box t (.tmp p)) (h : wpList P ops Q (o :: rest) a W) : wpList P ops Q (o :: rest) a W := h
theorem gate_st {t : TypeId} {p x : Tmp} (_ho : o.op = .store t (.tmp p) (.tmp x)) (h : wpList P ops Q (o :: rest) a W) : wpList P ops Q (o :: rest) a W := h
/-- Events: a variable is loaded, stored, made. -/
theorem ev_load (hgd : o.guard = none) {t : TypeId} {x : Operand} (ho : o.op = .load t x) {ad : Addr} (hx : a.eval x = .pointer (some ad)) {v : Value} (hr : (loadVar t ad).run P W = .ok v W)
    (h : wpList P ops Q rest (a.put o.dst v) W) : wpList P ops Q (o :: rest) a W := by
  refine wpList_plain hgd fun K hK => ?_
  unfold Oper.wp execOp
  simp only [ho, hx, Instr.loadAt, Instr.sureAddr, Sem.run_bind, Sem.run_pure, Result.andThen_ok, hr]
  exact hK _ _ h
theorem ev_store (hgd : o.guard = none) (hN : o.dst = none) {t : TypeId} {p x : Operand} (ho : o.op = .store t p x) {ad : Addr} (hp : a.eval p = .pointer (some ad)) {v : Value} (hx : a.eval x = v) {W1 : World} (hr : (storeVar t ad v).run P W = .ok () W1)
    (h : wpList P ops Q rest a W1) : wpList P ops Q (o :: rest) a W := by
  have hrun : (execOp a.eval o).run P W = .ok .skip W1 := by
    unfold execOp
    simp only [ho, hp, hx, Instr.storeAt, Instr.sureAddr, Sem.run_bind, Sem.run_pure, Result.andThen_ok, hr]
  exact wpList_plain hgd fun K hK => by
    unfold Oper.wp
    rw [hrun]
    show K (a.put o.dst undef) W1
    rw [hN]
    exact hK _ _ h
end
/-- An entry is loaded. -/
theorem load_ {w : World} {A : Option Addr} {n : Nat} {xs : List E} (h : Kd.C kE w A n xs) (j : Nat) (e : E) (hj : xs[j]? = some e) : ∃ ad, A = some ad ∧ (loadVar 42 (ad.add (j * 19))).run Tryd.prog w = .ok (.agg #[.int .u16 e.id, .int .u16 0, .bool false, .int .i64 0, .bool false, .bool false, .bool false, .bool false, .int .i64 0, .string e.nm, .int .u16 e.ty, .slice none 0 0, .slice none 0 0, .slice none 0 0, .int .i64 0, .string e.cl, .int .i64 e.po, .bool false, .int .i64 e.un]) w := by
  have hl : j < xs.length := (List.getElem?_eq_some_iff.1 hj).1
  obtain ⟨ad, ha, hc0⟩ := h.2.2 (by have := h.1; omega)
  obtain ⟨c, h1, h2, hc⟩ := hc0 j e hj
  have h3 : c = cs e := h2
  subst h3
  exact ⟨ad, ha, run_loadE (ad.add (j * 19)) e w fun i v hi => by rw [add_add]; exact hc i v hi⟩
/-- A variable that holds an entry. -/
def Var (w : World) (g : Nat) (e : E) : Prop := w.heap[g]? = some (.cells (cs e).toArray 42 (0, 0))
theorem Var.load {w : World} {g : Nat} {e : E} (h : Var w g e) : (loadVar 42 ⟨g, 0, none⟩).run Tryd.prog w = .ok (.agg #[.int .u16 e.id, .int .u16 0, .bool false, .int .i64 0, .bool false, .bool false, .bool false, .bool false, .int .i64 0, .string e.nm, .int .u16 e.ty, .slice none 0 0, .slice none 0 0, .slice none 0 0, .int .i64 0, .string e.cl, .int .i64 e.po, .bool false, .int .i64 e.un]) w :=
  run_loadE _ e w fun j v hj => by rw [Addr.add_lit, Nat.zero_add, blk_cell h]; simpa using hj
theorem Var.store {w : World} {g : Nat} {o : E} (h : Var w g o) (e : E) : ∃ w1, (storeVar 42 ⟨g, 0, none⟩ (.agg #[.int .u16 e.id, .int .u16 0, .bool false, .int .i64 0, .bool false, .bool false, .bool false, .bool false, .int .i64 0, .string e.nm, .int .u16 e.ty, .slice none 0 0, .slice none 0 0, .slice none 0 0, .int .i64 0, .string e.cl, .int .i64 e.po, .bool false, .int .i64 e.un])).run Tryd.prog w = .ok () w1 ∧ Var w1 g e ∧ w.grownBy w1 (some g) := by
  refine ⟨w.setRow g (cs e).toArray, ?_, setRow_heap w g (cs o).toArray _ _ _ h, ⟨rfl, rfl, rfl, by simp, fun k _ hk => setRow_other w g k _ (fun e => hk (by rw [e]))⟩⟩
  have h1 : (∀ v ∈ cs e, v.oneCell' = true) := cs_one e
  have h2 := HandM.storeCells_M Tryd.prog g 0 42 (0, 0) (cs e) 0 (cs o).toArray w h (fun j _ hh => by omega) (by simp [cs_len]) h1
  have e2 : ((cs o).toArray.toList.take (0 + 0) ++ cs e ++ (cs o).toArray.toList.drop (0 + 0 + (cs e).length)).toArray = (cs e).toArray := by simp [cs_len]
  rw [e2] at h2
  unfold storeVar
  have hs : (sizeOf 42).run Tryd.prog w = .ok 19 w := by kernel_rfl
  simp only [Sem.run_bind, hs, Result.andThen_ok]
  exact h2
theorem Var.below {w w1 : World} {g : Nat} {e : E} (h : Var w g e) (hb : Below w.heap.size w w1) : Var w1 g e := blk_below h hb
theorem Var.lt {w : World} {g : Nat} {e : E} (h : Var w g e) : g < w.heap.size := blk_lt h
def zE : E := ⟨0, ⟨#[]⟩, 0, ⟨#[]⟩, 0, 0⟩
section
variable {ops : Array Oper} {rest : List Oper} {o : Oper} {a : Act} {Q : Exit → Act → World → Prop} {W : World}
theorem ev_new (hgd : o.guard = none) (ho : o.op = .alloc 42)
    (h : ∀ g W1, g = W.heap.size → Var W1 g zE → Below W.heap.size W W1 → W1.heap.size = g + 1 → wpList Tryd.prog ops Q rest (a.put o.dst (.pointer (some ⟨g, 0, none⟩))) W1) : wpList Tryd.prog ops Q (o :: rest) a W := by
  have hrun : (execOp a.eval o).run Tryd.prog W = .ok (.value (.pointer (some ⟨W.heap.size, 0, none⟩))) (W.alloc (.cells (cs zE).toArray 42 (0, 0))) := by
    unfold execOp
    simp only [ho]
    kernel_rfl
  exact Kd.event_run hgd hrun (h _ _ rfl (blk_new W _) (below_alloc (Below.refl _ _) _) (by simp))
theorem ev_box (hgd : o.guard = none) {x : Operand} (ho : o.op = .box 42 x) {e : E} (hx : a.eval x = (.agg #[.int .u16 e.id, .int .u16 0, .bool false, .int .i64 0, .bool false, .bool false, .bool false, .bool false, .int .i64 0, .string e.nm, .int .u16 e.ty, .slice none 0 0, .slice none 0 0, .slice none 0 0, .int .i64 0, .string e.cl, .int .i64 e.po, .bool false, .int .i64 e.un]))
    (h : ∀ g W1, g = W.heap.size → Var W1 g e → Below W.heap.size W W1 → W1.heap.size = g + 1 → wpList Tryd.prog ops Q rest (a.put o.dst (.pointer (some ⟨g, 0, none⟩))) W1) : wpList Tryd.prog ops Q (o :: rest) a W := by
  have hrun : (execOp a.eval o).run Tryd.prog W = .ok (.value (.pointer (some ⟨W.heap.size, 0, none⟩))) (W.alloc (.cells (cs e).toArray 42 (0, 0))) := by
    unfold execOp
    simp only [ho, hx]
    rfl
  exact Kd.event_run hgd hrun (h _ _ rfl (blk_new W _) (below_alloc (Below.refl _ _) _) (by simp))
end
theorem Var.new (w : World) (e : E) : Var (w.alloc (.cells (cs e).toArray 42)) w.heap.size e := blk_new w _
end Go.Proofs.YtecpginkacaebaaDoor.Ent
