/-
  A device in memory, told in words: its block, the row of its segments, each segment's row of bytes, all of them apart; what a step turns of it. No macro, syntax, notation, axiom, sorry.
-/
import Derived.Test.YtklliflmdckadaaDoorWMore
namespace Go.Proofs.YtklliflmdckadaaDoor.DevW
open Go.RowKit Go.Proofs.YtklliflmdckadaaDoorW.PrintWords
set_option linter.unusedVariables false

/-! ### What is turned: the blocks of a list alone -/
structure Turned (F : List Nat) (w w' : World) : Prop where
  os : w'.os = w.os
  tape : w'.tape = w.tape
  output : w'.output = w.output
  size : w.heap.size ≤ w'.heap.size
  block : ∀ k, k < w.heap.size → k ∉ F → w'.heap[k]? = w.heap[k]?

theorem Turned.refl (F : List Nat) (w : World) : Turned F w w := ⟨rfl, rfl, rfl, Nat.le_refl _, fun _ _ _ => rfl⟩
theorem Turned.trans {F F1 : List Nat} {w w1 w2 : World} (h : Turned F w w1) (k : Turned F1 w1 w2) (hF : ∀ b ∈ F1, b ∈ F ∨ w.heap.size ≤ b) : Turned F w w2 :=
  ⟨k.os.trans h.os, k.tape.trans h.tape, k.output.trans h.output, Nat.le_trans h.size k.size, fun b hb hn =>
    (k.block b (Nat.lt_of_lt_of_le hb h.size) (fun hm => by rcases hF b hm with h' | h'; exact hn h'; omega)).trans (h.block b hb hn)⟩
theorem Turned.below {F : List Nat} {w w1 : World} {base : Nat} (h : Turned F w w1) (hF : ∀ b ∈ F, base ≤ b) (hb : base ≤ w.heap.size) : Below base w w1 :=
  ⟨h.os, h.tape, h.output, h.size, fun k hk => h.block k (by omega) (fun hm => by have := hF k hm; omega)⟩
theorem Turned.of_below {w w1 : World} (h : Below w.heap.size w w1) (F : List Nat) : Turned F w w1 := ⟨h.os, h.tape, h.output, h.size, fun k hk _ => h.block k hk⟩
theorem Turned.of_grown {w w1 : World} {row : Option Nat} (h : w.grownBy w1 row) {F : List Nat} (hr : ∀ k, row = some k → k ∈ F) : Turned F w w1 :=
  ⟨h.os, h.tape, h.output, h.size, fun k hk hn => h.block k hk (fun e => hn (hr k e.symm))⟩
theorem Turned.setCell {F : List Nat} {w w1 : World} (h : Turned F w w1) {p : Addr} (hp : p.block ∈ F ∨ w.heap.size ≤ p.block) (u : Value) : Turned F w (w1.setCell p u) :=
  ⟨h.os, h.tape, h.output, by simpa [World.setCell] using h.size, fun k hk hn => (Below.heap_setCell _ _ _ _ (by rintro rfl; rcases hp with hp | hp; exact hn hp; omega)).trans (h.block k hk hn)⟩
theorem Turned.alloc {F : List Nat} {w w1 : World} (h : Turned F w w1) (o : Obj) : Turned F w (w1.alloc o) :=
  ⟨h.os, h.tape, h.output, by have := h.size; simp; omega, fun k hk hn => (Below.heap_alloc _ _ _ (Nat.lt_of_lt_of_le hk h.size)).trans (h.block k hk hn)⟩
theorem Turned.drewN {F : List Nat} {w w1 : World} (h : Turned F w w1) (n : Nat) : Turned F w (w1.drewN n) := ⟨h.os, h.tape, h.output, h.size, h.block⟩
theorem Turned.drew {F : List Nat} {w w1 : World} (h : Turned F w w1) : Turned F w w1.drew := ⟨h.os, h.tape, h.output, h.size, h.block⟩
theorem Turned.mono {F F' : List Nat} {w w1 : World} (h : Turned F w w1) (hF : ∀ k ∈ F, k ∈ F') : Turned F' w w1 := ⟨h.os, h.tape, h.output, h.size, fun k hk hn => h.block k hk (fun hm => hn (hF k hm))⟩
/-- A row of another block lives on. -/
theorem Turned.own {F : List Nat} {w w1 : World} (h : Turned F w w1) {base : Nat} {e : TypeId} {size n : Nat} {v : Value} {xs : List Value} (ho : w.ownsRow base e size v n xs) (hv : ∀ k, v.ownBlock = some k → k ∉ F) : w1.ownsRow base e size v n xs :=
  own_move ho fun k hk => h.block k (own_lt ho k hk) (hv k hk)

theorem own_takeB {w : World} {base : Nat} {e : TypeId} {k : IntKind} {A : Option Addr} {n c m : Nat} {xs : List Int} (h : w.ownsRow base e 1 (.slice A n c) n (nums k xs)) (hm : m ≤ n) : w.ownsRow base e 1 (.slice A m c) m (nums k (xs.take m)) := by
  have hl : xs.length = n := by have := h.1; simp [nums] at this; exact this
  refine ⟨by simp [nums, List.length_take]; omega, ?_⟩
  rcases h.2 with ⟨hv, h0⟩ | ⟨g, cap, cur, hv, hb, hg, hc, hm', hs, ht⟩
  · injection hv with h1 h2 h3
    subst h1 h2 h3
    exact .inl ⟨by rw [show m = 0 by omega], by omega⟩
  · injection hv with h1 h2 h3
    subst h1 h3
    refine .inr ⟨g, c, cur, rfl, hb, hg, by omega, hm', hs, ?_⟩
    have e1 : (nums k xs).take m = nums k (xs.take m) := by simp [nums, List.map_take]
    rw [← e1, ← ht, List.take_take]
    congr 1
    omega

/-! ### Segments: a row of bytes, and how many are safe -/
abbrev Seg := Value × List Int × Int
def segCells (T : List Seg) : List Value := T.flatMap fun x => [x.1, .int .i64 x.2.2]
theorem segCells_cons (x : Seg) (T : List Seg) : segCells (x :: T) = x.1 :: .int .i64 x.2.2 :: segCells T := rfl
theorem segCells_snoc (T : List Seg) (x : Seg) : segCells (T ++ [x]) = segCells T ++ [x.1, .int .i64 x.2.2] := by simp [segCells]
theorem segCells_len (T : List Seg) : (segCells T).length = T.length * 2 := by
  induction T with
  | nil => rfl
  | cons x r ih => rw [segCells_cons]; simp only [List.length_cons, ih]; omega
theorem segCells_even (T : List Seg) : ∀ (i : Nat) (x : Seg), T[i]? = some x → (segCells T)[2 * i]? = some x.1 := by
  induction T with
  | nil => intro i x h; simp at h
  | cons y r ih =>
    intro i x h
    cases i with
    | zero => have : y = x := by simpa using h
              subst this; rfl
    | succ i => rw [segCells_cons, show 2 * (i + 1) = 2 * i + 1 + 1 by omega, List.getElem?_cons_succ, List.getElem?_cons_succ]; exact ih i x (by simpa using h)
theorem segCells_odd (T : List Seg) : ∀ (i : Nat) (x : Seg), T[i]? = some x → (segCells T)[2 * i + 1]? = some (.int .i64 x.2.2) := by
  induction T with
  | nil => intro i x h; simp at h
  | cons y r ih =>
    intro i x h
    cases i with
    | zero => have : y = x := by simpa using h
              subst this; rfl
    | succ i => rw [segCells_cons, show 2 * (i + 1) + 1 = 2 * i + 1 + 1 + 1 by omega, List.getElem?_cons_succ, List.getElem?_cons_succ]; exact ih i x (by simpa using h)
theorem segCells_set0 (T : List Seg) : ∀ (i : Nat) (x : Seg) (v : Value) (b : List Int), T[i]? = some x → (segCells T).set (2 * i) v = segCells (T.set i (v, b, x.2.2)) := by
  induction T with
  | nil => intro i x v b h; simp at h
  | cons y r ih =>
    intro i x v b h
    cases i with
    | zero => have : y = x := by simpa using h
              subst this; rfl
    | succ i => rw [segCells_cons, show 2 * (i + 1) = 2 * i + 1 + 1 by omega, List.set_cons_succ, List.set_cons_succ, ih i x v b (by simpa using h)]; rfl
theorem segCells_set1 (T : List Seg) : ∀ (i : Nat) (x : Seg) (s : Int), T[i]? = some x → (segCells T).set (2 * i + 1) (.int .i64 s) = segCells (T.set i (x.1, x.2.1, s)) := by
  induction T with
  | nil => intro i x s h; simp at h
  | cons y r ih =>
    intro i x s h
    cases i with
    | zero => have : y = x := by simpa using h
              subst this; rfl
    | succ i => rw [segCells_cons, show 2 * (i + 1) + 1 = 2 * i + 1 + 1 + 1 by omega, List.set_cons_succ, List.set_cons_succ, ih i x s (by simpa using h)]; rfl

structure Dev (tD tS tB : TypeId) (w : World) (base g : Nat) (F : List Nat) (sv : Value) (T : List Seg) (wr : Int) : Prop where
  blk : w.heap[g]? = some (.cells #[sv, .int .i64 wr] tD (0, 0))
  gb : base ≤ g
  gF : g ∈ F
  segs : w.ownsRow base tS 2 sv T.length (segCells T)
  segF : ∀ k, sv.ownBlock = some k → k ∈ F
  rows : ∀ (i : Nat) (x : Seg), T[i]? = some x → w.ownsRow base tB 1 x.1 x.2.1.length (nums .u8 x.2.1)
  rowF : ∀ (i : Nat) (x : Seg), T[i]? = some x → ∀ k, x.1.ownBlock = some k → k ∈ F
  apart : ∀ (i j : Nat) (x y : Seg), T[i]? = some x → T[j]? = some y → i ≠ j → NeRow x.1 y.1
  foot : ∀ k ∈ F, base ≤ k ∧ k < w.heap.size

section
variable {tD tS tB : TypeId} {w : World} {base g : Nat} {F : List Nat} {sv : Value} {T : List Seg} {wr : Int}

theorem Dev.cell0 (h : Dev tD tS tB w base g F sv T wr) : w.cell? ⟨g, 0, none⟩ = some sv := by rw [blk_cell h.blk]; rfl
theorem Dev.cell1 (h : Dev tD tS tB w base g F sv T wr) : w.cell? ⟨g, 1, none⟩ = some (.int .i64 wr) := by rw [blk_cell h.blk]; rfl
theorem Dev.froz (h : Dev tD tS tB w base g F sv T wr) (i : Nat) : w.frozen? ⟨g, i, none⟩ = false := blk_frozen h.blk i
theorem Dev.lt (h : Dev tD tS tB w base g F sv T wr) : g < w.heap.size := (h.foot g h.gF).2

theorem Dev.turned {w1 : World} (h : Dev tD tS tB w base g F sv T wr) (hk : ∀ k ∈ F, w1.heap[k]? = w.heap[k]?) (hs : w.heap.size ≤ w1.heap.size) : Dev tD tS tB w1 base g F sv T wr :=
  ⟨(hk g h.gF).trans h.blk, h.gb, h.gF, own_move h.segs fun k e => hk k (h.segF k e), h.segF, fun i x hx => own_move (h.rows i x hx) fun k e => hk k (h.rowF i x hx k e), h.rowF, h.apart,
    fun k hkF => ⟨(h.foot k hkF).1, Nat.lt_of_lt_of_le (h.foot k hkF).2 hs⟩⟩
/-- Something else was turned. -/
theorem Dev.below {w1 : World} (h : Dev tD tS tB w base g F sv T wr) (hb : Below w.heap.size w w1) : Dev tD tS tB w1 base g F sv T wr := h.turned (fun k hk => hb.block k (h.foot k hk).2) hb.size
theorem Dev.other {w1 : World} {F1 : List Nat} (h : Dev tD tS tB w base g F sv T wr) (ht : Turned F1 w w1) (hd : ∀ k ∈ F1, k ∉ F) : Dev tD tS tB w1 base g F sv T wr :=
  h.turned (fun k hk => ht.block k (h.foot k hk).2 (fun hm => hd k hm hk)) ht.size
theorem Dev.drewN (h : Dev tD tS tB w base g F sv T wr) (n : Nat) : Dev tD tS tB (w.drewN n) base g F sv T wr := h.turned (fun _ _ => rfl) (Nat.le_refl _)
theorem Dev.drew (h : Dev tD tS tB w base g F sv T wr) : Dev tD tS tB w.drew base g F sv T wr := h.turned (fun _ _ => rfl) (Nat.le_refl _)
theorem Dev.more (h : Dev tD tS tB w base g F sv T wr) {F' : List Nat} (hF : ∀ k ∈ F, k ∈ F') (hF' : ∀ k ∈ F', base ≤ k ∧ k < w.heap.size) : Dev tD tS tB w base g F' sv T wr :=
  ⟨h.blk, h.gb, hF g h.gF, h.segs, fun k e => hF k (h.segF k e), h.rows, fun i x hx k e => hF k (h.rowF i x hx k e), h.apart, hF'⟩

theorem Dev.fresh (w : World) (base : Nat) (hb : base ≤ w.heap.size) : Dev tD tS tB (w.alloc (.cells #[.slice none 0 0, .int .i64 0] tD)) base w.heap.size [w.heap.size] (.slice none 0 0) [] 0 :=
  ⟨heap_alloc_new w _, hb, by simp, World.ownsRow_nil _ _ _ _, fun k hk => by simp [Value.ownBlock] at hk, fun i x h => by simp at h, fun i x h => by simp at h, fun i j x y h => by simp at h,
    fun k hk => by
      obtain rfl : k = w.heap.size := by simpa using hk
      exact ⟨hb, by simp⟩⟩

theorem Dev.ne_segs (h : Dev tD tS tB w base g F sv T wr) (hDS : tS ≠ tD) : some g ≠ sv.ownBlock := own_ne h.segs h.blk hDS
theorem Dev.ne_row (h : Dev tD tS tB w base g F sv T wr) (hDB : tB ≠ tD) {i : Nat} {x : Seg} (hx : T[i]? = some x) : some g ≠ x.1.ownBlock := own_ne (h.rows i x hx) h.blk hDB
theorem Dev.ne_row' (h : Dev tD tS tB w base g F sv T wr) (hSB : tB ≠ tS) {i : Nat} {x : Seg} (hx : T[i]? = some x) {k : Nat} (hk : sv.ownBlock = some k) : some k ≠ x.1.ownBlock := by
  obtain ⟨cells, hh⟩ := own_typed h.segs k hk
  exact own_ne (h.rows i x hx) hh hSB

/-- The count is written. -/
theorem Dev.storeWrites (h : Dev tD tS tB w base g F sv T wr) (hDS : tS ≠ tD) (hDB : tB ≠ tD) (n : Int) : Dev tD tS tB (w.setCell ⟨g, 1, none⟩ (.int .i64 n)) base g F sv T n :=
  ⟨by rw [blk_set h.blk]; rfl, h.gb, h.gF, own_setCell h.segs (h.ne_segs hDS) _, h.segF, fun i x hx => own_setCell (h.rows i x hx) (h.ne_row hDB hx) _, h.rowF, h.apart, fun k hk => ⟨(h.foot k hk).1, by rw [World.size_setCell]; exact (h.foot k hk).2⟩⟩

/-- The row of the segments: where it stands. -/
theorem Dev.segs_at (h : Dev tD tS tB w base g F sv T wr) (hT : 0 < T.length) : ∃ gs cap, sv = .slice (some ⟨gs, 0, none⟩) T.length cap ∧ T.length ≤ cap ∧ gs ∈ F := by
  rcases h.segs.2 with ⟨_, h0⟩ | ⟨gs, cap, cur, hv, _, _, hc, _⟩
  · omega
  · exact ⟨gs, cap, hv, hc, h.segF gs (by rw [hv]; rfl)⟩
theorem Dev.segs_slice (h : Dev tD tS tB w base g F sv T wr) : ∃ A cap, sv = .slice A T.length cap ∧ T.length ≤ cap := by
  rcases h.segs.2 with ⟨hv, h0⟩ | ⟨gs, cap, cur, hv, _, _, hc, _⟩
  · exact ⟨none, 0, by rw [hv, h0], by omega⟩
  · exact ⟨_, cap, hv, hc⟩
theorem Dev.at0 {gs cap : Nat} (h : Dev tD tS tB w base g F (.slice (some ⟨gs, 0, none⟩) T.length cap) T wr) {i : Nat} {x : Seg} (hx : T[i]? = some x) : w.cell? ⟨gs, 2 * i, none⟩ = some x.1 := by
  have := (List.getElem?_eq_some_iff.1 hx).1
  rw [h.segs.cellAt (2 * i) (by omega)]
  exact segCells_even T i x hx
theorem Dev.at1 {gs cap : Nat} (h : Dev tD tS tB w base g F (.slice (some ⟨gs, 0, none⟩) T.length cap) T wr) {i : Nat} {x : Seg} (hx : T[i]? = some x) : w.cell? ⟨gs, 2 * i + 1, none⟩ = some (.int .i64 x.2.2) := by
  have := (List.getElem?_eq_some_iff.1 hx).1
  rw [h.segs.cellAt (2 * i + 1) (by omega)]
  exact segCells_odd T i x hx
theorem Dev.frozS {gs cap : Nat} (h : Dev tD tS tB w base g F (.slice (some ⟨gs, 0, none⟩) T.length cap) T wr) (j : Nat) : w.frozen? ⟨gs, j, none⟩ = false := h.segs.frozenAt j

/-- How many are safe is written. -/
theorem Dev.storeSafe {gs cap : Nat} (h : Dev tD tS tB w base g F (.slice (some ⟨gs, 0, none⟩) T.length cap) T wr) (hDS : tS ≠ tD) (hSB : tB ≠ tS) {i : Nat} {x : Seg} (hx : T[i]? = some x) (s : Int) :
    Dev tD tS tB (w.setCell ⟨gs, 2 * i + 1, none⟩ (.int .i64 s)) base g F (.slice (some ⟨gs, 0, none⟩) (T.set i (x.1, x.2.1, s)).length cap) (T.set i (x.1, x.2.1, s)) wr := by
  have hgs : g ≠ gs := fun e => h.ne_segs hDS (by rw [e]; rfl)
  have hst := (h.segs.stored (2 * i + 1) (.int .i64 s)).1
  rw [segCells_set1 T i x s hx] at hst
  have hlen : (T.set i (x.1, x.2.1, s)).length = T.length := List.length_set
  have hi := (List.getElem?_eq_some_iff.1 hx).1
  have key : ∀ (j : Nat) (y : Seg), (T.set i (x.1, x.2.1, s))[j]? = some y → ∃ z, T[j]? = some z ∧ z.1 = y.1 ∧ z.2.1 = y.2.1 := by
    intro j y hy
    by_cases e : i = j
    · subst e
      rw [List.getElem?_set_self hi] at hy
      injection hy with hy
      subst hy
      exact ⟨x, hx, rfl, rfl⟩
    · rw [List.getElem?_set_ne e] at hy
      exact ⟨y, hy, rfl, rfl⟩
  rw [hlen]
  refine ⟨blk_far h.blk hgs _, h.gb, h.gF, by rw [hlen]; exact hst, h.segF, fun j y hy => ?_, fun j y hy => ?_, fun j j' y y' hy hy' hne => ?_, fun k hk => ⟨(h.foot k hk).1, by rw [World.size_setCell]; exact (h.foot k hk).2⟩⟩
  · obtain ⟨z, hz, e1, e2⟩ := key j y hy
    rw [← e1, ← e2]
    exact own_setCell (p := ⟨gs, 2 * i + 1, none⟩) (h.rows j z hz) (h.ne_row' (k := gs) hSB hz rfl) _
  · obtain ⟨z, hz, e1, _⟩ := key j y hy
    rw [← e1]
    exact h.rowF j z hz
  · obtain ⟨z, hz, e1, _⟩ := key j y hy
    obtain ⟨z', hz', e1', _⟩ := key j' y' hy'
    rw [← e1, ← e1']
    exact h.apart j j' z z' hz hz' hne

/-- The bytes of a segment are written: another row, or the same one turned. -/
theorem Dev.storeBytes {gs cap : Nat} (h : Dev tD tS tB w base g F (.slice (some ⟨gs, 0, none⟩) T.length cap) T wr) (hDS : tS ≠ tD) (hDB : tB ≠ tD) (hSB : tB ≠ tS) {i : Nat} {x : Seg} (hx : T[i]? = some x) {w1 : World} {v : Value} {b : List Int}
    (hg : w.grownBy w1 x.1.ownBlock) (ho : w1.ownsRow base tB 1 v b.length (nums .u8 b)) (hat : v.ownBlock = x.1.ownBlock ∨ ∃ k, v.ownBlock = some k ∧ w.heap.size ≤ k) :
    Dev tD tS tB (w1.setCell ⟨gs, 2 * i, none⟩ v) base g (v.ownBlock.toList ++ F) (.slice (some ⟨gs, 0, none⟩) (T.set i (v, b, x.2.2)).length cap) (T.set i (v, b, x.2.2)) wr := by
  have hgs : g ≠ gs := fun e => h.ne_segs hDS (by rw [e]; rfl)
  have hlen : (T.set i (v, b, x.2.2)).length = T.length := List.length_set
  have hi := (List.getElem?_eq_some_iff.1 hx).1
  have hsegs1 : w1.ownsRow base tS 2 (.slice (some ⟨gs, 0, none⟩) T.length cap) T.length (segCells T) := h.segs.kept hg (.inr (h.ne_row' hSB hx rfl))
  have hst := (hsegs1.stored (2 * i) v).1
  rw [segCells_set0 T i x v b hx] at hst
  have key : ∀ (j : Nat) (y : Seg), (T.set i (v, b, x.2.2))[j]? = some y → (j = i ∧ y = (v, b, x.2.2)) ∨ (j ≠ i ∧ T[j]? = some y) := by
    intro j y hy
    by_cases e : i = j
    · subst e
      rw [List.getElem?_set_self hi] at hy
      injection hy with hy
      exact .inl ⟨rfl, hy.symm⟩
    · rw [List.getElem?_set_ne e] at hy
      exact .inr ⟨fun e' => e e'.symm, hy⟩
  have hvF : ∀ k, v.ownBlock = some k → base ≤ k ∧ k < w1.heap.size := fun k hk => ho.lt k hk
  have hne : ∀ (j : Nat) (y : Seg), j ≠ i → T[j]? = some y → NeRow v y.1 := by
    intro j y hj hy k hk hk'
    rcases hat with hat | ⟨k', hk2, hle⟩
    · exact h.apart i j x y hx hy (fun e => hj e.symm) k (hat ▸ hk) hk'
    · have := own_lt (h.rows j y hy) k hk'
      rw [hk2] at hk
      injection hk with hk
      omega
  rw [hlen]
  refine ⟨?_, h.gb, List.mem_append_right _ h.gF, by rw [hlen]; exact hst, fun k hk => List.mem_append_right _ (h.segF k hk), fun j y hy => ?_, fun j y hy k hk => ?_, fun j j' y y' hy hy' hn => ?_, fun k hk => ?_⟩
  · exact blk_far (blk_grown h.blk hg (h.ne_row hDB hx)) hgs _
  · rcases key j y hy with ⟨rfl, rfl⟩ | ⟨hj, hy'⟩
    · refine own_setCell ho ?_ _
      intro e
      obtain ⟨cells, hh⟩ := own_typed hsegs1 gs rfl
      exact own_ne ho hh hSB e
    · refine own_setCell (p := ⟨gs, 2 * i, none⟩) ((h.rows j y hy').kept hg ?_) (h.ne_row' (k := gs) hSB hy' rfl) _
      exact ne_other (h.apart i j x y hx hy' (fun e => hj e.symm))
  · rcases key j y hy with ⟨rfl, rfl⟩ | ⟨hj, hy'⟩
    · exact List.mem_append_left _ (by simp only at hk; rw [hk]; simp)
    · exact List.mem_append_right _ (h.rowF j y hy' k hk)
  · rcases key j y hy with ⟨rfl, rfl⟩ | ⟨hj, hyj⟩
    · rcases key j' y' hy' with ⟨rfl, rfl⟩ | ⟨hj', hyj'⟩
      · exact absurd rfl hn
      · exact hne j' y' hj' hyj'
    · rcases key j' y' hy' with ⟨rfl, rfl⟩ | ⟨hj', hyj'⟩
      · exact ne_symm (hne j y hj hyj)
      · exact h.apart j j' y y' hyj hyj' hn
  · rw [World.size_setCell]
    rcases List.mem_append.1 hk with hk | hk
    · exact hvF k (by cases hv : v.ownBlock with
        | none => rw [hv] at hk; simp at hk
        | some q => rw [hv] at hk; simp at hk; rw [hk])
    · exact ⟨(h.foot k hk).1, Nat.lt_of_lt_of_le (h.foot k hk).2 hg.size⟩

/-- A segment more. -/
theorem Dev.pushSeg (h : Dev tD tS tB w base g F sv T wr) (hDS : tS ≠ tD) (hDB : tB ≠ tD) (hSB : tB ≠ tS) {w1 : World} {sv1 : Value}
    (hg : w.grownBy w1 sv.ownBlock) (ho : w1.ownsRow base tS 2 sv1 (T.length + 1) (segCells T ++ [.slice none 0 0, .int .i64 0])) (hat : sv1.ownBlock = sv.ownBlock ∨ ∃ k, sv1.ownBlock = some k ∧ w.heap.size ≤ k) :
    Dev tD tS tB (w1.setCell ⟨g, 0, none⟩ sv1) base g (sv1.ownBlock.toList ++ F) sv1 (T ++ [(.slice none 0 0, [], 0)]) wr := by
  have key : ∀ (j : Nat) (y : Seg), (T ++ [((Value.slice none 0 0), ([] : List Int), (0 : Int))])[j]? = some y → (j = T.length ∧ y = (.slice none 0 0, [], 0)) ∨ (j < T.length ∧ T[j]? = some y) := by
    intro j y hy
    rcases Nat.lt_or_ge j T.length with hj | hj
    · rw [List.getElem?_append_left hj] at hy
      exact .inr ⟨hj, hy⟩
    · have hj' : j = T.length := by
        have := (List.getElem?_eq_some_iff.1 hy).1
        simp at this
        omega
      subst hj'
      rw [List.getElem?_append_right (Nat.le_refl _)] at hy
      simp at hy
      exact .inl ⟨rfl, hy.symm⟩
  refine ⟨?_, h.gb, List.mem_append_right _ h.gF, ?_, fun k hk => List.mem_append_left _ (by rw [hk]; simp), fun j y hy => ?_, fun j y hy k hk => ?_, fun j j' y y' hy hy' hn => ?_, fun k hk => ?_⟩
  · rw [blk_set (blk_grown h.blk hg (h.ne_segs hDS))]
    rfl
  · have : (T ++ [((Value.slice none 0 0), ([] : List Int), (0 : Int))]).length = T.length + 1 := by simp
    rw [this, segCells_snoc]
    refine own_setCell ho ?_ _
    intro e
    rcases hat with hat | ⟨k, hk, hle⟩
    · exact h.ne_segs hDS (by rw [← hat, ← e])
    · rw [hk] at e
      injection e with e
      have := h.lt
      simp only at e
      omega
  · rcases key j y hy with ⟨rfl, rfl⟩ | ⟨hj, hyj⟩
    · exact World.ownsRow_nil _ _ _ _
    · refine own_setCell ((h.rows j y hyj).kept hg ?_) (h.ne_row hDB hyj) _
      cases hv : sv.ownBlock with
      | none => cases hy1 : y.1.ownBlock <;> simp
      | some q => exact .inr (fun e => h.ne_row' hSB hyj hv e.symm)
  · rcases key j y hy with ⟨rfl, rfl⟩ | ⟨hj, hyj⟩
    · simp [Value.ownBlock] at hk
    · exact List.mem_append_right _ (h.rowF j y hyj k hk)
  · rcases key j y hy with ⟨rfl, rfl⟩ | ⟨hj, hyj⟩
    · exact ne_nil _
    · rcases key j' y' hy' with ⟨rfl, rfl⟩ | ⟨hj', hyj'⟩
      · exact ne_nil' _
      · exact h.apart j j' y y' hyj hyj' hn
  · rw [World.size_setCell]
    rcases List.mem_append.1 hk with hk | hk
    · exact ho.lt k (by cases hv : sv1.ownBlock with
        | none => rw [hv] at hk; simp at hk
        | some q => rw [hv] at hk; simp at hk; rw [hk])
    · exact ⟨(h.foot k hk).1, Nat.lt_of_lt_of_le (h.foot k hk).2 hg.size⟩
end
end Go.Proofs.YtklliflmdckadaaDoor.DevW
