/- part of a proof; what it has no use for was struck out -/
import Derived.Test.YtnikfeaggppmpaaDoorWAll
namespace Go.Proofs.YtnikfeaggppmpaaDoor.Trn
open Go.RowKit Go.Proofs.YtnikfeaggppmpaaDoorW.PrintWords
set_option linter.unusedVariables false
structure Turned (F : List Nat) (w w' : World) : Prop where
  os : w'.os = w.os
  tape : w'.tape = w.tape
  output : w'.output = w.output
  size : w.heap.size ≤ w'.heap.size
  block : ∀ k, k < w.heap.size → k ∉ F → w'.heap[k]? = w.heap[k]?
theorem Turned.refl (F : List Nat) (w : World) : Turned F w w := ⟨rfl, rfl, rfl, Nat.le_refl _, fun _ _ _ => rfl⟩
theorem Turned.trans {F F1 : List Nat} {w w1 w2 : World} (h : Turned F w w1) (k : Turned F1 w1 w2) (hF : ∀ b ∈ F1, b ∈ F ∨ w.heap.size ≤ b) : Turned F w w2 :=
  ⟨k.os.trans h.os, k.tape.trans h.tape, k.output.trans h.output, Nat.le_trans h.size k.size, fun b hb hn =>
    (k.block b (Nat.lt_of_lt_of_le hb h.size) (fun hm => by rcases hF b hm with h' | h'; exact hn h'; omega)).trans (h.block b hb hn)⟩
theorem Turned.below {F : List Nat} {w w1 : World} {base : Nat} (h : Turned F w w1) (hF : ∀ b ∈ F, base ≤ b) (hb : base ≤ w.heap.size) : Below base w w1 :=
  ⟨h.os, h.tape, h.output, h.size, fun k hk => h.block k (by omega) (fun hm => by have := hF k hm; omega)⟩
theorem Turned.of_below {w w1 : World} (h : Below w.heap.size w w1) (F : List Nat) : Turned F w w1 := ⟨h.os, h.tape, h.output, h.size, fun k hk _ => h.block k hk⟩
theorem Turned.of_grown {w w1 : World} {row : Option Nat} (h : w.grownBy w1 row) {F : List Nat} (hr : ∀ k, row = some k → k ∈ F) : Turned F w w1 :=
  ⟨h.os, h.tape, h.output, h.size, fun k hk hn => h.block k hk (fun e => hn (hr k e.symm))⟩
theorem Turned.setCell {F : List Nat} {w w1 : World} (h : Turned F w w1) {p : Addr} (hp : p.block ∈ F ∨ w.heap.size ≤ p.block) (u : Value) : Turned F w (w1.setCell p u) :=
  ⟨h.os, h.tape, h.output, by simpa [World.setCell] using h.size, fun k hk hn => (Below.heap_setCell _ _ _ _ (by rintro rfl; rcases hp with hp | hp; exact hn hp; omega)).trans (h.block k hk hn)⟩
theorem Turned.alloc {F : List Nat} {w w1 : World} (h : Turned F w w1) (o : Obj) : Turned F w (w1.alloc o) :=
  ⟨h.os, h.tape, h.output, by have := h.size; simp; omega, fun k hk hn => (Below.heap_alloc _ _ _ (Nat.lt_of_lt_of_le hk h.size)).trans (h.block k hk hn)⟩
theorem Turned.drew {F : List Nat} {w w1 : World} (h : Turned F w w1) : Turned F w w1.drew := ⟨h.os, h.tape, h.output, h.size, h.block⟩
theorem Turned.mono {F F' : List Nat} {w w1 : World} (h : Turned F w w1) (hF : ∀ k ∈ F, k ∈ F') : Turned F' w w1 := ⟨h.os, h.tape, h.output, h.size, fun k hk hn => h.block k hk (fun hm => hn (hF k hm))⟩
theorem Turned.own {F : List Nat} {w w1 : World} (h : Turned F w w1) {base : Nat} {e : TypeId} {size n : Nat} {v : Value} {xs : List Value} (ho : w.ownsRow base e size v n xs) (hv : ∀ k, v.ownBlock = some k → k ∉ F) : w1.ownsRow base e size v n xs :=
  own_move ho fun k hk => h.block k (own_lt ho k hk) (hv k hk)
theorem Turned.blk {F : List Nat} {w w1 : World} (h : Turned F w w1) {k : Nat} {o : Obj} (hk : w.heap[k]? = some o) (hn : k ∉ F) : w1.heap[k]? = some o := (h.block k (blk_lt hk) hn).trans hk
theorem Turned.cell {F : List Nat} {w w1 : World} (h : Turned F w w1) {p : Addr} {v : Value} (hc : w.cell? p = some v) (hn : p.block ∉ F) : w1.cell? p = some v := by
  have := h.block p.block (World.block_lt_of_cell? w p hc) hn
  simpa [World.cell?, this] using hc
end Go.Proofs.YtnikfeaggppmpaaDoor.Trn
