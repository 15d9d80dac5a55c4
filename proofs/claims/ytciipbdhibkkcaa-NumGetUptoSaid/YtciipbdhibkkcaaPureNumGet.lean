/-
  The law NumGet about numbers and strings alone: the number at a place is what its bytes say; there is none, where they are not all there.
-/
import Derived.Test.YtciipbdhibkkcaaPureSaidNumGet
import Derived.Test.YtciipbdhibkkcaaQGGet32
namespace Go.Proofs.Ytciipbdhibkkcaa.Pure
open Go.RowKit Go.Proofs.Ytciipbdhibkkcaa.PG Go.Proofs.YtciipbdhibkkcaaW.PrintWords Go.Proofs.YtciipbdhibkkcaaW.PrintLast Go.Proofs.Ytciipbdhibkkcaa.Base Go.Proofs.Ytciipbdhibkkcaa.QG
set_option linter.unusedSimpArgs false
set_option linter.unusedVariables false

namespace NumGet_
theorem awake : Ev (fun k => bolterlaw01_awake.f k) true := Ev.of (fun k => bolterlaw01_awake.mono k) (k := 10) (by kernel_rfl)
theorem vs_rng (b : ByteArray) (i : Int) : ∀ j : Nat, j ≤ 4 → 0 ≤ bolterlaw01_NumGet.vs b i j ∧ bolterlaw01_NumGet.vs b i j < 256 ^ j
  | 0, _ => by unfold bolterlaw01_NumGet.vs; omega
  | j + 1, hj => by
    have ih := vs_rng b i j (by omega)
    have hb := bt_range b (i + j)
    have hp : (256 : Int) ^ (j + 1) = 256 ^ j * 256 := Int.pow_succ 256 j
    have h4 : (256 : Int) ^ j ≤ 16777216 := by
      rcases (show j = 0 ∨ j = 1 ∨ j = 2 ∨ j = 3 by omega) with rfl | rfl | rfl | rfl <;> decide
    unfold bolterlaw01_NumGet.vs
    rw [hp]
    generalize (256 : Int) ^ j = z at *
    generalize bt b (i + j) = y at *
    generalize bolterlaw01_NumGet.vs b i j = x at *
    rw [w64 (n := x * 256) (by omega) (by omega), w64 (by omega) (by omega)]
    omega
theorem vs_succ (b : ByteArray) (i : Int) (j : Nat) (hj : j < 4) : bolterlaw01_NumGet.vs b i (j + 1) = bolterlaw01_NumGet.vs b i j * 256 + bt b (i + j) := by
  have ih := vs_rng b i j (by omega)
  have hb := bt_range b (i + j)
  have h4 : (256 : Int) ^ j ≤ 16777216 := by
    rcases (show j = 0 ∨ j = 1 ∨ j = 2 ∨ j = 3 by omega) with rfl | rfl | rfl | rfl <;> decide
  show wrap64 (wrap64 (bolterlaw01_NumGet.vs b i j * 256) + bt b (i + j)) = _
  generalize (256 : Int) ^ j = z at *
  generalize bt b (i + j) = y at *
  generalize bolterlaw01_NumGet.vs b i j = x at *
  rw [w64 (n := x * 256) (by omega) (by omega), w64 (by omega) (by omega)]
theorem vs2 (b : ByteArray) (i : Int) : bolterlaw01_NumGet.vs b i 2 = bt b i * 256 + bt b (i + 1) := by
  rw [vs_succ b i 1 (by omega), vs_succ b i 0 (by omega)]
  show (0 * 256 + bt b (i + ((0 : Nat) : Int))) * 256 + bt b (i + ((1 : Nat) : Int)) = _
  rw [show i + ((0 : Nat) : Int) = i by omega, show i + ((1 : Nat) : Int) = i + 1 by omega]
  omega
theorem vs4 (b : ByteArray) (i : Int) : bolterlaw01_NumGet.vs b i 4 = ((bt b i * 256 + bt b (i + 1)) * 256 + bt b (i + 2)) * 256 + bt b (i + 3) := by
  rw [vs_succ b i 3 (by omega), vs_succ b i 2 (by omega), vs2]
  rfl
end NumGet_

theorem NumGet : PureSaid.NumGet := by
  intro b i hb hi hbulk
  have hbulk' : b.size + 1 + 1 ≤ 1048576 := hbulk
  have hi' := bounds_i64 hi
  have h2 : num_Get16.f b i = some (bolterlaw01_NumGet.want b i 2, bolterlaw01_NumGet.in_ b i 2) := by
    unfold bolterlaw01_NumGet.want
    by_cases h : 0 ≤ i ∧ i + ((2 : Nat) : Int) ≤ b.size
    · have e : bolterlaw01_NumGet.in_ b i 2 = true := decide_eq_true h
      rw [e, if_pos rfl, NumGet_.vs2]
      exact get16_in b i h.1 (by omega) (by omega)
    · have e : bolterlaw01_NumGet.in_ b i 2 = false := decide_eq_false h
      rw [e, if_neg (by decide)]
      exact get16_out b i (by omega) (by omega)
  have h4 : num_Get32.f b i = some (bolterlaw01_NumGet.want b i 4, bolterlaw01_NumGet.in_ b i 4) := by
    unfold bolterlaw01_NumGet.want
    by_cases h : 0 ≤ i ∧ i + ((4 : Nat) : Int) ≤ b.size
    · have e : bolterlaw01_NumGet.in_ b i 4 = true := decide_eq_true h
      rw [e, if_pos rfl, NumGet_.vs4]
      exact get32_in b i h.1 (by omega) (by omega)
    · have e : bolterlaw01_NumGet.in_ b i 4 = false := decide_eq_false h
      rw [e, if_neg (by decide)]
      exact get32_out b i (by omega) (by omega) (by omega)
  have r : ∀ j : Nat, j ≤ 4 → 0 ≤ bolterlaw01_NumGet.want b i j ∧ bolterlaw01_NumGet.want b i j < 256 ^ j := fun j hj => by
    unfold bolterlaw01_NumGet.want
    split
    · exact NumGet_.vs_rng b i j hj
    · exact ⟨by omega, Int.pow_pos (by omega)⟩
  have r2 := r 2 (by omega)
  have r4 := r 4 (by omega)
  refine Ev.rounds ?_
  unfold bolterlaw01_NumGet.f
  refine Ev.bind NumGet_.awake ?_
  simp only [if_true]
  refine Ev.congr (f := fun _ => some true) (fun k => ?_) (Ev.now _)
  rw [h2, h4]
  simp only [Option.bind_some]
  rw [if_pos ⟨⟨trivial, trivial, trivial, trivial⟩, r2.1, r2.2, r4.1, r4.2, by omega⟩]

end Go.Proofs.Ytciipbdhibkkcaa.Pure
