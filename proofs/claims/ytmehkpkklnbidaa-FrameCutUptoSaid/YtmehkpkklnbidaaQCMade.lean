/-
  What the statements' own words on frames answer: a frame as the document tells it. No macro, syntax, notation, axiom, sorry.
-/
import Derived.Test.YtmehkpkklnbidaaPCx1
import Derived.Test.YtmehkpkklnbidaaPCx1
import Derived.Test.YtmehkpkklnbidaaQCFrame
namespace Go.Proofs.Ytmehkpkklnbidaa.QC
open Go.RowKit Go.Proofs.Ytmehkpkklnbidaa.PC Go.Proofs.YtmehkpkklnbidaaW.PrintWords Go.Proofs.YtmehkpkklnbidaaW.PrintLast Go.Proofs.Ytmehkpkklnbidaa.Base
set_option linter.unusedVariables false
set_option linter.unusedSimpArgs false
attribute [local irreducible] rd bt strOfNums be16 all16

theorem lcheck_loop (l : List Int) (hl : l.length ≤ 140737488355328) (B : B8 l) (d : Nat) : ∀ i : Nat, i + d = l.length →
    Ev (fun k => bolterlaw22_check.l0 k (cfold (l.take i)).1 (cfold (l.take i)).2 l (l.length : Int) (i : Int)) (chk l) := by
  induction d with
  | zero =>
    intro i hi
    obtain rfl : i = l.length := by omega
    refine Ev.step (f := fun _ => some (chk l)) (fun k => ?_) (Ev.now _)
    have hr := cfold_rng l
    simp only [bolterlaw22_check.l0, Int.lt_irrefl, if_false, List.take_length, IntKind.wrap_u16]
    unfold chk
    rw [w64 (n := (cfold l).2 * 256) (by omega) (by omega), w64 (by omega) (by omega)]
    congr 1
    omega
  | succ d ih =>
    intro i hi
    have hlt : i < l.length := by omega
    have hb := B _ (rd_mem (l := l) (i := (i : Int)) (by omega) (by omega))
    have hr := cfold_rng (l.take i)
    refine Ev.step (fun k => ?_) (ih (i + 1) (by omega))
    have e : wrap64 ((i : Int) + 1) = ((i + 1 : Nat) : Int) := by rw [w64 (by omega) (by omega)]; omega
    rw [cfold_take l i hlt]
    simp only [bolterlaw22_check.l0, cstep]
    generalize hv : rd l (i : Int) = v at hb ⊢
    generalize (cfold (l.take i)).1 = a at hr ⊢
    generalize (cfold (l.take i)).2 = b at hr ⊢
    rw [if_pos (by omega), if_pos (by omega), if_pos (by omega), e, w64 (n := v) (by omega) (by omega), w64 (n := a + v) (by omega) (by omega)]
    have e1 : Int.tmod (a + v) 255 = (a + v) % 255 := by rw [Int.tmod_eq_emod_of_nonneg (by omega)]
    rw [e1, w64 (n := b + (a + v) % 255) (by omega) (by omega)]
    have e2 : Int.tmod (b + (a + v) % 255) 255 = (b + (a + v) % 255) % 255 := by rw [Int.tmod_eq_emod_of_nonneg (by omega)]
    rw [e2]
theorem lcheck (l : List Int) (hl : l.length ≤ 140737488355328) (B : B8 l) : Ev (fun k => bolterlaw22_check.f k l) (chk l) := by
  have h := lcheck_loop l hl B l.length 0 (by omega)
  exact h
theorem made (l : List Int) (hl : l.length ≤ 600) (B : B8 l) : Ev (fun k => bolterlaw22_made.f k l) (strOfNums (fr l)) := by
  have e1 : IntKind.u16.wrap (l.length : Int) = l.length := by rw [IntKind.wrap_u16]; omega
  have e2 : IntKind.u16.wrap (65535 - (l.length : Int)) = 65535 - l.length := by rw [IntKind.wrap_u16]; omega
  have h0 := put16 [] [(l.length : Int), 65535 - l.length] (by simp)
  rw [List.nil_append, all16_two] at h0
  have h1 := lcheck l (by omega) B
  have h2 := put16 (hd l.length ++ l) [chk l] (by rw [List.length_append, hd_len]; simp; omega)
  rw [all16_one] at h2
  refine Ev.congr (f := fun k => (num_Put16.f k [] [(l.length : Int), 65535 - l.length]).bind fun t => (if t.length + l.length < 140737488355328 then ((bolterlaw22_check.f k l).bind fun t1 => ((num_Put16.f k (t ++ l) [t1]).bind fun t2 => (some (strOfNums t2)))) else none)) (fun k => ?_) ?_
  · unfold bolterlaw22_made.f
    rw [e1, e2]
  · refine Ev.bind h0 ?_
    refine Ev.congr (f := fun k => (bolterlaw22_check.f k l).bind fun t1 => ((num_Put16.f k (hd l.length ++ l) [t1]).bind fun t2 => (some (strOfNums t2)))) (fun k => ?_) ?_
    · have := hd_len (l.length : Int)
      unfold hd at this
      rw [if_pos (by omega)]
      rfl
    · refine Ev.bind h1 ?_
      refine Ev.bind h2 ?_
      exact Ev.now _
end Go.Proofs.Ytmehkpkklnbidaa.QC
