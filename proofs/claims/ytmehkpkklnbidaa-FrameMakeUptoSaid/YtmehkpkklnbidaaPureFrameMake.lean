/-
  The law FrameMake about numbers and lists alone: a frame is what the document says; too many bytes have none.
-/
import Derived.Test.YtmehkpkklnbidaaPureSaidFrameMake
import Derived.Test.YtmehkpkklnbidaaQFMade
namespace Go.Proofs.Ytmehkpkklnbidaa.Pure
open Go.RowKit Go.Proofs.Ytmehkpkklnbidaa.PF Go.Proofs.YtmehkpkklnbidaaW.PrintWords Go.Proofs.YtmehkpkklnbidaaW.PrintLast Go.Proofs.Ytmehkpkklnbidaa.Base Go.Proofs.Ytmehkpkklnbidaa.QF
set_option linter.unusedSimpArgs false
set_option linter.unusedVariables false
attribute [local irreducible] rd bt strOfNums be16 all16

namespace FrameMake_
theorem awake : Ev (fun k => bolterlaw22_awake.f k) true := Ev.of (fun k => bolterlaw22_awake.mono k) (k := 10) (by kernel_rfl)
theorem zeros (m : Nat) : B8 (List.replicate m 0) := fun y hy => by
  have := (List.mem_replicate.1 hy).2
  omega
theorem rest (a : Int) (h0 : 0 ≤ a) (h1 : a ≤ 65535) :
    Ev (fun k => if 0 ≤ (wrap64 (Int.tmod a 1300)) then (if (wrap64 (Int.tmod a 1300) : Int).toNat ≤ 281474976710656 then ((some (List.replicate (wrap64 (Int.tmod a 1300) : Int).toNat 0 : List Int)).bind fun y => ((frame_Make.f k y).bind fun bt => (some (bt.2 == (decide ((y.length : Int) ≤ 600)))))) else (none)) else (none)) true := by
  have e : wrap64 (Int.tmod a 1300) = a % 1300 := by rw [Int.tmod_eq_emod_of_nonneg h0, w64 (by omega) (by omega)]
  refine Ev.congr (f := fun k => (frame_Make.f k (List.replicate (a % 1300).toNat 0)).bind fun bt => (some (bt.2 == (decide (((List.replicate (a % 1300).toNat (0 : Int)).length : Int) ≤ 600))))) (fun k => ?_) ?_
  · rw [e, if_pos (by omega), if_pos (by omega)]
    rfl
  · generalize hm : (a % 1300).toNat = m
    have hl : (List.replicate m (0 : Int)).length = m := List.length_replicate
    by_cases h : m ≤ 600
    · refine Ev.bind (make _ (by omega) (zeros m)) ?_
      have : decide (((List.replicate m (0 : Int)).length : Int) ≤ 600) = true := by rw [hl]; exact decide_eq_true (by omega)
      rw [this]
      exact Ev.now _
    · refine Ev.congr (f := fun _ => some true) (fun k => ?_) (Ev.now _)
      have : decide (((List.replicate m (0 : Int)).length : Int) ≤ 600) = false := by rw [hl]; exact decide_eq_false (by omega)
      rw [make_long _ (by omega), this]
      rfl
end FrameMake_

theorem FrameMake : PureSaid.FrameMake := by
  intro l a hb8 hbm ha hbulk
  rw [opn.bs_one] at hbulk
  have B := B8.of_wf hb8
  have h16 := bounds_u16 ha
  have hr := FrameMake_.rest a h16.1 h16.2
  refine Ev.rounds ?_
  unfold bolterlaw22_FrameMake.f
  refine Ev.bind FrameMake_.awake ?_
  simp only [if_true]
  by_cases h : l.length ≤ 600
  · refine Ev.bind (make l h B) ?_
    refine Ev.congr (f := fun k => (bolterlaw22_made.f k l).bind fun t => (if (strOfNums (fr l)).toList = t.toList then ((frame_Check.f k l).bind fun t1 => ((bolterlaw22_check.f k l).bind fun t2 => (if t1 = t2 then (if 0 ≤ (wrap64 (Int.tmod a 1300)) then (if (wrap64 (Int.tmod a 1300) : Int).toNat ≤ 281474976710656 then ((some (List.replicate (wrap64 (Int.tmod a 1300) : Int).toNat 0 : List Int)).bind fun y => ((frame_Make.f k y).bind fun bt => (some (bt.2 == (decide ((y.length : Int) ≤ 600)))))) else (none)) else (none)) else (some false)))) else (some false))) (fun k => ?_) ?_
    · rw [if_neg (by omega), if_pos rfl]
    · refine Ev.bind (made l h B) ?_
      simp only [if_true]
      refine Ev.bind (check l (by omega) B) ?_
      refine Ev.bind (lcheck l (by omega) B) ?_
      simp only [if_true]
      exact hr
  · refine Ev.congr (f := fun k => if 0 ≤ (wrap64 (Int.tmod a 1300)) then (if (wrap64 (Int.tmod a 1300) : Int).toNat ≤ 281474976710656 then ((some (List.replicate (wrap64 (Int.tmod a 1300) : Int).toNat 0 : List Int)).bind fun y => ((frame_Make.f k y).bind fun bt => (some (bt.2 == (decide ((y.length : Int) ≤ 600)))))) else (none)) else (none)) (fun k => ?_) hr
    rw [make_long l (by omega)]
    simp only [Option.bind_some]
    rw [if_pos (by omega), if_neg (by simp), if_pos (by rfl)]

end Go.Proofs.Ytmehkpkklnbidaa.Pure
