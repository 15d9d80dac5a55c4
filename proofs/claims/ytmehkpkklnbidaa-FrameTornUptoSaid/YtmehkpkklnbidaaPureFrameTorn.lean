/-
  The law FrameTorn about numbers and lists alone: a frame of which some bytes are torn off is none.
-/
import Derived.Test.YtmehkpkklnbidaaPureSaidFrameTorn
import Derived.Test.YtmehkpkklnbidaaQUCut
namespace Go.Proofs.Ytmehkpkklnbidaa.Pure
open Go.RowKit Go.Proofs.Ytmehkpkklnbidaa.PU Go.Proofs.YtmehkpkklnbidaaW.PrintWords Go.Proofs.YtmehkpkklnbidaaW.PrintLast Go.Proofs.Ytmehkpkklnbidaa.Base Go.Proofs.Ytmehkpkklnbidaa.QU
set_option linter.unusedSimpArgs false
set_option linter.unusedVariables false

namespace FrameTorn_
theorem awake : Ev (fun k => bolterlaw22_awake.f k) true := Ev.of (fun k => bolterlaw22_awake.mono k) (k := 10) (by kernel_rfl)
attribute [local irreducible] rd bt strOfNums be16 all16 chk
/-- Nothing begins what is left of a frame. -/
theorem torn (c : List Int) (hc : c.length ≤ 600) (B : B8 c) (z : Nat) (hz : z < (fr c).length) : ¬ ∃ b r, Begins ((fr c).take z) b r := by
  rintro ⟨b, r, hb, he⟩
  have hl := fr_len c
  have h1 : Begins (fr c) b (r ++ (fr c).drop z) := by
    refine ⟨hb, ?_⟩
    rw [← List.append_assoc, ← he, List.take_append_drop]
  have h2 : Begins (fr c) c [] := ⟨hc, by rw [List.append_nil]⟩
  have h3 := (begins_one (by omega) (fr_b8 B) h1 h2).2
  have h4 := congrArg List.length h3
  rw [List.length_append, List.length_drop] at h4
  simp at h4
  omega
/-- Where none begins there are none at all. -/
theorem none_all (X : List Int) (h : Ev (fun k => frame_Cut.f k X) ([], [], false)) : Ev (fun k => frame_All.f k X) ([], 0) := by
  refine Ev.step (f := fun k => (frame_Cut.f k X).bind fun bt => if bt.2.2 = true then (if ([] : List (List Int)).length < 5864062014805 then frame_All.l0 k X ([] ++ [bt.1]) bt.2.1 else none) else some ([], wrap64 ((X.length : Int) - (X.length : Int)))) (fun k => rfl) ?_
  refine Ev.bind h ?_
  refine Ev.congr (f := fun _ => some (([] : List (List Int)), (0 : Int))) (fun k => ?_) (Ev.now _)
  rw [if_neg (show ¬ (false = true) by decide), Int.sub_self, w64 (by omega) (by omega)]
end FrameTorn_

theorem FrameTorn : PureSaid.FrameTorn := by
  intro l0 a1 hw hm ha hb
  have B : B8 l0 := B8.of_wf hw
  have Bc : B8 (l0.take 600) := fun x hx => B x (List.mem_of_mem_take hx)
  have hc : (l0.take 600).length ≤ 600 := by rw [List.length_take]; omega
  have hl := fr_len (l0.take 600)
  have ha2 := bounds_u16 ha
  have hz : a1.toNat % (fr (l0.take 600)).length < (fr (l0.take 600)).length := Nat.mod_lt _ (by omega)
  refine Ev.rounds ?_
  unfold bolterlaw22_FrameTorn.f
  refine Ev.bind FrameTorn_.awake ?_
  simp only [if_true]
  refine Ev.bind (make _ hc Bc) ?_
  have hcut := cut_no (X := (fr (l0.take 600)).take (a1.toNat % (fr (l0.take 600)).length)) (by rw [List.length_take]; omega) (fun x hx => fr_b8 Bc x (List.mem_of_mem_take hx)) (FrameTorn_.torn _ hc Bc _ hz)
  refine Ev.congr (f := fun k => bolterlaw22_FrameTorn.g k ((fr (l0.take 600)).take (a1.toNat % (fr (l0.take 600)).length))) (fun k => ?_) ?_
  · have e : (true = true ∧ 0 < (fr (l0.take 600)).length ∧ (fr (l0.take 600)).length < 1099511627776 ∧ 0 ≤ a1 ∧ a1 < 65536) := ⟨rfl, by omega, by omega, ha2.1, by omega⟩
    rw [if_pos e]
  · unfold bolterlaw22_FrameTorn.g
    refine Ev.bind hcut (Ev.bind (FrameTorn_.none_all _ hcut) ?_)
    exact Ev.congr (f := fun _ => some true) (fun k => by simp) (Ev.now _)

end Go.Proofs.Ytmehkpkklnbidaa.Pure
