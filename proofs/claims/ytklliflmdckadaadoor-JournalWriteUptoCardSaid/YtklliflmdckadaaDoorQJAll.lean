/-
  frame.All on numbers and lists alone: frames one behind the other, and what begins none.
-/
import Derived.Test.YtklliflmdckadaaDoorPJx2
import Derived.Test.YtklliflmdckadaaDoorQJCut
namespace Go.Proofs.YtklliflmdckadaaDoor.QJ
open Go.RowKit Go.Proofs.YtklliflmdckadaaDoor.PJ Go.Proofs.YtklliflmdckadaaDoorW.PrintWords Go.Proofs.YtklliflmdckadaaDoorW.PrintLast Go.Proofs.YtklliflmdckadaaDoor.Base
set_option linter.unusedSimpArgs false
set_option linter.unusedVariables false
attribute [local irreducible] rd bt strOfNums be16 all16 chk
/-- The frames of all, one behind the other. -/
def frs (cs : List (List Int)) : List Int := cs.flatMap fr
theorem frs_cons (c : List Int) (r : List (List Int)) : frs (c :: r) = fr c ++ frs r := rfl
theorem frs_snoc (cs : List (List Int)) (c : List Int) : frs (cs ++ [c]) = frs cs ++ fr c := by simp [frs]
theorem frs_app (cs ds : List (List Int)) : frs (cs ++ ds) = frs cs ++ frs ds := by simp [frs]
theorem frs_b8 (cs : List (List Int)) (h : ∀ c ∈ cs, B8 c) : B8 (frs cs) := fun y hy => by
  obtain ⟨c, hc, hy⟩ := List.mem_flatMap.1 hy
  exact fr_b8 (h c hc) y hy
theorem all_loop (X tl : List Int) (hX : X.length ≤ 70368744177664) (Bt : B8 tl) (hn : ¬ ∃ b r, Begins tl b r) : ∀ (cs : List (List Int)) (acc : List (List Int)), (∀ c ∈ cs, B8 c ∧ c.length ≤ 600) → (frs cs ++ tl).length ≤ X.length → acc.length + cs.length ≤ 1000000000 →
    Ev (fun k => frame_All.l0 k X acc (frs cs ++ tl)) (acc ++ cs, (X.length : Int) - (tl.length : Int)) := by
  intro cs
  induction cs with
  | nil =>
    intro acc _ hl ha
    refine Ev.step (f := fun k => (frame_Cut.f k tl).bind fun bt => if bt.2.2 = true then (if acc.length < 5864062014805 then frame_All.l0 k X (acc ++ [bt.1]) bt.2.1 else none) else some (acc, wrap64 ((X.length : Int) - (tl.length : Int)))) (fun k => rfl) ?_
    have hl' : tl.length ≤ X.length := by simpa [frs] using hl
    refine Ev.bind (cut_no (by omega) Bt hn) ?_
    refine Ev.congr (f := fun _ => some (acc ++ [], (X.length : Int) - (tl.length : Int))) (fun k => ?_) (Ev.now _)
    rw [if_neg (show ¬ (false = true) by decide), w64 (by omega) (by omega), List.append_nil]
  | cons c r ih =>
    intro acc hc hl ha
    have h0 := hc c (List.mem_cons_self ..)
    have hr : ∀ c ∈ r, B8 c ∧ c.length ≤ 600 := fun q hq => hc q (List.mem_cons_of_mem _ hq)
    have hB : B8 (frs (c :: r) ++ tl) := (frs_b8 _ (fun q hq => (hc q hq).1)).append Bt
    have e : frs (c :: r) ++ tl = fr c ++ (frs r ++ tl) := by rw [frs_cons, List.append_assoc]
    simp only [List.length_cons] at ha
    refine Ev.step (f := fun k => (frame_Cut.f k (frs (c :: r) ++ tl)).bind fun bt => if bt.2.2 = true then (if acc.length < 5864062014805 then frame_All.l0 k X (acc ++ [bt.1]) bt.2.1 else none) else some (acc, wrap64 ((X.length : Int) - ((frs (c :: r) ++ tl).length : Int)))) (fun k => rfl) ?_
    refine Ev.bind (cut_yes (by omega) hB ⟨h0.2, e⟩) ?_
    have hl2 : (frs r ++ tl).length ≤ X.length := by
      have := congrArg List.length e
      rw [List.length_append, List.length_append] at this
      rw [List.length_append] at hl ⊢
      rw [List.length_append] at this
      omega
    have := ih (acc ++ [c]) hr hl2 (by rw [List.length_append]; simp only [List.length_cons, List.length_nil]; omega)
    rw [List.append_assoc] at this
    refine Ev.congr (fun k => ?_) this
    rw [if_pos rfl, if_pos (by omega)]
theorem frs_len : ∀ (cs : List (List Int)), (∀ c ∈ cs, c.length ≤ 600) → (frs cs).length ≤ 606 * cs.length := by
  intro cs
  induction cs with
  | nil => intro _; simp [frs]
  | cons c r ih =>
    intro h
    have := ih fun q hq => h q (List.mem_cons_of_mem _ hq)
    have h0 := h c (List.mem_cons_self ..)
    rw [frs_cons, List.length_append, fr_len, List.length_cons]
    omega
/-- Frames, and what begins none: they are told, and how many bytes they have. -/
theorem all_of (cs : List (List Int)) (tl : List Int) (hl : (frs cs ++ tl).length ≤ 70368744177664) (Bt : B8 tl) (hn : ¬ ∃ b r, Begins tl b r) (hc : ∀ c ∈ cs, B8 c ∧ c.length ≤ 600) (hcl : cs.length ≤ 1000000000) :
    ∃ k, frame_All.f k (frs cs ++ tl) = some (cs, ((frs cs).length : Int)) := by
  have h := all_loop (frs cs ++ tl) tl hl Bt hn cs [] hc (Nat.le_refl _) (by simp only [List.length_nil]; omega)
  rw [List.nil_append, show (((frs cs ++ tl).length : Int) - (tl.length : Int)) = ((frs cs).length : Int) by rw [List.length_append]; omega] at h
  exact Ev.rounds h
theorem no_nil : ¬ ∃ b r, Begins ([] : List Int) b r := by
  rintro ⟨b, r, h⟩
  have := (begins_num (X := []) (by simp) B8.nil h).1
  simp at this
end Go.Proofs.YtklliflmdckadaaDoor.QJ
