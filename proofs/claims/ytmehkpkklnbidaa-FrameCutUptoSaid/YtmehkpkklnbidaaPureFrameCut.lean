/-
  The law FrameCut about numbers and lists alone: what is cut off bytes is what their frame has, and what stands behind it.
-/
import Derived.Test.YtmehkpkklnbidaaPureSaidFrameCut
import Derived.Test.YtmehkpkklnbidaaQCCut
import Derived.Test.YtmehkpkklnbidaaQCMade
namespace Go.Proofs.Ytmehkpkklnbidaa.Pure
open Go.RowKit Go.Proofs.Ytmehkpkklnbidaa.PC Go.Proofs.YtmehkpkklnbidaaW.PrintWords Go.Proofs.YtmehkpkklnbidaaW.PrintLast Go.Proofs.Ytmehkpkklnbidaa.Base Go.Proofs.Ytmehkpkklnbidaa.QC
set_option linter.unusedSimpArgs false
set_option linter.unusedVariables false

namespace FrameCut_
theorem awake : Ev (fun k => bolterlaw22_awake.f k) true := Ev.of (fun k => bolterlaw22_awake.mono k) (k := 10) (by kernel_rfl)
theorem of_str (l : List Int) (h : B8 l) : bytesOf (strOfNums l) = l := by
  have h1 : ∀ (l : List Int), B8 l → (l.map fun n => ((UInt8.ofNat n.toNat).toNat : Int)) = l := by
    intro l
    induction l with
    | nil => intro _; rfl
    | cons x r ih =>
      intro h
      have hx := h x (List.mem_cons_self ..)
      rw [List.map_cons, ih (fun y hy => h y (List.mem_cons_of_mem _ hy))]
      congr 1
      simp
      omega
  have := h1 l h
  simpa [bytesOf, strOfNums, List.map_map, Function.comp_def] using this
attribute [local irreducible] rd bt strOfNums be16 all16 chk
theorem str_app (a b : List Int) : (strOfNums a).toList ++ (strOfNums b).toList = (strOfNums (a ++ b)).toList := by rw [str_list, str_list, str_list, List.map_append]
theorem g_true (X : List Int) (hX : X.length ≤ 4194304) (B : B8 X) : Ev (fun k => bolterlaw22_FrameCut.g k X) true := by
  unfold bolterlaw22_FrameCut.g
  rcases cut_any X (by omega) B with ⟨b, r, ⟨hb, hx⟩, he⟩ | ⟨_, he⟩
  · refine Ev.bind he ?_
    simp only [if_true]
    have Bb : B8 b := fun y hy => B y (by rw [hx]; unfold fr; simp [hy])
    refine Ev.bind (made b hb Bb) ?_
    refine Ev.congr (f := fun _ => some true) (fun k => ?_) (Ev.now _)
    have h1 : (strOfNums (fr b)).size = b.length + 6 := (str_size (fr b)).trans (fr_len b)
    have h2 := congrArg List.length hx
    rw [List.length_append] at h2
    rw [if_pos ⟨by rw [str_app, ← hx], hb, by omega⟩]
  · refine Ev.bind he ?_
    exact Ev.congr (f := fun _ => some true) (fun k => by simp) (Ev.now _)
end FrameCut_

theorem FrameCut : PureSaid.FrameCut := by
  intro l0 l1 a2 a3 hw hm hw1 hm1 ha ha3 hb
  have B : B8 l0 := B8.of_wf hw
  have B1 : B8 l1 := B8.of_wf hw1
  have Bc : B8 (l0.take 600) := fun x hx => B x (List.mem_of_mem_take hx)
  have hc : (l0.take 600).length ≤ 600 := by rw [List.length_take]; omega
  have hl := fr_len (l0.take 600)
  have ha2 := bounds_u16 ha
  have ha4 := bounds_u8 ha3
  rw [opn.bs_one, opn.bs_one] at hb
  have hsz := str_size (fr (l0.take 600))
  have hF : B8 (fr (l0.take 600) ++ l1) := (fr_b8 Bc).append B1
  have hFl : (fr (l0.take 600) ++ l1).length = (l0.take 600).length + 6 + l1.length := by rw [List.length_append, hl]
  refine Ev.rounds ?_
  unfold bolterlaw22_FrameCut.f
  refine Ev.bind FrameCut_.awake ?_
  simp only [if_true]
  refine Ev.bind (made _ hc Bc) ?_
  rw [FrameCut_.of_str _ (fr_b8 Bc)]
  refine Ev.bind (cut_yes (by omega) hF ⟨hc, rfl⟩) ?_
  refine Ev.congr (f := fun k => (bolterlaw22_FrameCut.g k l0).bind (fun _ => bolterlaw22_FrameCut.g k ((fr (l0.take 600) ++ l1).set (a2.toNat % ((strOfNums (fr (l0.take 600))).size + l1.length)) a3))) (fun k => ?_) ?_
  · have e : (true = true ∧ l0.take 600 = l0.take 600 ∧ l1 = l1) ∧ (0 < (strOfNums (fr (l0.take 600))).size ∧ (strOfNums (fr (l0.take 600))).size + l1.length < 1099511627776 ∧ 0 ≤ a2 ∧ a2 < 65536) := ⟨⟨rfl, rfl, rfl⟩, by omega, by omega, ha2.1, by omega⟩
    rw [if_pos e]
  · refine Ev.bind (FrameCut_.g_true l0 (by omega) B) ?_
    refine FrameCut_.g_true _ (by rw [List.length_set]; omega) ?_
    intro y hy
    rcases List.mem_or_eq_of_mem_set hy with h | h
    · exact hF y h
    · subst h; omega

end Go.Proofs.Ytmehkpkklnbidaa.Pure
