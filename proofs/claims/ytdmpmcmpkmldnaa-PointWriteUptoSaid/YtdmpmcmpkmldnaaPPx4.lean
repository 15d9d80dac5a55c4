/-
  The law's own examples: awake. No macro, syntax, notation, axiom, sorry.
-/
import Derived.Test.YtdmpmcmpkmldnaaWn
import Derived.Test.YtdmpmcmpkmldnaaRd
namespace Go.Proofs.Ytdmpmcmpkmldnaa.PP
open Go.RowKit Go.Proofs.YtdmpmcmpkmldnaaW.PrintWords Go.Proofs.YtdmpmcmpkmldnaaW.PrintLast Go.Proofs.Ytdmpmcmpkmldnaa.Base Go.Proofs.Ytdmpmcmpkmldnaa.Nam Go.Proofs.Ytdmpmcmpkmldnaa.Trn Go.Proofs.Ytdmpmcmpkmldnaa.MapS Go.Proofs.Ytdmpmcmpkmldnaa.Wr Go.Proofs.Ytdmpmcmpkmldnaa.Rd
set_option linter.unusedVariables false
set_option linter.unusedSimpArgs false
set_option maxRecDepth 100000

set_option maxHeartbeats 2000000 in
theorem awake_ (w : World) : Calls Try.prog 8 #[] w fun e w' => e = .returned (.bool true) ∧ Below w.heap.size w w' := by
  have HF := Lib.hid (Wr.fresh w (Nat.le_refl w.heap.size))
  go_enter Try.func8, Try.ntmps8
  go_wp2_with fail
  have hla : ∀ l ∈ ([[97], [98]] : List (List Int)), Lab l ∧ fold l = l ∧ B8 l := by
    intro l hl
    simp only [List.mem_cons, List.not_mem_nil, or_false] at hl
    rcases hl with rfl | rfl
    · exact ⟨by unfold Lab; decide, rfl, by intro y hy; simp at hy; omega⟩
    · exact ⟨by unfold Lab; decide, rfl, by intro y hy; simp at hy; omega⟩
  have key := name_yes HF.out [[97], [98]] (fun l hl => (hla l hl).1) (fun l hl => (hla l hl).2.1) (by decide) (fun l hl => (hla l hl).2.2) (by decide)
  rw [show strOfNums (lay [[97], [98]]) = ⟨#[1, 97, 1, 98]⟩ from rfl] at key
  with_reducible refine key.mono ?_
  clear key
  rintro e w1 ⟨rfl, F1, hW, hF1, hT⟩
  have hT1 : Below w.heap.size w w1 := (below_alloc (Below.refl _ _) _).trans (hT.below (fun b hb => by simp at hb; omega) (by simp))
  have HT1 := Lib.hid hT1
  have hW : Wr w1 w.heap.size w.heap.size F1 [1, 97, 1, 98, 0] (wN [] (fun _ => none) [[97], [98]]).2 := hW
  have HW1 := Lib.hid hW
  clear hT hT1 hW HF
  go_wp2_with fail
  have key := name_yes HW1.out [[98]] (fun l hl => (hla l (by simp at hl; simp [hl])).1) (fun l hl => (hla l (by simp at hl; simp [hl])).2.1) (by decide) (fun l hl => (hla l (by simp at hl; simp [hl])).2.2) (by decide)
  rw [show strOfNums (lay [[98]]) = ⟨#[1, 98]⟩ from rfl] at key
  with_reducible refine key.mono ?_
  clear key
  rintro e w2 ⟨rfl, F2, hW2, hF2, hT2⟩
  have hW2 : Wr w2 w.heap.size w.heap.size F2 [1, 97, 1, 98, 0, 192, 2] (wN [1, 97, 1, 98, 0] (wN [] (fun _ => none) [[97], [98]]).2 [[98]]).2 := hW2
  have HT2 := Lib.hid (HT1.out.trans (hT2.below (fun b hb => (HW1.out.foot b hb).1) HT1.out.size))
  obtain ⟨A, c, hc0, hf0, ho, hcv⟩ := hW2.cell
  have hcv : (convert 30 9 (.slice A 7 c)).run Try.prog w2 = .ok (.string ⟨#[1, 97, 1, 98, 0, 192, 2]⟩) w2 := hcv w2
  have hc0 : w2.cell? ⟨w.heap.size, 0, none⟩ = some (.slice A 7 c) := hc0
  have HO := Lib.hid ho
  clear hT2 HW1 HT1 hW2 hF1 hF2 hla hf0 ho
  go_wp2_with fail
  have hr : rdC ⟨#[1, 97, 1, 98, 0, 192, 2]⟩ 1000 5 (-1) 5 [] = some (some ([[98]], 7)) := by kernel_rfl
  have key := read_ ⟨#[1, 97, 1, 98, 0, 192, 2]⟩ 5 1000 _ hr (by decide) (by omega) w2
  rw [show rdOut (some ([[98]], 7)) = .tuple #[.string ⟨#[1, 98]⟩, .int .i64 7, .bool true] by kernel_rfl] at key
  with_reducible refine key.mono ?_
  clear key hr
  rintro e w3 ⟨rfl, hb⟩
  have HT3 := Lib.hid (HT2.out.trans (hb.mono HT2.out.size))
  have hc3 := pw_cell_below hb hc0
  have hcv3 : (convert 30 9 (.slice A 7 c)).run Try.prog w3 = .ok (.string ⟨#[1, 97, 1, 98, 0, 192, 2]⟩) w3 := own_string (P := Try.prog) Try.underlying30 Try.underlying5 Try.underlying9 (pw_own_below HO.out hb)
  clear hb hc0 hcv
  go_wp2
  go_ret
  exact ⟨by first | rfl | simp, HT3.out⟩
end Go.Proofs.Ytdmpmcmpkmldnaa.PP
