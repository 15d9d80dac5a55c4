/- part of a proof; what it has no use for was struck out -/
import Derived.Test.YtnikfeaggppmpaaEnc
namespace Go.Proofs.Ytnikfeaggppmpaa.Wr
open Go.RowKit Go.Proofs.Ytnikfeaggppmpaa.PM Go.Proofs.YtnikfeaggppmpaaW Go.Proofs.YtnikfeaggppmpaaW.PrintWords Go.Proofs.YtnikfeaggppmpaaW.PrintLast Go.Proofs.YtnikfeaggppmpaaW.PrintMore Go.Proofs.Ytnikfeaggppmpaa.Base Go.Proofs.Ytnikfeaggppmpaa.Nam Go.Proofs.Ytnikfeaggppmpaa.Trn Go.Proofs.Ytnikfeaggppmpaa.MapS Go.Proofs.Ytnikfeaggppmpaa.QM
set_option linter.unusedVariables false
set_option linter.unusedSimpArgs false
set_option maxRecDepth 100000
def m0 : Msg := ⟨7, false, 0, false, false, true, false, 0, ⟨#[1, 120]⟩, 1, [], [], [], 0⟩
def l0 : List Int := [0, 7, 1, 0, 0, 1, 0, 0, 0, 0, 0, 0, 1, 120, 0, 0, 1, 0, 1]
theorem head0 : headW m0 = [0, 7, 1, 0, 0, 1, 0, 0, 0, 0, 0, 0] := by kernel_rfl
theorem nam0 : (namW (bytesOf m0.qn) ([0, 7, 1, 0, 0, 1, 0, 0, 0, 0, 0, 0], fun _ => none)).1 = [0, 7, 1, 0, 0, 1, 0, 0, 0, 0, 0, 0, 1, 120, 0] := by kernel_rfl
theorem whole0 : wholeL m0 = l0 := by
  unfold wholeL
  rw [if_neg (by decide)]
  unfold partsW
  rw [head0]
  show (namW (bytesOf m0.qn) ([0, 7, 1, 0, 0, 1, 0, 0, 0, 0, 0, 0], fun _ => none)).1 ++ all16 [1, 1] = l0
  rw [nam0]
  kernel_rfl
theorem may0 : mayM m0 = true := by
  unfold mayM headOk
  rw [show nm (bytesOf m0.qn) = true by kernel_rfl]
  rw [decide_eq_true (by decide)]
  show ([[], [], []] : List (List R)).all partOk = true
  simp [partOk]
theorem enc0 : encL m0 100 = some l0 := by
  unfold encL
  rw [may0, if_pos rfl, whole0, if_pos (by decide)]
theorem wf0 : WfM m0 := ⟨⟨fun r hr => (by cases hr), fun r hr => (by cases hr), fun r hr => (by cases hr)⟩, by decide, by decide, by decide, by decide, ⟨by decide, by decide⟩, ⟨by decide, by decide⟩⟩
set_option maxHeartbeats 8000000 in
theorem awake_ (w : World) : Calls Try.prog 6 #[] w fun e w' => e = .returned (.bool true) ∧ Below w.heap.size w w' := by
  go_enter Try.func6, Try.ntmps6
  go_upto_region 2 with fail
  obtain ⟨gA, hgA⟩ : ∃ g, w.heap.size = g := ⟨_, rfl⟩
  obtain ⟨w1, hw1⟩ : ∃ w1, w.alloc (Obj.cells #[.int .u16 7, .bool false, .int .i64 0, .bool false, .bool false, .bool true, .bool false, .int .i64 0, .string ⟨#[1, 120]⟩, .int .u16 1, .slice none 0 0, .slice none 0 0, .slice none 0 0, .int .i64 0] 31) = w1 := ⟨_, rfl⟩
  have hV : MVar w1 gA m0 (.slice none 0 0) (.slice none 0 0) (.slice none 0 0) := by rw [← hw1, ← hgA]; exact blk_new w _
  have hB : Below w.heap.size w w1 := by rw [← hw1]; exact below_alloc (Below.refl _ _) _
  (try rw [hw1])
  (try rw [hgA])
  have HV := Lib.hid hV
  have HB := Lib.hid hB
  clear hV hB hw1 hgA
  go_wp2_with ((with_reducible refine gate_ld (t := 31) rfl ?_); refine ev_load rfl rfl rfl HV.out.load ?_)
  refine (encode_ m0 wf0 100 none none none 0 0 0 w1 (Kd.C_nil _ _) (Nat.zero_le _) (Kd.C_nil _ _) (Nat.zero_le _) (Kd.C_nil _ _) (Nat.zero_le _)).mono ?_
  rintro e w2 ⟨v, b, rfl, hb, hr⟩
  rw [enc0] at hr
  obtain ⟨rfl, ho⟩ := hr
  have HB2 := Lib.hid (HB.out.trans (hb.mono HB.out.size))
  have hs := own_string (P := Try.prog) Try.underlying40 Try.underlying5 Try.underlying9 ho
  rw [show strOfNums l0 = (⟨#[0, 7, 1, 0, 0, 1, 0, 0, 0, 0, 0, 0, 1, 120, 0, 0, 1, 0, 1]⟩ : ByteArray) by kernel_rfl] at hs
  clear ho hb HV HB
  go_wp2
  go_ret
  exact ⟨by first | rfl | simp, HB2.out⟩
end Go.Proofs.Ytnikfeaggppmpaa.Wr
