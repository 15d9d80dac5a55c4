/-
  The law PointCut of the given program holds for every input whose values and letters are together at most 1048576: its statement 'PointCutUptoSaid'.
-/
import Derived.Test.YtdmpmcmpkmldnaaRows
import Derived.Test.YtdmpmcmpkmldnaaPCx2
import Derived.Test.YtdmpmcmpkmldnaaPurePointCut
import Derived.Test.YtdmpmcmpkmldnaaOpn
import Derived.WalkKit
import Derived.ProofKit
import Derived.OpenShut
import Derived.ShutString
import Derived.ChangeOld
import Derived.Below
import Derived.SizedLaws
import Derived.JoinedCond
namespace Go.Proofs.Ytdmpmcmpkmldnaa.pointCut
open Go.ChangeShapes Go.WideShapes Go.ChangeAt Go.RowKit
open Go.ChangeMaps (open_string shut_string)
open Go.Proofs.Ytdmpmcmpkmldnaa.PC Go.Proofs.YtdmpmcmpkmldnaaW.PrintWords
set_option linter.unusedVariables false
theorem own : ownKnob Try.prog.godebug = none := by kernel_rfl
theorem laidOut : laidOutB Try.prog = true := by kernel_rfl
set_option maxRecDepth 100000 in
theorem lifted (os : Os) (started : os.Started) (H : Type) (enc : TypeId × Value → H) (F : Stop.Interp) :
    ReturnsInHanded {} Try.checked os 7 .any ((Rows.OpenSpec.upto Rows.pointCutSpec).pre6 enc Try.prog Try.f7 Rows.pointCutUptoRow.domain false) (((Rows.OpenSpec.upto Rows.pointCutSpec).at F).post enc Try.prog Try.f7 false true false false) := by
  refine returnsInHanded_of_cond (C := Try.checked) (s := Rows.OpenSpec.upto Rows.pointCutSpec) (k := Rows.uptoSmall) rfl own started (by kernel_rfl) Try.func7
    (OpenSpec.witness (enc := enc) (C := Try.checked) (s := Rows.OpenSpec.upto Rows.pointCutSpec) (k := Rows.uptoSmall) rfl false ⟨#[], #[.string ByteArray.empty, .slice none 0 0, .string ByteArray.empty], []⟩ 8 (by kernel_rfl) (by kernel_rfl) (by kernel_rfl)
      (x := ([.lit (.string []), .nil, .lit (.string [])], [], [])) (by kernel_rfl) rfl (by kernel_rfl)) ?_
  intro W base args ds gs before hval0 hW _ hk0 _
  have hk := opn.bound hk0
  have hval : ∀ (j : Nat) t v, Try.f7.params[j]? = some t → args[j]? = some v → Value.okWide Try.prog W .any base t v := hval0
  have hW' := hW
  obtain ⟨p, q, hA0, hV, rfl, hfz, hnd⟩ := hW
  have hA : DataW.TrodAll enc Try.prog W 0 (fun _ => true) true Try.f7.params.toList args.toList ds p := hA0
  rw [Try.params7] at hA hval
  obtain ⟨v0, vs0, d0, ds0, p0, q0, hargs, rfl, rfl, h0, r0⟩ := trodAll_cons hA
  obtain ⟨v1, vs1, d1, ds1, p1, q1, rfl, rfl, rfl, h1, r1⟩ := trodAll_cons r0
  obtain ⟨v2, vs2, d2, ds2, p2, q2, rfl, rfl, rfl, h2, r2⟩ := trodAll_cons r1
  obtain ⟨rfl, rfl, rfl⟩ := trodAll_nil r2
  obtain rfl : args = #[v0, v1, v2] := by cases args; simp_all
  obtain ⟨rfl, rfl⟩ := trodVars_none hV
  obtain ⟨a0, rfl, rfl, rfl, y0⟩ := open_string Try.underlying9 (hval 0 9 v0 rfl rfl) h0
  have hb0 : a0.size + 1 ≤ Rows.uptoBulk (.lit (.string a0.data.toList) : DataW H) := by simp [Rows.uptoBulk]
  have k1 := h1
  have lt1 : ∀ x ∈ p1, x.block < W.heap.size := by obtain ⟨m, hm⟩ := k1; exact DataW.trod_lt m _ _ _ hm
  obtain ⟨A1, len1, cap1, rfl⟩ := okWide_slice Try.underlying30 (hval 1 30 v1 rfl rfl)
  obtain ⟨fuel1, hf1⟩ := h1
  obtain ⟨l1, rfl, hc1, hC1, hw1, hb1, hm1⟩ := opn.open_row (P := Try.prog) (t := 30) Try.underlying30 (opn.opn_int (P := Try.prog) (t := 5) Try.underlying5 (by kernel_rfl)) hf1
  obtain ⟨a2, rfl, rfl, rfl, y2⟩ := open_string Try.underlying9 (hval 2 9 v2 rfl rfl) h2
  have hb2 : a2.size + 1 ≤ Rows.uptoBulk (.lit (.string a2.data.toList) : DataW H) := by simp [Rows.uptoBulk]
  have hbulk : (fun s => s.size + 1) a0 + (opn.bs (fun _ => 1)) l1 + (fun s => s.size + 1) a2 ≤ 1048576 := by
    simp only [List.append_nil, Rows.uptoBulkAll] at hk
    have z0 := hb0
    have z1 := hb1
    have z2 := hb2
    (try simp only [] at *)
    (try dsimp only [id] at *)
    omega
  obtain ⟨k, h⟩ := Pure.PointCut a0 l1 a2 y0 hw1 hm1 y2 hbulk
  clear hA0 hval0 hk0
  refine (bolterlaw03_PointCut.calls k a0 _ _ l1 a2 true W hC1 hc1 h).mono fun e W' he_ => ?_
  obtain ⟨he, hd⟩ := he_
  have bel : Below W.heap.size W W' := hd
  subst he
  exact ⟨_, rfl, _, _, _, [], _, [], hW', trodAll_mk1 (shut_bool Try.underlying4 _), (trodAll_cons_mk (shut_string Try.underlying9 y0) (trodAll_cons_mk (Below.trod laidOut (by kernel_rfl) (of_decide_eq_true (by kernel_rfl)) k1 bel lt1) (trodAll_cons_mk (shut_string Try.underlying9 y2) trodAll_mk0))), rfl, bel.frame _, fun h => by cases h⟩
theorem over : Rows.pointCutUptoRow.holds Try.pinned (Rows.OpenSpec.upto Rows.pointCutSpec) :=
  OpenClaim.holds_of_cond 7 Try.f7 rfl rfl rfl rfl rfl rfl rfl ⟨rfl, rfl, rfl, rfl, rfl⟩ rfl rfl rfl rfl rfl (by kernel_rfl) Try.func7 (by kernel_rfl)
    (of_decide_eq_true (by kernel_rfl)) (by unfold Func.isWrapper; first | (rw [if_pos (by decide +kernel)]; kernel_rfl) | (rw [if_neg (by decide +kernel)]; exact ⟨rfl, rfl⟩))
    (fun os started H enc _ F => lifted os started H enc F)
theorem proved : Rows.PointCutUptoSaid := over
#print axioms proved
end Go.Proofs.Ytdmpmcmpkmldnaa.pointCut
namespace Go.Proofs.Ytdmpmcmpkmldnaa
/-- The row, under a short name, for the claim. -/
theorem pointCut_holds : Rows.PointCutUptoSaid := pointCut.proved
end Go.Proofs.Ytdmpmcmpkmldnaa
