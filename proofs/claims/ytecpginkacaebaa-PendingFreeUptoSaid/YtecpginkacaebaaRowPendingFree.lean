/-
  The law PendingFree of the given program holds for every input whose values and letters are together at most 1048576: its statement 'PendingFreeUptoSaid'.
-/
import Derived.Test.YtecpginkacaebaaRows
import Derived.Test.YtecpginkacaebaaPPx20
import Derived.Test.YtecpginkacaebaaPurePendingFree
import Derived.Test.YtecpginkacaebaaOpn
import Derived.WalkKit
import Derived.ProofKit
import Derived.OpenShut
import Derived.ShutString
import Derived.ChangeOld
import Derived.Below
import Derived.SizedLaws
import Derived.JoinedCond
namespace Go.Proofs.Ytecpginkacaebaa.pendingFree
open Go.ChangeShapes Go.WideShapes Go.ChangeAt Go.RowKit
open Go.ChangeMaps (open_string shut_string)
open Go.Proofs.Ytecpginkacaebaa.PP Go.Proofs.YtecpginkacaebaaW.PrintWords
set_option linter.unusedVariables false
theorem own : ownKnob Try.prog.godebug = none := by kernel_rfl
theorem laidOut : laidOutB Try.prog = true := by kernel_rfl
set_option maxRecDepth 100000 in
theorem lifted (os : Os) (started : os.Started) (H : Type) (enc : TypeId × Value → H) (F : Stop.Interp) :
    ReturnsInHanded {} Try.checked os 3 .any ((Rows.OpenSpec.upto Rows.pendingFreeSpec).pre6 enc Try.prog Try.f3 Rows.pendingFreeUptoRow.domain false) (((Rows.OpenSpec.upto Rows.pendingFreeSpec).at F).post enc Try.prog Try.f3 false true false false) := by
  refine returnsInHanded_of_cond (C := Try.checked) (s := Rows.OpenSpec.upto Rows.pendingFreeSpec) (k := Rows.uptoSmall) rfl own started (by kernel_rfl) Try.func3
    (OpenSpec.witness (enc := enc) (C := Try.checked) (s := Rows.OpenSpec.upto Rows.pendingFreeSpec) (k := Rows.uptoSmall) rfl false ⟨#[], #[.slice none 0 0, .int .u16 0], []⟩ 8 (by kernel_rfl) (by kernel_rfl) (by kernel_rfl)
      (x := ([.nil, .lit (.int .u16 0)], [], [])) (by kernel_rfl) rfl (by kernel_rfl)) ?_
  intro W base args ds gs before hval0 hW _ hk0 _
  have hk := opn.bound hk0
  have hval : ∀ (j : Nat) t v, Try.f3.params[j]? = some t → args[j]? = some v → Value.okWide Try.prog W .any base t v := hval0
  have hW' := hW
  obtain ⟨p, q, hA0, hV, rfl, hfz, hnd⟩ := hW
  have hA : DataW.TrodAll enc Try.prog W 0 (fun _ => true) true Try.f3.params.toList args.toList ds p := hA0
  rw [Try.params3] at hA hval
  obtain ⟨v0, vs0, d0, ds0, p0, q0, hargs, rfl, rfl, h0, r0⟩ := trodAll_cons hA
  obtain ⟨v1, vs1, d1, ds1, p1, q1, rfl, rfl, rfl, h1, r1⟩ := trodAll_cons r0
  obtain ⟨rfl, rfl, rfl⟩ := trodAll_nil r1
  obtain rfl : args = #[v0, v1] := by cases args; simp_all
  obtain ⟨rfl, rfl⟩ := trodVars_none hV
  have k0 := h0
  have lt0 : ∀ x ∈ p0, x.block < W.heap.size := by obtain ⟨m, hm⟩ := k0; exact DataW.trod_lt m _ _ _ hm
  obtain ⟨A0, len0, cap0, rfl⟩ := okWide_slice Try.underlying22 (hval 0 22 v0 rfl rfl)
  obtain ⟨fuel0, hf0⟩ := h0
  obtain ⟨l0, rfl, hc0, hC0, hw0, hb0, hm0⟩ := opn.open_row (P := Try.prog) (t := 22) Try.underlying22 (opn.opn_struct (P := Try.prog) (t := 31) Try.underlying31 (by kernel_rfl) (opn.opn_more (opn.opn_int (P := Try.prog) (t := 5) Try.underlying5 (by kernel_rfl)) rfl (opn.opn_more (opn.opn_int (P := Try.prog) (t := 5) Try.underlying5 (by kernel_rfl)) rfl (opn.opn_more (opn.opn_slice (P := Try.prog) (t := 28) Try.underlying28 (by kernel_rfl) (opn.opn_int (P := Try.prog) (t := 5) Try.underlying5 (by kernel_rfl))) rfl (opn.opn_more (opn.opn_int (P := Try.prog) (t := 5) Try.underlying5 (by kernel_rfl)) rfl (opn.opn_last (opn.opn_int (P := Try.prog) (t := 29) Try.underlying29 (by kernel_rfl)) rfl))))) id id (fun _ => rfl)) hf0
  obtain ⟨a1, rfl, rfl, rfl, w1⟩ := open_int Try.underlying23 (hval 1 23 v1 rfl rfl) h1
  have hbulk : (opn.bs (fun x : (Int × Int × (List Int) × Int × Int) => (fun _ => 1) x.1 + ((fun _ => 1) x.2.1 + ((opn.bs (fun _ => 1)) x.2.2.1 + ((fun _ => 1) x.2.2.2.1 + (fun _ => 1) x.2.2.2.2))) + 1)) l0 + (fun _ => 1) a1 ≤ 1048576 := by
    simp only [List.append_nil, Rows.uptoBulkAll] at hk
    have z0 := hb0
    have z1 := opn.one_le (.lit (.int .u16 a1) : DataW H)
    (try simp only [] at *)
    (try dsimp only [id] at *)
    omega
  have h := Pure.PendingFree l0 a1 hw0 hm0 w1 hbulk
  clear hA0 hval0 hk0
  refine (bolterlaw26_PendingFree.calls _ _ l0 a1 true W hC0 hc0 h).mono fun e W' he_ => ?_
  obtain ⟨he, hd⟩ := he_
  have bel : Below W.heap.size W W' := hd
  subst he
  exact ⟨_, rfl, _, _, _, [], _, [], hW', trodAll_mk1 (shut_bool Try.underlying4 _), (trodAll_cons_mk (Below.trod laidOut (by kernel_rfl) (of_decide_eq_true (by kernel_rfl)) k0 bel lt0) (trodAll_cons_mk (shut_int Try.underlying23 w1) trodAll_mk0)), rfl, bel.frame _, fun h => by cases h⟩
theorem over : Rows.pendingFreeUptoRow.holds Try.pinned (Rows.OpenSpec.upto Rows.pendingFreeSpec) :=
  OpenClaim.holds_of_cond 3 Try.f3 rfl rfl rfl rfl rfl rfl rfl ⟨rfl, rfl, rfl, rfl, rfl⟩ rfl rfl rfl rfl rfl (by kernel_rfl) Try.func3 (by kernel_rfl)
    (of_decide_eq_true (by kernel_rfl)) (by unfold Func.isWrapper; first | (rw [if_pos (by decide +kernel)]; kernel_rfl) | (rw [if_neg (by decide +kernel)]; exact ⟨rfl, rfl⟩))
    (fun os started H enc _ F => lifted os started H enc F)
theorem proved : Rows.PendingFreeUptoSaid := over
#print axioms proved
end Go.Proofs.Ytecpginkacaebaa.pendingFree
namespace Go.Proofs.Ytecpginkacaebaa
/-- The row, under a short name, for the claim. -/
theorem pendingFree_holds : Rows.PendingFreeUptoSaid := pendingFree.proved
end Go.Proofs.Ytecpginkacaebaa
