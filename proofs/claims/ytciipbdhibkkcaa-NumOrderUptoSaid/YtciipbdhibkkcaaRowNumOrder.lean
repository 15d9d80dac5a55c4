/-
  The law NumOrder of the given program holds for every input whose values and letters are together at most 1048576: its statement 'NumOrderUptoSaid'.
-/
import Derived.Test.YtciipbdhibkkcaaRows
import Derived.Test.YtciipbdhibkkcaaPOx2
import Derived.Test.YtciipbdhibkkcaaPureNumOrder
import Derived.Test.YtciipbdhibkkcaaOpn
import Derived.WalkKit
import Derived.ProofKit
import Derived.OpenShut
import Derived.ShutString
import Derived.ChangeOld
import Derived.Below
import Derived.SizedLaws
import Derived.JoinedCond
namespace Go.Proofs.Ytciipbdhibkkcaa.numOrder
open Go.ChangeShapes Go.WideShapes Go.ChangeAt Go.RowKit
open Go.ChangeMaps (open_string shut_string)
open Go.Proofs.Ytciipbdhibkkcaa.PO Go.Proofs.YtciipbdhibkkcaaW.PrintWords
set_option linter.unusedVariables false
theorem own : ownKnob Try.prog.godebug = none := by kernel_rfl
theorem laidOut : laidOutB Try.prog = true := by kernel_rfl
set_option maxRecDepth 100000 in
theorem lifted (os : Os) (started : os.Started) (H : Type) (enc : TypeId × Value → H) (F : Stop.Interp) :
    ReturnsInHanded {} Try.checked os 5 .any ((Rows.OpenSpec.upto Rows.numOrderSpec).pre6 enc Try.prog Try.f5 Rows.numOrderUptoRow.domain false) (((Rows.OpenSpec.upto Rows.numOrderSpec).at F).post enc Try.prog Try.f5 false true false false) := by
  refine returnsInHanded_of_cond (C := Try.checked) (s := Rows.OpenSpec.upto Rows.numOrderSpec) (k := Rows.uptoSmall) rfl own started (by kernel_rfl) Try.func5
    (OpenSpec.witness (enc := enc) (C := Try.checked) (s := Rows.OpenSpec.upto Rows.numOrderSpec) (k := Rows.uptoSmall) rfl false ⟨#[], #[.int .u32 0, .int .u32 0, .int .u16 0, .int .u16 0], []⟩ 8 (by kernel_rfl) (by kernel_rfl) (by kernel_rfl)
      (x := ([.lit (.int .u32 0), .lit (.int .u32 0), .lit (.int .u16 0), .lit (.int .u16 0)], [], [])) (by kernel_rfl) rfl (by kernel_rfl)) ?_
  intro W base args ds gs before hval0 hW _ hk0 _
  have hk := opn.bound hk0
  have hval : ∀ (j : Nat) t v, Try.f5.params[j]? = some t → args[j]? = some v → Value.okWide Try.prog W .any base t v := hval0
  have hW' := hW
  obtain ⟨p, q, hA0, hV, rfl, hfz, hnd⟩ := hW
  have hA : DataW.TrodAll enc Try.prog W 0 (fun _ => true) true Try.f5.params.toList args.toList ds p := hA0
  rw [Try.params5] at hA hval
  obtain ⟨v0, vs0, d0, ds0, p0, q0, hargs, rfl, rfl, h0, r0⟩ := trodAll_cons hA
  obtain ⟨v1, vs1, d1, ds1, p1, q1, rfl, rfl, rfl, h1, r1⟩ := trodAll_cons r0
  obtain ⟨v2, vs2, d2, ds2, p2, q2, rfl, rfl, rfl, h2, r2⟩ := trodAll_cons r1
  obtain ⟨v3, vs3, d3, ds3, p3, q3, rfl, rfl, rfl, h3, r3⟩ := trodAll_cons r2
  obtain ⟨rfl, rfl, rfl⟩ := trodAll_nil r3
  obtain rfl : args = #[v0, v1, v2, v3] := by cases args; simp_all
  obtain ⟨rfl, rfl⟩ := trodVars_none hV
  obtain ⟨a0, rfl, rfl, rfl, w0⟩ := open_int Try.underlying34 (hval 0 34 v0 rfl rfl) h0
  obtain ⟨a1, rfl, rfl, rfl, w1⟩ := open_int Try.underlying34 (hval 1 34 v1 rfl rfl) h1
  obtain ⟨a2, rfl, rfl, rfl, w2⟩ := open_int Try.underlying23 (hval 2 23 v2 rfl rfl) h2
  obtain ⟨a3, rfl, rfl, rfl, w3⟩ := open_int Try.underlying23 (hval 3 23 v3 rfl rfl) h3
  have hbulk : (fun _ => 1) a0 + (fun _ => 1) a1 + (fun _ => 1) a2 + (fun _ => 1) a3 ≤ 1048576 := by
    simp only [List.append_nil, Rows.uptoBulkAll] at hk
    have z0 := opn.one_le (.lit (.int .u32 a0) : DataW H)
    have z1 := opn.one_le (.lit (.int .u32 a1) : DataW H)
    have z2 := opn.one_le (.lit (.int .u16 a2) : DataW H)
    have z3 := opn.one_le (.lit (.int .u16 a3) : DataW H)
    (try simp only [] at *)
    omega
  obtain ⟨k, h⟩ := Pure.NumOrder a0 a1 a2 a3 w0 w1 w2 w3 hbulk
  clear hA0 hval0 hk0
  refine (bolterlaw01_NumOrder.calls k a0 a1 a2 a3 true W  h).mono fun e W' he_ => ?_
  obtain ⟨he, hd⟩ := he_
  have bel : Below W.heap.size W W' := hd
  subst he
  exact ⟨_, rfl, _, _, _, [], _, [], hW', trodAll_mk1 (shut_bool Try.underlying4 _), (trodAll_cons_mk (shut_int Try.underlying34 w0) (trodAll_cons_mk (shut_int Try.underlying34 w1) (trodAll_cons_mk (shut_int Try.underlying23 w2) (trodAll_cons_mk (shut_int Try.underlying23 w3) trodAll_mk0)))), rfl, bel.frame _, fun h => by cases h⟩
theorem over : Rows.numOrderUptoRow.holds Try.pinned (Rows.OpenSpec.upto Rows.numOrderSpec) :=
  OpenClaim.holds_of_cond 5 Try.f5 rfl rfl rfl rfl rfl rfl rfl ⟨rfl, rfl, rfl, rfl, rfl⟩ rfl rfl rfl rfl rfl (by kernel_rfl) Try.func5 (by kernel_rfl)
    (of_decide_eq_true (by kernel_rfl)) (by unfold Func.isWrapper; first | (rw [if_pos (by decide +kernel)]; kernel_rfl) | (rw [if_neg (by decide +kernel)]; exact ⟨rfl, rfl⟩))
    (fun os started H enc _ F => lifted os started H enc F)
theorem proved : Rows.NumOrderUptoSaid := over
#print axioms proved
end Go.Proofs.Ytciipbdhibkkcaa.numOrder
namespace Go.Proofs.Ytciipbdhibkkcaa
/-- The row, under a short name, for the claim. -/
theorem numOrder_holds : Rows.NumOrderUptoSaid := numOrder.proved
end Go.Proofs.Ytciipbdhibkkcaa
