/-
  The law StreamParts of the given program holds for every input whose values and letters are together at most 1048576: its statement 'StreamPartsUptoSaid'.
-/
import Derived.Test.YtlobjcokopfbkaaRows
import Derived.Test.YtlobjcokopfbkaaPYx14
import Derived.Test.YtlobjcokopfbkaaPureStreamParts
import Derived.Test.YtlobjcokopfbkaaOpn
import Derived.WalkKit
import Derived.ProofKit
import Derived.OpenShut
import Derived.ShutString
import Derived.ChangeOld
import Derived.Below
import Derived.SizedLaws
import Derived.JoinedCond
namespace Go.Proofs.Ytlobjcokopfbkaa.streamParts
open Go.ChangeShapes Go.WideShapes Go.ChangeAt Go.RowKit
open Go.ChangeMaps (open_string shut_string)
open Go.Proofs.Ytlobjcokopfbkaa.PY Go.Proofs.YtlobjcokopfbkaaW.PrintWords
set_option linter.unusedVariables false
theorem own : ownKnob Try.prog.godebug = none := by kernel_rfl
theorem laidOut : laidOutB Try.prog = true := by kernel_rfl
set_option maxRecDepth 100000 in
theorem lifted (os : Os) (started : os.Started) (H : Type) (enc : TypeId × Value → H) (F : Stop.Interp) :
    ReturnsInHanded {} Try.checked os 4 .any ((Rows.OpenSpec.upto Rows.streamPartsSpec).pre6 enc Try.prog Try.f4 Rows.streamPartsUptoRow.domain false) (((Rows.OpenSpec.upto Rows.streamPartsSpec).at F).post enc Try.prog Try.f4 false true false false) := by
  refine returnsInHanded_of_cond (C := Try.checked) (s := Rows.OpenSpec.upto Rows.streamPartsSpec) (k := Rows.uptoSmall) rfl own started (by kernel_rfl) Try.func4
    (OpenSpec.witness (enc := enc) (C := Try.checked) (s := Rows.OpenSpec.upto Rows.streamPartsSpec) (k := Rows.uptoSmall) rfl false ⟨#[], #[.int .u8 0, .int .u32 0, .slice none 0 0], []⟩ 8 (by kernel_rfl) (by kernel_rfl) (by kernel_rfl)
      (x := ([.lit (.int .u8 0), .lit (.int .u32 0), .nil], [], [])) (by kernel_rfl) rfl (by kernel_rfl)) ?_
  intro W base args ds gs before hval0 hW _ hk0 _
  have hk := opn.bound hk0
  have hval : ∀ (j : Nat) t v, Try.f4.params[j]? = some t → args[j]? = some v → Value.okWide Try.prog W .any base t v := hval0
  have hW' := hW
  obtain ⟨p, q, hA0, hV, rfl, hfz, hnd⟩ := hW
  have hA : DataW.TrodAll enc Try.prog W 0 (fun _ => true) true Try.f4.params.toList args.toList ds p := hA0
  rw [Try.params4] at hA hval
  obtain ⟨v0, vs0, d0, ds0, p0, q0, hargs, rfl, rfl, h0, r0⟩ := trodAll_cons hA
  obtain ⟨v1, vs1, d1, ds1, p1, q1, rfl, rfl, rfl, h1, r1⟩ := trodAll_cons r0
  obtain ⟨v2, vs2, d2, ds2, p2, q2, rfl, rfl, rfl, h2, r2⟩ := trodAll_cons r1
  obtain ⟨rfl, rfl, rfl⟩ := trodAll_nil r2
  obtain rfl : args = #[v0, v1, v2] := by cases args; simp_all
  obtain ⟨rfl, rfl⟩ := trodVars_none hV
  obtain ⟨a0, rfl, rfl, rfl, w0⟩ := open_int Try.underlying5 (hval 0 5 v0 rfl rfl) h0
  obtain ⟨a1, rfl, rfl, rfl, w1⟩ := open_int Try.underlying30 (hval 1 30 v1 rfl rfl) h1
  have k2 := h2
  have lt2 : ∀ x ∈ p2, x.block < W.heap.size := by obtain ⟨m, hm⟩ := k2; exact DataW.trod_lt m _ _ _ hm
  obtain ⟨A2, len2, cap2, rfl⟩ := okWide_slice Try.underlying35 (hval 2 35 v2 rfl rfl)
  obtain ⟨fuel2, hf2⟩ := h2
  obtain ⟨l2, rfl, hc2, hC2, hw2, hb2, hm2⟩ := opn.open_row (P := Try.prog) (t := 35) Try.underlying35 (opn.opn_slice (P := Try.prog) (t := 22) Try.underlying22 (by kernel_rfl) (opn.opn_struct (P := Try.prog) (t := 54) Try.underlying54 (by kernel_rfl) (opn.opn_more (opn.opn_slice (P := Try.prog) (t := 52) Try.underlying52 (by kernel_rfl) (opn.opn_int (P := Try.prog) (t := 5) Try.underlying5 (by kernel_rfl))) rfl (opn.opn_more (opn.opn_int (P := Try.prog) (t := 5) Try.underlying5 (by kernel_rfl)) rfl (opn.opn_more (opn.opn_int (P := Try.prog) (t := 30) Try.underlying30 (by kernel_rfl)) rfl (opn.opn_more (opn.opn_slice (P := Try.prog) (t := 52) Try.underlying52 (by kernel_rfl) (opn.opn_int (P := Try.prog) (t := 5) Try.underlying5 (by kernel_rfl))) rfl (opn.opn_last (opn.opn_string (P := Try.prog) (t := 9) Try.underlying9 (by kernel_rfl)) rfl))))) (fun x : S54 => (x.f0, (x.f1, (x.f2, (x.f3, x.f4))))) (fun p => (⟨p.1, p.2.1, p.2.2.1, p.2.2.2.1, p.2.2.2.2⟩ : S54)) (fun _ => rfl))) hf2
  have hbulk : (fun _ => 1) a0 + (fun _ => 1) a1 + (opn.bs (opn.bs (fun x : S54 => (opn.bs (fun _ => 1)) x.f0 + ((fun _ => 1) x.f1 + ((fun _ => 1) x.f2 + ((opn.bs (fun _ => 1)) x.f3 + (fun s => s.size + 1) x.f4))) + 1))) l2 ≤ 1048576 := by
    simp only [List.append_nil, Rows.uptoBulkAll] at hk
    have z0 := opn.one_le (.lit (.int .u8 a0) : DataW H)
    have z1 := opn.one_le (.lit (.int .u32 a1) : DataW H)
    have z2 := hb2
    (try simp only [] at *)
    (try dsimp only [id] at *)
    omega
  have h := Pure.StreamParts a0 a1 l2 w0 w1 hw2 hm2 hbulk
  clear hA0 hval0 hk0
  refine (bolterlaw09_StreamParts.calls a0 a1 _ _ l2 true W hC2 hc2 h).mono fun e W' he_ => ?_
  obtain ⟨he, hd⟩ := he_
  have bel : Below W.heap.size W W' := hd
  subst he
  exact ⟨_, rfl, _, _, _, [], _, [], hW', trodAll_mk1 (shut_bool Try.underlying4 _), (trodAll_cons_mk (shut_int Try.underlying5 w0) (trodAll_cons_mk (shut_int Try.underlying30 w1) (trodAll_cons_mk (Below.trod laidOut (by kernel_rfl) (of_decide_eq_true (by kernel_rfl)) k2 bel lt2) trodAll_mk0))), rfl, bel.frame _, fun h => by cases h⟩
theorem over : Rows.streamPartsUptoRow.holds Try.pinned (Rows.OpenSpec.upto Rows.streamPartsSpec) :=
  OpenClaim.holds_of_cond 4 Try.f4 rfl rfl rfl rfl rfl rfl rfl ⟨rfl, rfl, rfl, rfl, rfl⟩ rfl rfl rfl rfl rfl (by kernel_rfl) Try.func4 (by kernel_rfl)
    (of_decide_eq_true (by kernel_rfl)) (by unfold Func.isWrapper; first | (rw [if_pos (by decide +kernel)]; kernel_rfl) | (rw [if_neg (by decide +kernel)]; exact ⟨rfl, rfl⟩))
    (fun os started H enc _ F => lifted os started H enc F)
theorem proved : Rows.StreamPartsUptoSaid := over
#print axioms proved
end Go.Proofs.Ytlobjcokopfbkaa.streamParts
namespace Go.Proofs.Ytlobjcokopfbkaa
theorem streamParts_holds : Rows.StreamPartsUptoSaid := streamParts.proved
end Go.Proofs.Ytlobjcokopfbkaa
