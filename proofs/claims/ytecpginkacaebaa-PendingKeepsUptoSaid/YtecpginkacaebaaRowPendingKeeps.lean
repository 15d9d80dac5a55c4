/-
  The law PendingKeeps of the given program holds for every input whose values and letters are together at most 1048576: its statement 'PendingKeepsUptoSaid'.
-/
import Derived.Test.YtecpginkacaebaaRows
import Derived.Test.YtecpginkacaebaaPPx22
import Derived.Test.YtecpginkacaebaaPurePendingKeeps
import Derived.Test.YtecpginkacaebaaOpn
import Derived.WalkKit
import Derived.ProofKit
import Derived.OpenShut
import Derived.ShutString
import Derived.ChangeOld
import Derived.Below
import Derived.SizedLaws
import Derived.JoinedCond
namespace Go.Proofs.Ytecpginkacaebaa.pendingKeeps
open Go.ChangeShapes Go.WideShapes Go.ChangeAt Go.RowKit
open Go.ChangeMaps (open_string shut_string)
open Go.Proofs.Ytecpginkacaebaa.PP Go.Proofs.YtecpginkacaebaaW.PrintWords
set_option linter.unusedVariables false
theorem own : ownKnob Try.prog.godebug = none := by kernel_rfl
theorem laidOut : laidOutB Try.prog = true := by kernel_rfl
set_option maxRecDepth 100000 in
theorem lifted (os : Os) (started : os.Started) (H : Type) (enc : TypeId × Value → H) (F : Stop.Interp) :
    ReturnsInHanded {} Try.checked os 4 .any ((Rows.OpenSpec.upto Rows.pendingKeepsSpec).pre6 enc Try.prog Try.f4 Rows.pendingKeepsUptoRow.domain false) (((Rows.OpenSpec.upto Rows.pendingKeepsSpec).at F).post enc Try.prog Try.f4 false true false false) := by
  refine returnsInHanded_of_cond (C := Try.checked) (s := Rows.OpenSpec.upto Rows.pendingKeepsSpec) (k := Rows.uptoSmall) rfl own started (by kernel_rfl) Try.func4
    (OpenSpec.witness (enc := enc) (C := Try.checked) (s := Rows.OpenSpec.upto Rows.pendingKeepsSpec) (k := Rows.uptoSmall) rfl false ⟨#[], #[.slice none 0 0, .agg #[.int .u8 0, .int .u8 0, .slice none 0 0, .int .u8 0, .int .i8 0]], []⟩ 8 (by kernel_rfl) (by kernel_rfl) (by kernel_rfl)
      (x := ([.nil, .agg [.lit (.int .u8 0), .lit (.int .u8 0), .nil, .lit (.int .u8 0), .lit (.int .i8 0)]], [], [])) (by kernel_rfl) rfl (by kernel_rfl)) ?_
  intro W base args ds gs before hval0 hW _ hk0 _
  have hk := opn.bound hk0
  have hval : ∀ (j : Nat) t v, Try.f4.params[j]? = some t → args[j]? = some v → Value.okWide Try.prog W .any base t v := hval0
  have hW' := hW
  obtain ⟨p, q, hA0, hV, rfl, hfz, hnd⟩ := hW
  have hA : DataW.TrodAll enc Try.prog W 0 (fun _ => true) true Try.f4.params.toList args.toList ds p := hA0
  rw [Try.params4] at hA hval
  obtain ⟨v0, vs0, d0, ds0, p0, q0, hargs, rfl, rfl, h0, r0⟩ := trodAll_cons hA
  obtain ⟨v1, vs1, d1, ds1, p1, q1, rfl, rfl, rfl, h1, r1⟩ := trodAll_cons r0
  obtain ⟨rfl, rfl, rfl⟩ := trodAll_nil r1
  obtain rfl : args = #[v0, v1] := by cases args; simp_all
  obtain ⟨rfl, rfl⟩ := trodVars_none hV
  have k0 := h0
  have lt0 : ∀ x ∈ p0, x.block < W.heap.size := by obtain ⟨m, hm⟩ := k0; exact DataW.trod_lt m _ _ _ hm
  obtain ⟨A0, len0, cap0, rfl⟩ := okWide_slice Try.underlying22 (hval 0 22 v0 rfl rfl)
  obtain ⟨fuel0, hf0⟩ := h0
  obtain ⟨l0, rfl, hc0, hC0, hw0, hb0, hm0⟩ := opn.open_row (P := Try.prog) (t := 22) Try.underlying22 (opn.opn_struct (P := Try.prog) (t := 31) Try.underlying31 (by kernel_rfl) (opn.opn_more (opn.opn_int (P := Try.prog) (t := 5) Try.underlying5 (by kernel_rfl)) rfl (opn.opn_more (opn.opn_int (P := Try.prog) (t := 5) Try.underlying5 (by kernel_rfl)) rfl (opn.opn_more (opn.opn_slice (P := Try.prog) (t := 28) Try.underlying28 (by kernel_rfl) (opn.opn_int (P := Try.prog) (t := 5) Try.underlying5 (by kernel_rfl))) rfl (opn.opn_more (opn.opn_int (P := Try.prog) (t := 5) Try.underlying5 (by kernel_rfl)) rfl (opn.opn_last (opn.opn_int (P := Try.prog) (t := 29) Try.underlying29 (by kernel_rfl)) rfl))))) id id (fun _ => rfl)) hf0
  have k1 := h1
  have lt1 : ∀ x ∈ p1, x.block < W.heap.size := by obtain ⟨m, hm⟩ := k1; exact DataW.trod_lt m _ _ _ hm
  obtain ⟨cs1, rfl, hsz1⟩ := okWide_struct Try.underlying31 (hval 1 31 v1 rfl rfl)
  obtain ⟨fuel1, hf1⟩ := h1
  obtain ⟨a1, hC1, hw1, hb1⟩ := (opn.opn_struct (P := Try.prog) (t := 31) Try.underlying31 (by kernel_rfl) (opn.opn_more (opn.opn_int (P := Try.prog) (t := 5) Try.underlying5 (by kernel_rfl)) rfl (opn.opn_more (opn.opn_int (P := Try.prog) (t := 5) Try.underlying5 (by kernel_rfl)) rfl (opn.opn_more (opn.opn_slice (P := Try.prog) (t := 28) Try.underlying28 (by kernel_rfl) (opn.opn_int (P := Try.prog) (t := 5) Try.underlying5 (by kernel_rfl))) rfl (opn.opn_more (opn.opn_int (P := Try.prog) (t := 5) Try.underlying5 (by kernel_rfl)) rfl (opn.opn_last (opn.opn_int (P := Try.prog) (t := 29) Try.underlying29 (by kernel_rfl)) rfl))))) id id (fun _ => rfl)).2 _ _ _ _ _ _ hf1
  obtain ⟨u1_0, z1_0, e1_0, g1_0, n1_0⟩ := hC1
  obtain ⟨u1_1, z1_1, e1_1, g1_1, n1_1⟩ := n1_0
  obtain ⟨u1_2, z1_2, e1_2, g1_2, n1_2⟩ := n1_1
  obtain ⟨u1_3, z1_3, e1_3, g1_3, n1_3⟩ := n1_2
  obtain ⟨A1_2, C1_2, W1_2, L1_2, R1_2⟩ := g1_2
  have hcs1 : cs1 = #[Value.int .u8 a1.1, Value.int .u8 a1.2.1, Value.slice A1_2 a1.2.2.1.length C1_2, Value.int .u8 a1.2.2.2.1, Value.int .i8 a1.2.2.2.2] := by
    apply Array.toList_inj.1
    have q1 : cs1.toList = _ := e1_0
    have w1_0 : u1_0 = [Value.int .u8 a1.1] := g1_0
    have w1_1 : u1_1 = [Value.int .u8 a1.2.1] := g1_1
    have w1_2 : u1_2 = [Value.slice A1_2 a1.2.2.1.length C1_2] := W1_2
    have w1_3 : u1_3 = [Value.int .u8 a1.2.2.2.1] := g1_3
    have w1_4 : z1_3 = [Value.int .i8 a1.2.2.2.2] := n1_3
    rw [q1, w1_0, e1_1, w1_1, e1_2, w1_2, e1_3, w1_3, w1_4]
    rfl
  subst hcs1
  have hbulk : (opn.bs (fun x : (Int × Int × (List Int) × Int × Int) => (fun _ => 1) x.1 + ((fun _ => 1) x.2.1 + ((opn.bs (fun _ => 1)) x.2.2.1 + ((fun _ => 1) x.2.2.2.1 + (fun _ => 1) x.2.2.2.2))) + 1)) l0 + (fun x : (Int × Int × (List Int) × Int × Int) => (fun _ => 1) x.1 + ((fun _ => 1) x.2.1 + ((opn.bs (fun _ => 1)) x.2.2.1 + ((fun _ => 1) x.2.2.2.1 + (fun _ => 1) x.2.2.2.2))) + 1) a1 ≤ 1048576 := by
    simp only [List.append_nil, Rows.uptoBulkAll] at hk
    have z0 := hb0
    have z1 := hb1
    (try simp only [] at *)
    (try dsimp only [id] at *)
    omega
  have h := Pure.PendingKeeps l0 a1 hw0 hm0 hw1 hbulk
  clear hA0 hval0 hk0
  refine (bolterlaw26_PendingKeeps.calls _ _ l0 a1.1 a1.2.1 _ _ a1.2.2.1 a1.2.2.2.1 a1.2.2.2.2 true W hC0 hc0 R1_2 L1_2 h).mono fun e W' he_ => ?_
  obtain ⟨he, hd⟩ := he_
  have bel : Below W.heap.size W W' := hd
  subst he
  exact ⟨_, rfl, _, _, _, [], _, [], hW', trodAll_mk1 (shut_bool Try.underlying4 _), (trodAll_cons_mk (Below.trod laidOut (by kernel_rfl) (of_decide_eq_true (by kernel_rfl)) k0 bel lt0) (trodAll_cons_mk (Below.trod laidOut (by kernel_rfl) (of_decide_eq_true (by kernel_rfl)) k1 bel lt1) trodAll_mk0)), rfl, bel.frame _, fun h => by cases h⟩
theorem over : Rows.pendingKeepsUptoRow.holds Try.pinned (Rows.OpenSpec.upto Rows.pendingKeepsSpec) :=
  OpenClaim.holds_of_cond 4 Try.f4 rfl rfl rfl rfl rfl rfl rfl ⟨rfl, rfl, rfl, rfl, rfl⟩ rfl rfl rfl rfl rfl (by kernel_rfl) Try.func4 (by kernel_rfl)
    (of_decide_eq_true (by kernel_rfl)) (by unfold Func.isWrapper; first | (rw [if_pos (by decide +kernel)]; kernel_rfl) | (rw [if_neg (by decide +kernel)]; exact ⟨rfl, rfl⟩))
    (fun os started H enc _ F => lifted os started H enc F)
theorem proved : Rows.PendingKeepsUptoSaid := over
#print axioms proved
end Go.Proofs.Ytecpginkacaebaa.pendingKeeps
namespace Go.Proofs.Ytecpginkacaebaa
/-- The row, under a short name, for the claim. -/
theorem pendingKeeps_holds : Rows.PendingKeepsUptoSaid := pendingKeeps.proved
end Go.Proofs.Ytecpginkacaebaa
