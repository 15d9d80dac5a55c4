/-
  The law MessageSmall of the given program holds for every input whose values and letters are together at most 1048576: its statement 'MessageSmallUptoSaid'.
-/
import Derived.Test.YtnikfeaggppmpaaRows
import Derived.Test.YtnikfeaggppmpaaPMx31
import Derived.Test.YtnikfeaggppmpaaPureMessageSmall
import Derived.Test.YtnikfeaggppmpaaOpn
import Derived.WalkKit
import Derived.ProofKit
import Derived.OpenShut
import Derived.ShutString
import Derived.ChangeOld
import Derived.Below
import Derived.SizedLaws
import Derived.JoinedCond
namespace Go.Proofs.Ytnikfeaggppmpaa.messageSmall
open Go.ChangeShapes Go.WideShapes Go.ChangeAt Go.RowKit
open Go.ChangeMaps (open_string shut_string)
open Go.Proofs.Ytnikfeaggppmpaa.PM Go.Proofs.YtnikfeaggppmpaaW.PrintWords
set_option linter.unusedVariables false
theorem own : ownKnob Try.prog.godebug = none := by kernel_rfl
theorem laidOut : laidOutB Try.prog = true := by kernel_rfl
set_option maxRecDepth 100000 in
theorem lifted (os : Os) (started : os.Started) (H : Type) (enc : TypeId × Value → H) (F : Stop.Interp) :
    ReturnsInHanded {} Try.checked os 5 .any ((Rows.OpenSpec.upto Rows.messageSmallSpec).pre6 enc Try.prog Try.f5 Rows.messageSmallUptoRow.domain false) (((Rows.OpenSpec.upto Rows.messageSmallSpec).at F).post enc Try.prog Try.f5 false true false false) := by
  refine returnsInHanded_of_cond (C := Try.checked) (s := Rows.OpenSpec.upto Rows.messageSmallSpec) (k := Rows.uptoSmall) rfl own started (by kernel_rfl) Try.func5
    (OpenSpec.witness (enc := enc) (C := Try.checked) (s := Rows.OpenSpec.upto Rows.messageSmallSpec) (k := Rows.uptoSmall) rfl false ⟨#[], #[.agg #[.int .u16 0, .bool false, .int .i64 0, .bool false, .bool false, .bool false, .bool false, .int .i64 0, .slice none 0 0, .int .u16 0, .slice none 0 0, .slice none 0 0, .slice none 0 0, .int .u16 0]], []⟩ 8 (by kernel_rfl) (by kernel_rfl) (by kernel_rfl)
      (x := ([.agg [.agg [.lit (.int .u16 0), .lit (.bool false), .lit (.int .i64 0), .lit (.bool false), .lit (.bool false), .lit (.bool false), .lit (.bool false), .lit (.int .i64 0)], .nil, .lit (.int .u16 0), .nil, .nil, .nil, .lit (.int .u16 0)]], [], [])) (by kernel_rfl) rfl (by kernel_rfl)) ?_
  intro W base args ds gs before hval0 hW _ hk0 _
  have hk := opn.bound hk0
  have hval : ∀ (j : Nat) t v, Try.f5.params[j]? = some t → args[j]? = some v → Value.okWide Try.prog W .any base t v := hval0
  have hW' := hW
  obtain ⟨p, q, hA0, hV, rfl, hfz, hnd⟩ := hW
  have hA : DataW.TrodAll enc Try.prog W 0 (fun _ => true) true Try.f5.params.toList args.toList ds p := hA0
  rw [Try.params5] at hA hval
  obtain ⟨v0, vs0, d0, ds0, p0, q0, hargs, rfl, rfl, h0, r0⟩ := trodAll_cons hA
  obtain ⟨rfl, rfl, rfl⟩ := trodAll_nil r0
  obtain rfl : args = #[v0] := by cases args; simp_all
  obtain ⟨rfl, rfl⟩ := trodVars_none hV
  have k0 := h0
  have lt0 : ∀ x ∈ p0, x.block < W.heap.size := by obtain ⟨m, hm⟩ := k0; exact DataW.trod_lt m _ _ _ hm
  obtain ⟨cs0, rfl, hsz0⟩ := okWide_struct Try.underlying46 (hval 0 46 v0 rfl rfl)
  obtain ⟨fuel0, hf0⟩ := h0
  obtain ⟨a0, hC0, hw0, hb0⟩ := (opn.opn_struct (P := Try.prog) (t := 46) Try.underlying46 (by kernel_rfl) (opn.opn_more (opn.opn_struct (P := Try.prog) (t := 24) Try.underlying24 (by kernel_rfl) (opn.opn_more (opn.opn_int (P := Try.prog) (t := 22) Try.underlying22 (by kernel_rfl)) rfl (opn.opn_more (opn.opn_bool (P := Try.prog) (t := 4) Try.underlying4 (by kernel_rfl)) rfl (opn.opn_more (opn.opn_int (P := Try.prog) (t := 3) Try.underlying3 (by kernel_rfl)) rfl (opn.opn_more (opn.opn_bool (P := Try.prog) (t := 4) Try.underlying4 (by kernel_rfl)) rfl (opn.opn_more (opn.opn_bool (P := Try.prog) (t := 4) Try.underlying4 (by kernel_rfl)) rfl (opn.opn_more (opn.opn_bool (P := Try.prog) (t := 4) Try.underlying4 (by kernel_rfl)) rfl (opn.opn_more (opn.opn_bool (P := Try.prog) (t := 4) Try.underlying4 (by kernel_rfl)) rfl (opn.opn_last (opn.opn_int (P := Try.prog) (t := 3) Try.underlying3 (by kernel_rfl)) rfl)))))))) id id (fun _ => rfl)) rfl (opn.opn_more (opn.opn_slice (P := Try.prog) (t := 40) Try.underlying40 (by kernel_rfl) (opn.opn_int (P := Try.prog) (t := 5) Try.underlying5 (by kernel_rfl))) rfl (opn.opn_more (opn.opn_int (P := Try.prog) (t := 22) Try.underlying22 (by kernel_rfl)) rfl (opn.opn_more (opn.opn_slice (P := Try.prog) (t := 44) Try.underlying44 (by kernel_rfl) (opn.opn_struct (P := Try.prog) (t := 94) Try.underlying94 (by kernel_rfl) (opn.opn_more (opn.opn_slice (P := Try.prog) (t := 40) Try.underlying40 (by kernel_rfl) (opn.opn_int (P := Try.prog) (t := 5) Try.underlying5 (by kernel_rfl))) rfl (opn.opn_more (opn.opn_int (P := Try.prog) (t := 5) Try.underlying5 (by kernel_rfl)) rfl (opn.opn_more (opn.opn_int (P := Try.prog) (t := 35) Try.underlying35 (by kernel_rfl)) rfl (opn.opn_more (opn.opn_slice (P := Try.prog) (t := 40) Try.underlying40 (by kernel_rfl) (opn.opn_int (P := Try.prog) (t := 5) Try.underlying5 (by kernel_rfl))) rfl (opn.opn_last (opn.opn_string (P := Try.prog) (t := 9) Try.underlying9 (by kernel_rfl)) rfl))))) (fun x : S94 => (x.f0, (x.f1, (x.f2, (x.f3, x.f4))))) (fun p => (⟨p.1, p.2.1, p.2.2.1, p.2.2.2.1, p.2.2.2.2⟩ : S94)) (fun _ => rfl))) rfl (opn.opn_more (opn.opn_slice (P := Try.prog) (t := 44) Try.underlying44 (by kernel_rfl) (opn.opn_struct (P := Try.prog) (t := 94) Try.underlying94 (by kernel_rfl) (opn.opn_more (opn.opn_slice (P := Try.prog) (t := 40) Try.underlying40 (by kernel_rfl) (opn.opn_int (P := Try.prog) (t := 5) Try.underlying5 (by kernel_rfl))) rfl (opn.opn_more (opn.opn_int (P := Try.prog) (t := 5) Try.underlying5 (by kernel_rfl)) rfl (opn.opn_more (opn.opn_int (P := Try.prog) (t := 35) Try.underlying35 (by kernel_rfl)) rfl (opn.opn_more (opn.opn_slice (P := Try.prog) (t := 40) Try.underlying40 (by kernel_rfl) (opn.opn_int (P := Try.prog) (t := 5) Try.underlying5 (by kernel_rfl))) rfl (opn.opn_last (opn.opn_string (P := Try.prog) (t := 9) Try.underlying9 (by kernel_rfl)) rfl))))) (fun x : S94 => (x.f0, (x.f1, (x.f2, (x.f3, x.f4))))) (fun p => (⟨p.1, p.2.1, p.2.2.1, p.2.2.2.1, p.2.2.2.2⟩ : S94)) (fun _ => rfl))) rfl (opn.opn_more (opn.opn_slice (P := Try.prog) (t := 44) Try.underlying44 (by kernel_rfl) (opn.opn_struct (P := Try.prog) (t := 94) Try.underlying94 (by kernel_rfl) (opn.opn_more (opn.opn_slice (P := Try.prog) (t := 40) Try.underlying40 (by kernel_rfl) (opn.opn_int (P := Try.prog) (t := 5) Try.underlying5 (by kernel_rfl))) rfl (opn.opn_more (opn.opn_int (P := Try.prog) (t := 5) Try.underlying5 (by kernel_rfl)) rfl (opn.opn_more (opn.opn_int (P := Try.prog) (t := 35) Try.underlying35 (by kernel_rfl)) rfl (opn.opn_more (opn.opn_slice (P := Try.prog) (t := 40) Try.underlying40 (by kernel_rfl) (opn.opn_int (P := Try.prog) (t := 5) Try.underlying5 (by kernel_rfl))) rfl (opn.opn_last (opn.opn_string (P := Try.prog) (t := 9) Try.underlying9 (by kernel_rfl)) rfl))))) (fun x : S94 => (x.f0, (x.f1, (x.f2, (x.f3, x.f4))))) (fun p => (⟨p.1, p.2.1, p.2.2.1, p.2.2.2.1, p.2.2.2.2⟩ : S94)) (fun _ => rfl))) rfl (opn.opn_last (opn.opn_int (P := Try.prog) (t := 22) Try.underlying22 (by kernel_rfl)) rfl))))))) id id (fun _ => rfl)).2 _ _ _ _ _ _ hf0
  obtain ⟨u0_0, z0_0, e0_0, g0_0, n0_0⟩ := hC0
  obtain ⟨u0_1, z0_1, e0_1, g0_1, n0_1⟩ := n0_0
  obtain ⟨u0_2, z0_2, e0_2, g0_2, n0_2⟩ := n0_1
  obtain ⟨u0_3, z0_3, e0_3, g0_3, n0_3⟩ := n0_2
  obtain ⟨u0_4, z0_4, e0_4, g0_4, n0_4⟩ := n0_3
  obtain ⟨u0_5, z0_5, e0_5, g0_5, n0_5⟩ := n0_4
  obtain ⟨u0_0_0, z0_0_0, e0_0_0, g0_0_0, n0_0_0⟩ := g0_0
  obtain ⟨u0_0_1, z0_0_1, e0_0_1, g0_0_1, n0_0_1⟩ := n0_0_0
  obtain ⟨u0_0_2, z0_0_2, e0_0_2, g0_0_2, n0_0_2⟩ := n0_0_1
  obtain ⟨u0_0_3, z0_0_3, e0_0_3, g0_0_3, n0_0_3⟩ := n0_0_2
  obtain ⟨u0_0_4, z0_0_4, e0_0_4, g0_0_4, n0_0_4⟩ := n0_0_3
  obtain ⟨u0_0_5, z0_0_5, e0_0_5, g0_0_5, n0_0_5⟩ := n0_0_4
  obtain ⟨u0_0_6, z0_0_6, e0_0_6, g0_0_6, n0_0_6⟩ := n0_0_5
  have w0_0_0 : u0_0_0 = [Value.int .u16 a0.1.1] := g0_0_0
  have w0_0_1 : u0_0_1 = [Value.bool a0.1.2.1] := g0_0_1
  have w0_0_2 : u0_0_2 = [Value.int .i64 a0.1.2.2.1] := g0_0_2
  have w0_0_3 : u0_0_3 = [Value.bool a0.1.2.2.2.1] := g0_0_3
  have w0_0_4 : u0_0_4 = [Value.bool a0.1.2.2.2.2.1] := g0_0_4
  have w0_0_5 : u0_0_5 = [Value.bool a0.1.2.2.2.2.2.1] := g0_0_5
  have w0_0_6 : u0_0_6 = [Value.bool a0.1.2.2.2.2.2.2.1] := g0_0_6
  have w0_0_7 : z0_0_6 = [Value.int .i64 a0.1.2.2.2.2.2.2.2] := n0_0_6
  have w0_0 : u0_0 = [Value.int .u16 a0.1.1, Value.bool a0.1.2.1, Value.int .i64 a0.1.2.2.1, Value.bool a0.1.2.2.2.1, Value.bool a0.1.2.2.2.2.1, Value.bool a0.1.2.2.2.2.2.1, Value.bool a0.1.2.2.2.2.2.2.1, Value.int .i64 a0.1.2.2.2.2.2.2.2] := by
    have q0_0 : u0_0 = _ := e0_0_0
    rw [q0_0, w0_0_0, e0_0_1, w0_0_1, e0_0_2, w0_0_2, e0_0_3, w0_0_3, e0_0_4, w0_0_4, e0_0_5, w0_0_5, e0_0_6, w0_0_6, w0_0_7]
    rfl
  obtain ⟨A0_1, C0_1, W0_1, L0_1, R0_1⟩ := g0_1
  have w0_1 : u0_1 = [Value.slice A0_1 a0.2.1.length C0_1] := W0_1
  have w0_2 : u0_2 = [Value.int .u16 a0.2.2.1] := g0_2
  obtain ⟨A0_3, C0_3, W0_3, L0_3, R0_3⟩ := g0_3
  have w0_3 : u0_3 = [Value.slice A0_3 a0.2.2.2.1.length C0_3] := W0_3
  obtain ⟨A0_4, C0_4, W0_4, L0_4, R0_4⟩ := g0_4
  have w0_4 : u0_4 = [Value.slice A0_4 a0.2.2.2.2.1.length C0_4] := W0_4
  obtain ⟨A0_5, C0_5, W0_5, L0_5, R0_5⟩ := g0_5
  have w0_5 : u0_5 = [Value.slice A0_5 a0.2.2.2.2.2.1.length C0_5] := W0_5
  have w0_6 : z0_5 = [Value.int .u16 a0.2.2.2.2.2.2] := n0_5
  have hcs0 : cs0 = #[Value.int .u16 a0.1.1, Value.bool a0.1.2.1, Value.int .i64 a0.1.2.2.1, Value.bool a0.1.2.2.2.1, Value.bool a0.1.2.2.2.2.1, Value.bool a0.1.2.2.2.2.2.1, Value.bool a0.1.2.2.2.2.2.2.1, Value.int .i64 a0.1.2.2.2.2.2.2.2, Value.slice A0_1 a0.2.1.length C0_1, Value.int .u16 a0.2.2.1, Value.slice A0_3 a0.2.2.2.1.length C0_3, Value.slice A0_4 a0.2.2.2.2.1.length C0_4, Value.slice A0_5 a0.2.2.2.2.2.1.length C0_5, Value.int .u16 a0.2.2.2.2.2.2] := by
    apply Array.toList_inj.1
    have q0 : cs0.toList = _ := e0_0
    rw [q0, w0_0, e0_1, w0_1, e0_2, w0_2, e0_3, w0_3, e0_4, w0_4, e0_5, w0_5, w0_6]
    rfl
  subst hcs0
  have hbulk : (fun x : ((Int × Bool × Int × Bool × Bool × Bool × Bool × Int) × (List Int) × Int × (List S94) × (List S94) × (List S94) × Int) => (fun x : (Int × Bool × Int × Bool × Bool × Bool × Bool × Int) => (fun _ => 1) x.1 + ((fun _ => 1) x.2.1 + ((fun _ => 1) x.2.2.1 + ((fun _ => 1) x.2.2.2.1 + ((fun _ => 1) x.2.2.2.2.1 + ((fun _ => 1) x.2.2.2.2.2.1 + ((fun _ => 1) x.2.2.2.2.2.2.1 + (fun _ => 1) x.2.2.2.2.2.2.2)))))) + 1) x.1 + ((opn.bs (fun _ => 1)) x.2.1 + ((fun _ => 1) x.2.2.1 + ((opn.bs (fun x : S94 => (opn.bs (fun _ => 1)) x.f0 + ((fun _ => 1) x.f1 + ((fun _ => 1) x.f2 + ((opn.bs (fun _ => 1)) x.f3 + (fun s => s.size + 1) x.f4))) + 1)) x.2.2.2.1 + ((opn.bs (fun x : S94 => (opn.bs (fun _ => 1)) x.f0 + ((fun _ => 1) x.f1 + ((fun _ => 1) x.f2 + ((opn.bs (fun _ => 1)) x.f3 + (fun s => s.size + 1) x.f4))) + 1)) x.2.2.2.2.1 + ((opn.bs (fun x : S94 => (opn.bs (fun _ => 1)) x.f0 + ((fun _ => 1) x.f1 + ((fun _ => 1) x.f2 + ((opn.bs (fun _ => 1)) x.f3 + (fun s => s.size + 1) x.f4))) + 1)) x.2.2.2.2.2.1 + (fun _ => 1) x.2.2.2.2.2.2))))) + 1) a0 ≤ 1048576 := by
    simp only [List.append_nil, Rows.uptoBulkAll] at hk
    have z0 := hb0
    (try simp only [] at *)
    (try dsimp only [id] at *)
    omega
  have h := Pure.MessageSmall a0 hw0 hbulk
  clear hA0 hval0 hk0
  refine (bolterlaw05_MessageSmall.calls a0.1.1 a0.1.2.1 a0.1.2.2.1 a0.1.2.2.2.1 a0.1.2.2.2.2.1 a0.1.2.2.2.2.2.1 a0.1.2.2.2.2.2.2.1 a0.1.2.2.2.2.2.2.2 _ _ a0.2.1 a0.2.2.1 _ _ a0.2.2.2.1 _ _ a0.2.2.2.2.1 _ _ a0.2.2.2.2.2.1 a0.2.2.2.2.2.2 true W R0_1 L0_1 R0_3 L0_3 R0_4 L0_4 R0_5 L0_5 h).mono fun e W' he_ => ?_
  obtain ⟨he, hd⟩ := he_
  have bel : Below W.heap.size W W' := hd
  subst he
  exact ⟨_, rfl, _, _, _, [], _, [], hW', trodAll_mk1 (shut_bool Try.underlying4 _), (trodAll_cons_mk (Below.trod laidOut (by kernel_rfl) (of_decide_eq_true (by kernel_rfl)) k0 bel lt0) trodAll_mk0), rfl, bel.frame _, fun h => by cases h⟩
theorem over : Rows.messageSmallUptoRow.holds Try.pinned (Rows.OpenSpec.upto Rows.messageSmallSpec) :=
  OpenClaim.holds_of_cond 5 Try.f5 rfl rfl rfl rfl rfl rfl rfl ⟨rfl, rfl, rfl, rfl, rfl⟩ rfl rfl rfl rfl rfl (by kernel_rfl) Try.func5 (by kernel_rfl)
    (of_decide_eq_true (by kernel_rfl)) (by unfold Func.isWrapper; first | (rw [if_pos (by decide +kernel)]; kernel_rfl) | (rw [if_neg (by decide +kernel)]; exact ⟨rfl, rfl⟩))
    (fun os started H enc _ F => lifted os started H enc F)
theorem proved : Rows.MessageSmallUptoSaid := over
#print axioms proved
end Go.Proofs.Ytnikfeaggppmpaa.messageSmall
namespace Go.Proofs.Ytnikfeaggppmpaa
theorem messageSmall_holds : Rows.MessageSmallUptoSaid := messageSmall.proved
end Go.Proofs.Ytnikfeaggppmpaa
