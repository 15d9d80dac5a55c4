/-
  The law MessageTurned of the given program holds for every input whose values and letters are together at most 1048576: its statement 'MessageTurnedUptoCardSaid'.
-/
import Derived.Test.YtnikfeaggppmpaaDoorCards
import Derived.Test.YtnikfeaggppmpaaDoorTie
import Derived.Test.YtnikfeaggppmpaaDoorNum
import Derived.Test.YtnikfeaggppmpaaDoorPMx29
import Derived.Test.YtnikfeaggppmpaaDoorPureMessageTurned
import Derived.Test.YtnikfeaggppmpaaDoorOpn
import Derived.WalkKit
import Derived.ProofKit
import Derived.OpenShut
import Derived.ShutString
import Derived.ChangeOld
import Derived.Below
import Derived.SizedLaws
import Derived.JoinedCond
import Derived.Deep.DeepHandedRow
import Derived.LaidHandle
import Derived.LaidLaws
import Derived.SevenTiedAt
namespace Go.Proofs.YtnikfeaggppmpaaDoor.messageTurned
open Go.ChangeShapes Go.WideShapes Go.ChangeAt Go.RowKit
open Go.ChangeMaps (open_string shut_string)
open Go.Proofs.YtnikfeaggppmpaaDoor.PM Go.Proofs.YtnikfeaggppmpaaDoorW.PrintWords
set_option linter.unusedVariables false
theorem own : ownKnob Tryd.prog.godebug = none := by kernel_rfl
theorem laidOut : laidOutB Tryd.prog = true := by kernel_rfl
theorem et : Tryd.prog.globalNamed "errors.errorType" = some 0 := by kernel_rfl
theorem rt : (Tryd.prog.cutTypes.find? (·.1 == "internal/reflectlite.rtype")).map (·.2) = some 116 := by kernel_rfl
theorem oneRow : ((List.range 181).filter fun t => Tryd.prog.rowNamed t [101, 114, 114, 111, 114]) = [35] := by kernel_rfl
theorem size : Tryd.prog.types.size = 181 := by kernel_rfl
theorem handle {W : World} (h : laidMetH Tryd.prog Rows.messageTurnedUptoRow.laid W) : Num.ErrT W := by
  have h' : laidMet Tryd.prog [] W ∧ handlesMet Tryd.prog Rows.messageTurnedUptoRow.laid W := h
  obtain ⟨name, u, ty, e1, e2, e3, e4, e5⟩ := h'.2 _ (List.mem_singleton.2 rfl)
  have en : name = [101, 114, 114, 111, 114] := (Option.some.inj e1).symm
  subst en
  obtain rfl := Option.some.inj (rt.symm.trans e2)
  have hm : ty ∈ (List.range 181).filter fun t => Tryd.prog.rowNamed t [101, 114, 114, 111, 114] := List.mem_filter.2 ⟨List.mem_range.2 (by rw [← size]; exact e3), e4⟩
  rw [oneRow] at hm
  obtain rfl := List.mem_singleton.1 hm
  have hh : typeHandle Tryd.prog 35 = .pointer (some ⟨1, 35, none⟩) := by kernel_rfl
  rw [hh] at e5
  unfold Num.ErrT
  simpa using World.var?_cell et e5 0
noncomputable def laidWorld (os : Os) : World :=
  { World.holding Tryd.prog os ⟨#[], #[], []⟩ with heap := (World.holding Tryd.prog os ⟨#[], #[], []⟩).heap.modify 0 fun
      | .cells _ t frozen => .cells #[.iface 116 (.agg #[.pointer (some ⟨1, 35, none⟩)])] t frozen
      | o => o }
theorem laid_met (os : Os) (args : Array Value) : laidMetH Tryd.prog Rows.messageTurnedUptoRow.laid ((laidWorld os).forCall (fun _ _ => 0) ⟨#[], args, []⟩).memory := laidMetH_of_parts (laidMet_nil _ _) (by kernel_rfl)
theorem reads (os : Os) {H : Type} (enc : TypeId × Value → H) : ∃ places, DataW.whole enc Tryd.prog ((laidWorld os).forCall (fun _ _ => 0) ⟨#[], #[.agg #[.int .u16 0, .bool false, .int .i64 0, .bool false, .bool false, .bool false, .bool false, .int .i64 0, .slice none 0 0, .int .u16 0, .slice none 0 0, .slice none 0 0, .slice none 0 0, .int .u16 0], .int .u16 0, .int .u8 0, .int .u16 0], []⟩).memory Tryd.f4.params.toList Rows.messageTurnedSpec.vars false #[.agg #[.int .u16 0, .bool false, .int .i64 0, .bool false, .bool false, .bool false, .bool false, .int .i64 0, .slice none 0 0, .int .u16 0, .slice none 0 0, .slice none 0 0, .slice none 0 0, .int .u16 0], .int .u16 0, .int .u8 0, .int .u16 0].toList 8 = some ([.agg [.agg [.lit (.int .u16 0), .lit (.bool false), .lit (.int .i64 0), .lit (.bool false), .lit (.bool false), .lit (.bool false), .lit (.bool false), .lit (.int .i64 0)], .nil, .lit (.int .u16 0), .nil, .nil, .nil, .lit (.int .u16 0)], .lit (.int .u16 0), .lit (.int .u8 0), .lit (.int .u16 0)], [], places) := ⟨[], by kernel_rfl⟩
set_option maxRecDepth 100000 in
theorem lifted (os : Os) (started : os.Started) (H : Type) (enc : TypeId × Value → H) (F : Stop.Interp) :
    ReturnsInHanded {} Tryd.checked os 4 .any ((Rows.OpenSpec.upto Rows.messageTurnedSpec).preRow enc Tryd.prog Tryd.f4 Rows.messageTurnedUptoRow.domain false Rows.messageTurnedUptoRow.laid) (((Rows.OpenSpec.upto Rows.messageTurnedSpec).at F).post enc Tryd.prog Tryd.f4 false true false false) := by
  obtain ⟨places, hx⟩ := reads os enc
  refine returnsInHanded_of_row (C := Tryd.checked) (s := Rows.OpenSpec.upto Rows.messageTurnedSpec) own started (by kernel_rfl) Tryd.func4
    (witness_row_at (enc := enc) (C := Tryd.checked) false (laidWorld os) #[.agg #[.int .u16 0, .bool false, .int .i64 0, .bool false, .bool false, .bool false, .bool false, .int .i64 0, .slice none 0 0, .int .u16 0, .slice none 0 0, .slice none 0 0, .slice none 0 0, .int .u16 0], .int .u16 0, .int .u8 0, .int .u16 0] rfl (by kernel_rfl) (by kernel_rfl) (by kernel_rfl)
      (OpenSpec.preRow_of_cond 8 hx (by kernel_rfl) (fun k hk => by cases hk; kernel_rfl) (by kernel_rfl) (laid_met os _))) ?_
  intro W base args ds gs before hval0 hW _ hcond _ hL _ _
  have hk0 := hcond _ rfl
  have hk := opn.bound hk0
  have hE := handle hL
  have hval : ∀ (j : Nat) t v, Tryd.f4.params[j]? = some t → args[j]? = some v → Value.okWide Tryd.prog W .any base t v := hval0
  have hW' := hW
  obtain ⟨p, q, hA0, hV, rfl, hfz, hnd⟩ := hW
  have hA : DataW.TrodAll enc Tryd.prog W 0 (fun _ => true) true Tryd.f4.params.toList args.toList ds p := hA0
  rw [Tryd.params4] at hA hval
  obtain ⟨v0, vs0, d0, ds0, p0, q0, hargs, rfl, rfl, h0, r0⟩ := trodAll_cons hA
  obtain ⟨v1, vs1, d1, ds1, p1, q1, rfl, rfl, rfl, h1, r1⟩ := trodAll_cons r0
  obtain ⟨v2, vs2, d2, ds2, p2, q2, rfl, rfl, rfl, h2, r2⟩ := trodAll_cons r1
  obtain ⟨v3, vs3, d3, ds3, p3, q3, rfl, rfl, rfl, h3, r3⟩ := trodAll_cons r2
  obtain ⟨rfl, rfl, rfl⟩ := trodAll_nil r3
  obtain rfl : args = #[v0, v1, v2, v3] := by cases args; simp_all
  obtain ⟨rfl, rfl⟩ := trodVars_none hV
  have k0 := h0
  have lt0 : ∀ x ∈ p0, x.block < W.heap.size := by obtain ⟨m, hm⟩ := k0; exact DataW.trod_lt m _ _ _ hm
  obtain ⟨cs0, rfl, hsz0⟩ := okWide_struct Tryd.underlying47 (hval 0 47 v0 rfl rfl)
  obtain ⟨fuel0, hf0⟩ := h0
  obtain ⟨a0, hC0, hw0, hb0⟩ := (opn.opn_struct (P := Tryd.prog) (t := 47) Tryd.underlying47 (by kernel_rfl) (opn.opn_more (opn.opn_struct (P := Tryd.prog) (t := 26) Tryd.underlying26 (by kernel_rfl) (opn.opn_more (opn.opn_int (P := Tryd.prog) (t := 24) Tryd.underlying24 (by kernel_rfl)) rfl (opn.opn_more (opn.opn_bool (P := Tryd.prog) (t := 4) Tryd.underlying4 (by kernel_rfl)) rfl (opn.opn_more (opn.opn_int (P := Tryd.prog) (t := 3) Tryd.underlying3 (by kernel_rfl)) rfl (opn.opn_more (opn.opn_bool (P := Tryd.prog) (t := 4) Tryd.underlying4 (by kernel_rfl)) rfl (opn.opn_more (opn.opn_bool (P := Tryd.prog) (t := 4) Tryd.underlying4 (by kernel_rfl)) rfl (opn.opn_more (opn.opn_bool (P := Tryd.prog) (t := 4) Tryd.underlying4 (by kernel_rfl)) rfl (opn.opn_more (opn.opn_bool (P := Tryd.prog) (t := 4) Tryd.underlying4 (by kernel_rfl)) rfl (opn.opn_last (opn.opn_int (P := Tryd.prog) (t := 3) Tryd.underlying3 (by kernel_rfl)) rfl)))))))) id id (fun _ => rfl)) rfl (opn.opn_more (opn.opn_slice (P := Tryd.prog) (t := 22) Tryd.underlying22 (by kernel_rfl) (opn.opn_int (P := Tryd.prog) (t := 5) Tryd.underlying5 (by kernel_rfl))) rfl (opn.opn_more (opn.opn_int (P := Tryd.prog) (t := 24) Tryd.underlying24 (by kernel_rfl)) rfl (opn.opn_more (opn.opn_slice (P := Tryd.prog) (t := 45) Tryd.underlying45 (by kernel_rfl) (opn.opn_struct (P := Tryd.prog) (t := 110) Tryd.underlying110 (by kernel_rfl) (opn.opn_more (opn.opn_slice (P := Tryd.prog) (t := 22) Tryd.underlying22 (by kernel_rfl) (opn.opn_int (P := Tryd.prog) (t := 5) Tryd.underlying5 (by kernel_rfl))) rfl (opn.opn_more (opn.opn_int (P := Tryd.prog) (t := 5) Tryd.underlying5 (by kernel_rfl)) rfl (opn.opn_more (opn.opn_int (P := Tryd.prog) (t := 68) Tryd.underlying68 (by kernel_rfl)) rfl (opn.opn_more (opn.opn_slice (P := Tryd.prog) (t := 22) Tryd.underlying22 (by kernel_rfl) (opn.opn_int (P := Tryd.prog) (t := 5) Tryd.underlying5 (by kernel_rfl))) rfl (opn.opn_last (opn.opn_string (P := Tryd.prog) (t := 9) Tryd.underlying9 (by kernel_rfl)) rfl))))) (fun x : S110 => (x.f0, (x.f1, (x.f2, (x.f3, x.f4))))) (fun p => (⟨p.1, p.2.1, p.2.2.1, p.2.2.2.1, p.2.2.2.2⟩ : S110)) (fun _ => rfl))) rfl (opn.opn_more (opn.opn_slice (P := Tryd.prog) (t := 45) Tryd.underlying45 (by kernel_rfl) (opn.opn_struct (P := Tryd.prog) (t := 110) Tryd.underlying110 (by kernel_rfl) (opn.opn_more (opn.opn_slice (P := Tryd.prog) (t := 22) Tryd.underlying22 (by kernel_rfl) (opn.opn_int (P := Tryd.prog) (t := 5) Tryd.underlying5 (by kernel_rfl))) rfl (opn.opn_more (opn.opn_int (P := Tryd.prog) (t := 5) Tryd.underlying5 (by kernel_rfl)) rfl (opn.opn_more (opn.opn_int (P := Tryd.prog) (t := 68) Tryd.underlying68 (by kernel_rfl)) rfl (opn.opn_more (opn.opn_slice (P := Tryd.prog) (t := 22) Tryd.underlying22 (by kernel_rfl) (opn.opn_int (P := Tryd.prog) (t := 5) Tryd.underlying5 (by kernel_rfl))) rfl (opn.opn_last (opn.opn_string (P := Tryd.prog) (t := 9) Tryd.underlying9 (by kernel_rfl)) rfl))))) (fun x : S110 => (x.f0, (x.f1, (x.f2, (x.f3, x.f4))))) (fun p => (⟨p.1, p.2.1, p.2.2.1, p.2.2.2.1, p.2.2.2.2⟩ : S110)) (fun _ => rfl))) rfl (opn.opn_more (opn.opn_slice (P := Tryd.prog) (t := 45) Tryd.underlying45 (by kernel_rfl) (opn.opn_struct (P := Tryd.prog) (t := 110) Tryd.underlying110 (by kernel_rfl) (opn.opn_more (opn.opn_slice (P := Tryd.prog) (t := 22) Tryd.underlying22 (by kernel_rfl) (opn.opn_int (P := Tryd.prog) (t := 5) Tryd.underlying5 (by kernel_rfl))) rfl (opn.opn_more (opn.opn_int (P := Tryd.prog) (t := 5) Tryd.underlying5 (by kernel_rfl)) rfl (opn.opn_more (opn.opn_int (P := Tryd.prog) (t := 68) Tryd.underlying68 (by kernel_rfl)) rfl (opn.opn_more (opn.opn_slice (P := Tryd.prog) (t := 22) Tryd.underlying22 (by kernel_rfl) (opn.opn_int (P := Tryd.prog) (t := 5) Tryd.underlying5 (by kernel_rfl))) rfl (opn.opn_last (opn.opn_string (P := Tryd.prog) (t := 9) Tryd.underlying9 (by kernel_rfl)) rfl))))) (fun x : S110 => (x.f0, (x.f1, (x.f2, (x.f3, x.f4))))) (fun p => (⟨p.1, p.2.1, p.2.2.1, p.2.2.2.1, p.2.2.2.2⟩ : S110)) (fun _ => rfl))) rfl (opn.opn_last (opn.opn_int (P := Tryd.prog) (t := 24) Tryd.underlying24 (by kernel_rfl)) rfl))))))) id id (fun _ => rfl)).2 _ _ _ _ _ _ hf0
  obtain ⟨u0_0, z0_0, e0_0, g0_0, n0_0⟩ := hC0
  obtain ⟨u0_1, z0_1, e0_1, g0_1, n0_1⟩ := n0_0
  obtain ⟨u0_2, z0_2, e0_2, g0_2, n0_2⟩ := n0_1
  obtain ⟨u0_3, z0_3, e0_3, g0_3, n0_3⟩ := n0_2
  obtain ⟨u0_4, z0_4, e0_4, g0_4, n0_4⟩ := n0_3
  obtain ⟨u0_5, z0_5, e0_5, g0_5, n0_5⟩ := n0_4
  obtain ⟨u0_0_0, z0_0_0, e0_0_0, g0_0_0, n0_0_0⟩ := g0_0
  obtain ⟨u0_0_1, z0_0_1, e0_0_1, g0_0_1, n0_0_1⟩ := n0_0_0
  obtain ⟨u0_0_2, z0_0_2, e0_0_2, g0_0_2, n0_0_2⟩ := n0_0_1
  obtain ⟨u0_0_3, z0_0_3, e0_0_3, g0_0_3, n0_0_3⟩ := n0_0_2
  obtain ⟨u0_0_4, z0_0_4, e0_0_4, g0_0_4, n0_0_4⟩ := n0_0_3
  obtain ⟨u0_0_5, z0_0_5, e0_0_5, g0_0_5, n0_0_5⟩ := n0_0_4
  obtain ⟨u0_0_6, z0_0_6, e0_0_6, g0_0_6, n0_0_6⟩ := n0_0_5
  have w0_0_0 : u0_0_0 = [Value.int .u16 a0.1.1] := g0_0_0
  have w0_0_1 : u0_0_1 = [Value.bool a0.1.2.1] := g0_0_1
  have w0_0_2 : u0_0_2 = [Value.int .i64 a0.1.2.2.1] := g0_0_2
  have w0_0_3 : u0_0_3 = [Value.bool a0.1.2.2.2.1] := g0_0_3
  have w0_0_4 : u0_0_4 = [Value.bool a0.1.2.2.2.2.1] := g0_0_4
  have w0_0_5 : u0_0_5 = [Value.bool a0.1.2.2.2.2.2.1] := g0_0_5
  have w0_0_6 : u0_0_6 = [Value.bool a0.1.2.2.2.2.2.2.1] := g0_0_6
  have w0_0_7 : z0_0_6 = [Value.int .i64 a0.1.2.2.2.2.2.2.2] := n0_0_6
  have w0_0 : u0_0 = [Value.int .u16 a0.1.1, Value.bool a0.1.2.1, Value.int .i64 a0.1.2.2.1, Value.bool a0.1.2.2.2.1, Value.bool a0.1.2.2.2.2.1, Value.bool a0.1.2.2.2.2.2.1, Value.bool a0.1.2.2.2.2.2.2.1, Value.int .i64 a0.1.2.2.2.2.2.2.2] := by
    have q0_0 : u0_0 = _ := e0_0_0
    rw [q0_0, w0_0_0, e0_0_1, w0_0_1, e0_0_2, w0_0_2, e0_0_3, w0_0_3, e0_0_4, w0_0_4, e0_0_5, w0_0_5, e0_0_6, w0_0_6, w0_0_7]
    rfl
  obtain ⟨A0_1, C0_1, W0_1, L0_1, R0_1⟩ := g0_1
  have w0_1 : u0_1 = [Value.slice A0_1 a0.2.1.length C0_1] := W0_1
  have w0_2 : u0_2 = [Value.int .u16 a0.2.2.1] := g0_2
  obtain ⟨A0_3, C0_3, W0_3, L0_3, R0_3⟩ := g0_3
  have w0_3 : u0_3 = [Value.slice A0_3 a0.2.2.2.1.length C0_3] := W0_3
  obtain ⟨A0_4, C0_4, W0_4, L0_4, R0_4⟩ := g0_4
  have w0_4 : u0_4 = [Value.slice A0_4 a0.2.2.2.2.1.length C0_4] := W0_4
  obtain ⟨A0_5, C0_5, W0_5, L0_5, R0_5⟩ := g0_5
  have w0_5 : u0_5 = [Value.slice A0_5 a0.2.2.2.2.2.1.length C0_5] := W0_5
  have w0_6 : z0_5 = [Value.int .u16 a0.2.2.2.2.2.2] := n0_5
  have hcs0 : cs0 = #[Value.int .u16 a0.1.1, Value.bool a0.1.2.1, Value.int .i64 a0.1.2.2.1, Value.bool a0.1.2.2.2.1, Value.bool a0.1.2.2.2.2.1, Value.bool a0.1.2.2.2.2.2.1, Value.bool a0.1.2.2.2.2.2.2.1, Value.int .i64 a0.1.2.2.2.2.2.2.2, Value.slice A0_1 a0.2.1.length C0_1, Value.int .u16 a0.2.2.1, Value.slice A0_3 a0.2.2.2.1.length C0_3, Value.slice A0_4 a0.2.2.2.2.1.length C0_4, Value.slice A0_5 a0.2.2.2.2.2.1.length C0_5, Value.int .u16 a0.2.2.2.2.2.2] := by
    apply Array.toList_inj.1
    have q0 : cs0.toList = _ := e0_0
    rw [q0, w0_0, e0_1, w0_1, e0_2, w0_2, e0_3, w0_3, e0_4, w0_4, e0_5, w0_5, w0_6]
    rfl
  subst hcs0
  obtain ⟨a1, rfl, rfl, rfl, w1⟩ := open_int Tryd.underlying24 (hval 1 24 v1 rfl rfl) h1
  obtain ⟨a2, rfl, rfl, rfl, w2⟩ := open_int Tryd.underlying5 (hval 2 5 v2 rfl rfl) h2
  obtain ⟨a3, rfl, rfl, rfl, w3⟩ := open_int Tryd.underlying24 (hval 3 24 v3 rfl rfl) h3
  have hbulk : (fun x : ((Int × Bool × Int × Bool × Bool × Bool × Bool × Int) × (List Int) × Int × (List S110) × (List S110) × (List S110) × Int) => (fun x : (Int × Bool × Int × Bool × Bool × Bool × Bool × Int) => (fun _ => 1) x.1 + ((fun _ => 1) x.2.1 + ((fun _ => 1) x.2.2.1 + ((fun _ => 1) x.2.2.2.1 + ((fun _ => 1) x.2.2.2.2.1 + ((fun _ => 1) x.2.2.2.2.2.1 + ((fun _ => 1) x.2.2.2.2.2.2.1 + (fun _ => 1) x.2.2.2.2.2.2.2)))))) + 1) x.1 + ((opn.bs (fun _ => 1)) x.2.1 + ((fun _ => 1) x.2.2.1 + ((opn.bs (fun x : S110 => (opn.bs (fun _ => 1)) x.f0 + ((fun _ => 1) x.f1 + ((fun _ => 1) x.f2 + ((opn.bs (fun _ => 1)) x.f3 + (fun s => s.size + 1) x.f4))) + 1)) x.2.2.2.1 + ((opn.bs (fun x : S110 => (opn.bs (fun _ => 1)) x.f0 + ((fun _ => 1) x.f1 + ((fun _ => 1) x.f2 + ((opn.bs (fun _ => 1)) x.f3 + (fun s => s.size + 1) x.f4))) + 1)) x.2.2.2.2.1 + ((opn.bs (fun x : S110 => (opn.bs (fun _ => 1)) x.f0 + ((fun _ => 1) x.f1 + ((fun _ => 1) x.f2 + ((opn.bs (fun _ => 1)) x.f3 + (fun s => s.size + 1) x.f4))) + 1)) x.2.2.2.2.2.1 + (fun _ => 1) x.2.2.2.2.2.2))))) + 1) a0 + (fun _ => 1) a1 + (fun _ => 1) a2 + (fun _ => 1) a3 ≤ 1048576 := by
    simp only [List.append_nil, Rows.uptoBulkAll] at hk
    have z0 := hb0
    have z1 := opn.one_le (.lit (.int .u16 a1) : DataW H)
    have z2 := opn.one_le (.lit (.int .u8 a2) : DataW H)
    have z3 := opn.one_le (.lit (.int .u16 a3) : DataW H)
    (try simp only [] at *)
    (try dsimp only [id] at *)
    omega
  have h := Pure.MessageTurned a0 a1 a2 a3 hw0 w1 w2 w3 hbulk
  clear hA0 hval0 hk0
  refine (bolterlaw05_MessageTurned.calls a0.1.1 a0.1.2.1 a0.1.2.2.1 a0.1.2.2.2.1 a0.1.2.2.2.2.1 a0.1.2.2.2.2.2.1 a0.1.2.2.2.2.2.2.1 a0.1.2.2.2.2.2.2.2 _ _ a0.2.1 a0.2.2.1 _ _ a0.2.2.2.1 _ _ a0.2.2.2.2.1 _ _ a0.2.2.2.2.2.1 a0.2.2.2.2.2.2 a1 a2 a3 true W R0_1 L0_1 R0_3 L0_3 R0_4 L0_4 R0_5 L0_5 hE h).mono fun e W' he_ => ?_
  obtain ⟨he, hd⟩ := he_
  have bel : Below W.heap.size W W' := hd
  subst he
  exact ⟨_, rfl, _, _, _, [], _, [], hW', trodAll_mk1 (shut_bool Tryd.underlying4 _), (trodAll_cons_mk (Below.trod laidOut (by kernel_rfl) (of_decide_eq_true (by kernel_rfl)) k0 bel lt0) (trodAll_cons_mk (shut_int Tryd.underlying24 w1) (trodAll_cons_mk (shut_int Tryd.underlying5 w2) (trodAll_cons_mk (shut_int Tryd.underlying24 w3) trodAll_mk0)))), rfl, bel.frame _, fun h => by cases h⟩
theorem over : Rows.messageTurnedUptoRow.holds Tryd.pinned (Rows.OpenSpec.upto Rows.messageTurnedSpec) :=
  OpenClaim.holds_of_cond 4 Tryd.f4 rfl rfl rfl rfl rfl rfl rfl ⟨rfl, rfl, rfl, rfl, rfl⟩ rfl rfl rfl rfl rfl (by kernel_rfl) Tryd.func4 (by kernel_rfl)
    (of_decide_eq_true (by kernel_rfl)) (by unfold Func.isWrapper; first | (rw [if_pos (by decide +kernel)]; kernel_rfl) | (rw [if_neg (by decide +kernel)]; exact ⟨rfl, rfl⟩))
    (fun os started H enc _ F => by rw [OpenClaim.pre_eq_preRow]; exact lifted os started H enc F)
theorem plain (f : FuncId) (fn : Func) (hf : Tryd.pinned.checked.prog.funcNamed "bolter/bolterlaw05.MessageTurned" = some f) (hfn : Tryd.pinned.checked.prog.funcs[f]? = some fn) :
    true = Tryd.pinned.checked.prog.looks [] ∧ ∀ (j : Nat) t, fn.params[j]? = some t → Tryd.pinned.checked.prog.wantsStandIn t = false := by
  obtain rfl : f = 4 := Option.some.inj ((show Tryd.prog.funcNamed "bolter/bolterlaw05.MessageTurned" = some 4 by kernel_rfl).symm.trans hf) |>.symm
  obtain rfl : fn = Tryd.f4 := (Option.some.inj (Tryd.func4.symm.trans hfn)).symm
  refine ⟨by kernel_rfl, fun j t ht => ?_⟩
  rw [Tryd.params4] at ht
  have hm : t ∈ [47, 24, 5, 24] := by simpa using Array.mem_of_getElem? ht
  have hall : ([47, 24, 5, 24].all fun u => !Tryd.prog.wantsStandIn u) = true := by kernel_rfl
  exact (show Tryd.prog.wantsStandIn t = false by simpa using List.all_eq_true.1 hall t hm)
theorem proved : Rows.MessageTurnedUptoCardSaid := Claim7.holds_tied_plain_at .later [] _ _ _ _ over (fun _ h => by cases h) (by kernel_rfl) (fun _ h => by cases h) messageTurnedUpto_row_tie rfl ⟨rfl, rfl⟩ (by kernel_rfl) rfl plain (by kernel_rfl)
#print axioms proved
end Go.Proofs.YtnikfeaggppmpaaDoor.messageTurned
namespace Go.Proofs.YtnikfeaggppmpaaDoor
theorem messageTurned_holds : Rows.MessageTurnedUptoCardSaid := messageTurned.proved
end Go.Proofs.YtnikfeaggppmpaaDoor
