/-
  The law StreamPart of the given program holds for every input whose values and letters are together at most 1048576: its statement 'StreamPartUptoCardSaid'.
-/
import Derived.Test.YtlobjcokopfbkaaDoorCards
import Derived.Test.YtlobjcokopfbkaaDoorTie
import Derived.Test.YtlobjcokopfbkaaDoorNum
import Derived.Test.YtlobjcokopfbkaaDoorPYx20
import Derived.Test.YtlobjcokopfbkaaDoorPureStreamPart
import Derived.Test.YtlobjcokopfbkaaDoorOpn
import Derived.WalkKit
import Derived.ProofKit
import Derived.OpenShut
import Derived.ShutString
import Derived.ChangeOld
import Derived.Below
import Derived.SizedLaws
import Derived.JoinedCond
import Derived.Deep.DeepHandedRow
import Derived.LaidHandle
import Derived.LaidLaws
import Derived.SevenTiedAt
namespace Go.Proofs.YtlobjcokopfbkaaDoor.streamPart
open Go.ChangeShapes Go.WideShapes Go.ChangeAt Go.RowKit
open Go.ChangeMaps (open_string shut_string)
open Go.Proofs.YtlobjcokopfbkaaDoor.PY Go.Proofs.YtlobjcokopfbkaaDoorW.PrintWords
set_option linter.unusedVariables false
theorem own : ownKnob Tryd.prog.godebug = none := by kernel_rfl
theorem laidOut : laidOutB Tryd.prog = true := by kernel_rfl
theorem et : Tryd.prog.globalNamed "errors.errorType" = some 0 := by kernel_rfl
theorem rt : (Tryd.prog.cutTypes.find? (·.1 == "internal/reflectlite.rtype")).map (·.2) = some 117 := by kernel_rfl
theorem oneRow : ((List.range 170).filter fun t => Tryd.prog.rowNamed t [101, 114, 114, 111, 114]) = [35] := by kernel_rfl
theorem size : Tryd.prog.types.size = 170 := by kernel_rfl
theorem handle {W : World} (h : laidMetH Tryd.prog Rows.streamPartUptoRow.laid W) : Num.ErrT W := by
  have h' : laidMet Tryd.prog [] W ∧ handlesMet Tryd.prog Rows.streamPartUptoRow.laid W := h
  obtain ⟨name, u, ty, e1, e2, e3, e4, e5⟩ := h'.2 _ (List.mem_singleton.2 rfl)
  have en : name = [101, 114, 114, 111, 114] := (Option.some.inj e1).symm
  subst en
  obtain rfl := Option.some.inj (rt.symm.trans e2)
  have hm : ty ∈ (List.range 170).filter fun t => Tryd.prog.rowNamed t [101, 114, 114, 111, 114] := List.mem_filter.2 ⟨List.mem_range.2 (by rw [← size]; exact e3), e4⟩
  rw [oneRow] at hm
  obtain rfl := List.mem_singleton.1 hm
  have hh : typeHandle Tryd.prog 35 = .pointer (some ⟨1, 35, none⟩) := by kernel_rfl
  rw [hh] at e5
  unfold Num.ErrT
  simpa using World.var?_cell et e5 0
noncomputable def laidWorld (os : Os) : World :=
  { World.holding Tryd.prog os ⟨#[], #[], []⟩ with heap := (World.holding Tryd.prog os ⟨#[], #[], []⟩).heap.modify 0 fun
      | .cells _ t frozen => .cells #[.iface 117 (.agg #[.pointer (some ⟨1, 35, none⟩)])] t frozen
      | o => o }
theorem laid_met (os : Os) (args : Array Value) : laidMetH Tryd.prog Rows.streamPartUptoRow.laid ((laidWorld os).forCall (fun _ _ => 0) ⟨#[], args, []⟩).memory := laidMetH_of_parts (laidMet_nil _ _) (by kernel_rfl)
theorem reads (os : Os) {H : Type} (enc : TypeId × Value → H) : ∃ places, DataW.whole enc Tryd.prog ((laidWorld os).forCall (fun _ _ => 0) ⟨#[], #[.int .u8 0, .int .u8 0, .slice none 0 0], []⟩).memory Tryd.f4.params.toList Rows.streamPartSpec.vars false #[.int .u8 0, .int .u8 0, .slice none 0 0].toList 8 = some ([.lit (.int .u8 0), .lit (.int .u8 0), .nil], [], places) := ⟨[], by kernel_rfl⟩
set_option maxRecDepth 100000 in
theorem lifted (os : Os) (started : os.Started) (H : Type) (enc : TypeId × Value → H) (F : Stop.Interp) :
    ReturnsInHanded {} Tryd.checked os 4 .any ((Rows.OpenSpec.upto Rows.streamPartSpec).preRow enc Tryd.prog Tryd.f4 Rows.streamPartUptoRow.domain false Rows.streamPartUptoRow.laid) (((Rows.OpenSpec.upto Rows.streamPartSpec).at F).post enc Tryd.prog Tryd.f4 false true false false) := by
  obtain ⟨places, hx⟩ := reads os enc
  refine returnsInHanded_of_row (C := Tryd.checked) (s := Rows.OpenSpec.upto Rows.streamPartSpec) own started (by kernel_rfl) Tryd.func4
    (witness_row_at (enc := enc) (C := Tryd.checked) false (laidWorld os) #[.int .u8 0, .int .u8 0, .slice none 0 0] rfl (by kernel_rfl) (by kernel_rfl) (by kernel_rfl)
      (OpenSpec.preRow_of_cond 8 hx (by kernel_rfl) (fun k hk => by cases hk; kernel_rfl) (by kernel_rfl) (laid_met os _))) ?_
  intro W base args ds gs before hval0 hW _ hcond _ hL _ _
  have hk0 := hcond _ rfl
  have hk := opn.bound hk0
  have hE := handle hL
  have hval : ∀ (j : Nat) t v, Tryd.f4.params[j]? = some t → args[j]? = some v → Value.okWide Tryd.prog W .any base t v := hval0
  have hW' := hW
  obtain ⟨p, q, hA0, hV, rfl, hfz, hnd⟩ := hW
  have hA : DataW.TrodAll enc Tryd.prog W 0 (fun _ => true) true Tryd.f4.params.toList args.toList ds p := hA0
  rw [Tryd.params4] at hA hval
  obtain ⟨v0, vs0, d0, ds0, p0, q0, hargs, rfl, rfl, h0, r0⟩ := trodAll_cons hA
  obtain ⟨v1, vs1, d1, ds1, p1, q1, rfl, rfl, rfl, h1, r1⟩ := trodAll_cons r0
  obtain ⟨v2, vs2, d2, ds2, p2, q2, rfl, rfl, rfl, h2, r2⟩ := trodAll_cons r1
  obtain ⟨rfl, rfl, rfl⟩ := trodAll_nil r2
  obtain rfl : args = #[v0, v1, v2] := by cases args; simp_all
  obtain ⟨rfl, rfl⟩ := trodVars_none hV
  obtain ⟨a0, rfl, rfl, rfl, w0⟩ := open_int Tryd.underlying5 (hval 0 5 v0 rfl rfl) h0
  obtain ⟨a1, rfl, rfl, rfl, w1⟩ := open_int Tryd.underlying5 (hval 1 5 v1 rfl rfl) h1
  have k2 := h2
  have lt2 : ∀ x ∈ p2, x.block < W.heap.size := by obtain ⟨m, hm⟩ := k2; exact DataW.trod_lt m _ _ _ hm
  obtain ⟨A2, len2, cap2, rfl⟩ := okWide_slice Tryd.underlying22 (hval 2 22 v2 rfl rfl)
  obtain ⟨fuel2, hf2⟩ := h2
  obtain ⟨l2, rfl, hc2, hC2, hw2, hb2, hm2⟩ := opn.open_row (P := Tryd.prog) (t := 22) Tryd.underlying22 (opn.opn_struct (P := Tryd.prog) (t := 45) Tryd.underlying45 (by kernel_rfl) (opn.opn_more (opn.opn_slice (P := Tryd.prog) (t := 43) Tryd.underlying43 (by kernel_rfl) (opn.opn_int (P := Tryd.prog) (t := 5) Tryd.underlying5 (by kernel_rfl))) rfl (opn.opn_more (opn.opn_int (P := Tryd.prog) (t := 5) Tryd.underlying5 (by kernel_rfl)) rfl (opn.opn_more (opn.opn_int (P := Tryd.prog) (t := 30) Tryd.underlying30 (by kernel_rfl)) rfl (opn.opn_more (opn.opn_slice (P := Tryd.prog) (t := 43) Tryd.underlying43 (by kernel_rfl) (opn.opn_int (P := Tryd.prog) (t := 5) Tryd.underlying5 (by kernel_rfl))) rfl (opn.opn_last (opn.opn_string (P := Tryd.prog) (t := 9) Tryd.underlying9 (by kernel_rfl)) rfl))))) (fun x : S45 => (x.f0, (x.f1, (x.f2, (x.f3, x.f4))))) (fun p => (⟨p.1, p.2.1, p.2.2.1, p.2.2.2.1, p.2.2.2.2⟩ : S45)) (fun _ => rfl)) hf2
  have hbulk : (fun _ => 1) a0 + (fun _ => 1) a1 + (opn.bs (fun x : S45 => (opn.bs (fun _ => 1)) x.f0 + ((fun _ => 1) x.f1 + ((fun _ => 1) x.f2 + ((opn.bs (fun _ => 1)) x.f3 + (fun s => s.size + 1) x.f4))) + 1)) l2 ≤ 1048576 := by
    simp only [List.append_nil, Rows.uptoBulkAll] at hk
    have z0 := opn.one_le (.lit (.int .u8 a0) : DataW H)
    have z1 := opn.one_le (.lit (.int .u8 a1) : DataW H)
    have z2 := hb2
    (try simp only [] at *)
    (try dsimp only [id] at *)
    omega
  have h := Pure.StreamPart a0 a1 l2 w0 w1 hw2 hm2 hbulk
  clear hA0 hval0 hk0
  refine (bolterlaw09_StreamPart.calls a0 a1 _ _ l2 true W hC2 hc2 hE h).mono fun e W' he_ => ?_
  obtain ⟨he, hd⟩ := he_
  have bel : Below W.heap.size W W' := hd
  subst he
  exact ⟨_, rfl, _, _, _, [], _, [], hW', trodAll_mk1 (shut_bool Tryd.underlying4 _), (trodAll_cons_mk (shut_int Tryd.underlying5 w0) (trodAll_cons_mk (shut_int Tryd.underlying5 w1) (trodAll_cons_mk (Below.trod laidOut (by kernel_rfl) (of_decide_eq_true (by kernel_rfl)) k2 bel lt2) trodAll_mk0))), rfl, bel.frame _, fun h => by cases h⟩
theorem over : Rows.streamPartUptoRow.holds Tryd.pinned (Rows.OpenSpec.upto Rows.streamPartSpec) :=
  OpenClaim.holds_of_cond 4 Tryd.f4 rfl rfl rfl rfl rfl rfl rfl ⟨rfl, rfl, rfl, rfl, rfl⟩ rfl rfl rfl rfl rfl (by kernel_rfl) Tryd.func4 (by kernel_rfl)
    (of_decide_eq_true (by kernel_rfl)) (by unfold Func.isWrapper; first | (rw [if_pos (by decide +kernel)]; kernel_rfl) | (rw [if_neg (by decide +kernel)]; exact ⟨rfl, rfl⟩))
    (fun os started H enc _ F => by rw [OpenClaim.pre_eq_preRow]; exact lifted os started H enc F)
theorem plain (f : FuncId) (fn : Func) (hf : Tryd.pinned.checked.prog.funcNamed "bolter/bolterlaw09.StreamPart" = some f) (hfn : Tryd.pinned.checked.prog.funcs[f]? = some fn) :
    true = Tryd.pinned.checked.prog.looks [] ∧ ∀ (j : Nat) t, fn.params[j]? = some t → Tryd.pinned.checked.prog.wantsStandIn t = false := by
  obtain rfl : f = 4 := Option.some.inj ((show Tryd.prog.funcNamed "bolter/bolterlaw09.StreamPart" = some 4 by kernel_rfl).symm.trans hf) |>.symm
  obtain rfl : fn = Tryd.f4 := (Option.some.inj (Tryd.func4.symm.trans hfn)).symm
  refine ⟨by kernel_rfl, fun j t ht => ?_⟩
  rw [Tryd.params4] at ht
  have hm : t ∈ [5, 5, 22] := by simpa using Array.mem_of_getElem? ht
  have hall : ([5, 5, 22].all fun u => !Tryd.prog.wantsStandIn u) = true := by kernel_rfl
  exact (show Tryd.prog.wantsStandIn t = false by simpa using List.all_eq_true.1 hall t hm)
theorem proved : Rows.StreamPartUptoCardSaid := Claim7.holds_tied_plain_at .later [] _ _ _ _ over (fun _ h => by cases h) (by kernel_rfl) (fun _ h => by cases h) streamPartUpto_row_tie rfl ⟨rfl, rfl⟩ (by kernel_rfl) rfl plain (by kernel_rfl)
#print axioms proved
end Go.Proofs.YtlobjcokopfbkaaDoor.streamPart
namespace Go.Proofs.YtlobjcokopfbkaaDoor
theorem streamPart_holds : Rows.StreamPartUptoCardSaid := streamPart.proved
end Go.Proofs.YtlobjcokopfbkaaDoor
