/-
  The law PendingScript of the given program holds for every input whose values and letters are together at most 1048576: its statement 'PendingScriptUptoCardSaid'.
-/
import Derived.Test.YtecpginkacaebaaDoorCards
import Derived.Test.YtecpginkacaebaaDoorTie
import Derived.Test.YtecpginkacaebaaDoorNum
import Derived.Test.YtecpginkacaebaaDoorPPx24
import Derived.Test.YtecpginkacaebaaDoorPurePendingScript
import Derived.Test.YtecpginkacaebaaDoorOpn
import Derived.WalkKit
import Derived.ProofKit
import Derived.OpenShut
import Derived.ShutString
import Derived.ChangeOld
import Derived.Below
import Derived.SizedLaws
import Derived.JoinedCond
import Derived.Deep.DeepHandedRow
import Derived.LaidHandle
import Derived.LaidLaws
import Derived.SevenTiedAt
namespace Go.Proofs.YtecpginkacaebaaDoor.pendingScript
open Go.ChangeShapes Go.WideShapes Go.ChangeAt Go.RowKit
open Go.ChangeMaps (open_string shut_string)
open Go.Proofs.YtecpginkacaebaaDoor.PP Go.Proofs.YtecpginkacaebaaDoorW.PrintWords
set_option linter.unusedVariables false
theorem own : ownKnob Tryd.prog.godebug = none := by kernel_rfl
theorem laidOut : laidOutB Tryd.prog = true := by kernel_rfl
theorem et : Tryd.prog.globalNamed "errors.errorType" = some 0 := by kernel_rfl
theorem rt : (Tryd.prog.cutTypes.find? (·.1 == "internal/reflectlite.rtype")).map (·.2) = some 86 := by kernel_rfl
theorem oneRow : ((List.range 139).filter fun t => Tryd.prog.rowNamed t [101, 114, 114, 111, 114]) = [29] := by kernel_rfl
theorem size : Tryd.prog.types.size = 139 := by kernel_rfl
/-- What the row's list gives: the variable's cell. -/
theorem handle {W : World} (h : laidMetH Tryd.prog Rows.pendingScriptUptoRow.laid W) : Num.ErrT W := by
  have h' : laidMet Tryd.prog [] W ∧ handlesMet Tryd.prog Rows.pendingScriptUptoRow.laid W := h
  obtain ⟨name, u, ty, e1, e2, e3, e4, e5⟩ := h'.2 _ (List.mem_singleton.2 rfl)
  have en : name = [101, 114, 114, 111, 114] := (Option.some.inj e1).symm
  subst en
  obtain rfl := Option.some.inj (rt.symm.trans e2)
  have hm : ty ∈ (List.range 139).filter fun t => Tryd.prog.rowNamed t [101, 114, 114, 111, 114] := List.mem_filter.2 ⟨List.mem_range.2 (by rw [← size]; exact e3), e4⟩
  rw [oneRow] at hm
  obtain rfl := List.mem_singleton.1 hm
  have hh : typeHandle Tryd.prog 29 = .pointer (some ⟨1, 29, none⟩) := by kernel_rfl
  rw [hh] at e5
  unfold Num.ErrT
  simpa using World.var?_cell et e5 0
/-- A world for the witness. -/
noncomputable def laidWorld (os : Os) : World :=
  { World.holding Tryd.prog os ⟨#[], #[], []⟩ with heap := (World.holding Tryd.prog os ⟨#[], #[], []⟩).heap.modify 0 fun
      | .cells _ t frozen => .cells #[.iface 86 (.agg #[.pointer (some ⟨1, 29, none⟩)])] t frozen
      | o => o }
theorem laid_met (os : Os) (args : Array Value) : laidMetH Tryd.prog Rows.pendingScriptUptoRow.laid ((laidWorld os).forCall (fun _ _ => 0) ⟨#[], args, []⟩).memory := laidMetH_of_parts (laidMet_nil _ _) (by kernel_rfl)
theorem reads (os : Os) {H : Type} (enc : TypeId × Value → H) : ∃ places, DataW.whole enc Tryd.prog ((laidWorld os).forCall (fun _ _ => 0) ⟨#[], #[.slice none 0 0], []⟩).memory Tryd.f4.params.toList Rows.pendingScriptSpec.vars false #[.slice none 0 0].toList 8 = some ([.nil], [], places) := ⟨[], by kernel_rfl⟩
set_option maxRecDepth 100000 in
theorem lifted (os : Os) (started : os.Started) (H : Type) (enc : TypeId × Value → H) (F : Stop.Interp) :
    ReturnsInHanded {} Tryd.checked os 4 .any ((Rows.OpenSpec.upto Rows.pendingScriptSpec).preRow enc Tryd.prog Tryd.f4 Rows.pendingScriptUptoRow.domain false Rows.pendingScriptUptoRow.laid) (((Rows.OpenSpec.upto Rows.pendingScriptSpec).at F).post enc Tryd.prog Tryd.f4 false true false false) := by
  obtain ⟨places, hx⟩ := reads os enc
  refine returnsInHanded_of_row (C := Tryd.checked) (s := Rows.OpenSpec.upto Rows.pendingScriptSpec) own started (by kernel_rfl) Tryd.func4
    (witness_row_at (enc := enc) (C := Tryd.checked) false (laidWorld os) #[.slice none 0 0] rfl (by kernel_rfl) (by kernel_rfl) (by kernel_rfl)
      (OpenSpec.preRow_of_cond 8 hx (by kernel_rfl) (fun k hk => by cases hk; kernel_rfl) (by kernel_rfl) (laid_met os _))) ?_
  intro W base args ds gs before hval0 hW _ hcond _ hL _ _
  have hk0 := hcond _ rfl
  have hk := opn.bound hk0
  have hE := handle hL
  have hval : ∀ (j : Nat) t v, Tryd.f4.params[j]? = some t → args[j]? = some v → Value.okWide Tryd.prog W .any base t v := hval0
  have hW' := hW
  obtain ⟨p, q, hA0, hV, rfl, hfz, hnd⟩ := hW
  have hA : DataW.TrodAll enc Tryd.prog W 0 (fun _ => true) true Tryd.f4.params.toList args.toList ds p := hA0
  rw [Tryd.params4] at hA hval
  obtain ⟨v0, vs0, d0, ds0, p0, q0, hargs, rfl, rfl, h0, r0⟩ := trodAll_cons hA
  obtain ⟨rfl, rfl, rfl⟩ := trodAll_nil r0
  obtain rfl : args = #[v0] := by cases args; simp_all
  obtain ⟨rfl, rfl⟩ := trodVars_none hV
  have k0 := h0
  have lt0 : ∀ x ∈ p0, x.block < W.heap.size := by obtain ⟨m, hm⟩ := k0; exact DataW.trod_lt m _ _ _ hm
  obtain ⟨A0, len0, cap0, rfl⟩ := okWide_slice Tryd.underlying48 (hval 0 48 v0 rfl rfl)
  obtain ⟨fuel0, hf0⟩ := h0
  obtain ⟨l0, rfl, hc0, hC0, hw0, hb0, hm0⟩ := opn.open_row (P := Tryd.prog) (t := 48) Tryd.underlying48 (opn.opn_struct (P := Tryd.prog) (t := 52) Tryd.underlying52 (by kernel_rfl) (opn.opn_more (opn.opn_int (P := Tryd.prog) (t := 5) Tryd.underlying5 (by kernel_rfl)) rfl (opn.opn_more (opn.opn_int (P := Tryd.prog) (t := 5) Tryd.underlying5 (by kernel_rfl)) rfl (opn.opn_more (opn.opn_slice (P := Tryd.prog) (t := 49) Tryd.underlying49 (by kernel_rfl) (opn.opn_int (P := Tryd.prog) (t := 5) Tryd.underlying5 (by kernel_rfl))) rfl (opn.opn_more (opn.opn_int (P := Tryd.prog) (t := 5) Tryd.underlying5 (by kernel_rfl)) rfl (opn.opn_last (opn.opn_int (P := Tryd.prog) (t := 50) Tryd.underlying50 (by kernel_rfl)) rfl))))) id id (fun _ => rfl)) hf0
  have hbulk : (opn.bs (fun x : (Int × Int × (List Int) × Int × Int) => (fun _ => 1) x.1 + ((fun _ => 1) x.2.1 + ((opn.bs (fun _ => 1)) x.2.2.1 + ((fun _ => 1) x.2.2.2.1 + (fun _ => 1) x.2.2.2.2))) + 1)) l0 ≤ 1048576 := by
    simp only [List.append_nil, Rows.uptoBulkAll] at hk
    have z0 := hb0
    (try simp only [] at *)
    (try dsimp only [id] at *)
    omega
  have h := Pure.PendingScript l0 hw0 hm0 hbulk
  clear hA0 hval0 hk0
  refine (bolterlaw26_PendingScript.calls _ _ l0 true W hC0 hc0 hE h).mono fun e W' he_ => ?_
  obtain ⟨he, hd⟩ := he_
  have bel : Below W.heap.size W W' := hd
  subst he
  exact ⟨_, rfl, _, _, _, [], _, [], hW', trodAll_mk1 (shut_bool Tryd.underlying4 _), (trodAll_cons_mk (Below.trod laidOut (by kernel_rfl) (of_decide_eq_true (by kernel_rfl)) k0 bel lt0) trodAll_mk0), rfl, bel.frame _, fun h => by cases h⟩
theorem over : Rows.pendingScriptUptoRow.holds Tryd.pinned (Rows.OpenSpec.upto Rows.pendingScriptSpec) :=
  OpenClaim.holds_of_cond 4 Tryd.f4 rfl rfl rfl rfl rfl rfl rfl ⟨rfl, rfl, rfl, rfl, rfl⟩ rfl rfl rfl rfl rfl (by kernel_rfl) Tryd.func4 (by kernel_rfl)
    (of_decide_eq_true (by kernel_rfl)) (by unfold Func.isWrapper; first | (rw [if_pos (by decide +kernel)]; kernel_rfl) | (rw [if_neg (by decide +kernel)]; exact ⟨rfl, rfl⟩))
    (fun os started H enc _ F => by rw [OpenClaim.pre_eq_preRow]; exact lifted os started H enc F)
theorem plain (f : FuncId) (fn : Func) (hf : Tryd.pinned.checked.prog.funcNamed "bolter/bolterlaw26.PendingScript" = some f) (hfn : Tryd.pinned.checked.prog.funcs[f]? = some fn) :
    true = Tryd.pinned.checked.prog.looks [] ∧ ∀ (j : Nat) t, fn.params[j]? = some t → Tryd.pinned.checked.prog.wantsStandIn t = false := by
  obtain rfl : f = 4 := Option.some.inj ((show Tryd.prog.funcNamed "bolter/bolterlaw26.PendingScript" = some 4 by kernel_rfl).symm.trans hf) |>.symm
  obtain rfl : fn = Tryd.f4 := (Option.some.inj (Tryd.func4.symm.trans hfn)).symm
  refine ⟨by kernel_rfl, fun j t ht => ?_⟩
  rw [Tryd.params4] at ht
  have hm : t ∈ [48] := by simpa using Array.mem_of_getElem? ht
  have hall : ([48].all fun u => !Tryd.prog.wantsStandIn u) = true := by kernel_rfl
  exact (show Tryd.prog.wantsStandIn t = false by simpa using List.all_eq_true.1 hall t hm)
theorem proved : Rows.PendingScriptUptoCardSaid := Claim7.holds_tied_plain_at .later [] _ _ _ _ over (fun _ h => by cases h) (by kernel_rfl) (fun _ h => by cases h) pendingScriptUpto_row_tie rfl ⟨rfl, rfl⟩ (by kernel_rfl) rfl plain (by kernel_rfl)
#print axioms proved
end Go.Proofs.YtecpginkacaebaaDoor.pendingScript
namespace Go.Proofs.YtecpginkacaebaaDoor
/-- The row, under a short name, for the claim. -/
theorem pendingScript_holds : Rows.PendingScriptUptoCardSaid := pendingScript.proved
end Go.Proofs.YtecpginkacaebaaDoor
