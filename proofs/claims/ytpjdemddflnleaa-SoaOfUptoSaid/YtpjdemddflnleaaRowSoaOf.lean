/-
  The law SoaOf of the given program holds for every input whose values and letters are together at most 1048576: its statement 'SoaOfUptoSaid'.
-/
import Derived.Test.YtpjdemddflnleaaRows
import Derived.Test.YtpjdemddflnleaaPBx5
import Derived.Test.YtpjdemddflnleaaPureSoaOf
import Derived.Test.YtpjdemddflnleaaOpn
import Derived.WalkKit
import Derived.ProofKit
import Derived.OpenShut
import Derived.ShutString
import Derived.ChangeOld
import Derived.Below
import Derived.SizedLaws
import Derived.JoinedCond
namespace Go.Proofs.Ytpjdemddflnleaa.soaOf
open Go.ChangeShapes Go.WideShapes Go.ChangeAt Go.RowKit
open Go.ChangeMaps (open_string shut_string)
open Go.Proofs.Ytpjdemddflnleaa.PB Go.Proofs.YtpjdemddflnleaaW.PrintWords
set_option linter.unusedVariables false
theorem own : ownKnob Try.prog.godebug = none := by kernel_rfl
theorem laidOut : laidOutB Try.prog = true := by kernel_rfl
set_option maxRecDepth 100000 in
theorem lifted (os : Os) (started : os.Started) (H : Type) (enc : TypeId × Value → H) (F : Stop.Interp) :
    ReturnsInHanded {} Try.checked os 6 .any ((Rows.OpenSpec.upto Rows.soaOfSpec).pre6 enc Try.prog Try.f6 Rows.soaOfUptoRow.domain false) (((Rows.OpenSpec.upto Rows.soaOfSpec).at F).post enc Try.prog Try.f6 false true false false) := by
  refine returnsInHanded_of_cond (C := Try.checked) (s := Rows.OpenSpec.upto Rows.soaOfSpec) (k := Rows.uptoSmall) rfl own started (by kernel_rfl) Try.func6
    (OpenSpec.witness (enc := enc) (C := Try.checked) (s := Rows.OpenSpec.upto Rows.soaOfSpec) (k := Rows.uptoSmall) rfl false ⟨#[], #[.agg #[.string ByteArray.empty, .int .u16 0, .int .u32 0, .string ByteArray.empty], .slice none 0 0, .int .u32 0], []⟩ 8 (by kernel_rfl) (by kernel_rfl) (by kernel_rfl)
      (x := ([.agg [.lit (.string []), .lit (.int .u16 0), .lit (.int .u32 0), .lit (.string [])], .nil, .lit (.int .u32 0)], [], [])) (by kernel_rfl) rfl (by kernel_rfl)) ?_
  intro W base args ds gs before hval0 hW _ hk0 _
  have hk := opn.bound hk0
  have hval : ∀ (j : Nat) t v, Try.f6.params[j]? = some t → args[j]? = some v → Value.okWide Try.prog W .any base t v := hval0
  have hW' := hW
  obtain ⟨p, q, hA0, hV, rfl, hfz, hnd⟩ := hW
  have hA : DataW.TrodAll enc Try.prog W 0 (fun _ => true) true Try.f6.params.toList args.toList ds p := hA0
  rw [Try.params6] at hA hval
  obtain ⟨v0, vs0, d0, ds0, p0, q0, hargs, rfl, rfl, h0, r0⟩ := trodAll_cons hA
  obtain ⟨v1, vs1, d1, ds1, p1, q1, rfl, rfl, rfl, h1, r1⟩ := trodAll_cons r0
  obtain ⟨v2, vs2, d2, ds2, p2, q2, rfl, rfl, rfl, h2, r2⟩ := trodAll_cons r1
  obtain ⟨rfl, rfl, rfl⟩ := trodAll_nil r2
  obtain rfl : args = #[v0, v1, v2] := by cases args; simp_all
  obtain ⟨rfl, rfl⟩ := trodVars_none hV
  have k0 := h0
  have lt0 : ∀ x ∈ p0, x.block < W.heap.size := by obtain ⟨m, hm⟩ := k0; exact DataW.trod_lt m _ _ _ hm
  obtain ⟨cs0, rfl, hsz0⟩ := okWide_struct Try.underlying41 (hval 0 41 v0 rfl rfl)
  obtain ⟨fuel0, hf0⟩ := h0
  obtain ⟨a0, hC0, hw0, hb0⟩ := (opn.opn_struct (P := Try.prog) (t := 41) Try.underlying41 (by kernel_rfl) (opn.opn_more (opn.opn_string (P := Try.prog) (t := 23) Try.underlying23 (by kernel_rfl)) rfl (opn.opn_more (opn.opn_int (P := Try.prog) (t := 38) Try.underlying38 (by kernel_rfl)) rfl (opn.opn_more (opn.opn_int (P := Try.prog) (t := 26) Try.underlying26 (by kernel_rfl)) rfl (opn.opn_last (opn.opn_string (P := Try.prog) (t := 9) Try.underlying9 (by kernel_rfl)) rfl)))) id id (fun _ => rfl)).2 _ _ _ _ _ _ hf0
  obtain ⟨u0_0, z0_0, e0_0, g0_0, n0_0⟩ := hC0
  obtain ⟨u0_1, z0_1, e0_1, g0_1, n0_1⟩ := n0_0
  obtain ⟨u0_2, z0_2, e0_2, g0_2, n0_2⟩ := n0_1
  have hcs0 : cs0 = #[Value.string a0.1, Value.int .u16 a0.2.1, Value.int .u32 a0.2.2.1, Value.string a0.2.2.2] := by
    apply Array.toList_inj.1
    have q0 : cs0.toList = _ := e0_0
    have w0_0 : u0_0 = [Value.string a0.1] := g0_0
    have w0_1 : u0_1 = [Value.int .u16 a0.2.1] := g0_1
    have w0_2 : u0_2 = [Value.int .u32 a0.2.2.1] := g0_2
    have w0_3 : z0_2 = [Value.string a0.2.2.2] := n0_2
    rw [q0, w0_0, e0_1, w0_1, e0_2, w0_2, w0_3]
    rfl
  subst hcs0
  have k1 := h1
  have lt1 : ∀ x ∈ p1, x.block < W.heap.size := by obtain ⟨m, hm⟩ := k1; exact DataW.trod_lt m _ _ _ hm
  obtain ⟨A1, len1, cap1, rfl⟩ := okWide_slice Try.underlying31 (hval 1 31 v1 rfl rfl)
  obtain ⟨fuel1, hf1⟩ := h1
  obtain ⟨l1, rfl, hc1, hC1, hw1, hb1, hm1⟩ := opn.open_row (P := Try.prog) (t := 31) Try.underlying31 (opn.opn_int (P := Try.prog) (t := 5) Try.underlying5 (by kernel_rfl)) hf1
  obtain ⟨a2, rfl, rfl, rfl, w2⟩ := open_int Try.underlying26 (hval 2 26 v2 rfl rfl) h2
  have hbulk : (fun x : (ByteArray × Int × Int × ByteArray) => (fun s => s.size + 1) x.1 + ((fun _ => 1) x.2.1 + ((fun _ => 1) x.2.2.1 + (fun s => s.size + 1) x.2.2.2)) + 1) a0 + (opn.bs (fun _ => 1)) l1 + (fun _ => 1) a2 ≤ 1048576 := by
    simp only [List.append_nil, Rows.uptoBulkAll] at hk
    have z0 := hb0
    have z1 := hb1
    have z2 := opn.one_le (.lit (.int .u32 a2) : DataW H)
    (try simp only [] at *)
    (try dsimp only [id] at *)
    omega
  obtain ⟨k, h⟩ := Pure.SoaOf a0 l1 a2 hw0 hw1 hm1 w2 hbulk
  clear hA0 hval0 hk0
  refine (bolterlaw07_SoaOf.calls k a0.1 a0.2.1 a0.2.2.1 a0.2.2.2 _ _ l1 a2 true W hC1 hc1 h).mono fun e W' he_ => ?_
  obtain ⟨he, hd⟩ := he_
  have bel : Below W.heap.size W W' := hd
  subst he
  exact ⟨_, rfl, _, _, _, [], _, [], hW', trodAll_mk1 (shut_bool Try.underlying4 _), (trodAll_cons_mk (Below.trod laidOut (by kernel_rfl) (of_decide_eq_true (by kernel_rfl)) k0 bel lt0) (trodAll_cons_mk (Below.trod laidOut (by kernel_rfl) (of_decide_eq_true (by kernel_rfl)) k1 bel lt1) (trodAll_cons_mk (shut_int Try.underlying26 w2) trodAll_mk0))), rfl, bel.frame _, fun h => by cases h⟩
theorem over : Rows.soaOfUptoRow.holds Try.pinned (Rows.OpenSpec.upto Rows.soaOfSpec) :=
  OpenClaim.holds_of_cond 6 Try.f6 rfl rfl rfl rfl rfl rfl rfl ⟨rfl, rfl, rfl, rfl, rfl⟩ rfl rfl rfl rfl rfl (by kernel_rfl) Try.func6 (by kernel_rfl)
    (of_decide_eq_true (by kernel_rfl)) (by unfold Func.isWrapper; first | (rw [if_pos (by decide +kernel)]; kernel_rfl) | (rw [if_neg (by decide +kernel)]; exact ⟨rfl, rfl⟩))
    (fun os started H enc _ F => lifted os started H enc F)
theorem proved : Rows.SoaOfUptoSaid := over
#print axioms proved
end Go.Proofs.Ytpjdemddflnleaa.soaOf
namespace Go.Proofs.Ytpjdemddflnleaa
/-- The row, under a short name, for the claim. -/
theorem soaOf_holds : Rows.SoaOfUptoSaid := soaOf.proved
end Go.Proofs.Ytpjdemddflnleaa
