/-
  A map of numbers (uint16) to bools that a call made itself. No macro, syntax, notation, axiom, sorry.
-/
import Derived.Maps.OwnSet
import Derived.Maps.Views
import Derived.Test.YtecpginkacaebaaProg
import Derived.Test.YtecpginkacaebaaWMore
namespace Go.Proofs.Ytecpginkacaebaa.MapU
open Go.RowKit Go.Proofs.YtecpginkacaebaaW.PrintWords Go.Proofs.YtecpginkacaebaaW.PrintLast
open Go.Maps (Keyed int_keyed keyOf_int_mk)
open Go.WideElems (Fit rd rg pl)
set_option linter.unusedVariables false
set_option linter.unusedSimpArgs false

theorem law : Keyed Try.prog 23 := int_keyed Try.underlying23
theorem zeroE (w : World) : (zeroValue 4).run Try.prog w = .ok (.bool false) w := by kernel_rfl
theorem wf16 {n : Int} (h0 : 0 ≤ n) (h1 : n < 65536) : (Lit.int .u16 n).wf = true := by
  simp [Lit.wf, IntKind.min, IntKind.max, IntKind.signed, IntKind.bits]
  omega
theorem elem_bool_inv {v : Value} {z : DataW Unit × List MemPlace} (h : plainElem Try.prog 4 v = some z) : ∃ x, v = .bool x ∧ z = (.lit (.bool x), []) := by
  unfold plainElem at h
  rw [Try.underlying4] at h
  cases v <;> simp at h
  exact ⟨_, rfl, h.symm⟩
/-- Block b is a map of numbers to bools, of at most n entries: f is what it holds. -/
def MU (w : World) (b n : Nat) (f : Int → Bool) : Prop :=
  ∃ D : DataW Unit, w.ownsMap Try.prog 23 (plainElem Try.prog 4) b n D ∧ Maps.IsMap D ∧ ∀ x, 0 ≤ x → x < 65536 → ∀ z, D.atKey (.int .u16 x) z = (if f x = true then .lit (.bool true) else z)
theorem mu_made (w : World) : MU (w.alloc (.map #[] 0)) w.heap.size 0 (fun _ => false) :=
  ⟨_, World.ownsMap_made _ _ _ _, Maps.isMap_empty, fun x _ _ z => rfl⟩
theorem mu_move {w w' : World} {b n : Nat} {f : Int → Bool} (h : MU w b n f) (hb : w'.heap[b]? = w.heap[b]?) : MU w' b n f := by
  obtain ⟨D, ⟨es, cl, h1, h4⟩, h2, h3⟩ := h
  exact ⟨D, ⟨es, cl, hb.trans h1, h4⟩, h2, h3⟩
theorem mu_lt {w : World} {b n : Nat} {f : Int → Bool} (h : MU w b n f) : b < w.heap.size := by
  obtain ⟨D, h1, _⟩ := h
  exact h1.lt
theorem mu_blk {w : World} {b n : Nat} {f : Int → Bool} (h : MU w b n f) : ∃ es cl, w.heap[b]? = some (.map es cl) := by
  obtain ⟨D, ⟨es, cl, h1, _⟩, _⟩ := h
  exact ⟨es, cl, h1⟩
theorem mu_look {w : World} {b n : Nat} {f : Int → Bool} (h : MU w b n f) (x : Int) (h0 : 0 ≤ x) (h1 : x < 65536) :
    (Instr.lookup 27 (.map (some b)) (.int .u16 x) false).run Try.prog w = .ok (.bool (f x)) w := by
  obtain ⟨D, ⟨es, cl, hb, F, hs, hD⟩, h2, h3⟩ := h
  have h4 := h3 x h0 h1
  rw [hD] at h4
  rcases Maps.fit_look false law Try.underlying27 (zeroE w) hb F (keyOf_int_mk Try.underlying23 (wf16 h0 h1)) with ⟨hrun, _, hat⟩ | ⟨e0, y, _, _, hrun, hRv, hat, _⟩
  · have hf : f x = false := by
      cases hf : f x with
      | false => rfl
      | true =>
        have h5 := h4 .nil
        rw [hat .nil, hf] at h5
        cases h5
    rw [hrun, hf]
    rfl
  · obtain ⟨c, hv, hz⟩ := elem_bool_inv hRv
    have hc : c = f x := by
      cases hf : f x with
      | false =>
        have h5 := h4 .nil
        rw [hat .nil, hf, hz] at h5
        cases h5
      | true =>
        have h5 := h4 .nil
        rw [hat .nil, hf, hz] at h5
        injection h5 with h5
        injection h5
    rw [hrun, hv, hc]
    rfl
theorem mu_put {w : World} {b n : Nat} {f : Int → Bool} (h : MU w b n f) (hn : n < maxLen) (x : Int) (h0 : 0 ≤ x) (h1 : x < 65536) :
    ∃ w', (Instr.mapUpdate 27 (.map (some b)) (.int .u16 x) (.bool true)).run Try.prog w = .ok () w' ∧ MU w' b (n + 1) (fun y => decide (y = x) || f y) ∧ w.grownBy w' (some b) := by
  obtain ⟨D, hm0, h2, h3⟩ := h
  have hkey := keyOf_int_mk Try.underlying23 (wf16 h0 h1)
  obtain ⟨w', hrun, hm, hg⟩ := hm0.update law Try.underlying27 hn hkey (plainElem_bool Try.underlying4 true)
  refine ⟨w', hrun, ⟨_, hm, h2.put _ _, fun y hy0 hy1 z => ?_⟩, hg⟩
  by_cases hxl : y = x
  · subst hxl
    rw [Maps.atKey_put_same h2 (law.key hkey) _ _]
    simp
  · rw [Maps.atKey_put_other (fun hh => hxl (by injection hh))]
    simp only [hxl, decide_false, Bool.false_or]
    exact h3 y hy0 hy1 z
end Go.Proofs.Ytecpginkacaebaa.MapU
