/- part of a proof; what it has no use for was struck out -/
import Derived.Maps.OwnSet
import Derived.Maps.Views
import Derived.StringKeys
import Derived.Test.YtnikfeaggppmpaaNamP
namespace Go.Proofs.Ytnikfeaggppmpaa.MapS
open Go.RowKit Go.Proofs.YtnikfeaggppmpaaW.PrintWords Go.Proofs.YtnikfeaggppmpaaW.PrintLast Go.Proofs.Ytnikfeaggppmpaa.Base Go.Proofs.Ytnikfeaggppmpaa.Nam
open Go.Maps (Keyed string_keyed)
open Go.WideElems (Fit rd rg pl)
set_option linter.unusedVariables false
set_option linter.unusedSimpArgs false
set_option maxRecDepth 100000
theorem law : Keyed Try.prog 25 := string_keyed Try.underlying25
theorem zeroE (w : World) : (zeroValue 3).run Try.prog w = .ok (.int .i64 0) w := by kernel_rfl
def kl (l : List Int) : Lit := .string (strOfNums l).data.toList
theorem kl_inj {a b : List Int} (ha : B8 a) (hb : B8 b) (h : kl a = kl b) : a = b := by
  unfold kl at h
  injection h with h
  exact str_inj ha hb (by rw [ByteArray.toList_eq, ByteArray.toList_eq]; exact h)
theorem kl_key (l : List Int) (hl : l.length ≤ maxLen) : keyOf Try.prog 25 (.string (strOfNums l)) = some (kl l) :=
  Go.WideMaps.keyOf_string_mk Try.underlying25 (by rw [str_size]; exact hl)
def MIs (w : World) (b n : Nat) (f : List Int → Option Int) : Prop :=
  ∃ D : DataW Unit, w.ownsMap Try.prog 25 (plainElem Try.prog 3) b n D ∧ Maps.IsMap D ∧ ∀ l, B8 l → ∀ z, D.atKey (kl l) z = (match f l with | some c => .lit (.int .i64 c) | none => z)
def upd (f : List Int → Option Int) (l : List Int) (c : Int) : List Int → Option Int := fun x => if x = l then some c else f x
theorem mis_made (w : World) : MIs (w.alloc (.map #[] 0)) w.heap.size 0 (fun _ => none) :=
  ⟨_, World.ownsMap_made _ _ _ _, Maps.isMap_empty, fun l _ z => rfl⟩
theorem mis_kept {w w' : World} {b n : Nat} {f : List Int → Option Int} {row : Option Nat} (h : MIs w b n f) (hg : w.grownBy w' row) (hne : some b ≠ row) : MIs w' b n f := by
  obtain ⟨D, h1, h2, h3⟩ := h
  exact ⟨D, h1.kept hg hne, h2, h3⟩
theorem mis_move {w w' : World} {b n : Nat} {f : List Int → Option Int} (h : MIs w b n f) (hb : w'.heap[b]? = w.heap[b]?) : MIs w' b n f := by
  obtain ⟨D, ⟨es, cl, h1, h4⟩, h2, h3⟩ := h
  exact ⟨D, ⟨es, cl, hb.trans h1, h4⟩, h2, h3⟩
theorem mis_blk {w : World} {b n : Nat} {f : List Int → Option Int} (h : MIs w b n f) : ∃ es cl, w.heap[b]? = some (.map es cl) := by
  obtain ⟨D, ⟨es, cl, h1, _⟩, _⟩ := h
  exact ⟨es, cl, h1⟩
theorem mis_look {w : World} {b n : Nat} {f : List Int → Option Int} (h : MIs w b n f) (l : List Int) (hl : B8 l) (hlen : l.length ≤ maxLen) :
    (Instr.lookup 68 (.map (some b)) (.string (strOfNums l)) true).run Try.prog w = .ok (.tuple #[.int .i64 ((f l).getD 0), .bool (f l).isSome]) w := by
  obtain ⟨D, ⟨es, cl, hb, F, hs, hD⟩, h2, h3⟩ := h
  have h4 := h3 l hl
  rw [hD] at h4
  rcases Maps.fit_look true law Try.underlying68 (zeroE w) hb F (kl_key l hlen) with ⟨hrun, _, hat⟩ | ⟨e0, y, _, _, hrun, hRv, hat, _⟩
  · have hf : f l = none := by
      cases hf : f l with
      | none => rfl
      | some c =>
        have h5 := h4 .nil
        rw [hat .nil, hf] at h5
        cases h5
    rw [hrun, hf]
    rfl
  · obtain ⟨c, hv, hz, _⟩ := plainElem_int_inv Try.underlying3 hRv
    have hf : f l = some c := by
      cases hf : f l with
      | none =>
        have h5 := h4 .nil
        rw [hat .nil, hf, hz] at h5
        cases h5
      | some c' =>
        have h5 := h4 .nil
        rw [hat .nil, hf, hz] at h5
        injection h5 with h5
        injection h5 with _ h5
        rw [h5]
    rw [hrun, hf, hv]
    rfl
theorem mis_put {w : World} {b n : Nat} {f : List Int → Option Int} (h : MIs w b n f) (hn : n < maxLen) (l : List Int) (hl : B8 l) (hlen : l.length ≤ maxLen) (c : Int) (hc : (Lit.int .i64 c).wf = true) :
    ∃ w', (Instr.mapUpdate 68 (.map (some b)) (.string (strOfNums l)) (.int .i64 c)).run Try.prog w = .ok () w' ∧ MIs w' b (n + 1) (upd f l c) ∧ w.grownBy w' (some b) := by
  obtain ⟨D, h1, h2, h3⟩ := h
  have hkey := kl_key l hlen
  obtain ⟨w', hrun, hm, hg⟩ := h1.update law Try.underlying68 hn hkey (plainElem_int Try.underlying3 hc)
  refine ⟨w', hrun, ⟨_, hm, h2.put _ _, fun x hx z => ?_⟩, hg⟩
  unfold upd
  by_cases hxl : x = l
  · subst hxl
    rw [if_pos rfl]
    exact Maps.atKey_put_same h2 (law.key hkey) _ _
  · rw [if_neg hxl, Maps.atKey_put_other (fun hh => hxl (kl_inj hx hl hh))]
    exact h3 x hx z
end Go.Proofs.Ytnikfeaggppmpaa.MapS
