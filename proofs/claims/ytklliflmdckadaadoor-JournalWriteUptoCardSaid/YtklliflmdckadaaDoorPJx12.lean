/-
  The law JournalWrite: how long the segments of a journal are behind a write. No macro, syntax, notation, axiom, sorry.
-/
import Derived.Test.YtklliflmdckadaaDoorPJx10
namespace Go.Proofs.YtklliflmdckadaaDoor.PJ
open Go.RowKit Go.Proofs.YtklliflmdckadaaDoorW.PrintWords Go.Proofs.YtklliflmdckadaaDoorW.PrintLast Go.Proofs.YtklliflmdckadaaDoor.DevW Go.Proofs.YtklliflmdckadaaDoor.DevC
set_option linter.unusedVariables false
set_option linter.unusedSimpArgs false

/-- How long the segments are. -/
def lens (st : St) : List Int := st.map fun x => (x.1.length : Int)
theorem lens_len (st : St) : (lens st).length = st.length := by simp [lens]
theorem lens_dsync (st : St) : lens (dsync st) = lens st := by simp [lens, dsync]
theorem lens_snoc (st : St) (x : List Int × Int) : lens (st ++ [x]) = lens st ++ [(x.1.length : Int)] := by simp [lens]
theorem lens_segs (st : St) : lens st = (dsegs st).map fun b => (b.length : Int) := by simp [lens, dsegs]
theorem lens_last (st : St) (x : List Int × Int) : (lens (st ++ [x]))[(st ++ [x]).length - 1]? = some (dlast (st ++ [x])) := by
  rw [lens_snoc, dlast_snoc, List.length_append]
  have : (lens st).length = st.length := lens_len st
  simp [← this]
theorem lens_nil (c : List Int) : lens (jwrite [] c) = [(c.length : Int)] := by
  unfold jwrite
  rw [if_neg (by simp [dlast])]
  simp [dappend, dbegin, dsync, onLast, lens]
/-- A new segment is begun. -/
theorem lens_new (st : St) (c : List Int) (h0 : 0 < dlast st) (h1 : 2048 < dlast st + c.length) : lens (jwrite st c) = lens st ++ [(c.length : Int)] := by
  unfold jwrite
  rw [if_pos ⟨h0, h1⟩]
  unfold dbegin
  rw [dappend_snoc, lens_snoc, lens_dsync]
  simp
/-- The last segment is longer. -/
theorem lens_old (st : St) (x : List Int × Int) (c : List Int) (h : ¬ (0 < dlast (st ++ [x]) ∧ 2048 < dlast (st ++ [x]) + c.length)) : lens (jwrite (st ++ [x]) c) = (lens (st ++ [x])).set st.length (dlast (st ++ [x]) + c.length) := by
  unfold jwrite
  rw [if_neg h, dappend_snoc, lens_snoc, lens_snoc, dlast_snoc]
  have h2 : (lens st).length = st.length := lens_len st
  rw [List.set_append_right _ _ (by omega), h2, Nat.sub_self, List.length_append]
  simp
theorem lens_bound {st : St} {n : Nat} (h : total st ≤ n) (i : Nat) (y : Int) (hy : (lens st)[i]? = some y) : 0 ≤ y ∧ y ≤ n := by
  unfold lens at hy
  rw [List.getElem?_map] at hy
  cases hx : st[i]? with
  | none => rw [hx] at hy; cases hy
  | some x =>
    rw [hx] at hy
    have hy : (x.1.length : Int) = y := Option.some.inj hy
    have h2 := total_mem (b := x.1) (s := x.2) (List.mem_of_getElem? hx)
    omega
end Go.Proofs.YtklliflmdckadaaDoor.PJ
