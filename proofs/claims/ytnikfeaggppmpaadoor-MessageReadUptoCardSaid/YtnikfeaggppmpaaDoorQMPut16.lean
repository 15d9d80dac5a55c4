/- part of a proof; what it has no use for was struck out -/
import Derived.Test.YtnikfeaggppmpaaDoorPMx5
import Derived.Test.YtnikfeaggppmpaaDoorQMBe
namespace Go.Proofs.YtnikfeaggppmpaaDoor.QM
open Go.RowKit Go.Proofs.YtnikfeaggppmpaaDoor.PM Go.Proofs.YtnikfeaggppmpaaDoorW.PrintWords Go.Proofs.YtnikfeaggppmpaaDoorW.PrintLast Go.Proofs.YtnikfeaggppmpaaDoor.Base
set_option linter.unusedVariables false
set_option linter.unusedSimpArgs false
theorem put16_loop (b ns : List Int) (hb : b.length + 2 * ns.length < 140737488355328) (d : Nat) : ∀ (i : Nat), i + d = ns.length →
    Ev (fun k => num_Put16.l0 k (b ++ all16 (ns.take i)) ns (ns.length : Int) (i : Int)) (b ++ all16 ns) := by
  induction d with
  | zero =>
    intro i hi
    obtain rfl : i = ns.length := by omega
    refine Ev.step (f := fun _ => some (b ++ all16 ns)) (fun k => ?_) (Ev.now _)
    simp only [num_Put16.l0, Int.lt_irrefl, if_false, List.take_length]
  | succ d ih =>
    intro i hi
    have hlt : i < ns.length := by omega
    refine Ev.step (fun k => ?_) (ih (i + 1) (by omega))
    have hl := all16_len (ns.take i)
    have ht : (ns.take i).length = i := by rw [List.length_take]; omega
    have e : wrap64 ((i : Int) + 1) = ((i + 1 : Nat) : Int) := by rw [w64 (by omega) (by omega)]; omega
    simp only [num_Put16.l0]
    rw [if_pos (by omega), if_pos (by omega), if_pos (by omega)]
    simp only [Option.bind_some]
    rw [if_pos (by simp only [List.length_append, List.length_cons, List.length_nil]; omega), e, all16_take ns i hlt, List.append_assoc]
    rfl
theorem put16 (b ns : List Int) (hb : b.length + 2 * ns.length < 140737488355328) : Ev (fun k => num_Put16.f k b ns) (b ++ all16 ns) := by
  have h := put16_loop b ns hb ns.length 0 (by omega)
  refine Ev.congr (fun k => ?_) h
  unfold num_Put16.f
  rw [if_pos (by simp only [List.length_nil]; omega)]
  simp [all16]
end Go.Proofs.YtnikfeaggppmpaaDoor.QM
