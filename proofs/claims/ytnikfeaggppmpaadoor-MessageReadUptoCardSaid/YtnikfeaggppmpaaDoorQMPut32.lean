/- part of a proof; what it has no use for was struck out -/
import Derived.Test.YtnikfeaggppmpaaDoorPMx6
import Derived.Test.YtnikfeaggppmpaaDoorQMBe
namespace Go.Proofs.YtnikfeaggppmpaaDoor.QM
open Go.RowKit Go.Proofs.YtnikfeaggppmpaaDoor.PM Go.Proofs.YtnikfeaggppmpaaDoorW.PrintWords Go.Proofs.YtnikfeaggppmpaaDoorW.PrintLast Go.Proofs.YtnikfeaggppmpaaDoor.Base
set_option linter.unusedVariables false
set_option linter.unusedSimpArgs false
theorem put32_loop (b ns : List Int) (hb : b.length + 4 * ns.length < 140737488355328) (d : Nat) : ∀ (i : Nat), i + d = ns.length →
    Ev (fun k => num_Put32.l0 k (b ++ all32 (ns.take i)) ns (ns.length : Int) (i : Int)) (b ++ all32 ns) := by
  induction d with
  | zero =>
    intro i hi
    obtain rfl : i = ns.length := by omega
    refine Ev.step (f := fun _ => some (b ++ all32 ns)) (fun k => ?_) (Ev.now _)
    simp only [num_Put32.l0, Int.lt_irrefl, if_false, List.take_length]
  | succ d ih =>
    intro i hi
    have hlt : i < ns.length := by omega
    refine Ev.step (fun k => ?_) (ih (i + 1) (by omega))
    have hl := all32_len (ns.take i)
    have ht : (ns.take i).length = i := by rw [List.length_take]; omega
    have e : wrap64 ((i : Int) + 1) = ((i + 1 : Nat) : Int) := by rw [w64 (by omega) (by omega)]; omega
    simp only [num_Put32.l0]
    rw [if_pos (by omega), if_pos (by omega), if_pos (by omega)]
    simp only [Option.bind_some]
    rw [if_pos (by simp only [List.length_append, List.length_cons, List.length_nil]; omega), e, all32_take ns i hlt, List.append_assoc]
    rfl
theorem put32 (b ns : List Int) (hb : b.length + 4 * ns.length < 140737488355328) : Ev (fun k => num_Put32.f k b ns) (b ++ all32 ns) := by
  have h := put32_loop b ns hb ns.length 0 (by omega)
  refine Ev.congr (fun k => ?_) h
  unfold num_Put32.f
  rw [if_pos (by simp only [List.length_nil]; omega)]
  simp [all32]
end Go.Proofs.YtnikfeaggppmpaaDoor.QM
