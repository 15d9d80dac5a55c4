-- written by a program of this session out of the loaded program (its tools: wip/tools)
import Derived.Test.YtecpginkacaebaaDoorPQx0
namespace Go.Proofs.YtecpginkacaebaaDoor.PQ
open Go.RowKit Go.Proofs.YtecpginkacaebaaDoorW.PrintWords Go.Proofs.YtecpginkacaebaaDoorW.PrintLast Go.Proofs.YtecpginkacaebaaDoorW.PrintMore
attribute [local go_sem] max2_int min2_int max_two min_two max_three min_three max_four min_four   -- for this text's walks alone
set_option linter.unusedVariables false
set_option linter.unusedSimpArgs false

theorem eqA37 (d : Nat) (w : World) (x0 y0 : ByteArray) (x1 y1 : Int) :
    (Op.equalIn (d + 2) 37 (.agg #[.string x0, .int .u16 x1]) (.agg #[.string y0, .int .u16 y1])).run Tryd.prog w = .ok (x0.toList == y0.toList && (x1 == y1)) w := by
  refine eqA_of Tryd.underlying37 (by kernel_rfl) ?_
  refine eqf_cons (by rfl) (by go_simp; rfl) (by go_simp; rfl) (by go_simp) ?_
  exact eqf_last (by rfl) (by go_simp; rfl) (by go_simp; rfl) (by go_simp)
end Go.Proofs.YtecpginkacaebaaDoor.PQ
