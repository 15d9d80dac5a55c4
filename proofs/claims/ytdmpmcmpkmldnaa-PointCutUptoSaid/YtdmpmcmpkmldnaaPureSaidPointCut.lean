/-
  The statement of the law PointCut about numbers and lists alone: for arguments that are well formed and together of bulk at most 1048576 the law's function answers true. No macro, syntax, notation, axiom, sorry.
-/
import Derived.Test.YtdmpmcmpkmldnaaPCx2
import Derived.Test.YtdmpmcmpkmldnaaOpn
namespace Go.Proofs.Ytdmpmcmpkmldnaa.PureSaid
open Go.RowKit Go.Proofs.Ytdmpmcmpkmldnaa.PC Go.Proofs.YtdmpmcmpkmldnaaW.PrintWords Go.Proofs.YtdmpmcmpkmldnaaW.PrintLast
set_option linter.unusedVariables false
def PointCut : Prop := ∀ (a0 : ByteArray) (l1 : (List Int)) (a2 : ByteArray), (a0.size ≤ maxLen) → (∀ y ∈ l1, (Lit.int .u8 y).wf = true) → l1.length ≤ maxLen → (a2.size ≤ maxLen) → (fun s => s.size + 1) a0 + (opn.bs (fun _ => 1)) l1 + (fun s => s.size + 1) a2 ≤ 1048576 → ∃ k, bolterlaw03_PointCut.f k a0 l1 a2 = some true
end Go.Proofs.Ytdmpmcmpkmldnaa.PureSaid
