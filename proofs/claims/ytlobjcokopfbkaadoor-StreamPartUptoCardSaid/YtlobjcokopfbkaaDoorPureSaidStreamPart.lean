/- part of a proof; what it has no use for was struck out -/
import Derived.Test.YtlobjcokopfbkaaDoorPYx20
import Derived.Test.YtlobjcokopfbkaaDoorOpn
namespace Go.Proofs.YtlobjcokopfbkaaDoor.PureSaid
open Go.RowKit Go.Proofs.YtlobjcokopfbkaaDoor.PY Go.Proofs.YtlobjcokopfbkaaDoorW.PrintWords Go.Proofs.YtlobjcokopfbkaaDoorW.PrintLast
set_option linter.unusedVariables false
def StreamPart : Prop := ∀ (a0 : Int) (a1 : Int) (l2 : (List S45)), ((Lit.int .u8 a0).wf = true) → ((Lit.int .u8 a1).wf = true) → (∀ y ∈ l2, ((∀ yyf0 ∈ y.f0, (Lit.int .u8 yyf0).wf = true) ∧ y.f0.length ≤ maxLen) ∧ ((Lit.int .u8 y.f1).wf = true) ∧ ((Lit.int .u32 y.f2).wf = true) ∧ ((∀ yyf3 ∈ y.f3, (Lit.int .u8 yyf3).wf = true) ∧ y.f3.length ≤ maxLen) ∧ y.f4.size ≤ maxLen) → l2.length ≤ maxLen → (fun _ => 1) a0 + (fun _ => 1) a1 + (opn.bs (fun x : S45 => (opn.bs (fun _ => 1)) x.f0 + ((fun _ => 1) x.f1 + ((fun _ => 1) x.f2 + ((opn.bs (fun _ => 1)) x.f3 + (fun s => s.size + 1) x.f4))) + 1)) l2 ≤ 1048576 → bolterlaw09_StreamPart.f a0 a1 l2 = some true
end Go.Proofs.YtlobjcokopfbkaaDoor.PureSaid
