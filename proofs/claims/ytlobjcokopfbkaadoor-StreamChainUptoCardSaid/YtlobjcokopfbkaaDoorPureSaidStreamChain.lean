/- part of a proof; what it has no use for was struck out -/
import Derived.Test.YtlobjcokopfbkaaDoorPYx21
import Derived.Test.YtlobjcokopfbkaaDoorOpn
namespace Go.Proofs.YtlobjcokopfbkaaDoor.PureSaid
open Go.RowKit Go.Proofs.YtlobjcokopfbkaaDoor.PY Go.Proofs.YtlobjcokopfbkaaDoorW.PrintWords Go.Proofs.YtlobjcokopfbkaaDoorW.PrintLast
set_option linter.unusedVariables false
def StreamChain : Prop := ∀ (a0 : Int) (a1 : Int) (l2 : (List (List S45))), ((Lit.int .u8 a0).wf = true) → ((Lit.int .u32 a1).wf = true) → (∀ y ∈ l2, (∀ yy ∈ y, ((∀ yyyf0 ∈ yy.f0, (Lit.int .u8 yyyf0).wf = true) ∧ yy.f0.length ≤ maxLen) ∧ ((Lit.int .u8 yy.f1).wf = true) ∧ ((Lit.int .u32 yy.f2).wf = true) ∧ ((∀ yyyf3 ∈ yy.f3, (Lit.int .u8 yyyf3).wf = true) ∧ yy.f3.length ≤ maxLen) ∧ yy.f4.size ≤ maxLen) ∧ y.length ≤ maxLen) → l2.length ≤ maxLen → (fun _ => 1) a0 + (fun _ => 1) a1 + (opn.bs (opn.bs (fun x : S45 => (opn.bs (fun _ => 1)) x.f0 + ((fun _ => 1) x.f1 + ((fun _ => 1) x.f2 + ((opn.bs (fun _ => 1)) x.f3 + (fun s => s.size + 1) x.f4))) + 1))) l2 ≤ 1048576 → bolterlaw09_StreamChain.f a0 a1 l2 = some true
end Go.Proofs.YtlobjcokopfbkaaDoor.PureSaid
