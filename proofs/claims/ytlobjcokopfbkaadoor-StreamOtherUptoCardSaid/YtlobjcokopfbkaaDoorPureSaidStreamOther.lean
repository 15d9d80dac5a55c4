/- part of a proof; what it has no use for was struck out -/
import Derived.Test.YtlobjcokopfbkaaDoorPYx19
import Derived.Test.YtlobjcokopfbkaaDoorOpn
namespace Go.Proofs.YtlobjcokopfbkaaDoor.PureSaid
open Go.RowKit Go.Proofs.YtlobjcokopfbkaaDoor.PY Go.Proofs.YtlobjcokopfbkaaDoorW.PrintWords Go.Proofs.YtlobjcokopfbkaaDoorW.PrintLast
set_option linter.unusedVariables false
def StreamOther : Prop := ∀ (a0 : Int) (l1 : (List S45)) (l2 : (List S32)), ((Lit.int .u8 a0).wf = true) → (∀ y ∈ l1, ((∀ yyf0 ∈ y.f0, (Lit.int .u8 yyf0).wf = true) ∧ y.f0.length ≤ maxLen) ∧ ((Lit.int .u8 y.f1).wf = true) ∧ ((Lit.int .u32 y.f2).wf = true) ∧ ((∀ yyf3 ∈ y.f3, (Lit.int .u8 yyf3).wf = true) ∧ y.f3.length ≤ maxLen) ∧ y.f4.size ≤ maxLen) → l1.length ≤ maxLen → (∀ y ∈ l2, (y.f0.size ≤ maxLen) ∧ ((Lit.int .u16 y.f1).wf = true) ∧ ((Lit.int .u32 y.f2).wf = true) ∧ y.f3.size ≤ maxLen) → l2.length ≤ maxLen → (fun _ => 1) a0 + (opn.bs (fun x : S45 => (opn.bs (fun _ => 1)) x.f0 + ((fun _ => 1) x.f1 + ((fun _ => 1) x.f2 + ((opn.bs (fun _ => 1)) x.f3 + (fun s => s.size + 1) x.f4))) + 1)) l1 + (opn.bs (fun x : S32 => (fun s => s.size + 1) x.f0 + ((fun _ => 1) x.f1 + ((fun _ => 1) x.f2 + (fun s => s.size + 1) x.f3)) + 1)) l2 ≤ 1048576 → bolterlaw09_StreamOther.f a0 l1 l2 = some true
end Go.Proofs.YtlobjcokopfbkaaDoor.PureSaid
