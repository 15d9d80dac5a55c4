import Derived.Test.YtlobjcokopfbkaaWInv
import Derived.Test.YtlobjcokopfbkaaWFootNe
namespace Go.Proofs.YtlobjcokopfbkaaW.PrintWords
open Go.RowKit
end Go.Proofs.YtlobjcokopfbkaaW.PrintWords
namespace Go.Proofs.YtlobjcokopfbkaaW.PrintLast
section
variable {ops : Array Oper} {a : Act} {o og : Oper} {g : Nat} {t : Tmp} {u : Bool}
end
end Go.Proofs.YtlobjcokopfbkaaW.PrintLast
