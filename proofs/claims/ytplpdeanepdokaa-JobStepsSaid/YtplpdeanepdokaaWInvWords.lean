import Derived.Test.YtplpdeanepdokaaWInv
import Derived.Test.YtplpdeanepdokaaWFootNe
namespace Go.Proofs.YtplpdeanepdokaaW.PrintWords
open Go.RowKit
end Go.Proofs.YtplpdeanepdokaaW.PrintWords
namespace Go.Proofs.YtplpdeanepdokaaW.PrintLast
section
variable {ops : Array Oper} {a : Act} {o og : Oper} {g : Nat} {t : Tmp} {u : Bool}
end
end Go.Proofs.YtplpdeanepdokaaW.PrintLast
