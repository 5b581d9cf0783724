import Derived.Test.YtednpcfhefibdaaWInv
import Derived.Test.YtednpcfhefibdaaWFootNe
namespace Go.Proofs.YtednpcfhefibdaaW.PrintWords
open Go.RowKit
end Go.Proofs.YtednpcfhefibdaaW.PrintWords
namespace Go.Proofs.YtednpcfhefibdaaW.PrintLast
section
variable {ops : Array Oper} {a : Act} {o og : Oper} {g : Nat} {t : Tmp} {u : Bool}
end
end Go.Proofs.YtednpcfhefibdaaW.PrintLast
