import Derived.Test.YtlmejfcfdhinlaaWInv
import Derived.Test.YtlmejfcfdhinlaaWFootNe
namespace Go.Proofs.YtlmejfcfdhinlaaW.PrintWords
open Go.RowKit
end Go.Proofs.YtlmejfcfdhinlaaW.PrintWords
namespace Go.Proofs.YtlmejfcfdhinlaaW.PrintLast
section
variable {ops : Array Oper} {a : Act} {o og : Oper} {g : Nat} {t : Tmp} {u : Bool}
end
end Go.Proofs.YtlmejfcfdhinlaaW.PrintLast
