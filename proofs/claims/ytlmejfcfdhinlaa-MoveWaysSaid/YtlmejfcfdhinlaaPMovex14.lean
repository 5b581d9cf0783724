import Derived.Test.YtlmejfcfdhinlaaPMovex0
import Derived.Test.YtlmejfcfdhinlaaPMovex1
import Derived.Test.YtlmejfcfdhinlaaPMovex4
import Derived.Test.YtlmejfcfdhinlaaPMovex5
import Derived.Test.YtlmejfcfdhinlaaPMovex7
import Derived.Test.YtlmejfcfdhinlaaPMovex8
import Derived.Test.YtlmejfcfdhinlaaPMovex13
namespace Go.Proofs.Ytlmejfcfdhinlaa.PMove
open Go.RowKit Go.Proofs.YtlmejfcfdhinlaaW.PrintWords Go.Proofs.YtlmejfcfdhinlaaW.PrintLast Go.Proofs.YtlmejfcfdhinlaaW.PrintMore
attribute [local go_sem] max2_int min2_int max_two min_two max_three min_three max_four min_four
set_option linter.unusedVariables false
set_option linter.unusedSimpArgs false
attribute [local go_sem] setCell_drewN
end Go.Proofs.Ytlmejfcfdhinlaa.PMove
