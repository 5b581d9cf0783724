import Derived.Test.YtednpcfhefibdaaPSnapx0
import Derived.Test.YtednpcfhefibdaaPSnapx14
namespace Go.Proofs.Ytednpcfhefibdaa.PSnap
open Go.RowKit Go.Proofs.YtednpcfhefibdaaW.PrintWords Go.Proofs.YtednpcfhefibdaaW.PrintLast Go.Proofs.YtednpcfhefibdaaW.PrintMore
attribute [local go_sem] max2_int min2_int max_two min_two max_three min_three max_four min_four
set_option linter.unusedVariables false
set_option linter.unusedSimpArgs false
attribute [local go_sem] setCell_drewN
end Go.Proofs.Ytednpcfhefibdaa.PSnap
