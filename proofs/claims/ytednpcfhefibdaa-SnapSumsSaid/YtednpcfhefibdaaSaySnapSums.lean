import Derived.Test.YtednpcfhefibdaaPSnapx17
import Derived.Test.YtednpcfhefibdaaPSnapOk
namespace Go.Proofs.Ytednpcfhefibdaa.PSnap
open Go.RowKit
set_option linter.unusedVariables false
def anamnesislaw08_SnapSums.Pure : Prop := ∀ (l0_0 : List (S41)) (a0_1 : Int) (a0_2 : Int) (a1 : Int) (a2 : Int), (Ok24) (⟨l0_0, a0_1, a0_2⟩ : S24) → (OkInt .i64) a1 → (OkInt .i64) a2 → ∃ k, anamnesislaw08_SnapSums.f k l0_0 a0_1 a0_2 a1 a2 = some true
end Go.Proofs.Ytednpcfhefibdaa.PSnap
