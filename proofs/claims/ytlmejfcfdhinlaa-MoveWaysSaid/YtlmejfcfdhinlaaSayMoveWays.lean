import Derived.Test.YtlmejfcfdhinlaaPMovex16
import Derived.Test.YtlmejfcfdhinlaaPMoveOk
namespace Go.Proofs.Ytlmejfcfdhinlaa.PMove
open Go.RowKit
set_option linter.unusedVariables false
def anamnesislaw05_MoveWays.Pure : Prop := ∀ (l0_0 : List (S44)) (a0_1 : Int) (a0_2 : Int) (l1 : List Int) (l2 : List Int), (Ok24) (⟨l0_0, a0_1, a0_2⟩ : S24) → (OkSlice 8 (OkInt .i64)) l1 → (OkSlice 8 (OkInt .i64)) l2 → ∃ k, anamnesislaw05_MoveWays.f k l0_0 a0_1 a0_2 l1 l2 = some true
end Go.Proofs.Ytlmejfcfdhinlaa.PMove
