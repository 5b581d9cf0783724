import Derived.Test.YtlmejfcfdhinlaaPMovex17
import Derived.Test.YtlmejfcfdhinlaaPMoveOk
namespace Go.Proofs.Ytlmejfcfdhinlaa.PMove
open Go.RowKit
set_option linter.unusedVariables false
def anamnesislaw05_MoveValues.Pure : Prop := ∀ (l0_0 : List (S44)) (a0_1 : Int) (a0_2 : Int) (l1 : List Int) (a2_0 : Int) (a2_1 : Int), (Ok24) (⟨l0_0, a0_1, a0_2⟩ : S24) → (OkSlice 8 (OkInt .i64)) l1 → (Ok47) (⟨a2_0, a2_1⟩ : S47) → ∃ k, anamnesislaw05_MoveValues.f k l0_0 a0_1 a0_2 l1 a2_0 a2_1 = some true
end Go.Proofs.Ytlmejfcfdhinlaa.PMove
