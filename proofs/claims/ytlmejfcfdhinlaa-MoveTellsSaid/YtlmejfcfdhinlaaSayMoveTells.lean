import Derived.Test.YtlmejfcfdhinlaaPMovex14
import Derived.Test.YtlmejfcfdhinlaaPMoveOk
namespace Go.Proofs.Ytlmejfcfdhinlaa.PMove
open Go.RowKit
set_option linter.unusedVariables false
def anamnesislaw05_MoveTells.Pure : Prop := ∀ (l0_0 : List (S44)) (a0_1 : Int) (a0_2 : Int) (l1 : List Int) (l2_0 : List Int) (a2_1 : Int), (Ok24) (⟨l0_0, a0_1, a0_2⟩ : S24) → (OkSlice 8 (OkInt .i64)) l1 → (Ok27) (⟨l2_0, a2_1⟩ : S27) → ∃ k, anamnesislaw05_MoveTells.f k l0_0 a0_1 a0_2 l1 l2_0 a2_1 = some true
end Go.Proofs.Ytlmejfcfdhinlaa.PMove
