import Derived.Test.YtednpcfhefibdaaPSnapx16
import Derived.Test.YtednpcfhefibdaaPSnapOk
namespace Go.Proofs.Ytednpcfhefibdaa.PSnap
open Go.RowKit
set_option linter.unusedVariables false
def anamnesislaw08_SnapBack.Pure : Prop := ∀ (l0_0 : List (S41)) (a0_1 : Int) (a0_2 : Int) (l1 : List Int) (a2 : ByteArray), (Ok24) (⟨l0_0, a0_1, a0_2⟩ : S24) → (OkSlice 8 (OkInt .i64)) l1 → (OkStr) a2 → ∃ k, anamnesislaw08_SnapBack.f k l0_0 a0_1 a0_2 l1 a2 = some true
end Go.Proofs.Ytednpcfhefibdaa.PSnap
