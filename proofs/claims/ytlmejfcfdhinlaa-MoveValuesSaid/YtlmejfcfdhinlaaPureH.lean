import Derived.Test.YtlmejfcfdhinlaaPMoveOk
import Derived.Test.YtlmejfcfdhinlaaPureG
namespace Go.Proofs.Ytlmejfcfdhinlaa.PMove
open Go.RowKit Go.Proofs.YtlmejfcfdhinlaaW.PrintWords Go.Proofs.YtlmejfcfdhinlaaW.PrintLast Go.Proofs.YtlmejfcfdhinlaaW.PrintMore
set_option linter.unusedVariables false
set_option linter.unusedSimpArgs false
theorem I64_of {a : Int} (h : OkInt .i64 a) : I64 a := by
 simp only [OkInt, Lit.wf, Bool.and_eq_true, decide_eq_true_eq] at h
 exact ⟨h.1, Int.lt_of_le_of_lt h.2 (by decide)⟩
theorem FineObj_of {x : S44} (h : Ok44 x) : FineObj x := ⟨I64_of h.2.2.2.2.1, by have := h.2.2.1.1; omega, h.2.2.2.1⟩
theorem Ok24_fine {l : List S44} {a b : Int} (h : Ok24 ⟨l, a, b⟩) : l.length ≤ 17592186044416 ∧ ∀ x ∈ l, FineObj x := ⟨by have h1 : l.length * 72 ≤ 140737488351232 := h.1.1; omega, fun x hx => FineObj_of (h.1.2 x hx)⟩
end Go.Proofs.Ytlmejfcfdhinlaa.PMove
