import Derived.Test.YtlmejfcfdhinlaaPureC
namespace Go.Proofs.Ytlmejfcfdhinlaa.PMove
open Go.RowKit Go.Proofs.YtlmejfcfdhinlaaW.PrintWords Go.Proofs.YtlmejfcfdhinlaaW.PrintLast Go.Proofs.YtlmejfcfdhinlaaW.PrintMore
set_option linter.unusedVariables false
set_option linter.unusedSimpArgs false
theorem refI_case (n : Nat) (v : Int) : (isRef n v = true ∧ refI n v = v / 2 ∧ 0 ≤ v / 2 ∧ v / 2 < n) ∨ (isRef n v = false ∧ refI n v = -1) := by
 unfold refI
 cases h : isRef n v
 ·right; exact ⟨rfl, rfl⟩
 ·left
  have := isRef_lt h
  refine ⟨rfl, rfl, ?_, ?_⟩ <;> omega
structure Fine (objs : List S44) : Prop where
 n : objs.length ≤ 256
 cls : ∀ i, i < objs.length → isRef objs.length (rd_T44 objs (i : Int)).f0 = true
 slots : ∀ i, i < objs.length → (rd_T44 objs (i : Int)).f2.length ≤ 64
theorem any_not {α : Type} {p : α → Bool} {l : List α} (h : (l.any fun x => !(p x)) = false) {x : α} (hx : x ∈ l) : p x = true := by
 rw [List.any_eq_false] at h
 have := h x hx
 simpa using this
theorem mayB_fine {objs : List S44} {c l : Int} (h : mayB objs c l = true) : Fine objs := by
 simp only [mayB, Bool.and_eq_true, decide_eq_true_eq] at h
 obtain ⟨⟨⟨⟨h1, h2⟩, h3⟩, h4⟩, h5⟩ := h
 have hx : ∀ i, i < objs.length → mayObj objs.length (rd_T44 objs (i : Int)) = true := fun i hi => by
  rw [rd_T44_at hi]
  exact any_not (p := mayObj objs.length) (by simpa using h5) (List.getElem_mem hi)
 refine ⟨by omega, fun i hi => ?_, fun i hi => ?_⟩
 ·have := hx i hi
  simp only [mayObj, Bool.and_eq_true] at this
  exact this.1.1.1.1
 ·have := hx i hi
  simp only [mayObj, Bool.and_eq_true, decide_eq_true_eq] at this
  have := this.2.1.1.1
  omega
def liveS (objs : List S44) (c l : Int) (roots : List Int) : List Int × Int :=
 if mayB objs c l = true then (if roots.all (hasB objs.length) = true then (collectTo (iter objs objs.length (roots.foldl (markV objs.length) (List.replicate objs.length false))) objs.length, 0) else ([], 31)) else ([], 1)
end Go.Proofs.Ytlmejfcfdhinlaa.PMove
