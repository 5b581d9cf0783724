import Derived.Test.YtlmejfcfdhinlaaPMoveOk
import Derived.Test.YtlmejfcfdhinlaaPureG
namespace Go.Proofs.Ytlmejfcfdhinlaa.PMove
open Go.RowKit Go.Proofs.YtlmejfcfdhinlaaW.PrintWords Go.Proofs.YtlmejfcfdhinlaaW.PrintLast Go.Proofs.YtlmejfcfdhinlaaW.PrintMore
set_option linter.unusedVariables false
set_option linter.unusedSimpArgs false
theorem I64_of {a : Int} (h : OkInt .i64 a) : I64 a := by
 simp only [OkInt, Lit.wf, Bool.and_eq_true, decide_eq_true_eq] at h
 exact ⟨h.1, Int.lt_of_le_of_lt h.2 (by decide)⟩
theorem FineObj_of {x : S44} (h : Ok44 x) : FineObj x := ⟨I64_of h.2.2.2.2.1, by have := h.2.2.1.1; omega, h.2.2.2.1⟩
theorem Ok24_fine {l : List S44} {a b : Int} (h : Ok24 ⟨l, a, b⟩) : l.length ≤ 17592186044416 ∧ ∀ x ∈ l, FineObj x := ⟨by have h1 : l.length * 72 ≤ 140737488351232 := h.1.1; omega, fun x hx => FineObj_of (h.1.2 x hx)⟩
theorem live_form {objs : List S44} {c q : Int} {roots : List Int} (h : (liveS objs c q roots).2 = 0) : ∃ m : List Bool, mayB objs c q = true ∧ roots.all (hasB objs.length) = true ∧
  m = iter objs objs.length (roots.foldl (markV objs.length) (List.replicate objs.length false)) ∧ m.length = objs.length ∧ (liveS objs c q roots).1 = collectTo m objs.length := by
 unfold liveS at h ⊢
 by_cases hm : mayB objs c q = true
 ·rw [if_pos hm] at h ⊢
  by_cases hr : roots.all (hasB objs.length) = true
  ·rw [if_pos hr]
   exact ⟨_, hm, hr, rfl, by rw [iter_len, foldV_len]; simp, rfl⟩
  ·rw [if_neg hr] at h; cases h
 ·rw [if_neg hm] at h; cases h
theorem mem_collectTo {m : List Bool} {n j : Nat} (hj : j < n) : (j : Int) ∈ collectTo m n ↔ mem m j := by
 unfold collectTo
 rw [List.mem_map]
 constructor
 ·rintro ⟨i, hi, e⟩
  have : i = j := by omega
  subst this
  exact (List.mem_filter.1 hi).2
 ·intro h
  exact ⟨j, List.mem_filter.2 ⟨List.mem_range.2 hj, h⟩, rfl⟩
theorem tabAt_pos (l : List Int) (i : Nat) : 0 ≤ tabAt l i ↔ (i : Int) ∈ l := by
 unfold tabAt
 split
 ·rename_i h; exact ⟨fun _ => h, fun _ => by omega⟩
 ·rename_i h; exact ⟨fun h1 => by omega, fun h1 => absurd h1 h⟩
theorem compFrom_live (objs : List S44) (m : List Bool) : compFrom (tabS (collectTo m objs.length) objs.length) objs 0 objs.length = (collectTo m objs.length).map fun x => movedObj (tabS (collectTo m objs.length) objs.length) (rd_T44 objs x) := by
 have e : ((List.range' 0 objs.length).filter fun j : Nat => decide (0 ≤ rd (tabS (collectTo m objs.length) objs.length) (j : Int))) = (List.range objs.length).filter fun i => m.getD i false := by
  rw [← List.range_eq_range']
  refine List.filter_congr fun j hj => ?_
  have hj' := List.mem_range.1 hj
  rw [rd_tabS _ hj']
  have := (tabAt_pos (collectTo m objs.length) j).trans (mem_collectTo hj')
  unfold mem at this
  cases hb : m.getD j false
  ·rw [hb] at this; simpa using this
  ·rw [hb] at this; simpa using this
 unfold compFrom
 rw [e]
 conv => rhs; arg 2; unfold collectTo
 rw [List.map_map]
 rfl
theorem compactS_form (objs : List S44) (c q : Int) (roots : List Int) :
  ((liveS objs c q roots).2 = 0 ∧ compactS objs c q roots = ((liveS objs c q roots).1.map fun x => movedObj (tabS (liveS objs c q roots).1 objs.length) (rd_T44 objs x), c, q, valsS (tabS (liveS objs c q roots).1 objs.length) roots, 0) ∧ True) ∨
  ((liveS objs c q roots).2 ≠ 0 ∧ compactS objs c q roots = ([], 0, 0, [], (liveS objs c q roots).2) ∧ (liveS objs c q roots).1 = []) := by
 by_cases h : (liveS objs c q roots).2 = 0
 ·left
  refine ⟨h, ?_, trivial⟩
  obtain ⟨m, _, _, _, _, h2⟩ := live_form h
  unfold compactS tableS
  simp only [if_pos h, if_true, h2]
  rw [compFrom_live]
 ·right
  refine ⟨h, ?_, ?_⟩
  ·unfold compactS tableS
   simp only [if_neg h]
  ·unfold liveS at h ⊢
   split
   ·split
    ·rename_i h1 h2; rw [if_pos h1, if_pos h2] at h; exact absurd rfl h
    ·rfl
   ·rfl
end Go.Proofs.Ytlmejfcfdhinlaa.PMove
