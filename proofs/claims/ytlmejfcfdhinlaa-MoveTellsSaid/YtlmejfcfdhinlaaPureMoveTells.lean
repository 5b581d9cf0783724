import Derived.Test.YtlmejfcfdhinlaaSayMoveTells
import Derived.Test.YtlmejfcfdhinlaaPureG
namespace Go.Proofs.Ytlmejfcfdhinlaa.PMove
open Go.RowKit Go.Proofs.YtlmejfcfdhinlaaW.PrintWords Go.Proofs.YtlmejfcfdhinlaaW.PrintLast Go.Proofs.YtlmejfcfdhinlaaW.PrintMore
set_option linter.unusedVariables false
set_option linter.unusedSimpArgs false
theorem I64_of {a : Int} (h : OkInt .i64 a) : I64 a := by
 simp only [OkInt, Lit.wf, Bool.and_eq_true, decide_eq_true_eq] at h
 exact ⟨h.1, Int.lt_of_le_of_lt h.2 (by decide)⟩
theorem FineObj_of {x : S44} (h : Ok44 x) : FineObj x := ⟨I64_of h.2.2.2.2.1, by have := h.2.2.1.1; omega, h.2.2.2.1⟩
theorem Ok24_fine {l : List S44} {a b : Int} (h : Ok24 ⟨l, a, b⟩) : l.length ≤ 17592186044416 ∧ ∀ x ∈ l, FineObj x := ⟨by have h1 : l.length * 72 ≤ 140737488351232 := h.1.1; omega, fun x hx => FineObj_of (h.1.2 x hx)⟩
theorem compFrom_slots {t : List Int} {objs : List S44} (hx : ∀ x ∈ objs, FineObj x) {i d : Nat} (h : i + d ≤ objs.length) : (compFrom t objs i d).length ≤ d ∧ ∀ x ∈ compFrom t objs i d, x.f2.length ≤ 17592186044416 := by
 unfold compFrom
 constructor
 ·rw [List.length_map]
  exact Nat.le_trans (List.length_filter_le _ _) (by simp)
 ·intro x hx1
  obtain ⟨j, hj, rfl⟩ := List.mem_map.1 hx1
  have hj2 := (List.mem_range'.1 (List.mem_filter.1 hj).1)
  obtain ⟨a, ha, rfl⟩ := hj2
  have := (hx _ (List.getElem_mem (show i + 1 * a < objs.length by omega))).2.1
  simp only [movedObj, valsS, List.length_map]
  rw [rd_T44_at (by omega)]
  exact this
theorem compactS_slots {objs : List S44} {c q : Int} {roots : List Int} (hx : ∀ x ∈ objs, FineObj x) : (compactS objs c q roots).1.length ≤ objs.length ∧ (∀ x ∈ (compactS objs c q roots).1, x.f2.length ≤ 17592186044416) ∧ (compactS objs c q roots).2.2.2.1.length ≤ roots.length := by
 unfold compactS
 split
 ·have := compFrom_slots (t := (tableS objs c q roots).1) hx (i := 0) (d := objs.length) (by omega)
  exact ⟨this.1, this.2, by simp [valsS]⟩
 ·exact ⟨by simp, by simp, by simp⟩
theorem tableS_len {objs : List S44} {c q : Int} {roots : List Int} : (tableS objs c q roots).1.length ≤ objs.length := by
 unfold tableS
 split
 ·simp [tabS]
 ·simp
end Go.Proofs.Ytlmejfcfdhinlaa.PMove
namespace Go.Proofs.Ytlmejfcfdhinlaa.Pure
open Go.RowKit Go.Proofs.YtlmejfcfdhinlaaW.PrintWords Go.Proofs.Ytlmejfcfdhinlaa.PMove
theorem MoveTells : anamnesislaw05_MoveTells.Pure := by
 intro objs c q roots tb v h0 h1 h2
 obtain ⟨hn, hx⟩ := Ok24_fine h0
 have hr : roots.length ≤ 17592186044416 := by have := h1.1; omega
 have hfix : ∀ b : Bool, b = true → Ev (fun k => anamnesislaw05_MoveTells.j0 k roots b objs c q tb v) true := fun b hb => by
  subst hb
  apply ev_succ
  simp only [anamnesislaw05_MoveTells.j0, if_true]
  exact Ev.bind fixed_ev (Ev.now _)
 have hgo : Ev (fun k => anamnesislaw05_MoveTells.j0 k roots false objs c q tb v) true := by
  apply ev_succ
  simp only [anamnesislaw05_MoveTells.j0, Bool.false_eq_true, if_false, mValue_eq, rValue_eq, Option.bind_some]
  refine Ev.bind (mTable_ev objs c q roots) (Ev.bind (rTable_ev objs c q roots hn hx hr) (Ev.bind (mCompact_ev objs c q roots hx hr) (Ev.bind (rCompact_ev objs c q roots hn hx hr) (Ev.bind fixed_ev ?_))))
  simp only [if_true]
  refine Ev.bind (Ints_ev _ (by have := tableS_len (objs := objs) (c := c) (q := q) (roots := roots); omega)) ?_
  obtain ⟨h3, h4, h5⟩ := compactS_slots (c := c) (q := q) (roots := roots) hx
  simp only [if_true]
  refine Ev.bind (Same_ev _ _ _ (by omega) h4) ?_
  simp only [if_true]
  refine Ev.bind (Ints_ev _ (by omega)) ?_
  simp only [if_true, BEq.rfl]
  exact Ev.now _
 have hb : ∀ b : Bool, Ev (fun k => anamnesislaw05_MoveTells.j0 k roots b objs c q tb v) true := fun b => by
  cases b
  ·exact hgo
  ·exact hfix true rfl
 refine Ev.rounds (g := fun k => anamnesislaw05_MoveTells.f k objs c q roots tb v) ?_
 unfold anamnesislaw05_MoveTells.f
 obtain ⟨b, h3, _⟩ := Small_ev objs c q hn hx
 refine Ev.bind h3 ?_
 cases b
 ·simp only [Bool.false_eq_true, if_false]; exact hb true
 ·simp only [if_true]
  by_cases h4 : (objs.length : Int) > 40
  ·simp only [if_pos h4]; exact hb true
  ·simp only [if_neg h4]
   by_cases h5 : (roots.length : Int) > 100
   ·simp only [if_pos h5]; exact hb true
   ·simp only [if_neg h5]; exact hb _
end Go.Proofs.Ytlmejfcfdhinlaa.Pure
