import Derived.Test.YtlmejfcfdhinlaaPureI
namespace Go.Proofs.Ytlmejfcfdhinlaa.PMove
open Go.RowKit Go.Proofs.YtlmejfcfdhinlaaW.PrintWords Go.Proofs.YtlmejfcfdhinlaaW.PrintLast Go.Proofs.YtlmejfcfdhinlaaW.PrintMore
set_option linter.unusedVariables false
set_option linter.unusedSimpArgs false
theorem val_cases {l : List Int} {n : Nat} (h : Rising l n) (hn : l.length ≤ 256) {x : Int} (hv : hasB n x = true) :
  (isSmall x = true ∧ refI n x = -1 ∧ valS (tabS l n) x = (x, true)) ∨
  (isRef n x = true ∧ refI n x = x / 2 ∧ 0 ≤ x / 2 ∧ x / 2 ∈ l ∧ ∃ k, ∃ hk : k < l.length, l[k] = x / 2 ∧ valS (tabS l n) x = (2 * (k : Int), true)) ∨
  (isRef n x = true ∧ refI n x = x / 2 ∧ 0 ≤ x / 2 ∧ x / 2 ∉ l ∧ valS (tabS l n) x = (0, false)) := by
 rcases refI_case n x with ⟨h1, h2, h3, h4⟩ | ⟨h1, h2⟩
 ·right
  have h5 := isRef_lt h1
  have e : (((x / 2).toNat : Nat) : Int) = x / 2 := by omega
  by_cases hm : x / 2 ∈ l
  ·left
   exact ⟨h1, h2, h3, hm, val_ref h hn h1 (by rw [e]; exact hm)⟩
  ·right
   refine ⟨h1, h2, h3, hm, ?_⟩
   unfold valS
   rw [ref_small h1]
   simp only [Bool.false_eq_true, if_false]
   rw [if_pos ⟨isRef_at h1, by rw [tabS_len]; omega⟩]
   have e3 : rd (tabS l n) (x / 2) = -1 := by
    rw [← e, rd_tabS _ h5.1]
    unfold tabAt
    rw [e, if_neg hm]
   rw [e3]; rfl
 ·left
  unfold hasB at hv
  rw [h1, Bool.or_false] at hv
  exact ⟨hv, h2, val_small hv⟩
theorem small_odd {x : Int} (h : isSmall x = true) : x % 2 = 1 := by simp only [isSmall, decide_eq_true_eq] at h; exact h.1
theorem ref_even {n : Nat} {x : Int} (h : isRef n x = true) : x % 2 = 0 := by simp only [isRef, decide_eq_true_eq] at h; exact h.1
theorem val_told {l : List Int} {n : Nat} (h : Rising l n) (hn : l.length ≤ 256) {x : Int} (hv : hasB n x = true) : (valS (tabS l n) x).2 = (decide (refI n x < 0) || decide (refI n x ∈ l)) := by
 rcases val_cases h hn hv with ⟨a, b, c⟩ | ⟨a, b, c, d, k, hk, e, f⟩ | ⟨a, b, c, d, e⟩
 ·rw [b, c]; simp
 ·rw [b, f]; simp [d]
 ·rw [b, e]; simp [d, c]
theorem val_unlike {l : List Int} {n : Nat} (h : Rising l n) (hn : l.length ≤ 256) {x y : Int} (hx : hasB n x = true) (hy : hasB n y = true) (px : (valS (tabS l n) x).2 = true) (py : (valS (tabS l n) y).2 = true) :
  (((valS (tabS l n) x).1 == (valS (tabS l n) y).1) == (x == y)) = true := by
 have key : (valS (tabS l n) x).1 = (valS (tabS l n) y).1 ↔ x = y := by
  rcases val_cases h hn hx with ⟨a, b, c⟩ | ⟨a, b, c, d, k, hk, e, f⟩ | ⟨a, b, c, d, e⟩
  ·rcases val_cases h hn hy with ⟨a2, b2, c2⟩ | ⟨a2, b2, c2, d2, k2, hk2, e2, f2⟩ | ⟨a2, b2, c2, d2, e2⟩
   ·rw [c, c2]
   ·rw [c, f2]
    have := small_odd a
    have := ref_even a2
    constructor
    ·intro e; simp only at e; omega
    ·intro e; omega
   ·rw [e2] at py; cases py
  ·rcases val_cases h hn hy with ⟨a2, b2, c2⟩ | ⟨a2, b2, c2, d2, k2, hk2, e2, f2⟩ | ⟨a2, b2, c2, d2, e2⟩
   ·rw [f, c2]
    have := small_odd a2
    have := ref_even a
    constructor
    ·intro e; simp only at e; omega
    ·intro e; omega
   ·rw [f, f2]
    have p1 := h.place hk
    have p2 := h.place hk2
    have q1 := ref_even a
    have q2 := ref_even a2
    constructor
    ·intro e9
     simp only at e9
     have : k = k2 := by omega
     subst this
     omega
    ·intro e9
     subst e9
     rw [e] at p1
     rw [e2] at p2
     have : k = k2 := by omega
     subst this
     rfl
   ·rw [e2] at py; cases py
  ·rw [e] at px; cases px
 by_cases hxy : x = y
 ·have := key.2 hxy
  simp [hxy]
 ·have : ¬ (valS (tabS l n) x).1 = (valS (tabS l n) y).1 := fun e => hxy (key.1 e)
  rw [beq_eq_false_iff_ne.2 this, beq_eq_false_iff_ne.2 hxy]; rfl
end Go.Proofs.Ytlmejfcfdhinlaa.PMove
