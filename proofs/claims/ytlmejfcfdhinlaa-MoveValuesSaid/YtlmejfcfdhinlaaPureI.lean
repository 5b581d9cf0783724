import Derived.Test.YtlmejfcfdhinlaaPureH
namespace Go.Proofs.Ytlmejfcfdhinlaa.PMove
open Go.RowKit Go.Proofs.YtlmejfcfdhinlaaW.PrintWords Go.Proofs.YtlmejfcfdhinlaaW.PrintLast Go.Proofs.YtlmejfcfdhinlaaW.PrintMore
set_option linter.unusedVariables false
set_option linter.unusedSimpArgs false
theorem Rising.rank {l : List Int} {n : Nat} (h : Rising l n) {i : Nat} (hi : (i : Int) ∈ l) : ∃ k, ∃ hk : k < l.length, l[k] = (i : Int) ∧ placeS l i = k ∧ tabAt l i = k := by
 obtain ⟨k, hk, e⟩ := List.getElem_of_mem hi
 have h1 := h.place hk
 rw [e] at h1
 exact ⟨k, hk, e, h1, by unfold tabAt; rw [if_pos hi, h1]⟩
theorem isRef_at {n : Nat} {v : Int} (h : isRef n v = true) : isAt v = true := by
 simp only [isRef, isAt, decide_eq_true_eq] at h ⊢
 exact ⟨h.1, h.2.1, h.2.2.1⟩
theorem ref_small {n : Nat} {v : Int} (h : isRef n v = true) : isSmall v = false := at_small (isRef_at h)
theorem val_ref {l : List Int} {n : Nat} (h : Rising l n) (hn : l.length ≤ 256) {v : Int} (hv : isRef n v = true) (hm : (((v / 2).toNat : Nat) : Int) ∈ l) :
  ∃ k, ∃ hk : k < l.length, l[k] = v / 2 ∧ valS (tabS l n) v = (2 * (k : Int), true) := by
 obtain ⟨k, hk, e, h1, h2⟩ := h.rank hm
 obtain ⟨h3, h4⟩ := isRef_lt hv
 refine ⟨k, hk, by omega, ?_⟩
 unfold valS
 rw [ref_small hv]
 simp only [Bool.false_eq_true, if_false]
 rw [if_pos ⟨isRef_at hv, by rw [tabS_len]; omega⟩]
 have e3 : v / 2 = (((v / 2).toNat : Nat) : Int) := by omega
 rw [e3, rd_tabS _ h3, h2]
 unfold refS
 rw [if_pos (by omega)]
theorem val_small {t : List Int} {v : Int} (h : isSmall v = true) : valS t v = (v, true) := by unfold valS; rw [if_pos h]
structure Whole (objs : List S44) (c q : Int) (roots : List Int) (m : List Bool) : Prop where
 may : mayB objs c q = true
 has : roots.all (hasB objs.length) = true
 len : m.length = objs.length
 is : ∀ j, mem m j ↔ Reach objs (fun j => ∃ v ∈ roots, isRef objs.length v = true ∧ (v / 2).toNat = j) j
section
variable {objs : List S44} {c q : Int} {roots : List Int} {m : List Bool}
theorem Whole.n (h : Whole objs c q roots m) : objs.length ≤ 256 := (mayB_fine h.may).n
end
end Go.Proofs.Ytlmejfcfdhinlaa.PMove
