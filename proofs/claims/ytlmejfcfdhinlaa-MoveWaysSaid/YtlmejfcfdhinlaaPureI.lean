import Derived.Test.YtlmejfcfdhinlaaPureH
namespace Go.Proofs.Ytlmejfcfdhinlaa.PMove
open Go.RowKit Go.Proofs.YtlmejfcfdhinlaaW.PrintWords Go.Proofs.YtlmejfcfdhinlaaW.PrintLast Go.Proofs.YtlmejfcfdhinlaaW.PrintMore
set_option linter.unusedVariables false
set_option linter.unusedSimpArgs false
theorem Rising.rank {l : List Int} {n : Nat} (h : Rising l n) {i : Nat} (hi : (i : Int) ∈ l) : ∃ k, ∃ hk : k < l.length, l[k] = (i : Int) ∧ placeS l i = k ∧ tabAt l i = k := by
 obtain ⟨k, hk, e⟩ := List.getElem_of_mem hi
 have h1 := h.place hk
 rw [e] at h1
 exact ⟨k, hk, e, h1, by unfold tabAt; rw [if_pos hi, h1]⟩
theorem isRef_at {n : Nat} {v : Int} (h : isRef n v = true) : isAt v = true := by
 simp only [isRef, isAt, decide_eq_true_eq] at h ⊢
 exact ⟨h.1, h.2.1, h.2.2.1⟩
theorem ref_small {n : Nat} {v : Int} (h : isRef n v = true) : isSmall v = false := at_small (isRef_at h)
theorem isRef_two {n k : Nat} (hk : k < n) (hn : n ≤ 256) : isRef n (2 * (k : Int)) = true := by
 simp only [isRef, decide_eq_true_eq]; omega
theorem val_ref {l : List Int} {n : Nat} (h : Rising l n) (hn : l.length ≤ 256) {v : Int} (hv : isRef n v = true) (hm : (((v / 2).toNat : Nat) : Int) ∈ l) :
  ∃ k, ∃ hk : k < l.length, l[k] = v / 2 ∧ valS (tabS l n) v = (2 * (k : Int), true) := by
 obtain ⟨k, hk, e, h1, h2⟩ := h.rank hm
 obtain ⟨h3, h4⟩ := isRef_lt hv
 refine ⟨k, hk, by omega, ?_⟩
 unfold valS
 rw [ref_small hv]
 simp only [Bool.false_eq_true, if_false]
 rw [if_pos ⟨isRef_at hv, by rw [tabS_len]; omega⟩]
 have e3 : v / 2 = (((v / 2).toNat : Nat) : Int) := by omega
 rw [e3, rd_tabS _ h3, h2]
 unfold refS
 rw [if_pos (by omega)]
theorem val_small {t : List Int} {v : Int} (h : isSmall v = true) : valS t v = (v, true) := by unfold valS; rw [if_pos h]
theorem mayObj_of {objs : List S44} {c q : Int} (h : mayB objs c q = true) {i : Nat} (hi : i < objs.length) : mayObj objs.length (rd_T44 objs (i : Int)) = true := by
 simp only [mayB, Bool.and_eq_true, decide_eq_true_eq] at h
 rw [rd_T44_at hi]
 exact any_not (p := mayObj objs.length) (by simpa using h.2) (List.getElem_mem hi)
theorem mayObj_has {n : Int} {x : S44} (h : mayObj n x = true) : isRef n x.f0 = true ∧ ∀ v ∈ x.f2, hasB n v = true := by
 simp only [mayObj, Bool.and_eq_true] at h
 exact ⟨h.1.1.1.1, fun v hv => any_not (p := hasB n) (by simpa using h.2.2) hv⟩
structure Whole (objs : List S44) (c q : Int) (roots : List Int) (m : List Bool) : Prop where
 may : mayB objs c q = true
 has : roots.all (hasB objs.length) = true
 len : m.length = objs.length
 is : ∀ j, mem m j ↔ Reach objs (fun j => ∃ v ∈ roots, isRef objs.length v = true ∧ (v / 2).toNat = j) j
theorem whole_of {objs : List S44} {c q : Int} {roots : List Int} (h : (liveS objs c q roots).2 = 0) : ∃ m, Whole objs c q roots m ∧ (liveS objs c q roots).1 = collectTo m objs.length := by
 obtain ⟨m, h1, h2, rfl, h4, h5⟩ := live_form h
 have hl : (roots.foldl (markV objs.length) (List.replicate objs.length false)).length = objs.length := by rw [foldV_len]; simp
 refine ⟨_, ⟨h1, h2, h4, fun j => ?_⟩, h5⟩
 rw [mem_iter hl]
 have e : ∀ j, mem (roots.foldl (markV objs.length) (List.replicate objs.length false)) j ↔ ∃ v ∈ roots, isRef objs.length v = true ∧ (v / 2).toNat = j := fun j => by
  rw [mem_foldV _ _ (by simp)]
  constructor
  ·rintro (h | h)
   ·have h4 := mem_lt h
    simp [mem, List.getD_eq_getElem?_getD, List.getElem?_replicate] at h
    split at h <;> simp at h
   ·exact h
  ·exact .inr
 constructor
 ·exact Reach.mono fun j h => Reach.base ((e j).1 h)
 ·exact Reach.mono fun j h => Reach.base ((e j).2 h)
section
variable {objs : List S44} {c q : Int} {roots : List Int} {m : List Bool}
theorem Whole.n (h : Whole objs c q roots m) : objs.length ≤ 256 := (mayB_fine h.may).n
theorem Whole.closed (h : Whole objs c q roots m) {i j : Nat} (hi : mem m i) (e : edge objs i j) : mem m j := (h.is j).2 (((h.is i).1 hi).step e)
theorem Whole.rise (h : Whole objs c q roots m) : Rising (collectTo m objs.length) objs.length := collectTo_rising _ _
theorem Whole.le (h : Whole objs c q roots m) : (collectTo m objs.length).length ≤ objs.length := collectTo_le _ _
theorem Whole.moves (h : Whole objs c q roots m) {i : Nat} (hi : mem m i) {v : Int} (hv : v ∈ (rd_T44 objs (i : Int)).f0 :: (rd_T44 objs (i : Int)).f2) :
  (isSmall v = true ∧ valS (tabS (collectTo m objs.length) objs.length) v = (v, true)) ∨ (isRef objs.length v = true ∧ ∃ k, ∃ hk : k < (collectTo m objs.length).length, (collectTo m objs.length)[k] = v / 2 ∧ valS (tabS (collectTo m objs.length) objs.length) v = (2 * (k : Int), true)) := by
 have hlt := mem_lt hi
 rw [h.len] at hlt
 have hx := mayObj_has (mayObj_of h.may hlt)
 have hh : hasB objs.length v = true := by
  rcases List.mem_cons.1 hv with rfl | hv
  ·simp [hasB, hx.1]
  ·exact hx.2 v hv
 cases hs : isSmall v
 ·right
  unfold hasB at hh
  rw [hs, Bool.false_or] at hh
  have hj := isRef_lt hh
  have hm : mem m (v / 2).toNat := h.closed hi ⟨hlt, v, hv, hh, rfl⟩
  exact ⟨hh, val_ref h.rise (by have := h.le; have := h.n; omega) hh ((mem_collectTo hj.1).2 hm)⟩
 ·left; exact ⟨rfl, val_small hs⟩
theorem Whole.root (h : Whole objs c q roots m) {v : Int} (hv : v ∈ roots) :
  (isSmall v = true ∧ valS (tabS (collectTo m objs.length) objs.length) v = (v, true)) ∨ (isRef objs.length v = true ∧ ∃ k, ∃ hk : k < (collectTo m objs.length).length, (collectTo m objs.length)[k] = v / 2 ∧ valS (tabS (collectTo m objs.length) objs.length) v = (2 * (k : Int), true)) := by
 have hh : hasB objs.length v = true := (List.all_eq_true.1 h.has) v hv
 cases hs : isSmall v
 ·right
  unfold hasB at hh
  rw [hs, Bool.false_or] at hh
  have hj := isRef_lt hh
  have hm : mem m (v / 2).toNat := (h.is _).2 (Reach.base ⟨v, hv, hh, rfl⟩)
  exact ⟨hh, val_ref h.rise (by have := h.le; have := h.n; omega) hh ((mem_collectTo hj.1).2 hm)⟩
 ·left; exact ⟨rfl, val_small hs⟩
def newObjs (objs : List S44) (m : List Bool) : List S44 := (collectTo m objs.length).map fun x => movedObj (tabS (collectTo m objs.length) objs.length) (rd_T44 objs x)
def newRoots (objs : List S44) (roots : List Int) (m : List Bool) : List Int := valsS (tabS (collectTo m objs.length) objs.length) roots
theorem newObjs_len (objs : List S44) (m : List Bool) : (newObjs objs m).length = (collectTo m objs.length).length := by simp [newObjs]
theorem new_at (m : List Bool) {k : Nat} (hk : k < (collectTo m objs.length).length) : ∃ i : Nat, (collectTo m objs.length)[k] = (i : Int) ∧ i < objs.length ∧ mem m i ∧ rd_T44 (newObjs objs m) (k : Int) = movedObj (tabS (collectTo m objs.length) objs.length) (rd_T44 objs (i : Int)) := by
 have h1 := List.getElem_mem hk
 have h2 := (collectTo_rising m objs.length).lt _ h1
 obtain ⟨i, hi⟩ : ∃ i : Nat, (collectTo m objs.length)[k] = (i : Int) := ⟨((collectTo m objs.length)[k]).toNat, by omega⟩
 rw [hi] at h1 h2
 have hlt : i < objs.length := by omega
 refine ⟨i, hi, hlt, (mem_collectTo hlt).1 h1, ?_⟩
 rw [rd_T44_at (by rw [newObjs_len]; exact hk)]
 simp [newObjs, hi]
end
end Go.Proofs.Ytlmejfcfdhinlaa.PMove
