import Derived.Test.YtlmejfcfdhinlaaPureH
namespace Go.Proofs.Ytlmejfcfdhinlaa.PMove
open Go.RowKit Go.Proofs.YtlmejfcfdhinlaaW.PrintWords Go.Proofs.YtlmejfcfdhinlaaW.PrintLast Go.Proofs.YtlmejfcfdhinlaaW.PrintMore
set_option linter.unusedVariables false
set_option linter.unusedSimpArgs false
theorem Rising.rank {l : List Int} {n : Nat} (h : Rising l n) {i : Nat} (hi : (i : Int) ∈ l) : ∃ k, ∃ hk : k < l.length, l[k] = (i : Int) ∧ placeS l i = k ∧ tabAt l i = k := by
 obtain ⟨k, hk, e⟩ := List.getElem_of_mem hi
 have h1 := h.place hk
 rw [e] at h1
 exact ⟨k, hk, e, h1, by unfold tabAt; rw [if_pos hi, h1]⟩
theorem isRef_at {n : Nat} {v : Int} (h : isRef n v = true) : isAt v = true := by
 simp only [isRef, isAt, decide_eq_true_eq] at h ⊢
 exact ⟨h.1, h.2.1, h.2.2.1⟩
theorem ref_small {n : Nat} {v : Int} (h : isRef n v = true) : isSmall v = false := at_small (isRef_at h)
theorem isRef_two {n k : Nat} (hk : k < n) (hn : n ≤ 256) : isRef n (2 * (k : Int)) = true := by
 simp only [isRef, decide_eq_true_eq]; omega
theorem val_ref {l : List Int} {n : Nat} (h : Rising l n) (hn : l.length ≤ 256) {v : Int} (hv : isRef n v = true) (hm : (((v / 2).toNat : Nat) : Int) ∈ l) :
  ∃ k, ∃ hk : k < l.length, l[k] = v / 2 ∧ valS (tabS l n) v = (2 * (k : Int), true) := by
 obtain ⟨k, hk, e, h1, h2⟩ := h.rank hm
 obtain ⟨h3, h4⟩ := isRef_lt hv
 refine ⟨k, hk, by omega, ?_⟩
 unfold valS
 rw [ref_small hv]
 simp only [Bool.false_eq_true, if_false]
 rw [if_pos ⟨isRef_at hv, by rw [tabS_len]; omega⟩]
 have e3 : v / 2 = (((v / 2).toNat : Nat) : Int) := by omega
 rw [e3, rd_tabS _ h3, h2]
 unfold refS
 rw [if_pos (by omega)]
theorem val_small {t : List Int} {v : Int} (h : isSmall v = true) : valS t v = (v, true) := by unfold valS; rw [if_pos h]
theorem range_rising (n : Nat) : Rising ((List.range n).map fun i : Nat => (i : Int)) n := by
 constructor
 ·rw [List.pairwise_map]
  exact (List.pairwise_lt_range (n := n)).imp (fun h => by omega)
 ·intro x hx
  obtain ⟨j, hj, rfl⟩ := List.mem_map.1 hx
  have := List.mem_range.1 hj
  omega
theorem val_same {n : Nat} (hn : n ≤ 256) {v : Int} (hv : hasB n v = true) : valS (tabS ((List.range n).map fun i : Nat => (i : Int)) n) v = (v, true) := by
 unfold hasB at hv
 cases hs : isSmall v
 ·rw [hs, Bool.false_or] at hv
  have h3 := isRef_lt hv
  obtain ⟨k, hk, e, h1⟩ := val_ref (range_rising n) (by simp; omega) hv (List.mem_map.2 ⟨_, List.mem_range.2 h3.1, rfl⟩)
  rw [h1]
  simp at e
  congr 1
  omega
 ·exact val_small hs
theorem vals_same {n : Nat} (hn : n ≤ 256) {vs : List Int} (hv : ∀ v ∈ vs, hasB n v = true) : valsS (tabS ((List.range n).map fun i : Nat => (i : Int)) n) vs = vs := by
 unfold valsS
 conv => rhs; rw [← List.map_id vs]
 exact List.map_congr_left fun v h => by rw [val_same hn (hv v h)]; rfl
theorem mayObj_of {objs : List S44} {c q : Int} (h : mayB objs c q = true) {i : Nat} (hi : i < objs.length) : mayObj objs.length (rd_T44 objs (i : Int)) = true := by
 simp only [mayB, Bool.and_eq_true, decide_eq_true_eq] at h
 rw [rd_T44_at hi]
 exact any_not (p := mayObj objs.length) (by simpa using h.2) (List.getElem_mem hi)
theorem mayObj_has {n : Int} {x : S44} (h : mayObj n x = true) : isRef n x.f0 = true ∧ ∀ v ∈ x.f2, hasB n v = true := by
 simp only [mayObj, Bool.and_eq_true] at h
 exact ⟨h.1.1.1.1, fun v hv => any_not (p := hasB n) (by simpa using h.2.2) hv⟩
structure Whole (objs : List S44) (c q : Int) (roots : List Int) (m : List Bool) : Prop where
 may : mayB objs c q = true
 has : roots.all (hasB objs.length) = true
 len : m.length = objs.length
 is : ∀ j, mem m j ↔ Reach objs (fun j => ∃ v ∈ roots, isRef objs.length v = true ∧ (v / 2).toNat = j) j
theorem whole_of {objs : List S44} {c q : Int} {roots : List Int} (h : (liveS objs c q roots).2 = 0) : ∃ m, Whole objs c q roots m ∧ (liveS objs c q roots).1 = collectTo m objs.length := by
 obtain ⟨m, h1, h2, rfl, h4, h5⟩ := live_form h
 have hl : (roots.foldl (markV objs.length) (List.replicate objs.length false)).length = objs.length := by rw [foldV_len]; simp
 refine ⟨_, ⟨h1, h2, h4, fun j => ?_⟩, h5⟩
 rw [mem_iter hl]
 have e : ∀ j, mem (roots.foldl (markV objs.length) (List.replicate objs.length false)) j ↔ ∃ v ∈ roots, isRef objs.length v = true ∧ (v / 2).toNat = j := fun j => by
  rw [mem_foldV _ _ (by simp)]
  constructor
  ·rintro (h | h)
   ·have h4 := mem_lt h
    simp [mem, List.getD_eq_getElem?_getD, List.getElem?_replicate] at h
    split at h <;> simp at h
   ·exact h
  ·exact .inr
 constructor
 ·exact Reach.mono fun j h => Reach.base ((e j).1 h)
 ·exact Reach.mono fun j h => Reach.base ((e j).2 h)
section
variable {objs : List S44} {c q : Int} {roots : List Int} {m : List Bool}
theorem Whole.n (h : Whole objs c q roots m) : objs.length ≤ 256 := (mayB_fine h.may).n
theorem Whole.closed (h : Whole objs c q roots m) {i j : Nat} (hi : mem m i) (e : edge objs i j) : mem m j := (h.is j).2 (((h.is i).1 hi).step e)
theorem Whole.rise (h : Whole objs c q roots m) : Rising (collectTo m objs.length) objs.length := collectTo_rising _ _
theorem Whole.le (h : Whole objs c q roots m) : (collectTo m objs.length).length ≤ objs.length := collectTo_le _ _
theorem Whole.moves (h : Whole objs c q roots m) {i : Nat} (hi : mem m i) {v : Int} (hv : v ∈ (rd_T44 objs (i : Int)).f0 :: (rd_T44 objs (i : Int)).f2) :
  (isSmall v = true ∧ valS (tabS (collectTo m objs.length) objs.length) v = (v, true)) ∨ (isRef objs.length v = true ∧ ∃ k, ∃ hk : k < (collectTo m objs.length).length, (collectTo m objs.length)[k] = v / 2 ∧ valS (tabS (collectTo m objs.length) objs.length) v = (2 * (k : Int), true)) := by
 have hlt := mem_lt hi
 rw [h.len] at hlt
 have hx := mayObj_has (mayObj_of h.may hlt)
 have hh : hasB objs.length v = true := by
  rcases List.mem_cons.1 hv with rfl | hv
  ·simp [hasB, hx.1]
  ·exact hx.2 v hv
 cases hs : isSmall v
 ·right
  unfold hasB at hh
  rw [hs, Bool.false_or] at hh
  have hj := isRef_lt hh
  have hm : mem m (v / 2).toNat := h.closed hi ⟨hlt, v, hv, hh, rfl⟩
  exact ⟨hh, val_ref h.rise (by have := h.le; have := h.n; omega) hh ((mem_collectTo hj.1).2 hm)⟩
 ·left; exact ⟨rfl, val_small hs⟩
theorem Whole.root (h : Whole objs c q roots m) {v : Int} (hv : v ∈ roots) :
  (isSmall v = true ∧ valS (tabS (collectTo m objs.length) objs.length) v = (v, true)) ∨ (isRef objs.length v = true ∧ ∃ k, ∃ hk : k < (collectTo m objs.length).length, (collectTo m objs.length)[k] = v / 2 ∧ valS (tabS (collectTo m objs.length) objs.length) v = (2 * (k : Int), true)) := by
 have hh : hasB objs.length v = true := (List.all_eq_true.1 h.has) v hv
 cases hs : isSmall v
 ·right
  unfold hasB at hh
  rw [hs, Bool.false_or] at hh
  have hj := isRef_lt hh
  have hm : mem m (v / 2).toNat := (h.is _).2 (Reach.base ⟨v, hv, hh, rfl⟩)
  exact ⟨hh, val_ref h.rise (by have := h.le; have := h.n; omega) hh ((mem_collectTo hj.1).2 hm)⟩
 ·left; exact ⟨rfl, val_small hs⟩
def newObjs (objs : List S44) (m : List Bool) : List S44 := (collectTo m objs.length).map fun x => movedObj (tabS (collectTo m objs.length) objs.length) (rd_T44 objs x)
def newRoots (objs : List S44) (roots : List Int) (m : List Bool) : List Int := valsS (tabS (collectTo m objs.length) objs.length) roots
theorem newObjs_len (objs : List S44) (m : List Bool) : (newObjs objs m).length = (collectTo m objs.length).length := by simp [newObjs]
theorem moved_has (h : Whole objs c q roots m) {v : Int} (hv : (isSmall v = true ∧ valS (tabS (collectTo m objs.length) objs.length) v = (v, true)) ∨ (isRef objs.length v = true ∧ ∃ k, ∃ hk : k < (collectTo m objs.length).length, (collectTo m objs.length)[k] = v / 2 ∧ valS (tabS (collectTo m objs.length) objs.length) v = (2 * (k : Int), true))) :
  hasB (newObjs objs m).length (valS (tabS (collectTo m objs.length) objs.length) v).1 = true := by
 rw [newObjs_len]
 rcases hv with ⟨h1, h2⟩ | ⟨h1, k, hk, h2, h3⟩
 ·rw [h2]; simp [hasB, h1]
 ·rw [h3]
  have := isRef_two hk (by have := h.le; have := h.n; omega)
  simp [hasB, this]
theorem new_at (m : List Bool) {k : Nat} (hk : k < (collectTo m objs.length).length) : ∃ i : Nat, (collectTo m objs.length)[k] = (i : Int) ∧ i < objs.length ∧ mem m i ∧ rd_T44 (newObjs objs m) (k : Int) = movedObj (tabS (collectTo m objs.length) objs.length) (rd_T44 objs (i : Int)) := by
 have h1 := List.getElem_mem hk
 have h2 := (collectTo_rising m objs.length).lt _ h1
 obtain ⟨i, hi⟩ : ∃ i : Nat, (collectTo m objs.length)[k] = (i : Int) := ⟨((collectTo m objs.length)[k]).toNat, by omega⟩
 rw [hi] at h1 h2
 have hlt : i < objs.length := by omega
 refine ⟨i, hi, hlt, (mem_collectTo hlt).1 h1, ?_⟩
 rw [rd_T44_at (by rw [newObjs_len]; exact hk)]
 simp [newObjs, hi]
theorem Whole.newMay (h : Whole objs c q roots m) : mayB (newObjs objs m) c q = true := by
 have hm := h.may
 simp only [mayB, Bool.and_eq_true, decide_eq_true_eq] at hm ⊢
 obtain ⟨⟨⟨⟨h1, h2⟩, h3⟩, h4⟩, h5⟩ := hm
 have hle := h.le
 refine ⟨⟨⟨⟨h1, h2⟩, by rw [newObjs_len]; omega⟩, h4⟩, ?_⟩
 simp only [Bool.not_eq_true', List.any_eq_false]
 intro x hx
 obtain ⟨k, hk, rfl⟩ := List.getElem_of_mem hx
 rw [← rd_T44_at hk]
 obtain ⟨i, hi, hlt, hmi, e⟩ := new_at (objs := objs) m (by rw [newObjs_len] at hk; exact hk)
 rw [e]
 have ho := mayObj_of h.may hlt
 have hcl : isRef (newObjs objs m).length (valS (tabS (collectTo m objs.length) objs.length) (rd_T44 objs (i : Int)).f0).1 = true := by
  rcases h.moves hmi (v := (rd_T44 objs (i : Int)).f0) (by simp) with ⟨a, _⟩ | ⟨a, k', hk', b, d⟩
  ·have := (mayObj_has ho).1
   rw [ref_small this] at a; cases a
  ·rw [d, newObjs_len]
   exact isRef_two hk' (by have := h.n; omega)
 have hsl : ((movedObj (tabS (collectTo m objs.length) objs.length) (rd_T44 objs (i : Int))).f2.any fun v => !(hasB (newObjs objs m).length v)) = false := by
  rw [List.any_eq_false]
  intro v hv
  simp only [movedObj, valsS, List.mem_map] at hv
  obtain ⟨u, hu, rfl⟩ := hv
  rw [moved_has h (h.moves hmi (List.mem_cons_of_mem _ hu))]
  simp
 simp only [mayObj, Bool.and_eq_true, decide_eq_true_eq] at ho ⊢
 obtain ⟨⟨⟨⟨a1, a2⟩, a3⟩, a4⟩, ⟨⟨a5, a6⟩, a7⟩, a8⟩ := ho
 have hk4 : kindB (rd_T44 objs (i : Int)).f1 (valsS (tabS (collectTo m objs.length) objs.length) (rd_T44 objs (i : Int)).f2) (rd_T44 objs (i : Int)).f3 (rd_T44 objs (i : Int)).f4 = true := by
  unfold kindB at a4 ⊢
  rw [show (valsS (tabS (collectTo m objs.length) objs.length) (rd_T44 objs (i : Int)).f2).length = (rd_T44 objs (i : Int)).f2.length from by simp [valsS]]
  exact a4
 simp only [Bool.not_eq_true', Bool.not_eq_false]
 simp only [mayObj, hcl, hsl, Bool.and_eq_true, decide_eq_true_eq, movedObj, Bool.not_false, Bool.true_and]
 simp only [movedObj] at hsl
 refine ⟨⟨⟨a2, a3⟩, hk4⟩, ⟨⟨decide_eq_true (by simpa [valsS] using a5), decide_eq_true a6⟩, a7⟩, by rw [hsl]; rfl⟩
theorem Whole.newHas (h : Whole objs c q roots m) : (newRoots objs roots m).all (hasB (newObjs objs m).length) = true := by
 rw [List.all_eq_true]
 intro v hv
 simp only [newRoots, valsS, List.mem_map] at hv
 obtain ⟨u, hu, rfl⟩ := hv
 exact moved_has h (h.root hu)
theorem Whole.newReach (h : Whole objs c q roots m) {k : Nat} (hk : k < (collectTo m objs.length).length) :
  Reach (newObjs objs m) (fun j => ∃ v ∈ newRoots objs roots m, isRef (newObjs objs m).length v = true ∧ (v / 2).toNat = j) k := by
 have hn256 : (collectTo m objs.length).length ≤ 256 := by have := h.le; have := h.n; omega
 have key : ∀ i, mem m i → mem m i ∧ ∀ k', ∀ hk' : k' < (collectTo m objs.length).length, (collectTo m objs.length)[k'] = (i : Int) → Reach (newObjs objs m) (fun j => ∃ v ∈ newRoots objs roots m, isRef (newObjs objs m).length v = true ∧ (v / 2).toNat = j) k' := by
  intro i hi
  refine (h.is i).1 hi (fun i => mem m i ∧ ∀ k', ∀ hk' : k' < (collectTo m objs.length).length, (collectTo m objs.length)[k'] = (i : Int) → Reach (newObjs objs m) (fun j => ∃ v ∈ newRoots objs roots m, isRef (newObjs objs m).length v = true ∧ (v / 2).toNat = j) k') ?_ ?_
  ·rintro i ⟨v, hv, hr, rfl⟩
   refine ⟨(h.is _).2 (Reach.base ⟨v, hv, hr, rfl⟩), fun k' hk' e => Reach.base ?_⟩
   rcases h.root hv with ⟨a, _⟩ | ⟨_, k2, hk2, b, d⟩
   ·rw [ref_small hr] at a; cases a
   ·have hv2 := isRef_lt hr
    have e2 : k2 = k' := by
     have p1 := h.rise.place hk2
     have p2 := h.rise.place hk'
     rw [b] at p1
     rw [e, show (((v / 2).toNat : Nat) : Int) = v / 2 by omega] at p2
     omega
    subst e2
    refine ⟨2 * (k2 : Int), List.mem_map.2 ⟨v, hv, by rw [d]⟩, by rw [newObjs_len]; exact isRef_two hk2 hn256, by omega⟩
  ·rintro i j ⟨hmi, hri⟩ he
   refine ⟨h.closed hmi he, fun k' hk' e => ?_⟩
   have hlt := he.1
   obtain ⟨_, v, hv, hr, hj⟩ := he
   obtain ⟨ki, hki, ei, _, _⟩ := h.rise.rank ((mem_collectTo hlt).2 hmi)
   have h1 := hri ki hki ei
   refine h1.step ⟨by rw [newObjs_len]; exact hki, 2 * (k' : Int), ?_, by rw [newObjs_len]; exact isRef_two hk' hn256, by omega⟩
   obtain ⟨i2, e3, hlt2, hm2, e4⟩ := new_at (objs := objs) m hki
   have : i2 = i := by omega
   subst this
   rw [e4]
   rcases h.moves hmi hv with ⟨a, _⟩ | ⟨_, k2, hk2, b, d⟩
   ·rw [ref_small hr] at a; cases a
   ·have hv2 := isRef_lt hr
    have e2 : k2 = k' := by
     have p1 := h.rise.place hk2
     have p2 := h.rise.place hk'
     rw [b] at p1
     rw [e, show ((j : Nat) : Int) = v / 2 by omega] at p2
     omega
    subst e2
    have e5 : (2 * (k2 : Int)) = (valS (tabS (collectTo m objs.length) objs.length) v).1 := by rw [d]
    rw [e5]
    rcases List.mem_cons.1 hv with rfl | hv
    ·exact List.mem_cons_self
    ·exact List.mem_cons_of_mem _ (List.mem_map.2 ⟨v, hv, rfl⟩)
 obtain ⟨i, hi, hlt, hmi, _⟩ := new_at (objs := objs) m hk
 exact (key i hmi).2 k hk hi
theorem collectTo_all {m : List Bool} {n : Nat} (h : ∀ j, j < n → mem m j) : collectTo m n = (List.range n).map fun i : Nat => (i : Int) := by
 unfold collectTo
 rw [List.filter_eq_self.2 (fun j hj => h j (List.mem_range.1 hj))]
theorem Whole.newLive (h : Whole objs c q roots m) : liveS (newObjs objs m) c q (newRoots objs roots m) = ((List.range (newObjs objs m).length).map fun i : Nat => (i : Int), 0) := by
 have h0 : (liveS (newObjs objs m) c q (newRoots objs roots m)).2 = 0 := by unfold liveS; rw [if_pos h.newMay, if_pos h.newHas]
 obtain ⟨m', hw, e⟩ := whole_of h0
 have : (liveS (newObjs objs m) c q (newRoots objs roots m)).1 = (List.range (newObjs objs m).length).map fun i : Nat => (i : Int) := by
  rw [e]
  exact collectTo_all fun j hj => (hw.is j).2 (h.newReach (by rw [newObjs_len] at hj; exact hj))
 exact Prod.ext this h0
theorem Whole.newCompact (h : Whole objs c q roots m) : compactS (newObjs objs m) c q (newRoots objs roots m) = (newObjs objs m, c, q, newRoots objs roots m, 0) := by
 have hl := h.newLive
 have hn256 : (newObjs objs m).length ≤ 256 := by rw [newObjs_len]; have := h.le; have := h.n; omega
 rcases compactS_form (newObjs objs m) c q (newRoots objs roots m) with ⟨_, h3, _⟩ | ⟨h2, _⟩
 ·rw [h3, hl]
  have e1 : (((List.range (newObjs objs m).length).map fun i : Nat => (i : Int)).map fun x => movedObj (tabS ((List.range (newObjs objs m).length).map fun i : Nat => (i : Int)) (newObjs objs m).length) (rd_T44 (newObjs objs m) x)) = newObjs objs m := by
   refine List.ext_getElem (by simp) fun j h1 h2 => ?_
   simp only [List.getElem_map, List.getElem_range]
   rw [rd_T44_at h2]
   have ho := mayObj_of h.newMay h2
   rw [rd_T44_at h2] at ho
   have hh := mayObj_has ho
   unfold movedObj
   rw [vals_same hn256 hh.2, val_same hn256 (by simp [hasB, hh.1])]
  have e2 : valsS (tabS ((List.range (newObjs objs m).length).map fun i : Nat => (i : Int)) (newObjs objs m).length) (newRoots objs roots m) = newRoots objs roots m := vals_same hn256 (fun v hv => (List.all_eq_true.1 h.newHas) v hv)
  simp only [e1, e2]
 ·rw [hl] at h2; exact absurd rfl h2
end
end Go.Proofs.Ytlmejfcfdhinlaa.PMove
