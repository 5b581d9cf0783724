import Derived.Test.YtlmejfcfdhinlaaPureB
namespace Go.Proofs.Ytlmejfcfdhinlaa.PMove
open Go.RowKit Go.Proofs.YtlmejfcfdhinlaaW.PrintWords Go.Proofs.YtlmejfcfdhinlaaW.PrintLast Go.Proofs.YtlmejfcfdhinlaaW.PrintMore
set_option linter.unusedVariables false
set_option linter.unusedSimpArgs false
def mem (m : List Bool) (j : Nat) : Prop := m.getD j false = true
instance (m : List Bool) (j : Nat) : Decidable (mem m j) := by unfold mem; infer_instance
theorem mem_lt {m : List Bool} {j : Nat} (h : mem m j) : j < m.length := by
 refine Decidable.by_contra fun hc => ?_
 simp [mem, List.getD_eq_getElem?_getD, List.getElem?_eq_none (Nat.le_of_not_lt hc)] at h
theorem mem_set {m : List Bool} {a j : Nat} : mem (m.set a true) j ↔ mem m j ∨ (j = a ∧ a < m.length) := by
 unfold mem
 rw [List.getD_eq_getElem?_getD, List.getD_eq_getElem?_getD, List.getElem?_set]
 by_cases h : a = j
 ·subst h
  by_cases h2 : a < m.length
  ·simp [h2]
  ·simp [h2]
 ·simp [h]; intro e; exact absurd e.symm h
theorem mem_ext {m m' : List Bool} (hl : m.length = m'.length) (h : ∀ j, mem m j ↔ mem m' j) : m = m' := by
 refine List.ext_getElem hl fun i h1 h2 => ?_
 have := h i
 simp only [mem, List.getD_eq_getElem?_getD, List.getElem?_eq_getElem h1, List.getElem?_eq_getElem h2, Option.getD_some] at this
 cases h3 : m[i] <;> cases h4 : m'[i] <;> simp_all
def cntF (m : List Bool) : Nat := m.count false
theorem cntF_cons (b : Bool) (m : List Bool) : cntF (b :: m) = cntF m + (if b = false then 1 else 0) := by
 unfold cntF; cases b <;> simp
theorem cntF_le (m : List Bool) : cntF m ≤ m.length := List.count_le_length
theorem cntF_set : ∀ {m : List Bool} {a : Nat}, a < m.length → ¬ mem m a → cntF (m.set a true) + 1 = cntF m
 | [], a, h, _ => by simp at h
 | b :: m, 0, h, hm => by
  simp [mem] at hm
  subst hm
  simp [cntF_cons]
 | b :: m, a + 1, h, hm => by
  have := cntF_set (m := m) (a := a) (by simpa using h) (by simpa [mem] using hm)
  rw [List.set_cons_succ, cntF_cons, cntF_cons]; omega
theorem cntF_mono : ∀ {m m' : List Bool}, m.length = m'.length → (∀ j, mem m j → mem m' j) → cntF m' ≤ cntF m ∧ (cntF m' = cntF m → m = m')
 | [], [], _, _ => ⟨Nat.le_refl _, fun _ => rfl⟩
 | [], _ :: _, h, _ => by simp at h
 | _ :: _, [], h, _ => by simp at h
 | b :: m, b' :: m', h, hm => by
  have ih := cntF_mono (m := m) (m' := m') (by simpa using h) (fun j hj => by have := hm (j + 1); simpa [mem] using this (by simpa [mem] using hj))
  have h0 := hm 0
  simp only [mem, List.getD_cons_zero] at h0
  simp only [cntF_cons]
  cases b <;> cases b' <;> simp_all <;> (constructor <;> (try intro) <;> first | omega | (exact ih.2 (by omega)))
theorem cntF_zero {m : List Bool} (h : cntF m = 0) {j : Nat} (hj : j < m.length) : mem m j := by
 refine Decidable.by_contra fun hc => ?_
 have := cntF_set hj hc
 omega
def markV (n : Nat) (out : List Bool) (v : Int) : List Bool := if isRef n v = true then out.set (v / 2).toNat true else out
theorem markV_len (n : Nat) (out : List Bool) (v : Int) : (markV n out v).length = out.length := by unfold markV; split <;> simp
theorem isRef_lt {n : Nat} {v : Int} (h : isRef n v = true) : (v / 2).toNat < n ∧ v = 2 * ((v / 2).toNat : Int) := by
 simp only [isRef, decide_eq_true_eq] at h; omega
theorem mem_markV {n : Nat} {out : List Bool} {v : Int} (hl : out.length = n) {j : Nat} : mem (markV n out v) j ↔ mem out j ∨ (isRef n v = true ∧ (v / 2).toNat = j) := by
 unfold markV
 split
 ·rename_i h
  have := isRef_lt h
  rw [mem_set, hl]
  constructor
  ·rintro (h1 | ⟨h1, h2⟩)
   ·exact .inl h1
   ·exact .inr ⟨h, h1.symm⟩
  ·rintro (h1 | ⟨h1, h2⟩)
   ·exact .inl h1
   ·exact .inr ⟨h2.symm, this.1⟩
 ·rename_i h
  exact ⟨.inl, fun h1 => h1.elim id (fun h2 => absurd h2.1 h)⟩
theorem foldV_len (n : Nat) (vs : List Int) : ∀ (out : List Bool), (vs.foldl (markV n) out).length = out.length := by
 induction vs with
 | nil => intro out; rfl
 | cons v vs ih => intro out; rw [List.foldl_cons, ih, markV_len]
theorem mem_foldV {n : Nat} {j : Nat} (vs : List Int) : ∀ (out : List Bool), out.length = n → (mem (vs.foldl (markV n) out) j ↔ mem out j ∨ ∃ v ∈ vs, isRef n v = true ∧ (v / 2).toNat = j) := by
 induction vs with
 | nil => intro out _; simp
 | cons v vs ih =>
  intro out hl
  rw [List.foldl_cons, ih _ (by rw [markV_len, hl]), mem_markV hl, or_assoc]
  simp only [List.mem_cons, exists_eq_or_imp]
def edge (objs : List S44) (i j : Nat) : Prop := i < objs.length ∧ ∃ v ∈ ((rd_T44 objs (i : Int)).f0 :: (rd_T44 objs (i : Int)).f2), isRef objs.length v = true ∧ (v / 2).toNat = j
theorem edge_lt {objs : List S44} {i j : Nat} (h : edge objs i j) : j < objs.length := by
 obtain ⟨_, v, _, h, rfl⟩ := h; exact (isRef_lt h).1
def Closed (objs : List S44) (P : Nat → Prop) : Prop := ∀ i j, P i → edge objs i j → P j
def Reach (objs : List S44) (P : Nat → Prop) (j : Nat) : Prop := ∀ Q : Nat → Prop, (∀ i, P i → Q i) → Closed objs Q → Q j
def nearGo (objs : List S44) (m : List Bool) : Nat → Nat → List Bool → List Bool
 | 0, _, out => out
 | k + 1, i, out => nearGo objs m k (i + 1) (if m.getD i false = true then ((rd_T44 objs (i : Int)).f0 :: (rd_T44 objs (i : Int)).f2).foldl (markV objs.length) out else out)
theorem nearGo_len (objs : List S44) (m : List Bool) : ∀ (k i : Nat) (out : List Bool), (nearGo objs m k i out).length = out.length
 | 0, _, _ => rfl
 | k + 1, i, out => by
  unfold nearGo
  rw [nearGo_len objs m k]
  split
  ·rw [foldV_len]
  ·rfl
theorem mem_nearGo (objs : List S44) (m : List Bool) {j : Nat} : ∀ (k i : Nat) (out : List Bool), out.length = objs.length → i + k ≤ objs.length →
  (mem (nearGo objs m k i out) j ↔ mem out j ∨ ∃ i', i ≤ i' ∧ i' < i + k ∧ mem m i' ∧ edge objs i' j)
 | 0, i, out, _, _ => by
  unfold nearGo
  constructor
  ·exact .inl
  ·rintro (h | ⟨i', h1, h2, _⟩)
   ·exact h
   ·omega
 | k + 1, i, out, hl, hk => by
  unfold nearGo
  split
  ·rename_i hm
   rw [mem_nearGo objs m k (i + 1) _ (by rw [foldV_len, hl]) (by omega), mem_foldV _ _ hl]
   constructor
   ·rintro ((h | h) | ⟨i', h1, h2, h3⟩)
    ·exact .inl h
    ·exact .inr ⟨i, Nat.le_refl _, by omega, hm, by omega, h⟩
    ·exact .inr ⟨i', by omega, by omega, h3⟩
   ·rintro (h | ⟨i', h1, h2, h3, h4⟩)
    ·exact .inl (.inl h)
    ·by_cases h5 : i' = i
     ·subst h5; exact .inl (.inr h4.2)
     ·exact .inr ⟨i', by omega, by omega, h3, h4⟩
  ·rename_i hm
   rw [mem_nearGo objs m k (i + 1) _ hl (by omega)]
   constructor
   ·rintro (h | ⟨i', h1, h2, h3⟩)
    ·exact .inl h
    ·exact .inr ⟨i', by omega, by omega, h3⟩
   ·rintro (h | ⟨i', h1, h2, h3, h4⟩)
    ·exact .inl h
    ·by_cases h5 : i' = i
     ·subst h5; exact absurd h3 hm
     ·exact .inr ⟨i', by omega, by omega, h3, h4⟩
def nearS (objs : List S44) (m : List Bool) : List Bool := nearGo objs m objs.length 0 m
theorem nearS_len (objs : List S44) (m : List Bool) : (nearS objs m).length = m.length := nearGo_len ..
theorem mem_nearS {objs : List S44} {m : List Bool} (hl : m.length = objs.length) {j : Nat} : mem (nearS objs m) j ↔ mem m j ∨ ∃ i, mem m i ∧ edge objs i j := by
 rw [nearS, mem_nearGo objs m _ 0 m hl (by omega)]
 constructor
 ·rintro (h | ⟨i, _, _, h, h'⟩)
  ·exact .inl h
  ·exact .inr ⟨i, h, h'⟩
 ·rintro (h | ⟨i, h, h'⟩)
  ·exact .inl h
  ·exact .inr ⟨i, by omega, by have := mem_lt h; omega, h, h'⟩
def iter (objs : List S44) : Nat → List Bool → List Bool
 | 0, m => m
 | k + 1, m => iter objs k (nearS objs m)
theorem iter_len (objs : List S44) : ∀ (k : Nat) (m : List Bool), (iter objs k m).length = m.length
 | 0, _ => rfl
 | k + 1, m => by rw [iter, iter_len objs k, nearS_len]
theorem mem_iter_le {objs : List S44} : ∀ (k : Nat) {m : List Bool}, m.length = objs.length → ∀ j, mem m j → mem (iter objs k m) j
 | 0, _, _, _, h => h
 | k + 1, m, hl, j, h => mem_iter_le k (by rw [nearS_len, hl]) j ((mem_nearS hl).2 (.inl h))
theorem mem_iter_least {objs : List S44} {P : Nat → Prop} (hP : Closed objs P) : ∀ (k : Nat) {m : List Bool}, m.length = objs.length → (∀ j, mem m j → P j) → ∀ j, mem (iter objs k m) j → P j
 | 0, _, _, h, j, hj => h j hj
 | k + 1, m, hl, h, j, hj => mem_iter_least hP k (by rw [nearS_len, hl]) (fun j hj => by
   rcases (mem_nearS hl).1 hj with h1 | ⟨i, h1, h2⟩
   ·exact h j h1
   ·exact hP i j (h i h1) h2) j hj
theorem iter_closed {objs : List S44} : ∀ (k : Nat) {m : List Bool}, m.length = objs.length → cntF m ≤ k → Closed objs (mem (iter objs k m))
 | 0, m, hl, h => fun i j _ he => cntF_zero (m := m) (by omega) (by rw [hl]; exact edge_lt he)
 | k + 1, m, hl, h => by
  rw [iter]
  have hm := cntF_mono (m := m) (m' := nearS objs m) (by rw [nearS_len]) (fun j hj => (mem_nearS hl).2 (.inl hj))
  by_cases hc : cntF (nearS objs m) = cntF m
  ·have he := hm.2 hc
   have hst : ∀ k, iter objs k m = m := fun k => by
    induction k with
    | zero => rfl
    | succ k ih => rw [iter, ← he, ih]
   rw [← he, hst]
   intro i j hi hj
   rw [he]
   exact (mem_nearS hl).2 (.inr ⟨i, hi, hj⟩)
  ·exact iter_closed k (by rw [nearS_len, hl]) (by omega)
theorem mem_iter {objs : List S44} {m : List Bool} (hl : m.length = objs.length) (j : Nat) : mem (iter objs objs.length m) j ↔ Reach objs (mem m) j := by
 constructor
 ·intro h Q hQ hc
  exact mem_iter_least hc _ hl hQ j h
 ·intro h
  exact h _ (mem_iter_le _ hl) (iter_closed _ hl (by have := cntF_le m; omega))
end Go.Proofs.Ytlmejfcfdhinlaa.PMove
