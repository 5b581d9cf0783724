import Derived.Test.YtlmejfcfdhinlaaPureD
namespace Go.Proofs.Ytlmejfcfdhinlaa.PMove
open Go.RowKit Go.Proofs.YtlmejfcfdhinlaaW.PrintWords Go.Proofs.YtlmejfcfdhinlaaW.PrintLast Go.Proofs.YtlmejfcfdhinlaaW.PrintMore
set_option linter.unusedVariables false
set_option linter.unusedSimpArgs false
structure St (m : List Bool) (s : List Int) (m' : List Bool) (s' : List Int) : Prop where
 len : m'.length = m.length
 up : ∀ j, mem m j → mem m' j
 sub : ∀ x, x ∈ s → x ∈ s'
 new : ∀ x, x ∈ s' → x ∈ s ∨ ∃ j : Nat, x = j ∧ mem m' j
 old : ∀ j : Nat, mem m' j → mem m j ∨ (j : Int) ∈ s'
 cnt : s'.length + cntF m' = s.length + cntF m
theorem St.refl (m : List Bool) (s : List Int) : St m s m s := ⟨rfl, fun _ h => h, fun _ h => h, fun _ h => .inl h, fun _ h => .inl h, rfl⟩
theorem St.trans {m m1 m2 : List Bool} {s s1 s2 : List Int} (a : St m s m1 s1) (b : St m1 s1 m2 s2) : St m s m2 s2 :=
 ⟨b.len.trans a.len, fun j h => b.up j (a.up j h), fun x h => b.sub x (a.sub x h), fun x h => by
  rcases b.new x h with h1 | h1
  ·rcases a.new x h1 with h2 | ⟨j, h2, h3⟩
   ·exact .inl h2
   ·exact .inr ⟨j, h2, b.up j h3⟩
  ·exact .inr h1, fun j h => by
  rcases b.old j h with h1 | h1
  ·rcases a.old j h1 with h2 | h2
   ·exact .inl h2
   ·exact .inr (b.sub _ h2)
  ·exact .inr h1, by have := a.cnt; have := b.cnt; omega⟩
theorem set_same {m : List Bool} {a : Nat} (h : mem m a) : m.set a true = m := mem_ext (by simp) fun j => by
 rw [mem_set]
 exact ⟨fun h1 => h1.elim id (fun h2 => h2.1 ▸ h), .inl⟩
theorem pushF_is (n : Nat) (v : Int) (m : List Bool) (s : List Int) (hm : m.length = n) (hs : s.length < 17592186044416) :
  ∃ s', pushF n v m s = some (hasB n v, markV n m v, s') ∧ St m s (markV n m v) s' := by
 unfold pushF
 by_cases ha : isAt v = true
 ·rw [if_pos ha]
  simp only [isAt, decide_eq_true_eq] at ha
  by_cases h1 : v / 2 ≥ n
  ·have e : isRef n v = false := by simp only [isRef, decide_eq_false_iff_not]; omega
   have e2 : isSmall v = false := by simp only [isSmall, decide_eq_false_iff_not]; omega
   have e3 : markV n m v = m := by unfold markV; rw [e]; rfl
   rw [if_pos h1, e3]
   exact ⟨s, by simp [hasB, e, e2], St.refl _ _⟩
  ·have e : isRef n v = true := by simp only [isRef, decide_eq_true_eq]; omega
   have e3 : markV n m v = m.set (v / 2).toNat true := by unfold markV; rw [if_pos e]
   have hb : hasB n v = true := by simp [hasB, e]
   have hlt : (v / 2).toNat < m.length := by omega
   rw [if_neg h1, if_pos (by omega), e3, hb]
   by_cases h2 : rdOf false m (v / 2) = true
   ·have hm2 : mem m (v / 2).toNat := h2
    rw [if_pos h2, set_same hm2]
    exact ⟨s, rfl, St.refl _ _⟩
   ·have hm2 : ¬ mem m (v / 2).toNat := h2
    rw [if_neg h2, if_pos hs]
    refine ⟨_, rfl, by simp, fun j h => mem_set.2 (.inl h), fun x h => List.mem_append_left _ h, fun x h => ?_, fun j h => ?_, ?_⟩
    ·rcases List.mem_append.1 h with h3 | h3
     ·exact .inl h3
     ·exact .inr ⟨(v / 2).toNat, by have := List.mem_singleton.1 h3; omega, mem_set.2 (.inr ⟨rfl, hlt⟩)⟩
    ·rcases mem_set.1 h with h3 | ⟨h3, _⟩
     ·exact .inl h3
     ·exact .inr (List.mem_append_right _ (List.mem_singleton.2 (by omega)))
    ·have := cntF_set hlt hm2
     rw [List.length_append, List.length_singleton]; omega
 ·rw [if_neg ha]
  simp only [isAt, decide_eq_true_eq] at ha
  have e : isRef n v = false := by simp only [isRef, decide_eq_false_iff_not]; omega
  have e3 : markV n m v = m := by unfold markV; rw [e]; rfl
  rw [e3]
  exact ⟨s, by simp [hasB, e], St.refl _ _⟩
theorem pushAll_is (n : Nat) : ∀ (vs : List Int) (m : List Bool) (s : List Int), m.length = n → s.length + cntF m < 17592186044416 →
  ∃ s', pushAll n vs m s = some (vs.foldl (markV n) m, s') ∧ St m s (vs.foldl (markV n) m) s'
 | [], m, s, _, _ => ⟨s, rfl, St.refl _ _⟩
 | v :: vs, m, s, hm, hs => by
  obtain ⟨s1, h1, h2⟩ := pushF_is n v m s hm (by omega)
  obtain ⟨s2, h3, h4⟩ := pushAll_is n vs (markV n m v) s1 (by rw [markV_len, hm]) (by have := h2.cnt; omega)
  exact ⟨s2, by unfold pushAll; rw [h1]; exact h3, h2.trans h4⟩
theorem rootsF_is (n : Nat) : ∀ (vs : List Int) (m : List Bool) (s : List Int), m.length = n → s.length + cntF m < 17592186044416 →
  (vs.all (hasB n) = true ∧ ∃ s', rootsF n vs m s = some (some (vs.foldl (markV n) m, s')) ∧ St m s (vs.foldl (markV n) m) s') ∨ (vs.all (hasB n) = false ∧ rootsF n vs m s = some none)
 | [], m, s, _, _ => .inl ⟨rfl, s, rfl, St.refl _ _⟩
 | v :: vs, m, s, hm, hs => by
  obtain ⟨s1, h1, h2⟩ := pushF_is n v m s hm (by omega)
  unfold rootsF
  rw [h1, List.all_cons]
  simp only [Option.bind_some]
  cases hb : hasB n v
  ·right; exact ⟨rfl, rfl⟩
  ·rcases rootsF_is n vs (markV n m v) s1 (by rw [markV_len, hm]) (by have := h2.cnt; omega) with ⟨h3, s2, h4, h5⟩ | ⟨h3, h4⟩
   ·left; exact ⟨by simp [h3], s2, by simpa using h4, h2.trans h5⟩
   ·right; exact ⟨by simp [h3], by simpa using h4⟩
theorem Reach.base {objs : List S44} {P : Nat → Prop} {j : Nat} (h : P j) : Reach objs P j := fun Q hQ _ => hQ j h
theorem Reach.step {objs : List S44} {P : Nat → Prop} {i j : Nat} (h : Reach objs P i) (e : edge objs i j) : Reach objs P j := fun Q hQ hc => hc i j (h Q hQ hc) e
theorem Reach.mono {objs : List S44} {P P' : Nat → Prop} (h : ∀ j, P j → Reach objs P' j) {j : Nat} (hj : Reach objs P j) : Reach objs P' j := fun Q hQ hc => hj Q (fun i hi => h i hi Q hQ hc) hc
theorem markLoop_is (objs : List S44) (hn : objs.length ≤ 256) : ∀ (fuel : Nat) (m : List Bool) (s : List Int), m.length = objs.length → s.length + cntF m ≤ objs.length → s.length + cntF m < fuel →
  (∀ x, x ∈ s → ∃ j : Nat, x = j ∧ mem m j) → (∀ i : Nat, mem m i → (i : Int) ∉ s → ∀ j, edge objs i j → mem m j) →
  ∃ m', markLoop objs fuel m s = some m' ∧ m'.length = objs.length ∧ ∀ j, mem m' j ↔ Reach objs (mem m) j
 | 0, m, s, _, _, h, _, _ => absurd h (by omega)
 | fuel + 1, m, s, hm, hc, hfu, hs, hcl => by
  unfold markLoop
  rcases List.eq_nil_or_concat s with rfl | ⟨s0, x, rfl⟩
  ·refine ⟨m, rfl, hm, fun j => ⟨Reach.base, fun h => h _ (fun _ h => h) fun i j hi hj => hcl i hi (by simp) j hj⟩⟩
  ·rw [List.concat_eq_append] at *
   obtain ⟨j0, rfl, hj0⟩ := hs x (by simp)
   have hl0 := mem_lt hj0
   rw [List.length_append, List.length_singleton] at hc hfu
   rw [List.getLast?_concat, List.dropLast_concat]
   simp only [if_pos (show (0 : Int) ≤ (j0 : Int) by omega), if_pos (show (j0 : Int) < (objs.length : Int) by omega)]
   obtain ⟨s1, h1, h2⟩ := pushF_is objs.length (rd_T44 objs (j0 : Int)).f0 m s0 hm (by omega)
   obtain ⟨s2, h3, h4⟩ := pushAll_is objs.length (rd_T44 objs (j0 : Int)).f2 (markV objs.length m (rd_T44 objs (j0 : Int)).f0) s1 (by rw [markV_len, hm]) (by have := h2.cnt; omega)
   have h5 := h2.trans h4
   rw [h1]
   simp only [Option.bind_some]
   rw [h3]
   simp only [Option.bind_some]
   have hmm : ∀ j, mem (((rd_T44 objs (j0 : Int)).f2).foldl (markV objs.length) (markV objs.length m (rd_T44 objs (j0 : Int)).f0)) j ↔ mem m j ∨ edge objs j0 j := fun j => by
    have := mem_foldV (n := objs.length) (j := j) ((rd_T44 objs (j0 : Int)).f0 :: (rd_T44 objs (j0 : Int)).f2) m hm
    rw [List.foldl_cons] at this
    rw [this]
    exact or_congr Iff.rfl ⟨fun h => ⟨by omega, h⟩, fun h => h.2⟩
   have hcnt := h5.cnt
   obtain ⟨m', a, b, c⟩ := markLoop_is objs hn fuel _ s2 (by rw [h5.len, hm]) (by omega) (by omega) (fun x hx => by
     rcases h5.new x hx with h6 | h6
     ·obtain ⟨j, e, h7⟩ := hs x (List.mem_append_left _ h6)
      exact ⟨j, e, h5.up j h7⟩
     ·exact h6) (fun i hi his j he => by
     rcases h5.old i hi with h6 | h6
     ·by_cases h7 : i = j0
      ·subst h7; exact (hmm j).2 (.inr he)
      ·refine (hmm j).2 (.inl (hcl i h6 (fun h8 => ?_) j he))
       rcases List.mem_append.1 h8 with h9 | h9
       ·exact his (h5.sub _ h9)
       ·have := List.mem_singleton.1 h9
        exact h7 (by omega)
     ·exact absurd h6 his)
   refine ⟨m', a, b, fun j => (c j).trans ⟨Reach.mono fun j hj => ?_, Reach.mono fun j hj => Reach.base (h5.up j hj)⟩⟩
   rcases (hmm j).1 hj with h6 | h6
   ·exact Reach.base h6
   ·exact (Reach.base hj0).step h6
theorem cntF_replicate (n : Nat) : cntF (List.replicate n false) = n := by simp [cntF]
theorem mark_is (objs : List S44) (c l : Int) (roots : List Int) : mark_Live.f objs c l roots = some (liveS objs c l roots) := by
 unfold mark_Live.f liveS
 cases hm : mayB objs c l
 ·rfl
 ·have hf := mayB_fine hm
  have hn := hf.n
  simp only [if_true]
  rcases rootsF_is objs.length roots (List.replicate objs.length false) [] (by simp) (by rw [cntF_replicate, List.length_nil]; omega) with ⟨h1, s, h2, h3⟩ | ⟨h1, h2⟩
  ·rw [h2, if_pos h1]
   simp only [Option.bind_some, liveRest]
   have hlen : (roots.foldl (markV objs.length) (List.replicate objs.length false)).length = objs.length := by rw [foldV_len]; simp
   have hcnt := h3.cnt
   rw [cntF_replicate, List.length_nil] at hcnt
   have hno : ∀ j, ¬ mem (List.replicate objs.length false) j := fun j h => by
    have h4 := mem_lt h
    simp [mem, List.getD_eq_getElem?_getD, List.getElem?_replicate] at h
    split at h <;> simp at h
   obtain ⟨m', a, b, d⟩ := markLoop_is objs hn (objs.length + 1) _ s hlen (by omega) (by omega) (fun x hx => by
     rcases h3.new x hx with h4 | h4
     ·simp at h4
     ·exact h4) (fun i hi his j he => by
     rcases h3.old i hi with h4 | h4
     ·exact absurd h4 (hno i)
     ·exact absurd h4 his)
   rw [a]
   have e : m' = iter objs objs.length (roots.foldl (markV objs.length) (List.replicate objs.length false)) := mem_ext (by rw [b, iter_len, hlen]) fun j => by rw [d, mem_iter hlen]
   simp only [Option.bind_some, liveEnd]
   rw [b, e]
  ·rw [h2, h1]; rfl
end Go.Proofs.Ytlmejfcfdhinlaa.PMove
