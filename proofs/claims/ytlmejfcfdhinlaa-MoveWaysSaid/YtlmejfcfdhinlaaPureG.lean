import Derived.Test.YtlmejfcfdhinlaaPureF
namespace Go.Proofs.Ytlmejfcfdhinlaa.PMove
open Go.RowKit Go.Proofs.YtlmejfcfdhinlaaW.PrintWords Go.Proofs.YtlmejfcfdhinlaaW.PrintLast Go.Proofs.YtlmejfcfdhinlaaW.PrintMore
set_option linter.unusedVariables false
set_option linter.unusedSimpArgs false
def movedObj (t : List Int) (x : S44) : S44 := ⟨(valS t x.f0).1, x.f1, valsS t x.f2, x.f3, x.f4, x.f5⟩
def compFrom (t : List Int) (objs : List S44) (i d : Nat) : List S44 := ((List.range' i d).filter fun j : Nat => decide (0 ≤ rd t (j : Int))).map fun j : Nat => movedObj t (rd_T44 objs (j : Int))
theorem compFrom_yes {t : List Int} {objs : List S44} {i d : Nat} (h : 0 ≤ rd t (i : Int)) : compFrom t objs i (d + 1) = movedObj t (rd_T44 objs (i : Int)) :: compFrom t objs (i + 1) d := by
 unfold compFrom
 rw [List.range'_succ, List.filter_cons_of_pos (by simpa using h), List.map_cons]
theorem compFrom_no {t : List Int} {objs : List S44} {i d : Nat} (h : ¬ 0 ≤ rd t (i : Int)) : compFrom t objs i (d + 1) = compFrom t objs (i + 1) d := by
 unfold compFrom
 rw [List.range'_succ, List.filter_cons_of_neg (by simpa using h)]
theorem mCompact_loop (objs : List S44) (c q : Int) (hn : objs.length ≤ 256) (hx : ∀ x ∈ objs, FineObj x) (roots : List Int) (hr : roots.length ≤ 17592186044416) (t : List Int) (ht : t.length = objs.length)
  (hneg : ∀ i, i < objs.length → (rd t (i : Int) = -1 ↔ ¬ 0 ≤ rd t (i : Int))) : ∀ (d i : Nat) (acc : List S44), acc.length ≤ i → i + d = objs.length →
  Ev (fun k => move_Compact.l0 k roots t objs objs.length i acc c q) (acc ++ compFrom t objs i d, c, q, valsS t roots, 0)
 | 0, i, acc, ha, h => by
  apply ev_succ
  simp only [move_Compact.l0, if_neg (show ¬ (i : Int) < (objs.length : Int) by omega)]
  refine Ev.bind (moved_ev t roots hr) ?_
  exact ev_is (Ev.now _) (by simp [compFrom])
 | d + 1, i, acc, ha, h => by
  have hi : i < objs.length := by omega
  have hxi := hx _ (List.getElem_mem hi)
  rw [← rd_T44_at hi] at hxi
  apply ev_succ
  simp only [move_Compact.l0, if_pos (show (i : Int) < (objs.length : Int) by omega), if_pos (show (0 : Int) ≤ (i : Int) by omega), if_pos (show (i : Int) < (t.length : Int) by omega), mValue_eq, Option.bind_some]
  rw [w64_succ (by omega)]
  by_cases h0 : rd t (i : Int) = -1
  ·simp only [if_pos h0]
   rw [compFrom_no ((hneg i hi).1 h0)]
   exact mCompact_loop objs c q hn hx roots hr t ht hneg d (i + 1) _ (by omega) (by omega)
  ·simp only [if_neg h0]
   refine Ev.bind (moved_ev t _ hxi.2.1) ?_
   simp only [if_pos (show acc.length < 1954687338268 by omega)]
   rw [compFrom_yes (Decidable.by_contra fun h1 => h0 ((hneg i hi).2 h1))]
   exact ev_is (mCompact_loop objs c q hn hx roots hr t ht hneg d (i + 1) _ (by rw [List.length_append, List.length_singleton]; omega) (by omega)) (by rw [List.append_assoc, List.singleton_append]; rfl)
theorem tabS_len (l : List Int) (n : Nat) : (tabS l n).length = n := by simp [tabS]
theorem rd_tabS (l : List Int) {n i : Nat} (h : i < n) : rd (tabS l n) (i : Int) = tabAt l i := by
 rw [rd_at (by rw [tabS_len]; exact h)]
 simp [tabS]
theorem tabAt_neg (l : List Int) (i : Nat) : tabAt l i = -1 ↔ ¬ 0 ≤ tabAt l i := by
 unfold tabAt
 split <;> omega
def compactS (objs : List S44) (c q : Int) (roots : List Int) : List S44 × Int × Int × List Int × Int :=
 if (tableS objs c q roots).2 = 0 then (compFrom (tableS objs c q roots).1 objs 0 objs.length, c, q, valsS (tableS objs c q roots).1 roots, 0) else ([], 0, 0, [], (tableS objs c q roots).2)
theorem table_of {objs : List S44} {c q : Int} {roots : List Int} (h : (tableS objs c q roots).2 = 0) : (liveS objs c q roots).2 = 0 ∧ (tableS objs c q roots).1 = tabS (liveS objs c q roots).1 objs.length := by
 unfold tableS at h ⊢
 by_cases h0 : (liveS objs c q roots).2 = 0
 ·rw [if_pos h0]; exact ⟨h0, rfl⟩
 ·rw [if_neg h0] at h; exact absurd h h0
theorem mCompact_ev (objs : List S44) (c q : Int) (roots : List Int) (hx : ∀ x ∈ objs, FineObj x) (hr : roots.length ≤ 17592186044416) : Ev (fun k => move_Compact.f k objs c q roots) (compactS objs c q roots) := by
 unfold move_Compact.f compactS
 refine Ev.bind (mTable_ev objs c q roots) ?_
 by_cases h : (tableS objs c q roots).2 = 0
 ·obtain ⟨h1, h2⟩ := table_of h
  obtain ⟨_, hn, _⟩ := live_rising h1
  simp only [if_pos h]
  refine ev_is (mCompact_loop objs c q hn hx roots hr _ (by rw [h2, tabS_len]) (fun i hi => by rw [h2, rd_tabS _ hi]; exact tabAt_neg _ _) objs.length 0 [] (Nat.le_refl _) (by omega)) rfl
 ·simp only [if_neg h]; exact Ev.now _
theorem Ints_loop (l : List Int) (hl : l.length ≤ 17592186044416) : ∀ (d i : Nat), i + d = l.length → Ev (fun k => anamnesisref03_Ints.l0 k l l i) true
 | 0, i, h => by
  apply ev_succ
  simp only [anamnesisref03_Ints.l0, if_neg (show ¬ (i : Int) < (l.length : Int) by omega)]
  exact Ev.now _
 | d + 1, i, h => by
  apply ev_succ
  simp only [anamnesisref03_Ints.l0, if_pos (show (i : Int) < (l.length : Int) by omega), if_pos (show (0 : Int) ≤ (i : Int) by omega), if_true]
  rw [w64_succ (by omega)]
  exact Ints_loop l hl d (i + 1) (by omega)
theorem Ints_ev (l : List Int) (hl : l.length ≤ 17592186044416) : Ev (fun k => anamnesisref03_Ints.f k l l) true := by
 unfold anamnesisref03_Ints.f
 simp only [if_true]
 exact Ints_loop l hl l.length 0 (by omega)
theorem One_loop (x : S44) (hl : x.f2.length ≤ 17592186044416) : ∀ (d i : Nat), i + d = x.f2.length → Ev (fun k => anamnesisref03_One.l0 k i x.f0 x.f1 x.f2 x.f3 x.f4 x.f5 x.f0 x.f1 x.f2 x.f3 x.f4 x.f5) true
 | 0, i, h => by
  apply ev_succ
  simp only [anamnesisref03_One.l0, if_neg (show ¬ (i : Int) < (x.f2.length : Int) by omega)]
  exact Ev.now _
 | d + 1, i, h => by
  apply ev_succ
  simp only [anamnesisref03_One.l0, if_pos (show (i : Int) < (x.f2.length : Int) by omega), if_pos (show (0 : Int) ≤ (i : Int) by omega), if_true]
  rw [w64_succ (by omega)]
  exact One_loop x hl d (i + 1) (by omega)
theorem One_ev (x : S44) (hl : x.f2.length ≤ 17592186044416) : Ev (fun k => anamnesisref03_One.f k x.f0 x.f1 x.f2 x.f3 x.f4 x.f5 x.f0 x.f1 x.f2 x.f3 x.f4 x.f5) true := by
 unfold anamnesisref03_One.f
 simp only [if_true]
 apply ev_succ
 simp only [anamnesisref03_One.j0, bne_self_eq_false, Bool.false_eq_true, if_false]
 exact One_loop x hl x.f2.length 0 (by omega)
theorem Same_loop (a : List S44) (c q : Int) (hl : a.length ≤ 17592186044416) (hx : ∀ x ∈ a, x.f2.length ≤ 17592186044416) : ∀ (d i : Nat), i + d = a.length → Ev (fun k => anamnesisref03_Same.l0 k i a c q a c q) true
 | 0, i, h => by
  apply ev_succ
  simp only [anamnesisref03_Same.l0, if_neg (show ¬ (i : Int) < (a.length : Int) by omega)]
  exact Ev.now _
 | d + 1, i, h => by
  have hi : i < a.length := by omega
  apply ev_succ
  simp only [anamnesisref03_Same.l0, if_pos (show (i : Int) < (a.length : Int) by omega), if_pos (show (0 : Int) ≤ (i : Int) by omega), rd_T44_at hi]
  rw [w64_succ (by omega)]
  refine Ev.bind (One_ev a[i] (hx _ (List.getElem_mem hi))) ?_
  simp only [if_true]
  exact Same_loop a c q hl hx d (i + 1) (by omega)
theorem Same_ev (a : List S44) (c q : Int) (hl : a.length ≤ 17592186044416) (hx : ∀ x ∈ a, x.f2.length ≤ 17592186044416) : Ev (fun k => anamnesisref03_Same.f k a c q a c q) true := by
 unfold anamnesisref03_Same.f
 simp only [if_true]
 apply ev_succ
 simp only [anamnesisref03_Same.j0, bne_self_eq_false, Bool.false_eq_true, if_false]
 exact Same_loop a c q hl hx a.length 0 (by omega)
theorem Small_loop (objs : List S44) (c q : Int) (hn : objs.length ≤ 17592186044416) (hx : ∀ x ∈ objs, FineObj x) : ∀ (d i : Nat) (a : Int), 0 ≤ a → a ≤ 9223372036854775000 → i + d = objs.length → ∃ b, Ev (fun k => anamnesisref03_Small.l0 k a i objs c q) b ∧ (b = true → objs.length ≤ 300)
 | 0, i, a, ha, ha2, h => by
  refine ⟨decide ((objs.length : Int) ≤ 300) && decide (a < 5000), ?_, fun hb => by simp at hb; omega⟩
  apply ev_succ
  simp only [anamnesisref03_Small.l0, if_neg (show ¬ (i : Int) < (objs.length : Int) by omega)]
  by_cases h1 : (objs.length : Int) ≤ 300
  ·simp only [if_pos h1]; exact ev_is (Ev.now _) (by simp [h1])
  ·simp only [if_neg h1]; exact ev_is (Ev.now _) (by simp [h1])
 | d + 1, i, a, ha, ha2, h => by
  have hi : i < objs.length := by omega
  have hxi := hx _ (List.getElem_mem hi)
  rw [← rd_T44_at hi] at hxi
  obtain ⟨_, h2, h3⟩ := hxi
  by_cases h5 : a < 5000
  ·have e : wrap64 (a + wrap64 (wrap64 (1 + ((rd_T44 objs (i : Int)).f2.length : Int)) + ((rd_T44 objs (i : Int)).f3.size : Int))) = a + (1 + ((rd_T44 objs (i : Int)).f2.length : Int) + ((rd_T44 objs (i : Int)).f3.size : Int)) := by
    rw [w64 (n := 1 + ((rd_T44 objs (i : Int)).f2.length : Int)) (by omega) (by omega), w64 (n := 1 + ((rd_T44 objs (i : Int)).f2.length : Int) + _) (by omega) (by omega), w64 (by omega) (by omega)]
   obtain ⟨b, hb, hb2⟩ := Small_loop objs c q hn hx d (i + 1) (a + (1 + ((rd_T44 objs (i : Int)).f2.length : Int) + ((rd_T44 objs (i : Int)).f3.size : Int))) (by omega) (by omega) (by omega)
   refine ⟨b, ?_, hb2⟩
   apply ev_succ
   simp only [anamnesisref03_Small.l0, if_pos (show (i : Int) < (objs.length : Int) by omega), if_pos h5, if_pos (show (0 : Int) ≤ (i : Int) by omega)]
   rw [e, w64_succ (by omega)]
   exact hb
  ·refine ⟨decide ((objs.length : Int) ≤ 300) && decide (a < 5000), ?_, fun hb => by simp at hb; omega⟩
   apply ev_succ
   simp only [anamnesisref03_Small.l0, if_pos (show (i : Int) < (objs.length : Int) by omega), if_neg h5]
   by_cases h1 : (objs.length : Int) ≤ 300
   ·simp only [if_pos h1]; exact ev_is (Ev.now _) (by simp [h1])
   ·simp only [if_neg h1]; exact ev_is (Ev.now _) (by simp [h1])
theorem Small_ev (objs : List S44) (c q : Int) (hn : objs.length ≤ 17592186044416) (hx : ∀ x ∈ objs, FineObj x) : ∃ b, Ev (fun k => anamnesisref03_Small.f k objs c q) b ∧ (b = true → objs.length ≤ 300) :=
 Small_loop objs c q hn hx objs.length 0 0 (by omega) (by omega) (by omega)
def three : List S44 := [(⟨0, 0, ([] : List Int), (⟨#[]⟩ : ByteArray), 0, 0⟩ : S44), (⟨0, 0, (([4] : List Int)), (⟨#[]⟩ : ByteArray), 0, 0⟩ : S44), (⟨0, 0, (([4, 5, 0] : List Int)), (⟨#[]⟩ : ByteArray), 0, 9⟩ : S44)]
theorem three_table : tableS three 3 7 [4] = ([0, -1, 1], 0) := by kernel_rfl
theorem three_compact : compactS three 3 7 [4, 5] = ([(⟨0, 0, ([] : List Int), (⟨#[]⟩ : ByteArray), 0, 0⟩ : S44), (⟨0, 0, (([2, 5, 0] : List Int)), (⟨#[]⟩ : ByteArray), 0, 9⟩ : S44)], 3, 7, [2, 5], 0) := by kernel_rfl
theorem three_no : (compactS three 3 7 [6]).2.2.2.2 = 31 := by kernel_rfl
theorem three_v : valS [0, -1, 1] 4 = (2, true) := by kernel_rfl
theorem three_w : valS [0, -1, 1] 2 = (0, false) := by kernel_rfl
theorem fixed_ev : Ev (fun k => anamnesislaw05_fixed.f k) true := by
 have hx : ∀ x ∈ three, FineObj x := by
  intro x hx
  simp only [three, List.mem_cons, List.not_mem_nil, or_false] at hx
  rcases hx with rfl | rfl | rfl <;> refine ⟨⟨by decide, by decide⟩, by decide, by decide⟩
 have h1 := mTable_ev three 3 7 [4]
 have h2 := mCompact_ev three 3 7 [4, 5] hx (by decide)
 have h3 := mCompact_ev three 3 7 [6] hx (by decide)
 rw [three_table] at h1
 rw [three_compact] at h2
 have h4 := three_no
 generalize compactS three 3 7 [6] = z at h3 h4
 unfold anamnesislaw05_fixed.f anamnesislaw05_three.f
 simp only [Option.bind_some, mValue_eq, three_v, three_w]
 refine Ev.bind h1 (Ev.bind h2 (Ev.bind h3 ?_))
 simp only [if_true, h4, Bool.not_false]
 refine Ev.bind (Ints_ev _ (by decide)) ?_
 simp only [if_true]
 refine Ev.bind (Same_ev _ 3 7 (by decide) (by decide)) ?_
 simp only [if_true]
 refine Ev.bind (Ints_ev _ (by decide)) ?_
 simp only [if_true]
 exact Ev.now _
end Go.Proofs.Ytlmejfcfdhinlaa.PMove
