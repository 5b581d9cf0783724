import Derived.Test.YtednpcfhefibdaaPureB
namespace Go.Proofs.Ytednpcfhefibdaa.PSnap
open Go.RowKit Go.Proofs.YtednpcfhefibdaaW.PrintWords Go.Proofs.YtednpcfhefibdaaW.PrintLast Go.Proofs.YtednpcfhefibdaaW.PrintMore
set_option linter.unusedVariables false
set_option linter.unusedSimpArgs false
theorem One_loop (x : S41) (hl : x.f2.length ≤ 17592186044416) : ∀ (d i : Nat), i + d = x.f2.length → Ev (fun k => anamnesisref03_One.l0 k i x.f0 x.f1 x.f2 x.f3 x.f4 x.f5 x.f0 x.f1 x.f2 x.f3 x.f4 x.f5) true
 | 0, i, h => by
  apply ev_succ
  simp only [anamnesisref03_One.l0, if_neg (show ¬ (i : Int) < (x.f2.length : Int) by omega)]
  exact Ev.now _
 | d + 1, i, h => by
  apply ev_succ
  simp only [anamnesisref03_One.l0, if_pos (show (i : Int) < (x.f2.length : Int) by omega), if_pos (show (0 : Int) ≤ (i : Int) by omega), if_true]
  rw [w64_succ (by omega)]
  exact One_loop x hl d (i + 1) (by omega)
theorem One_ev (x : S41) (hl : x.f2.length ≤ 17592186044416) : Ev (fun k => anamnesisref03_One.f k x.f0 x.f1 x.f2 x.f3 x.f4 x.f5 x.f0 x.f1 x.f2 x.f3 x.f4 x.f5) true := by
 unfold anamnesisref03_One.f
 simp only [if_true]
 apply ev_succ
 simp only [anamnesisref03_One.j0, bne_self_eq_false, Bool.false_eq_true, if_false]
 exact One_loop x hl x.f2.length 0 (by omega)
theorem Same_loop (a : List S41) (c q : Int) (hl : a.length ≤ 17592186044416) (hx : ∀ x ∈ a, x.f2.length ≤ 17592186044416) : ∀ (d i : Nat), i + d = a.length → Ev (fun k => anamnesisref03_Same.l0 k i a c q a c q) true
 | 0, i, h => by
  apply ev_succ
  simp only [anamnesisref03_Same.l0, if_neg (show ¬ (i : Int) < (a.length : Int) by omega)]
  exact Ev.now _
 | d + 1, i, h => by
  have hi : i < a.length := by omega
  apply ev_succ
  simp only [anamnesisref03_Same.l0, if_pos (show (i : Int) < (a.length : Int) by omega), if_pos (show (0 : Int) ≤ (i : Int) by omega), rd_T41_at hi]
  rw [w64_succ (by omega)]
  refine Ev.bind (One_ev a[i] (hx _ (List.getElem_mem hi))) ?_
  simp only [if_true]
  exact Same_loop a c q hl hx d (i + 1) (by omega)
theorem Same_ev (a : List S41) (c q : Int) (hl : a.length ≤ 17592186044416) (hx : ∀ x ∈ a, x.f2.length ≤ 17592186044416) : Ev (fun k => anamnesisref03_Same.f k a c q a c q) true := by
 unfold anamnesisref03_Same.f
 simp only [if_true]
 apply ev_succ
 simp only [anamnesisref03_Same.j0, bne_self_eq_false, Bool.false_eq_true, if_false]
 exact Same_loop a c q hl hx a.length 0 (by omega)
theorem Small_loop (objs : List S41) (c q : Int) (hn : objs.length ≤ 17592186044416) (hx : ∀ x ∈ objs, FineObj x) : ∀ (d i : Nat) (a : Int), 0 ≤ a → a ≤ 9223372036854775000 → i + d = objs.length → ∃ b, Ev (fun k => anamnesisref03_Small.l0 k a i objs c q) b ∧ (b = true → objs.length ≤ 300)
 | 0, i, a, ha, ha2, h => by
  refine ⟨decide ((objs.length : Int) ≤ 300) && decide (a < 5000), ?_, fun hb => by simp at hb; omega⟩
  apply ev_succ
  simp only [anamnesisref03_Small.l0, if_neg (show ¬ (i : Int) < (objs.length : Int) by omega)]
  by_cases h1 : (objs.length : Int) ≤ 300
  ·simp only [if_pos h1]; exact ev_is (Ev.now _) (by simp [h1])
  ·simp only [if_neg h1]; exact ev_is (Ev.now _) (by simp [h1])
 | d + 1, i, a, ha, ha2, h => by
  have hi : i < objs.length := by omega
  have hxi := hx _ (List.getElem_mem hi)
  rw [← rd_T41_at hi] at hxi
  obtain ⟨_, h2, h3⟩ := hxi
  by_cases h5 : a < 5000
  ·have e : wrap64 (a + wrap64 (wrap64 (1 + ((rd_T41 objs (i : Int)).f2.length : Int)) + ((rd_T41 objs (i : Int)).f3.size : Int))) = a + (1 + ((rd_T41 objs (i : Int)).f2.length : Int) + ((rd_T41 objs (i : Int)).f3.size : Int)) := by
    rw [w64 (n := 1 + ((rd_T41 objs (i : Int)).f2.length : Int)) (by omega) (by omega), w64 (n := 1 + ((rd_T41 objs (i : Int)).f2.length : Int) + _) (by omega) (by omega), w64 (by omega) (by omega)]
   obtain ⟨b, hb, hb2⟩ := Small_loop objs c q hn hx d (i + 1) (a + (1 + ((rd_T41 objs (i : Int)).f2.length : Int) + ((rd_T41 objs (i : Int)).f3.size : Int))) (by omega) (by omega) (by omega)
   refine ⟨b, ?_, hb2⟩
   apply ev_succ
   simp only [anamnesisref03_Small.l0, if_pos (show (i : Int) < (objs.length : Int) by omega), if_pos h5, if_pos (show (0 : Int) ≤ (i : Int) by omega)]
   rw [e, w64_succ (by omega)]
   exact hb
  ·refine ⟨decide ((objs.length : Int) ≤ 300) && decide (a < 5000), ?_, fun hb => by simp at hb; omega⟩
   apply ev_succ
   simp only [anamnesisref03_Small.l0, if_pos (show (i : Int) < (objs.length : Int) by omega), if_neg h5]
   by_cases h1 : (objs.length : Int) ≤ 300
   ·simp only [if_pos h1]; exact ev_is (Ev.now _) (by simp [h1])
   ·simp only [if_neg h1]; exact ev_is (Ev.now _) (by simp [h1])
theorem Small_ev (objs : List S41) (c q : Int) (hn : objs.length ≤ 17592186044416) (hx : ∀ x ∈ objs, FineObj x) : ∃ b, Ev (fun k => anamnesisref03_Small.f k objs c q) b ∧ (b = true → objs.length ≤ 300) :=
 Small_loop objs c q hn hx objs.length 0 0 (by omega) (by omega) (by omega)
theorem any_not {α : Type} {p : α → Bool} {l : List α} (h : (l.any fun x => !(p x)) = false) {x : α} (hx : x ∈ l) : p x = true := by
 rw [List.any_eq_false] at h
 have := h x hx
 simpa using this
theorem I64_of {a : Int} (h : OkInt .i64 a) : I64 a := by
 simp only [OkInt, Lit.wf, Bool.and_eq_true, decide_eq_true_eq] at h
 exact ⟨h.1, Int.lt_of_le_of_lt h.2 (by decide)⟩
theorem FineObj_of {x : S41} (h : Ok41 x) : FineObj x := ⟨I64_of h.2.2.2.2.1, by have := h.2.2.1.1; omega, h.2.2.2.1⟩
theorem Ok24_fine {l : List S41} {a b : Int} (h : Ok24 ⟨l, a, b⟩) : l.length ≤ 17592186044416 ∧ ∀ x ∈ l, FineObj x := ⟨by have h1 : l.length * 72 ≤ 140737488351232 := h.1.1; omega, fun x hx => FineObj_of (h.1.2 x hx)⟩
end Go.Proofs.Ytednpcfhefibdaa.PSnap
