import Derived.Test.YtednpcfhefibdaaPureA
namespace Go.Proofs.Ytednpcfhefibdaa.PSnap
open Go.RowKit Go.Proofs.YtednpcfhefibdaaW.PrintWords Go.Proofs.YtednpcfhefibdaaW.PrintLast Go.Proofs.YtednpcfhefibdaaW.PrintMore
set_option linter.unusedVariables false
set_option linter.unusedSimpArgs false
theorem ev_is {α : Type} {g : Nat → Option α} {r r' : α} (h : Ev g r') (e : r' = r) : Ev g r := e ▸ h
def I64 (a : Int) : Prop := -9223372036854775808 ≤ a ∧ a < 9223372036854775808
theorem rd_at {l : List Int} {i : Nat} (h : i < l.length) : rd l (i : Int) = l[i] := by simp [rd, List.getD_eq_getElem?_getD, List.getElem?_eq_getElem h]
theorem rd_T41_at {l : List S41} {i : Nat} (h : i < l.length) : rd_T41 l (i : Int) = l[i] := by simp [rd_T41, List.getD_eq_getElem?_getD, List.getElem?_eq_getElem h]
theorem w64_succ {i : Nat} (h : i < 9223372036854775807) : wrap64 ((i : Int) + 1) = ((i + 1 : Nat) : Int) := by rw [w64 (by omega) (by omega)]; omega
def FineObj (x : S41) : Prop := I64 x.f4 ∧ x.f2.length ≤ 17592186044416 ∧ x.f3.size ≤ 140737488351232
def objTail (n : Int) (x : S41) : Bool := isRef n x.f0 && inB x.f5 1073741823 && decide ((x.f2.length : Int) ≤ 64) && decide ((x.f3.size : Int) ≤ 64) && canonB x.f4
theorem obj_j1 (objs : List S41) (c l : Int) (x : S41) (h4 : I64 x.f4) (b : Bool) :
  Ev (fun k => anamnesisref03_obj.j1 k b objs c l x.f0 x.f1 x.f2 x.f3 x.f4 x.f5) (!b && objTail objs.length x) := by
 apply ev_succ
 simp only [anamnesisref03_obj.j1, rRef_eq, rhash_eq, Option.bind_some, rCanon_eq x.f4 h4.1 h4.2, objTail]
 have h := refI_nonneg objs.length x.f0
 cases b
 ·simp only [Bool.false_eq_true, if_false, Bool.not_false, Bool.true_and]
  by_cases h1 : refI objs.length x.f0 ≥ 0
  ·rw [decide_eq_true h1] at h
   simp only [if_pos h1, ← h, Bool.true_and]
   cases h5 : inB x.f5 1073741823
   ·simp only [Bool.false_eq_true, if_false, Bool.false_and]; exact Ev.now _
   ·simp only [if_true, Bool.true_and]
    by_cases h6 : (x.f2.length : Int) ≤ 64
    ·simp only [if_pos h6, decide_eq_true h6, Bool.true_and]
     by_cases h7 : (x.f3.size : Int) ≤ 64
     ·simp only [if_pos h7, decide_eq_true h7, Bool.true_and]; exact Ev.now _
     ·simp only [if_neg h7, decide_eq_false h7, Bool.false_and]; exact Ev.now _
    ·simp only [if_neg h6, decide_eq_false h6, Bool.false_and]; exact Ev.now _
  ·rw [decide_eq_false h1] at h
   simp only [if_neg h1, ← h, Bool.false_and]; exact Ev.now _
 ·simp only [if_true, Bool.not_true, Bool.false_and]; exact Ev.now _
theorem obj_kind (objs : List S41) (c l : Int) (x : S41) (h4 : I64 x.f4) (i : Int) (hi : ¬ i < (x.f2.length : Int)) :
  Ev (fun k => anamnesisref03_obj.l0 k i objs c l x.f0 x.f1 x.f2 x.f3 x.f4 x.f5) ((inB x.f1 2 && kindB x.f1 x.f2 x.f3 x.f4) && objTail objs.length x) := by
 apply ev_succ
 simp only [anamnesisref03_obj.l0, if_neg hi]
 have J := obj_j1 objs c l x h4
 have key : ∀ b : Bool, (inB x.f1 2 && kindB x.f1 x.f2 x.f3 x.f4) = !b → Ev (fun k => anamnesisref03_obj.j1 k b objs c l x.f0 x.f1 x.f2 x.f3 x.f4 x.f5) ((inB x.f1 2 && kindB x.f1 x.f2 x.f3 x.f4) && objTail objs.length x) := fun b h => ev_is (J b) (by rw [h])
 have hlen : ((x.f2.length : Int) > 0) ↔ ¬ x.f2 = [] := by rw [← List.length_eq_zero_iff]; omega
 by_cases h0 : x.f1 < 0
 ·simp only [if_pos h0]; exact key _ (by simp [inB]; omega)
 ·simp only [if_neg h0]
  by_cases h2 : x.f1 > 2
  ·simp only [if_pos h2]; exact key _ (by simp [inB]; omega)
  ·simp only [if_neg h2]
   have hb : inB x.f1 2 = true := by simp [inB]; omega
   have h3 : x.f1 = 0 ∨ x.f1 = 1 ∨ x.f1 = 2 := by omega
   rcases h3 with h3 | h3 | h3
   ·by_cases ht : x.f3.toList = []
    ·simp only [h3, if_true, Int.reduceEq, if_false, ht]; rw [h3] at key hb; exact key _ (by simp [hb, kindB, ht])
    ·simp only [h3, if_true, Int.reduceEq, if_false, ht]; rw [h3] at key hb; exact key _ (by simp [hb, kindB, ht])
   ·by_cases hs : (x.f2.length : Int) > 0
    ·simp only [h3, if_true, Int.reduceEq, if_false, if_pos hs]; rw [h3] at key hb; exact key _ (by simp [hb, kindB, hs, hlen.1 hs])
    ·have hs' : x.f2 = [] := by rw [hlen] at hs; simpa using hs
     simp only [h3, if_true, Int.reduceEq, if_false, if_neg hs]; rw [h3] at key hb; exact key _ (by simp [hb, kindB, hs'])
   ·by_cases hs : (x.f2.length : Int) > 0
    ·simp only [h3, if_true, Int.reduceEq, if_false, if_pos hs]; rw [h3] at key hb; exact key _ (by simp [hb, kindB, hs, hlen.1 hs])
    ·have hs' : x.f2 = [] := by rw [hlen] at hs; simpa using hs
     by_cases ht : x.f3.toList = []
     ·simp only [h3, if_true, Int.reduceEq, if_false, if_neg hs, ht]; rw [h3] at key hb; exact key _ (by simp [hb, kindB, hs', ht])
     ·simp only [h3, if_true, Int.reduceEq, if_false, if_neg hs, ht]; rw [h3] at key hb; exact key _ (by simp [hb, kindB, hs', ht])
theorem obj_loop (objs : List S41) (c l : Int) (x : S41) (hx : FineObj x) : ∀ (m i : Nat), i + m = x.f2.length →
  Ev (fun k => anamnesisref03_obj.l0 k i objs c l x.f0 x.f1 x.f2 x.f3 x.f4 x.f5) (!((x.f2.drop i).any fun v => !(hasB objs.length v)) && ((inB x.f1 2 && kindB x.f1 x.f2 x.f3 x.f4) && objTail objs.length x))
 | 0, i, h => by
  rw [List.drop_eq_nil_of_le (by omega)]
  exact ev_is (obj_kind objs c l x hx.1 i (by omega)) (by simp)
 | m + 1, i, h => by
  have hi : i < x.f2.length := by omega
  apply ev_succ
  simp only [anamnesisref03_obj.l0, if_pos (show (i : Int) < (x.f2.length : Int) by omega), if_pos (show (0 : Int) ≤ (i : Int) by omega), rHas_eq, Option.bind_some, rd_at hi]
  rw [List.drop_eq_getElem_cons hi, List.any_cons]
  have := hx.2.1
  rw [w64_succ (by omega)]
  cases hh : hasB objs.length x.f2[i]
  ·simp only [Bool.false_eq_true, if_false, Bool.not_false, Bool.true_or, Bool.not_true, Bool.false_and]; exact Ev.now _
  ·simp only [if_true, Bool.not_true, Bool.false_or]
   exact obj_loop objs c l x hx m (i + 1) (by omega)
theorem rObj_ev (objs : List S41) (c l : Int) (x : S41) (hx : FineObj x) : Ev (fun k => anamnesisref03_obj.f k objs c l x.f0 x.f1 x.f2 x.f3 x.f4 x.f5) (mayObj objs.length x) :=
 ev_is (obj_loop objs c l x hx x.f2.length 0 (by omega)) (by
  simp only [List.drop_zero, mayObj, objTail]
  cases isRef (objs.length : Int) x.f0 <;> cases inB x.f1 2 <;> cases inB x.f5 1073741823 <;> cases kindB x.f1 x.f2 x.f3 x.f4 <;> cases decide ((x.f2.length : Int) ≤ 64) <;> cases decide ((x.f3.size : Int) ≤ 64) <;> cases canonB x.f4 <;> simp)
theorem May_loop (objs : List S41) (c l : Int) (hn : objs.length ≤ 17592186044416) (hx : ∀ x ∈ objs, FineObj x) : ∀ (m i : Nat), i + m = objs.length →
  Ev (fun k => anamnesisref03_May.l0 k i objs c l) (!((objs.drop i).any fun x => !(mayObj objs.length x)) && (decide (1 ≤ c) && decide (c ≤ 256) && decide ((objs.length : Int) ≤ c) && inB l 1073741823))
 | 0, i, h => by
  rw [List.drop_eq_nil_of_le (by omega)]
  apply ev_succ
  simp only [anamnesisref03_May.l0, if_neg (show ¬ (i : Int) < (objs.length : Int) by omega), rhash_eq, Option.bind_some, ge_iff_le]
  by_cases h1 : 1 ≤ c
  ·by_cases h2 : c ≤ 256
   ·by_cases h3 : (objs.length : Int) ≤ c
    ·simp only [if_pos h1, if_pos h2, if_pos h3]; exact ev_is (Ev.now _) (by simp [h1, h2, h3])
    ·simp only [if_pos h1, if_pos h2, if_neg h3]; exact ev_is (Ev.now _) (by simp [h3])
   ·simp only [if_pos h1, if_neg h2]; exact ev_is (Ev.now _) (by simp [h2])
  ·simp only [if_neg h1]; exact ev_is (Ev.now _) (by simp [h1])
 | m + 1, i, h => by
  have hi : i < objs.length := by omega
  apply ev_succ
  simp only [anamnesisref03_May.l0, if_pos (show (i : Int) < (objs.length : Int) by omega), if_pos (show (0 : Int) ≤ (i : Int) by omega), rd_T41_at hi]
  rw [List.drop_eq_getElem_cons hi, List.any_cons, w64_succ (by omega)]
  refine Ev.bind (rObj_ev objs c l objs[i] (hx _ (List.getElem_mem hi))) ?_
  cases hh : mayObj objs.length objs[i]
  ·simp only [Bool.false_eq_true, if_false, Bool.not_false, Bool.true_or, Bool.not_true, Bool.false_and]; exact Ev.now _
  ·simp only [if_true, Bool.not_true, Bool.false_or]
   exact May_loop objs c l hn hx m (i + 1) (by omega)
theorem May_ev (objs : List S41) (c l : Int) (hn : objs.length ≤ 17592186044416) (hx : ∀ x ∈ objs, FineObj x) : Ev (fun k => anamnesisref03_May.f k objs c l) (mayB objs c l) :=
 ev_is (May_loop objs c l hn hx objs.length 0 (by omega)) (by simp only [List.drop_zero, mayB]; rw [Bool.and_comm])
end Go.Proofs.Ytednpcfhefibdaa.PSnap
