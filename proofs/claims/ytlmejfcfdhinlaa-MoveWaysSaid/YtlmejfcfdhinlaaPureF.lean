import Derived.Test.YtlmejfcfdhinlaaPureE
namespace Go.Proofs.Ytlmejfcfdhinlaa.PMove
open Go.RowKit Go.Proofs.YtlmejfcfdhinlaaW.PrintWords Go.Proofs.YtlmejfcfdhinlaaW.PrintLast Go.Proofs.YtlmejfcfdhinlaaW.PrintMore
set_option linter.unusedVariables false
set_option linter.unusedSimpArgs false
def refS (a : Int) : Int × Bool := if 0 ≤ a ∧ a ≤ 1048575 then (2 * a, true) else (0, false)
def valS (t : List Int) (v : Int) : Int × Bool := if isSmall v = true then (v, true) else if isAt v = true ∧ v / 2 < (t.length : Int) then refS (rd t (v / 2)) else (0, false)
theorem vRef_eq (a : Int) : value_Ref.f a = some (refS a) := by
 unfold value_Ref.f value_object.f refS
 by_cases h0 : a ≥ 0
 ·by_cases h1 : a < 1048576
  ·rw [if_pos h0, if_pos (by omega)]
   simp only [Option.bind_some, decide_eq_true h1, if_true]
   rw [w64 (by omega) (by omega), Int.mul_comm]
  ·rw [if_pos h0, if_neg (by omega)]
   simp only [Option.bind_some, decide_eq_false h1, Bool.false_eq_true, if_false]
 ·rw [if_neg h0, if_neg (by omega)]; rfl
theorem at_small {v : Int} (h : isAt v = true) : isSmall v = false := by
 simp only [isAt, decide_eq_true_eq] at h
 simp only [isSmall, decide_eq_false_iff_not]; omega
theorem at_nonneg {v : Int} (h : isAt v = true) : 0 ≤ v / 2 := by simp only [isAt, decide_eq_true_eq] at h; omega
theorem mValue_eq (t : List Int) (v : Int) : move_Value.f t v = some (valS t v) := by
 unfold move_Value.f valS
 rw [At_eq, N_eq]
 cases ha : isAt v
 ·simp only [Bool.false_eq_true, if_false, Option.bind_some, false_and]
  cases hs : isSmall v
  ·simp only [Bool.false_eq_true, if_false]
  ·simp only [if_true]
 ·have h2 := at_nonneg ha
  simp only [if_true, Option.bind_some, at_small ha, Bool.false_eq_true, if_false, true_and]
  by_cases h1 : v / 2 ≥ (t.length : Int)
  ·rw [if_pos h1, if_neg (by omega)]
  ·rw [if_neg h1, if_pos h2, if_pos (by omega), if_pos (by omega), vRef_eq]; rfl
def valsS (t l : List Int) : List Int := l.map fun v => (valS t v).1
theorem set_mid (a b : List Int) (x v : Int) : (a ++ x :: b).set a.length v = a ++ v :: b := by simp
theorem moved_loop (t l : List Int) (hl : l.length ≤ 17592186044416) : ∀ (d i : Nat), i + d = l.length →
  Ev (fun k => move_moved.l0 k t (valsS t (l.take i) ++ List.replicate d 0) l l.length i) (valsS t l)
 | 0, i, h => by
  apply ev_succ
  simp only [move_moved.l0, if_neg (show ¬ (i : Int) < (l.length : Int) by omega)]
  exact ev_is (Ev.now _) (by rw [List.take_of_length_le (by omega)]; simp)
 | d + 1, i, h => by
  have hi : i < l.length := by omega
  have hlen : (valsS t (l.take i)).length = i := by simp [valsS]; omega
  apply ev_succ
  simp only [move_moved.l0, if_pos (show (i : Int) < (l.length : Int) by omega), if_pos (show (0 : Int) ≤ (i : Int) by omega), rd_at hi, mValue_eq, Option.bind_some,
   if_pos (show (i : Int) < ((valsS t (l.take i) ++ List.replicate (d + 1) 0).length : Int) by rw [List.length_append, hlen, List.length_replicate]; omega)]
  rw [w64_succ (by omega)]
  have e : (valsS t (l.take i) ++ List.replicate (d + 1) 0).set (i : Int).toNat (valS t l[i]).1 = valsS t (l.take (i + 1)) ++ List.replicate d 0 := by
   rw [List.replicate_succ, Int.toNat_natCast]
   conv => lhs; arg 2; rw [← hlen]
   rw [set_mid, List.take_add_one, List.getElem?_eq_getElem hi]
   simp only [valsS, Option.toList, List.map_append, List.map_cons, List.map_nil, List.append_assoc, List.singleton_append]
  rw [e]
  exact moved_loop t l hl d (i + 1) (by omega)
theorem moved_ev (t l : List Int) (hl : l.length ≤ 17592186044416) : Ev (fun k => move_moved.f k t l) (valsS t l) := by
 unfold move_moved.f
 simp only [if_pos (show (0 : Int) ≤ (l.length : Int) by omega), Int.toNat_natCast, if_pos (show l.length ≤ 35184372088832 by omega)]
 exact ev_is (moved_loop t l hl l.length 0 (by omega)) rfl
def placeS (l : List Int) (x : Int) : Nat := l.countP fun y => decide (y < x)
def tabAt (l : List Int) (j : Nat) : Int := if (j : Int) ∈ l then (placeS l j : Int) else -1
def tabS (l : List Int) (n : Nat) : List Int := (List.range' 0 n).map (tabAt l)
structure Rising (l : List Int) (n : Nat) : Prop where
 up : l.Pairwise (· < ·)
 lt : ∀ x ∈ l, 0 ≤ x ∧ x < n
theorem Rising.place {l : List Int} {n : Nat} (h : Rising l n) {t : Nat} (ht : t < l.length) : placeS l l[t] = t := by
 unfold placeS
 have hp := h.up
 have e : l = l.take t ++ l[t] :: l.drop (t + 1) := by rw [List.getElem_cons_drop, List.take_append_drop]
 have hp2 := hp
 rw [e, List.pairwise_append] at hp2
 obtain ⟨_, h2, h3⟩ := hp2
 have h4 := (List.pairwise_cons.1 h2).1
 conv => lhs; arg 2; rw [e]
 rw [List.countP_append, List.countP_eq_length.2 (fun x hx => by simpa using h3 x hx _ List.mem_cons_self), List.countP_eq_zero.2 (fun x hx => by
  rcases List.mem_cons.1 hx with rfl | hx
  ·simp
  ·have := h4 x hx; simp; omega)]
 simp; omega
theorem collectTo_rising (m : List Bool) (n : Nat) : Rising (collectTo m n) n := by
 constructor
 ·unfold collectTo
  rw [List.pairwise_map]
  refine List.Pairwise.filter _ ?_
  exact (List.pairwise_lt_range (n := n)).imp (fun h => by omega)
 ·intro x hx
  obtain ⟨j, hj, rfl⟩ := List.mem_map.1 hx
  have := List.mem_range.1 (List.mem_filter.1 hj).1
  omega
theorem rep_range (n : Nat) (x : Int) : List.replicate n x = (List.range' 0 n).map fun _ => x := by simp [List.map_const']
def tabTo (l : List Int) (t j : Nat) : Int := if (j : Int) ∈ l.take t then (placeS l j : Int) else -1
theorem mTable_loop (l : List Int) (n : Nat) (hn : n ≤ 256) (hl : Rising l n) (hll : l.length ≤ 256) : ∀ (d t : Nat), t + d = l.length →
  Ev (fun k => move_Table.l0 k ((List.range' 0 n).map (tabTo l t)) l l.length t) (tabS l n, 0)
 | 0, t, h => by
  apply ev_succ
  simp only [move_Table.l0, if_neg (show ¬ (t : Int) < (l.length : Int) by omega)]
  refine ev_is (Ev.now _) ?_
  unfold tabS
  congr 1
  refine List.map_congr_left fun j _ => ?_
  unfold tabTo tabAt
  rw [List.take_of_length_le (by omega)]
 | d + 1, t, h => by
  have ht : t < l.length := by omega
  have hx := hl.lt l[t] (List.getElem_mem ht)
  apply ev_succ
  simp only [move_Table.l0, if_pos (show (t : Int) < (l.length : Int) by omega), if_pos (show (0 : Int) ≤ (t : Int) by omega), rd_at ht, if_pos hx.1,
   if_pos (show l[t] < (((List.range' 0 n).map (tabTo l t)).length : Int) by rw [List.length_map, List.length_range']; exact hx.2)]
  rw [w64_succ (by omega)]
  have e : ((List.range' 0 n).map (tabTo l t)).set (l[t]).toNat (t : Int) = (List.range' 0 n).map (tabTo l (t + 1)) := by
   refine List.ext_getElem (by simp) fun j h1 h2 => ?_
   rw [List.getElem_set]
   simp only [List.getElem_map, List.getElem_range', Nat.zero_add, Nat.one_mul]
   unfold tabTo
   have hm : ∀ y : Int, y ∈ l.take (t + 1) ↔ y ∈ l.take t ∨ y = l[t] := fun y => by
    rw [List.take_add_one, List.getElem?_eq_getElem ht]; simp only [Option.toList, List.mem_append, List.mem_singleton]
   by_cases hj : (l[t]).toNat = j
   ·have hj2 : (j : Int) = l[t] := by omega
    rw [if_pos hj, if_pos ((hm _).2 (.inr hj2)), hj2, hl.place ht]
   ·have hj2 : ¬ (j : Int) = l[t] := by omega
    rw [if_neg hj]
    by_cases h3 : (j : Int) ∈ l.take t
    ·rw [if_pos h3, if_pos ((hm _).2 (.inl h3))]
    ·rw [if_neg h3, if_neg (fun h4 => ((hm _).1 h4).elim h3 hj2)]
  rw [e]
  exact mTable_loop l n hn hl hll d (t + 1) (by omega)
def tableS (objs : List S44) (c q : Int) (roots : List Int) : List Int × Int :=
 if (liveS objs c q roots).2 = 0 then (tabS (liveS objs c q roots).1 objs.length, 0) else ([], (liveS objs c q roots).2)
theorem live_rising {objs : List S44} {c q : Int} {roots : List Int} (h : (liveS objs c q roots).2 = 0) : Rising (liveS objs c q roots).1 objs.length ∧ objs.length ≤ 256 ∧ (liveS objs c q roots).1.length ≤ objs.length := by
 unfold liveS at h ⊢
 by_cases hm : mayB objs c q = true
 ·rw [if_pos hm] at h ⊢
  by_cases hr : roots.all (hasB objs.length) = true
  ·rw [if_pos hr] at h ⊢
   exact ⟨collectTo_rising _ _, (mayB_fine hm).n, collectTo_le _ _⟩
  ·rw [if_neg hr] at h; cases h
 ·rw [if_neg hm] at h; cases h
theorem mTable_ev (objs : List S44) (c q : Int) (roots : List Int) : Ev (fun k => move_Table.f k objs c q roots) (tableS objs c q roots) := by
 unfold move_Table.f tableS
 rw [mark_is]
 simp only [Option.bind_some]
 by_cases h : (liveS objs c q roots).2 = 0
 ·obtain ⟨h1, h2, h3⟩ := live_rising h
  simp only [if_pos h, slices_Repeat_int_int.f, List.length_singleton, if_true, if_pos (show (0 : Int) ≤ (objs.length : Int) by omega), if_pos (show (objs.length : Int) ≤ 35184372088832 by omega), Option.bind_some, Int.toNat_natCast]
  refine ev_is (Ev.congr (fun k => ?_) (mTable_loop _ objs.length h2 h1 (by omega) (liveS objs c q roots).1.length 0 (by omega))) rfl
  have e : List.replicate objs.length (rd [-1] 0) = (List.range' 0 objs.length).map (tabTo (liveS objs c q roots).1 0) := by
   rw [show rd [-1] 0 = -1 from rfl, rep_range]
   refine List.map_congr_left fun j _ => ?_
   simp [tabTo]
  rw [e]; rfl
 ·simp only [if_neg h]; exact Ev.now _
end Go.Proofs.Ytlmejfcfdhinlaa.PMove
