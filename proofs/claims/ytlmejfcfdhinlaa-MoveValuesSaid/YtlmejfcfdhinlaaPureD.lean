import Derived.Test.YtlmejfcfdhinlaaPureC
namespace Go.Proofs.Ytlmejfcfdhinlaa.PMove
open Go.RowKit Go.Proofs.YtlmejfcfdhinlaaW.PrintWords Go.Proofs.YtlmejfcfdhinlaaW.PrintLast Go.Proofs.YtlmejfcfdhinlaaW.PrintMore
set_option linter.unusedVariables false
set_option linter.unusedSimpArgs false
theorem refI_case (n : Nat) (v : Int) : (isRef n v = true ∧ refI n v = v / 2 ∧ 0 ≤ v / 2 ∧ v / 2 < n) ∨ (isRef n v = false ∧ refI n v = -1) := by
 unfold refI
 cases h : isRef n v
 ·right; exact ⟨rfl, rfl⟩
 ·left
  have := isRef_lt h
  refine ⟨rfl, rfl, ?_, ?_⟩ <;> omega
structure Fine (objs : List S44) : Prop where
 n : objs.length ≤ 256
 cls : ∀ i, i < objs.length → isRef objs.length (rd_T44 objs (i : Int)).f0 = true
 slots : ∀ i, i < objs.length → (rd_T44 objs (i : Int)).f2.length ≤ 64
theorem near_l1 (objs : List S44) (c l : Int) (hf : Fine objs) (m : List Bool) (i : Nat) (hi : i < objs.length) (r : List Bool)
  (K : ∀ out : List Bool, out.length = objs.length → Ev (fun k => anamnesisref04_near.l0 k m out (wrap64 ((i : Int) + 1)) objs c l) (nearGo objs m (objs.length - (i + 1)) (i + 1) out)) :
  ∀ (d t : Nat) (out : List Bool), out.length = objs.length → t + d = (rd_T44 objs (i : Int)).f2.length →
  Ev (fun k => anamnesisref04_near.l1 k m out i t objs c l) (nearGo objs m (objs.length - (i + 1)) (i + 1) (((rd_T44 objs (i : Int)).f2.drop t).foldl (markV objs.length) out))
 | 0, t, out, hl, h => by
  rw [List.drop_eq_nil_of_le (by omega)]
  apply ev_succ
  simp only [anamnesisref04_near.l1, if_pos (show (0 : Int) ≤ (i : Int) by omega), if_pos (show (i : Int) < (objs.length : Int) by omega), if_neg (show ¬ (t : Int) < (((rd_T44 objs (i : Int)).f2.length : Nat) : Int) by omega)]
  exact K out hl
 | d + 1, t, out, hl, h => by
  have ht : t < (rd_T44 objs (i : Int)).f2.length := by omega
  have hs := hf.slots i hi
  apply ev_succ
  simp only [anamnesisref04_near.l1, if_pos (show (0 : Int) ≤ (i : Int) by omega), if_pos (show (i : Int) < (objs.length : Int) by omega), if_pos (show (t : Int) < (((rd_T44 objs (i : Int)).f2.length : Nat) : Int) by omega), if_pos (show (0 : Int) ≤ (t : Int) by omega), rRef_eq, Option.bind_some, rd_at ht]
  rw [List.drop_eq_getElem_cons ht, List.foldl_cons, w64_succ (by omega)]
  rcases refI_case objs.length (rd_T44 objs (i : Int)).f2[t] with ⟨h1, h2, h3, h4⟩ | ⟨h1, h2⟩
  ·simp only [h2, ge_iff_le, if_pos h3, if_pos (show (rd_T44 objs (i : Int)).f2[t] / 2 < (out.length : Int) by omega)]
   have e : markV objs.length out (rd_T44 objs (i : Int)).f2[t] = out.set ((rd_T44 objs (i : Int)).f2[t] / 2).toNat true := by unfold markV; rw [if_pos h1]
   rw [e]
   exact near_l1 objs c l hf m i hi r K d (t + 1) _ (by rw [List.length_set, hl]) (by omega)
  ·simp only [h2, ge_iff_le, if_neg (show ¬ (0 : Int) ≤ -1 by omega)]
   have e : markV objs.length out (rd_T44 objs (i : Int)).f2[t] = out := by unfold markV; rw [h1]; rfl
   rw [e]
   exact near_l1 objs c l hf m i hi r K d (t + 1) _ hl (by omega)
theorem near_l0 (objs : List S44) (c l : Int) (hf : Fine objs) (m : List Bool) (hm : m.length = objs.length) : ∀ (d i : Nat) (out : List Bool), out.length = objs.length → i + d = objs.length →
  Ev (fun k => anamnesisref04_near.l0 k m out i objs c l) (nearGo objs m d i out)
 | 0, i, out, hl, h => by
  apply ev_succ
  simp only [anamnesisref04_near.l0, if_neg (show ¬ (i : Int) < (objs.length : Int) by omega)]
  exact Ev.now _
 | d + 1, i, out, hl, h => by
  have hi : i < objs.length := by omega
  have hn := hf.n
  have K : ∀ out : List Bool, out.length = objs.length → Ev (fun k => anamnesisref04_near.l0 k m out (wrap64 ((i : Int) + 1)) objs c l) (nearGo objs m (objs.length - (i + 1)) (i + 1) out) := fun out hl => by
   rw [w64_succ (by omega), show objs.length - (i + 1) = d by omega]
   exact near_l0 objs c l hf m hm d (i + 1) out hl (by omega)
  apply ev_succ
  simp only [anamnesisref04_near.l0, if_pos (show (i : Int) < (objs.length : Int) by omega), if_pos (show (0 : Int) ≤ (i : Int) by omega), if_pos (show (i : Int) < (m.length : Int) by omega), rdB_at (show i < m.length by omega), rRef_eq, Option.bind_some]
  rw [nearGo]
  have hg : m.getD i false = m[i] := by simp [List.getD_eq_getElem?_getD, List.getElem?_eq_getElem (show i < m.length by omega)]
  rw [hg]
  cases hb : m[i]
  ·simp only [Bool.false_eq_true, if_false]
   rw [show d = objs.length - (i + 1) by omega]
   exact K out hl
  ·simp only [if_true]
   have hc := hf.cls i hi
   rcases refI_case objs.length (rd_T44 objs (i : Int)).f0 with ⟨h1, h2, h3, h4⟩ | ⟨h1, h2⟩
   ·simp only [h2, if_pos h3, if_pos (show (rd_T44 objs (i : Int)).f0 / 2 < (out.length : Int) by omega), List.foldl_cons]
    have e : markV objs.length out (rd_T44 objs (i : Int)).f0 = out.set ((rd_T44 objs (i : Int)).f0 / 2).toNat true := by unfold markV; rw [if_pos h1]
    rw [e, show d = objs.length - (i + 1) by omega]
    exact near_l1 objs c l hf m i hi [] K (rd_T44 objs (i : Int)).f2.length 0 _ (by rw [List.length_set, hl]) (by omega)
   ·rw [h1] at hc; cases hc
theorem near_ev (objs : List S44) (c l : Int) (hf : Fine objs) (m : List Bool) (hm : m.length = objs.length) : Ev (fun k => anamnesisref04_near.f k objs c l m) (nearS objs m) := by
 have hn := hf.n
 unfold anamnesisref04_near.f
 simp only [Option.bind_some, List.nil_append, List.length_nil, Nat.zero_add, if_pos (show m.length < 140737488355328 by omega)]
 exact near_l0 objs c l hf m hm _ 0 m hm (by omega)
theorem Live_l2 (m : List Bool) (hm : m.length ≤ 256) : ∀ (d i : Nat), i + d = m.length → Ev (fun k => anamnesisref04_Live.l2 k m (collectTo m i) i) (collectTo m m.length, 0)
 | 0, i, h => by
  apply ev_succ
  simp only [anamnesisref04_Live.l2, if_neg (show ¬ (i : Int) < (m.length : Int) by omega)]
  rw [show i = m.length by omega]
  exact Ev.now _
 | d + 1, i, h => by
  apply ev_succ
  have hc := collectTo_le m i
  simp only [anamnesisref04_Live.l2, if_pos (show (i : Int) < (m.length : Int) by omega), if_pos (show (0 : Int) ≤ (i : Int) by omega), if_pos (show (collectTo m i).length < 17592186044416 by omega)]
  rw [w64_succ (by omega)]
  have K := Live_l2 m hm d (i + 1) (by omega)
  cases hb : rdOf false m (i : Int)
  ·rw [collectTo_no hb] at K
   simp only [Bool.false_eq_true, if_false]; exact K
  ·rw [collectTo_yes hb] at K
   simp only [if_true]; exact K
theorem Live_l1 (objs : List S44) (c l : Int) (hf : Fine objs) : ∀ (d i : Nat) (m : List Bool), m.length = objs.length → i + d = objs.length → Ev (fun k => anamnesisref04_Live.l1 k m i objs c l) (collectTo (iter objs d m) objs.length, 0)
 | 0, i, m, hm, h => by
  have hn := hf.n
  apply ev_succ
  simp only [anamnesisref04_Live.l1, if_neg (show ¬ (i : Int) < (objs.length : Int) by omega)]
  rw [iter, ← hm]
  exact ev_is (Live_l2 m (by omega) m.length 0 (by omega)) rfl
 | d + 1, i, m, hm, h => by
  have hn := hf.n
  apply ev_succ
  simp only [anamnesisref04_Live.l1, if_pos (show (i : Int) < (objs.length : Int) by omega)]
  rw [w64_succ (by omega), iter]
  exact Ev.bind (near_ev objs c l hf m hm) (Live_l1 objs c l hf d (i + 1) _ (by rw [nearS_len, hm]) (by omega))
theorem Live_l0 (objs : List S44) (c l : Int) (hf : Fine objs) (roots : List Int) (hr : roots.length ≤ 17592186044416) : ∀ (d t : Nat) (m : List Bool), m.length = objs.length → t + d = roots.length →
  Ev (fun k => anamnesisref04_Live.l0 k roots m t objs c l) (if (roots.drop t).all (hasB objs.length) = true then (collectTo (iter objs objs.length ((roots.drop t).foldl (markV objs.length) m)) objs.length, 0) else ([], 31))
 | 0, t, m, hm, h => by
  rw [List.drop_eq_nil_of_le (by omega)]
  apply ev_succ
  simp only [anamnesisref04_Live.l0, if_neg (show ¬ (t : Int) < (roots.length : Int) by omega)]
  exact ev_is (Live_l1 objs c l hf objs.length 0 m hm (by omega)) rfl
 | d + 1, t, m, hm, h => by
  have ht : t < roots.length := by omega
  apply ev_succ
  simp only [anamnesisref04_Live.l0, if_pos (show (t : Int) < (roots.length : Int) by omega), if_pos (show (0 : Int) ≤ (t : Int) by omega), rHas_eq, rRef_eq, Option.bind_some, rd_at ht]
  rw [List.drop_eq_getElem_cons ht, List.all_cons, List.foldl_cons, w64_succ (by omega)]
  cases hh : hasB objs.length roots[t]
  ·simp only [Bool.false_eq_true, if_false, Bool.false_and]; exact Ev.now _
  ·simp only [if_true, Bool.true_and]
   rcases refI_case objs.length roots[t] with ⟨h1, h2, h3, h4⟩ | ⟨h1, h2⟩
   ·simp only [h2, ge_iff_le, if_pos h3, if_pos (show roots[t] / 2 < (m.length : Int) by omega)]
    have e : markV objs.length m roots[t] = m.set (roots[t] / 2).toNat true := by unfold markV; rw [if_pos h1]
    rw [e]
    exact Live_l0 objs c l hf roots hr d (t + 1) _ (by rw [List.length_set, hm]) (by omega)
   ·simp only [h2, ge_iff_le, if_neg (show ¬ (0 : Int) ≤ -1 by omega)]
    have e : markV objs.length m roots[t] = m := by unfold markV; rw [h1]; rfl
    rw [e]
    exact Live_l0 objs c l hf roots hr d (t + 1) _ hm (by omega)
theorem any_not {α : Type} {p : α → Bool} {l : List α} (h : (l.any fun x => !(p x)) = false) {x : α} (hx : x ∈ l) : p x = true := by
 rw [List.any_eq_false] at h
 have := h x hx
 simpa using this
theorem mayB_fine {objs : List S44} {c l : Int} (h : mayB objs c l = true) : Fine objs := by
 simp only [mayB, Bool.and_eq_true, decide_eq_true_eq] at h
 obtain ⟨⟨⟨⟨h1, h2⟩, h3⟩, h4⟩, h5⟩ := h
 have hx : ∀ i, i < objs.length → mayObj objs.length (rd_T44 objs (i : Int)) = true := fun i hi => by
  rw [rd_T44_at hi]
  exact any_not (p := mayObj objs.length) (by simpa using h5) (List.getElem_mem hi)
 refine ⟨by omega, fun i hi => ?_, fun i hi => ?_⟩
 ·have := hx i hi
  simp only [mayObj, Bool.and_eq_true] at this
  exact this.1.1.1.1
 ·have := hx i hi
  simp only [mayObj, Bool.and_eq_true, decide_eq_true_eq] at this
  have := this.2.1.1.1
  omega
def liveS (objs : List S44) (c l : Int) (roots : List Int) : List Int × Int :=
 if mayB objs c l = true then (if roots.all (hasB objs.length) = true then (collectTo (iter objs objs.length (roots.foldl (markV objs.length) (List.replicate objs.length false))) objs.length, 0) else ([], 31)) else ([], 1)
theorem rLive_ev (objs : List S44) (c l : Int) (roots : List Int) (hn : objs.length ≤ 17592186044416) (hx : ∀ x ∈ objs, FineObj x) (hr : roots.length ≤ 17592186044416) :
  Ev (fun k => anamnesisref04_Live.f k objs c l roots) (liveS objs c l roots) := by
 unfold anamnesisref04_Live.f liveS
 refine Ev.bind (May_ev objs c l hn hx) ?_
 cases hm : mayB objs c l
 ·simp only [Bool.false_eq_true, if_false]; exact Ev.now _
 ·have hf := mayB_fine hm
  have hn := hf.n
  simp only [if_true, if_pos (show (0 : Int) ≤ (objs.length : Int) by omega), Int.toNat_natCast, if_pos (show objs.length ≤ 281474976710656 by omega)]
  exact ev_is (Live_l0 objs c l hf roots hr roots.length 0 _ (by simp) (by omega)) rfl
end Go.Proofs.Ytlmejfcfdhinlaa.PMove
