import Derived.Test.YtlmejfcfdhinlaaSayMoveWays
import Derived.Test.YtlmejfcfdhinlaaPureI
namespace Go.Proofs.Ytlmejfcfdhinlaa.PMove
open Go.RowKit Go.Proofs.YtlmejfcfdhinlaaW.PrintWords Go.Proofs.YtlmejfcfdhinlaaW.PrintLast Go.Proofs.YtlmejfcfdhinlaaW.PrintMore
set_option linter.unusedVariables false
set_option linter.unusedSimpArgs false
def Rel (objs : List S44) (m : List Bool) (v w : Int) : Prop :=
 (isSmall v = true ∧ w = v) ∨ (isRef objs.length v = true ∧ ∃ k, ∃ hk : k < (collectTo m objs.length).length, (collectTo m objs.length)[k] = v / 2 ∧ w = 2 * (k : Int))
theorem Rel.of {objs : List S44} {m : List Bool} {v : Int}
  (h : (isSmall v = true ∧ valS (tabS (collectTo m objs.length) objs.length) v = (v, true)) ∨ (isRef objs.length v = true ∧ ∃ k, ∃ hk : k < (collectTo m objs.length).length, (collectTo m objs.length)[k] = v / 2 ∧ valS (tabS (collectTo m objs.length) objs.length) v = (2 * (k : Int), true))) :
  Rel objs m v (valS (tabS (collectTo m objs.length) objs.length) v).1 := by
 rcases h with ⟨a, b⟩ | ⟨a, k, hk, b, d⟩
 ·exact .inl ⟨a, by rw [b]⟩
 ·exact .inr ⟨a, k, hk, b, by rw [d]⟩
theorem refI_small {n : Nat} {v : Int} (h : isSmall v = true) : refI (n : Int) v = -1 := by
 rcases refI_case n v with ⟨h1, _⟩ | ⟨_, h2⟩
 ·rw [ref_small h1] at h; cases h
 ·exact h2
theorem refI_ref {n : Nat} {v : Int} (h : isRef n v = true) : refI (n : Int) v = v / 2 := by
 rcases refI_case n v with ⟨_, h2, _⟩ | ⟨h1, _⟩
 ·exact h2
 ·rw [h] at h1; cases h1
section
variable {objs : List S44} {c q : Int} {roots : List Int} {m : List Bool}
theorem Whole.pair (h : Whole objs c q roots m) {v w : Int} (hr : Rel objs m v w) (hs : isSmall v = false) :
  ∃ i k : Nat, i < objs.length ∧ k < (newObjs objs m).length ∧ mem m i ∧ refI (objs.length : Int) v = (i : Int) ∧ refI ((newObjs objs m).length : Int) w = (k : Int) ∧ rd_T44 (newObjs objs m) (k : Int) = movedObj (tabS (collectTo m objs.length) objs.length) (rd_T44 objs (i : Int)) := by
 rcases hr with ⟨a, _⟩ | ⟨a, k, hk, b, d⟩
 ·rw [hs] at a; cases a
 ·obtain ⟨i, hi, hlt, hm, e⟩ := new_at (objs := objs) m hk
  have hn : k < (newObjs objs m).length := by rw [newObjs_len]; exact hk
  refine ⟨i, k, hlt, hn, hm, ?_, ?_, e⟩
  ·rw [refI_ref a, ← b, hi]
  ·rw [d, refI_ref (isRef_two hn (by rw [newObjs_len]; have := h.le; have := h.n; omega))]; omega
theorem Whole.obj (h : Whole objs c q roots m) {i : Nat} (hm : mem m i) : Rel objs m (rd_T44 objs (i : Int)).f0 (valS (tabS (collectTo m objs.length) objs.length) (rd_T44 objs (i : Int)).f0).1 ∧ ∀ v ∈ (rd_T44 objs (i : Int)).f2, Rel objs m v (valS (tabS (collectTo m objs.length) objs.length) v).1 :=
 ⟨Rel.of (h.moves hm (by simp)), fun v hv => Rel.of (h.moves hm (List.mem_cons_of_mem _ hv))⟩
theorem Whole.ends (h : Whole objs c q roots m) (way : List Int) (hw : way.length ≤ 17592186044416) : ∀ (d i : Nat) (v w : Int), i + d = way.length → Rel objs m v w →
  ∃ r s, Ev (fun k => anamnesislaw05_end.l0 k v way i objs c q) r ∧ Ev (fun k => anamnesislaw05_end.l0 k w way i (newObjs objs m) c q) s ∧ r.2 = s.2 ∧ (r.2 = true → Rel objs m r.1 s.1) ∧ (r.2 = false → r.1 = s.1)
 | 0, i, v, w, hd, hr => by
  refine ⟨(v, true), (w, true), ?_, ?_, rfl, fun _ => hr, fun e => by cases e⟩ <;>
  ·apply ev_succ
   simp only [anamnesislaw05_end.l0, if_neg (show ¬ (i : Int) < (way.length : Int) by omega)]
   exact Ev.now _
 | d + 1, i, v, w, hd, hr => by
  have hi : i < way.length := by omega
  have hi2 : (i : Int) < (way.length : Int) := by omega
  cases hs : isSmall v
  ·obtain ⟨a, b, ha, hb, hm, e1, e2, e3⟩ := h.pair hr hs
   obtain ⟨ho1, ho2⟩ := h.obj hm
   have ha0 : ¬ (a : Int) < 0 := by omega
   have hb0 : ¬ (b : Int) < 0 := by omega
   have ha1 : (0 : Int) ≤ (a : Int) := by omega
   have hb1 : (0 : Int) ≤ (b : Int) := by omega
   have ha2 : (a : Int) < (objs.length : Int) := by omega
   have hb2 : (b : Int) < ((newObjs objs m).length : Int) := by omega
   have hi0 : (0 : Int) ≤ (i : Int) := by omega
   have step : ∀ v' w', Rel objs m v' w' → ∃ r s, Ev (fun k => anamnesislaw05_end.l0 k v' way (wrap64 ((i : Int) + 1)) objs c q) r ∧ Ev (fun k => anamnesislaw05_end.l0 k w' way (wrap64 ((i : Int) + 1)) (newObjs objs m) c q) s ∧ r.2 = s.2 ∧ (r.2 = true → Rel objs m r.1 s.1) ∧ (r.2 = false → r.1 = s.1) := by
    rw [w64_succ (by omega)]
    exact fun v' w' hr' => Whole.ends h way hw d (i + 1) v' w' (by omega) hr'
   have stop : ∃ r s : Int × Bool, Ev (fun _ => some ((0, false) : Int × Bool)) r ∧ Ev (fun _ => some ((0, false) : Int × Bool)) s ∧ r.2 = s.2 ∧ (r.2 = true → Rel objs m r.1 s.1) ∧ (r.2 = false → r.1 = s.1) := ⟨(0, false), (0, false), Ev.now _, Ev.now _, rfl, fun e => (by cases e), fun _ => rfl⟩
   have lift : ∀ {g g' : Nat → Option (Int × Bool)}, (∀ k, anamnesislaw05_end.l0 (k + 1) v way i objs c q = g k) → (∀ k, anamnesislaw05_end.l0 (k + 1) w way i (newObjs objs m) c q = g' k) → (∃ r s, Ev g r ∧ Ev g' s ∧ r.2 = s.2 ∧ (r.2 = true → Rel objs m r.1 s.1) ∧ (r.2 = false → r.1 = s.1)) → ∃ r s, Ev (fun k => anamnesislaw05_end.l0 k v way i objs c q) r ∧ Ev (fun k => anamnesislaw05_end.l0 k w way i (newObjs objs m) c q) s ∧ r.2 = s.2 ∧ (r.2 = true → Rel objs m r.1 s.1) ∧ (r.2 = false → r.1 = s.1) := by
    rintro g g' h1 h2 ⟨r, s, h3, h4, h5⟩
    exact ⟨r, s, Ev.step h1 h3, Ev.step h2 h4, h5⟩
   by_cases hc : way[i] = -1
   ·refine lift (g := fun k => anamnesislaw05_end.l0 k (rd_T44 objs (a : Int)).f0 way (wrap64 ((i : Int) + 1)) objs c q) (g' := fun k => anamnesislaw05_end.l0 k (valS (tabS (collectTo m objs.length) objs.length) (rd_T44 objs (a : Int)).f0).1 way (wrap64 ((i : Int) + 1)) (newObjs objs m) c q) (fun k => ?_) (fun k => ?_) (step _ _ ho1)
    ·simp only [anamnesislaw05_end.l0, if_pos hi2, rRef_eq, Option.bind_some, e1, if_neg ha0, if_pos ha1, if_pos ha2, if_pos hi0, rd_at hi, if_pos hc]
    ·simp only [anamnesislaw05_end.l0, if_pos hi2, rRef_eq, Option.bind_some, e2, if_neg hb0, if_pos hb1, if_pos hb2, if_pos hi0, rd_at hi, if_pos hc, e3, movedObj]
   ·have el : ((movedObj (tabS (collectTo m objs.length) objs.length) (rd_T44 objs (a : Int))).f2.length : Int) = ((rd_T44 objs (a : Int)).f2.length : Int) := by simp [movedObj, valsS]
    by_cases hd0 : way[i] < 0
    ·refine lift (g := fun k => some (0, false)) (g' := fun k => some (0, false)) (fun k => ?_) (fun k => ?_) stop
     ·simp only [anamnesislaw05_end.l0, if_pos hi2, rRef_eq, Option.bind_some, e1, if_neg ha0, if_pos ha1, if_pos ha2, if_pos hi0, rd_at hi, if_neg hc, if_pos hd0]
     ·simp only [anamnesislaw05_end.l0, if_pos hi2, rRef_eq, Option.bind_some, e2, if_neg hb0, if_pos hb1, if_pos hb2, if_pos hi0, rd_at hi, if_neg hc, if_pos hd0]
    ·by_cases hd1 : way[i] ≥ ((rd_T44 objs (a : Int)).f2.length : Int)
     ·refine lift (g := fun k => some (0, false)) (g' := fun k => some (0, false)) (fun k => ?_) (fun k => ?_) stop
      ·simp only [anamnesislaw05_end.l0, if_pos hi2, rRef_eq, Option.bind_some, e1, if_neg ha0, if_pos ha1, if_pos ha2, if_pos hi0, rd_at hi, if_neg hc, if_neg hd0, if_pos hd1]
      ·simp only [anamnesislaw05_end.l0, if_pos hi2, rRef_eq, Option.bind_some, e2, if_neg hb0, if_pos hb1, if_pos hb2, if_pos hi0, rd_at hi, if_neg hc, if_neg hd0, e3, el, if_pos hd1]
     ·obtain ⟨j, hj⟩ : ∃ j : Nat, way[i] = (j : Int) := ⟨way[i].toNat, by omega⟩
      have hj1 : j < (rd_T44 objs (a : Int)).f2.length := by omega
      have hd2 : (0 : Int) ≤ way[i] := by omega
      have hd3 : way[i] < ((rd_T44 objs (a : Int)).f2.length : Int) := by omega
      have er : rd (movedObj (tabS (collectTo m objs.length) objs.length) (rd_T44 objs (a : Int))).f2 way[i] = (valS (tabS (collectTo m objs.length) objs.length) (rd (rd_T44 objs (a : Int)).f2 way[i])).1 := by
       rw [hj, rd_at hj1, rd_at (by simpa [movedObj, valsS] using hj1)]
       simp [movedObj, valsS]
      refine lift (g := fun k => anamnesislaw05_end.l0 k (rd (rd_T44 objs (a : Int)).f2 way[i]) way (wrap64 ((i : Int) + 1)) objs c q) (g' := fun k => anamnesislaw05_end.l0 k (valS (tabS (collectTo m objs.length) objs.length) (rd (rd_T44 objs (a : Int)).f2 way[i])).1 way (wrap64 ((i : Int) + 1)) (newObjs objs m) c q) (fun k => ?_) (fun k => ?_) (step _ _ (ho2 (rd (rd_T44 objs (a : Int)).f2 way[i]) (by rw [hj, rd_at hj1]; exact List.getElem_mem hj1)))
      ·simp only [anamnesislaw05_end.l0, if_pos hi2, rRef_eq, Option.bind_some, e1, if_neg ha0, if_pos ha1, if_pos ha2, if_pos hi0, rd_at hi, if_neg hc, if_neg hd0, if_neg hd1, if_pos hd2, if_pos hd3]
      ·simp only [anamnesislaw05_end.l0, if_pos hi2, rRef_eq, Option.bind_some, e2, if_neg hb0, if_pos hb1, if_pos hb2, if_pos hi0, rd_at hi, if_neg hc, if_neg hd0, e3, el, if_neg hd1, if_pos hd2, if_pos hd3, er]
  ·have hwv : w = v := by
    rcases hr with ⟨_, b⟩ | ⟨a, _⟩
    ·exact b
    ·rw [ref_small a] at hs; cases hs
   subst hwv
   refine ⟨(0, false), (0, false), ?_, ?_, rfl, (fun e => by cases e), fun _ => rfl⟩ <;>
   ·apply ev_succ
    simp only [anamnesislaw05_end.l0, if_pos hi2, rRef_eq, Option.bind_some, refI_small hs, if_pos (show (-1 : Int) < 0 by decide)]
    exact Ev.now _
theorem Whole.ways (h : Whole objs c q roots m) (way : List Int) (hw : way.length ≤ 17592186044416) (hrl : roots.length ≤ 17592186044416) : ∀ (d i : Nat), i + d = roots.length →
  Ev (fun k => anamnesislaw05_MoveWays.l0 k roots way (newRoots objs roots m) i objs c q (newObjs objs m) c q) true
 | 0, i, hd => by
  apply ev_succ
  simp only [anamnesislaw05_MoveWays.l0, if_neg (show ¬ (i : Int) < (roots.length : Int) by omega)]
  exact Ev.now _
 | d + 1, i, hd => by
  have hi : i < roots.length := by omega
  have hl : (newRoots objs roots m).length = roots.length := by simp [newRoots, valsS]
  have er : rd (newRoots objs roots m) (i : Int) = (valS (tabS (collectTo m objs.length) objs.length) roots[i]).1 := by
   rw [rd_at (by rw [hl]; exact hi)]; simp [newRoots, valsS]
  obtain ⟨r, s, h1, h2, h3, h4, h5⟩ := h.ends way hw way.length 0 roots[i] _ (by omega) (Rel.of (h.root (List.getElem_mem hi)))
  have next : Ev (fun k => anamnesislaw05_MoveWays.l0 k roots way (newRoots objs roots m) (wrap64 ((i : Int) + 1)) objs c q (newObjs objs m) c q) true := by
   rw [w64_succ (by omega)]
   exact Whole.ways h way hw hrl d (i + 1) (by omega)
  apply ev_succ
  simp only [anamnesislaw05_MoveWays.l0, if_pos (show (i : Int) < (roots.length : Int) by omega), hl, if_true, if_pos (show (0 : Int) ≤ (i : Int) by omega), rd_at hi, er]
  have h1' : Ev (fun k => anamnesislaw05_end.f k objs c q roots[i] way) r := h1
  have h2' : Ev (fun k => anamnesislaw05_end.f k (newObjs objs m) c q (valS (tabS (collectTo m objs.length) objs.length) roots[i]).1 way) s := h2
  refine Ev.bind h1' (Ev.bind h2' ?_)
  have e6 : (r.2 != s.2) = false := by rw [h3]; simp
  simp only [e6, Bool.false_eq_true, if_false, rN_eq, Option.bind_some]
  cases hr2 : r.2
  ·simp only [Bool.false_eq_true, if_false]
   apply ev_succ
   simp only [anamnesislaw05_MoveWays.j2, if_true, if_pos (h5 hr2)]
   exact next
  ·simp only [if_true]
   have hr := h4 hr2
   cases hs : isSmall r.1
   ·obtain ⟨a, b, ha, hb, hm, e1, e2, e3⟩ := h.pair hr hs
    have el : ((movedObj (tabS (collectTo m objs.length) objs.length) (rd_T44 objs (a : Int))).f2.length : Int) = ((rd_T44 objs (a : Int)).f2.length : Int) := by simp [movedObj, valsS]
    apply ev_succ
    simp only [anamnesislaw05_MoveWays.j2, Bool.false_eq_true, if_false, rRef_eq, Option.bind_some, e1, e2, if_pos (show (0 : Int) ≤ (a : Int) by omega), if_pos (show (a : Int) < (objs.length : Int) by omega), if_neg (show ¬ (b : Int) < 0 by omega), if_pos (show (0 : Int) ≤ (b : Int) by omega), if_pos (show (b : Int) < ((newObjs objs m).length : Int) by omega), e3, el]
    simp only [movedObj, if_true]
    exact next
   ·have hwv : s.1 = r.1 := by
     rcases hr with ⟨_, b⟩ | ⟨a, _⟩
     ·exact b
     ·rw [ref_small a] at hs; cases hs
    simp only [if_true]
    apply ev_succ
    simp only [anamnesislaw05_MoveWays.j2, if_true, hwv]
    exact next
end
end Go.Proofs.Ytlmejfcfdhinlaa.PMove
namespace Go.Proofs.Ytlmejfcfdhinlaa.Pure
open Go.RowKit Go.Proofs.YtlmejfcfdhinlaaW.PrintWords Go.Proofs.Ytlmejfcfdhinlaa.PMove
theorem MoveWays : anamnesislaw05_MoveWays.Pure := by
 intro objs c q roots way h0 h1 h9
 obtain ⟨hn, hx⟩ := Ok24_fine h0
 have hr : roots.length ≤ 17592186044416 := by have := h1.1; omega
 have hw : way.length ≤ 17592186044416 := by have := h9.1; omega
 have hgo : Ev (fun k => anamnesislaw05_MoveWays.j0 k roots way false objs c q) true := by
  apply ev_succ
  simp only [anamnesislaw05_MoveWays.j0, Bool.false_eq_true, if_false]
  refine Ev.bind (mCompact_ev objs c q roots hx hr) ?_
  rcases compactS_form objs c q roots with ⟨h2, h3, _⟩ | ⟨h2, h3, h4⟩
  ·obtain ⟨m, hwh, hm⟩ := whole_of h2
   have h5 : compactS objs c q roots = (newObjs objs m, c, q, newRoots objs roots m, 0) := by rw [h3, hm]; rfl
   rw [h5]
   simp only [if_true]
   exact hwh.ways way hw hr roots.length 0 (by omega)
  ·rw [h3]
   simp only [if_neg h2]
   exact Ev.now _
 have hb : ∀ b : Bool, Ev (fun k => anamnesislaw05_MoveWays.j0 k roots way b objs c q) true := fun b => by
  cases b
  ·exact hgo
  ·apply ev_succ
   simp only [anamnesislaw05_MoveWays.j0, if_true]
   exact Ev.bind fixed_ev (Ev.now _)
 refine Ev.rounds (g := fun k => anamnesislaw05_MoveWays.f k objs c q roots way) ?_
 unfold anamnesislaw05_MoveWays.f
 refine Ev.bind fixed_ev ?_
 simp only [if_true]
 obtain ⟨b, h3, _⟩ := Small_ev objs c q hn hx
 refine Ev.bind h3 ?_
 cases b
 ·simp only [Bool.false_eq_true, if_false]; exact hb true
 ·simp only [if_true]
  refine Ev.bind (May_ev objs c q hn hx) ?_
  cases mayB objs c q
  ·simp only [Bool.false_eq_true, if_false]; exact hb true
  ·simp only [if_true]
   by_cases h4 : (objs.length : Int) > 40
   ·simp only [if_pos h4]; exact hb true
   ·simp only [if_neg h4]
    by_cases h5 : (roots.length : Int) > 100
    ·simp only [if_pos h5]; exact hb true
    ·simp only [if_neg h5]; exact hb _
end Go.Proofs.Ytlmejfcfdhinlaa.Pure
