import Derived.Test.YtlmejfcfdhinlaaSayMoveValues
import Derived.Test.YtlmejfcfdhinlaaPureJ
namespace Go.Proofs.Ytlmejfcfdhinlaa.Pure
open Go.RowKit Go.Proofs.YtlmejfcfdhinlaaW.PrintWords Go.Proofs.Ytlmejfcfdhinlaa.PMove
theorem MoveValues : anamnesislaw05_MoveValues.Pure := by
 intro objs c q roots x y h0 h1 h2
 obtain ⟨hn, hx⟩ := Ok24_fine h0
 have hr : roots.length ≤ 17592186044416 := by have := h1.1; omega
 have hfix : Ev (fun k => anamnesislaw05_MoveValues.j0 k roots true objs c q x y) true := by
  apply ev_succ
  simp only [anamnesislaw05_MoveValues.j0, if_true]
  exact Ev.bind fixed_ev (Ev.now _)
 have hgo : hasB objs.length x = true → hasB objs.length y = true → Ev (fun k => anamnesislaw05_MoveValues.j0 k roots false objs c q x y) true := fun hhx hhy => by
  apply ev_succ
  simp only [anamnesislaw05_MoveValues.j0, Bool.false_eq_true, if_false]
  refine Ev.bind (mTable_ev objs c q roots) (Ev.bind (rLive_ev objs c q roots hn hx hr) ?_)
  by_cases h3 : (liveS objs c q roots).2 = 0
  ·obtain ⟨hri, hn2, hle⟩ := live_rising h3
   have ht : tableS objs c q roots = (tabS (liveS objs c q roots).1 objs.length, 0) := by unfold tableS; rw [if_pos h3]
   rw [ht, h3]
   simp only [if_true, bne_self_eq_false]
   generalize (liveS objs c q roots).1 = l at *
   have hl : l.length ≤ 17592186044416 := by omega
   have px := val_told hri (by omega) hhx
   have py := val_told hri (by omega) hhy
   have pu := val_unlike hri (by omega) hhx hhy
   apply ev_succ
   simp only [anamnesislaw05_MoveValues.j1, Bool.false_eq_true, if_false, mValue_eq, rRef_eq, Option.bind_some]
   generalize valS (tabS l objs.length) x = vx at *
   generalize valS (tabS l objs.length) y = vy at *
   have fin : Ev (fun _ => if vx.2 = true then (if vy.2 = true then (some ((vx.1 == vy.1) == (x == y))) else (some true)) else (some true)) true := by
    cases hpx : vx.2
    ·simp only [Bool.false_eq_true, if_false]; exact Ev.now _
    ·cases hpy : vy.2
     ·simp only [Bool.false_eq_true, if_false, if_true]; exact Ev.now _
     ·simp only [if_true, pu hpx hpy]; exact Ev.now _
   by_cases ha : refI (objs.length : Int) x < 0
   ·have hpx : vx.2 = true := by rw [px]; simp [ha]
    simp only [if_pos ha, hpx, BEq.rfl, if_true]
    by_cases hb : refI (objs.length : Int) y < 0
    ·have hpy : vy.2 = true := by rw [py]; simp [hb]
     simp only [if_pos hb, hpy, BEq.rfl, if_true, pu hpx hpy]
     exact Ev.now _
    ·have hpy : vy.2 = decide (refI (objs.length : Int) y ∈ l) := by rw [py]; simp [hb]
     simp only [if_neg hb]
     refine Ev.bind (In_ev l _ hl) ?_
     simp only [← hpy, BEq.rfl, if_true]
     simpa only [hpx, if_true] using fin
   ·have hpx : vx.2 = decide (refI (objs.length : Int) x ∈ l) := by rw [px]; simp [ha]
    simp only [if_neg ha]
    refine Ev.bind (In_ev l _ hl) ?_
    simp only [← hpx, BEq.rfl, if_true]
    by_cases hb : refI (objs.length : Int) y < 0
    ·have hpy : vy.2 = true := by rw [py]; simp [hb]
     simp only [if_pos hb, hpy, BEq.rfl, if_true]
     simpa only [hpy, if_true] using fin
    ·have hpy : vy.2 = decide (refI (objs.length : Int) y ∈ l) := by rw [py]; simp [hb]
     simp only [if_neg hb]
     refine Ev.bind (In_ev l _ hl) ?_
     simp only [← hpy, BEq.rfl, if_true]
     exact fin
  ·have ht : (tableS objs c q roots).2 = (liveS objs c q roots).2 := by unfold tableS; rw [if_neg h3]
   simp only [ht, if_true]
   apply ev_succ
   have : ((liveS objs c q roots).2 != 0) = true := by simpa using h3
   simp only [anamnesislaw05_MoveValues.j1, this, if_true, BEq.rfl]
   exact Ev.now _
 refine Ev.rounds (g := fun k => anamnesislaw05_MoveValues.f k objs c q roots x y) ?_
 unfold anamnesislaw05_MoveValues.f
 refine Ev.bind fixed_ev ?_
 simp only [if_true]
 obtain ⟨b, h3, _⟩ := Small_ev objs c q hn hx
 refine Ev.bind h3 ?_
 cases b
 ·simp only [Bool.false_eq_true, if_false]; exact hfix
 ·simp only [if_true]
  refine Ev.bind (May_ev objs c q hn hx) ?_
  cases mayB objs c q
  ·simp only [Bool.false_eq_true, if_false]; exact hfix
  ·simp only [if_true]
   by_cases h4 : (objs.length : Int) > 40
   ·simp only [if_pos h4]; exact hfix
   ·simp only [if_neg h4]
    by_cases h5 : (roots.length : Int) > 100
    ·simp only [if_pos h5]; exact hfix
    ·simp only [if_neg h5, rHas_eq, Option.bind_some]
     cases hhx : hasB objs.length x
     ·simp only [Bool.false_eq_true, if_false]; exact hfix
     ·simp only [if_true]
      cases hhy : hasB objs.length y
      ·simp only [Bool.not_false]; exact hfix
      ·simp only [Bool.not_true]; exact hgo hhx hhy
end Go.Proofs.Ytlmejfcfdhinlaa.Pure
