import Derived.Test.YtlmejfcfdhinlaaSayMoveRoom
import Derived.Test.YtlmejfcfdhinlaaPureH
namespace Go.Proofs.Ytlmejfcfdhinlaa.PMove
open Go.RowKit Go.Proofs.YtlmejfcfdhinlaaW.PrintWords Go.Proofs.YtlmejfcfdhinlaaW.PrintLast Go.Proofs.YtlmejfcfdhinlaaW.PrintMore
set_option linter.unusedVariables false
set_option linter.unusedSimpArgs false
theorem room_loop (objs : List S44) (c q : Int) (l : List Int) (hr : Rising l objs.length) (hn : l.length ≤ 256) (t : List Int) : ∀ (d i : Nat), i + d = l.length →
  Ev (fun k => anamnesislaw05_MoveRoom.l0 k l 0 i objs c q (l.map fun x => movedObj t (rd_T44 objs x)) c q) true
 | 0, i, h => by
  apply ev_succ
  simp only [anamnesislaw05_MoveRoom.l0, if_neg (show ¬ (i : Int) < (l.length : Int) by omega), if_true, BEq.rfl]
  exact Ev.now _
 | d + 1, i, h => by
  have hi : i < l.length := by omega
  have hx := hr.lt l[i] (List.getElem_mem hi)
  have e : rd_T44 (l.map fun x => movedObj t (rd_T44 objs x)) (i : Int) = movedObj t (rd_T44 objs l[i]) := by
   rw [rd_T44_at (by rw [List.length_map]; exact hi)]; simp
  have m1 : ∀ x, (movedObj t x).f1 = x.f1 := fun _ => rfl
  have m2 : ∀ x, (movedObj t x).f2.length = x.f2.length := fun _ => by simp [movedObj, valsS]
  have m3 : ∀ x, (movedObj t x).f3 = x.f3 := fun _ => rfl
  have m4 : ∀ x, (movedObj t x).f4 = x.f4 := fun _ => rfl
  have m5 : ∀ x, (movedObj t x).f5 = x.f5 := fun _ => rfl
  apply ev_succ
  simp only [anamnesislaw05_MoveRoom.l0, if_pos (show (i : Int) < (l.length : Int) by omega), if_pos (show (0 : Int) ≤ (i : Int) by omega), rd_at hi, if_pos hx.1, if_pos hx.2, List.length_map, e, m1, m2, m3, m4, m5, if_true]
  rw [w64_succ (by omega)]
  exact room_loop objs c q l hr hn t d (i + 1) (by omega)
end Go.Proofs.Ytlmejfcfdhinlaa.PMove
namespace Go.Proofs.Ytlmejfcfdhinlaa.Pure
open Go.RowKit Go.Proofs.YtlmejfcfdhinlaaW.PrintWords Go.Proofs.Ytlmejfcfdhinlaa.PMove
theorem MoveRoom : anamnesislaw05_MoveRoom.Pure := by
 intro objs c q roots h0 h1
 obtain ⟨hn, hx⟩ := Ok24_fine h0
 have hr : roots.length ≤ 17592186044416 := by have := h1.1; omega
 have hgo : Ev (fun k => anamnesislaw05_MoveRoom.j0 k roots false objs c q) true := by
  apply ev_succ
  simp only [anamnesislaw05_MoveRoom.j0, Bool.false_eq_true, if_false]
  refine Ev.bind (rLive_ev objs c q roots hn hx hr) (Ev.bind (mCompact_ev objs c q roots hx hr) ?_)
  rcases compactS_form objs c q roots with ⟨h2, h3, h4⟩ | ⟨h2, h3, h4⟩
  ·obtain ⟨h5, h6, h7⟩ := live_rising h2
   rw [h3]
   simp only [h2, if_true, List.length_map]
   exact ev_is (room_loop objs c q _ h5 (by omega) _ (liveS objs c q roots).1.length 0 (by omega)) rfl
  ·rw [h3]
   simp only [h4, if_true, List.length_nil]
   apply ev_succ
   simp only [anamnesislaw05_MoveRoom.l0, List.length_nil, if_neg (show ¬ (0 : Int) < ((0 : Nat) : Int) by omega), if_neg h2]
   exact Ev.now _
 have hb : ∀ b : Bool, Ev (fun k => anamnesislaw05_MoveRoom.j0 k roots b objs c q) true := fun b => by
  cases b
  ·exact hgo
  ·apply ev_succ
   simp only [anamnesislaw05_MoveRoom.j0, if_true]
   exact Ev.bind fixed_ev (Ev.now _)
 refine Ev.rounds (g := fun k => anamnesislaw05_MoveRoom.f k objs c q roots) ?_
 unfold anamnesislaw05_MoveRoom.f
 refine Ev.bind fixed_ev ?_
 simp only [if_true]
 obtain ⟨b, h3, _⟩ := Small_ev objs c q hn hx
 refine Ev.bind h3 ?_
 cases b
 ·simp only [Bool.false_eq_true, if_false]; exact hb true
 ·simp only [if_true]
  refine Ev.bind (May_ev objs c q hn hx) ?_
  cases mayB objs c q
  ·simp only [Bool.false_eq_true, if_false]; exact hb true
  ·simp only [if_true]
   by_cases h4 : (objs.length : Int) > 40
   ·simp only [if_pos h4]; exact hb true
   ·simp only [if_neg h4]; exact hb _
end Go.Proofs.Ytlmejfcfdhinlaa.Pure
