import Derived.Test.YtlmejfcfdhinlaaSayMoveWhole
import Derived.Test.YtlmejfcfdhinlaaPureI
namespace Go.Proofs.Ytlmejfcfdhinlaa.PMove
open Go.RowKit Go.Proofs.YtlmejfcfdhinlaaW.PrintWords Go.Proofs.YtlmejfcfdhinlaaW.PrintLast Go.Proofs.YtlmejfcfdhinlaaW.PrintMore
set_option linter.unusedVariables false
set_option linter.unusedSimpArgs false
theorem newObjs_fine {objs : List S44} (hx : ∀ x ∈ objs, FineObj x) (m : List Bool) : ∀ x ∈ newObjs objs m, FineObj x := by
 intro x hx1
 obtain ⟨k, hk, rfl⟩ := List.getElem_of_mem hx1
 rw [← rd_T44_at hk]
 obtain ⟨i, hi, hlt, hmi, e⟩ := new_at (objs := objs) m (by rw [newObjs_len] at hk; exact hk)
 rw [e, rd_T44_at hlt]
 obtain ⟨h1, h2, h3⟩ := hx _ (List.getElem_mem hlt)
 exact ⟨h1, by simpa [movedObj, valsS] using h2, h3⟩
end Go.Proofs.Ytlmejfcfdhinlaa.PMove
namespace Go.Proofs.Ytlmejfcfdhinlaa.Pure
open Go.RowKit Go.Proofs.YtlmejfcfdhinlaaW.PrintWords Go.Proofs.Ytlmejfcfdhinlaa.PMove
theorem MoveWhole : anamnesislaw05_MoveWhole.Pure := by
 intro objs c q roots h0 h1
 obtain ⟨hn, hx⟩ := Ok24_fine h0
 have hr : roots.length ≤ 17592186044416 := by have := h1.1; omega
 have hgo : Ev (fun k => anamnesislaw05_MoveWhole.j0 k roots false objs c q) true := by
  apply ev_succ
  simp only [anamnesislaw05_MoveWhole.j0, Bool.false_eq_true, if_false]
  refine Ev.bind (mCompact_ev objs c q roots hx hr) ?_
  rcases compactS_form objs c q roots with ⟨h2, h3, _⟩ | ⟨h2, h3, h4⟩
  ·obtain ⟨m, hw, hm⟩ := whole_of h2
   have h5 : compactS objs c q roots = (newObjs objs m, c, q, newRoots objs roots m, 0) := by rw [h3, hm]; rfl
   have hl : (newObjs objs m).length ≤ 256 := by rw [newObjs_len]; have := hw.le; have := hw.n; omega
   have hf := newObjs_fine hx m
   have hr2 : (newRoots objs roots m).length ≤ 17592186044416 := by simpa [newRoots, valsS] using hr
   rw [h5]
   simp only [if_true]
   refine Ev.bind (rLive_ev _ c q _ (by omega) hf hr2) (Ev.bind (mCompact_ev _ c q _ hf hr2) (Ev.bind (May_ev _ c q (by omega) hf) ?_))
   rw [hw.newMay, hw.newLive, hw.newCompact]
   simp only [if_true, List.length_map, List.length_range]
   refine Ev.bind (Same_ev _ c q (by omega) (fun x h => (hf x h).2.1)) ?_
   simp only [if_true]
   exact Ev.bind (Ints_ev _ hr2) (Ev.now _)
  ·rw [h3]
   simp only [if_neg h2, List.length_nil, Int.ofNat_zero, if_true]
   exact Ev.bind (Same_ev [] 0 0 (by simp) (by simp)) (Ev.now _)
 have hb : ∀ b : Bool, Ev (fun k => anamnesislaw05_MoveWhole.j0 k roots b objs c q) true := fun b => by
  cases b
  ·exact hgo
  ·apply ev_succ
   simp only [anamnesislaw05_MoveWhole.j0, if_true]
   exact Ev.bind fixed_ev (Ev.now _)
 refine Ev.rounds (g := fun k => anamnesislaw05_MoveWhole.f k objs c q roots) ?_
 unfold anamnesislaw05_MoveWhole.f
 refine Ev.bind fixed_ev ?_
 simp only [if_true]
 obtain ⟨b, h3, _⟩ := Small_ev objs c q hn hx
 refine Ev.bind h3 ?_
 cases b
 ·simp only [Bool.false_eq_true, if_false]; exact hb true
 ·simp only [if_true]
  refine Ev.bind (May_ev objs c q hn hx) ?_
  cases mayB objs c q
  ·simp only [Bool.false_eq_true, if_false]; exact hb true
  ·simp only [if_true]
   by_cases h4 : (objs.length : Int) > 40
   ·simp only [if_pos h4]; exact hb true
   ·simp only [if_neg h4]; exact hb _
end Go.Proofs.Ytlmejfcfdhinlaa.Pure
