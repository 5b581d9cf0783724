import Derived.Test.YtednpcfhefibdaaSaySnapBack
import Derived.Test.YtednpcfhefibdaaPureG
namespace Go.Proofs.Ytednpcfhefibdaa.PSnap
open Go.RowKit Go.Proofs.YtednpcfhefibdaaW.PrintWords Go.Proofs.YtednpcfhefibdaaW.PrintLast Go.Proofs.YtednpcfhefibdaaW.PrintMore
set_option linter.unusedVariables false
set_option linter.unusedSimpArgs false
theorem encS_no {objs : List S41} {c q : Int} {roots : List Int} (h : mayR objs c q roots = false) : encS objs c q roots = ⟨#[]⟩ := by
 unfold encS
 rw [h, if_neg Bool.false_ne_true]
theorem encS_yes {objs : List S41} {c q : Int} {roots : List Int} (h : mayR objs c q roots = true) : ¬ (encS objs c q roots).toList = [] := by
 intro h2
 have h3 := congrArg ByteArray.size (BA_nil h2)
 obtain ⟨h4, _⟩ := encS_size h
 have h5 : (⟨#[]⟩ : ByteArray).size = 0 := rfl
 omega
theorem back_j2 (objs : List S41) (c q : Int) (roots : List Int) (hn : objs.length ≤ 17592186044416) (hx : ∀ x ∈ objs, FineObj x) (hr : roots.length ≤ 17592186044416) : Ev (fun k => anamnesislaw08_SnapBack.j2 k roots false objs c q) true := by
 apply ev_succ
 simp only [anamnesislaw08_SnapBack.j2, Bool.false_eq_true, if_false]
 refine Ev.bind (Encode_ev objs c q roots) ?_
 cases h : mayR objs c q roots
 ·rw [encS_no h]
  have he : (⟨#[]⟩ : ByteArray).toList = [] := by rw [BA_toList]
  simp only [he, if_true]
  exact Ev.bind (rMay_ev objs c q roots hn hx hr) (ev_is (Ev.now _) (by rw [h]; rfl))
 ·simp only [if_neg (encS_yes h)]
  obtain ⟨h1, h2, h3⟩ := fine_of h (fun x hm => (hx x hm).1)
  obtain ⟨h4, h5, _⟩ := encS_size h
  refine Ev.bind (Decode_ev _ (by omega)) ?_
  rw [decS_enc h (fun x hm => (hx x hm).1)]
  simp only [if_true]
  refine Ev.bind (Same_ev objs c q hn (fun x hm => (hx x hm).2.1)) ?_
  simp only [if_true]
  exact Ev.bind (Ints_ev roots hr) (Ev.now _)
end Go.Proofs.Ytednpcfhefibdaa.PSnap
namespace Go.Proofs.Ytednpcfhefibdaa.Pure
open Go.RowKit Go.Proofs.YtednpcfhefibdaaW.PrintWords Go.Proofs.Ytednpcfhefibdaa.PSnap
theorem SnapBack : anamnesislaw08_SnapBack.Pure := by
 intro objs c q roots s h0 h1 h2
 obtain ⟨hn, hx⟩ := Ok24_fine h0
 have hr : roots.length ≤ 17592186044416 := by have := h1.1; omega
 have hj := back_j2 objs c q roots hn hx hr
 have hgo : s.size ≤ 3000 → Ev (fun k => anamnesislaw08_SnapBack.j0 k roots s false objs c q) true := fun hs => by
  apply ev_succ
  simp only [anamnesislaw08_SnapBack.j0, Bool.false_eq_true, if_false]
  refine Ev.bind (Decode_ev s (by omega)) ?_
  rcases decS_cases s with ⟨o, c2, q2, r2, h3, h4, h5, h6⟩ | ⟨e, h3, h4⟩
  ·obtain ⟨h7, h8, h9⟩ := fine_of h4 h5
   rw [h3]
   simp only [if_true]
   refine Ev.bind (rMay_ev o c2 q2 r2 (by omega) (fun x hm => (h9 x hm).1) (by omega)) ?_
   simp only [h4, if_true]
   refine Ev.bind (Encode_ev o c2 q2 r2) ?_
   rw [h6]
   apply ev_succ
   simp only [anamnesislaw08_SnapBack.j1, bne_self_eq_false, Bool.false_eq_true, if_false, if_true]
   exact hj
  ·rw [h4]
   simp only [if_neg h3]
   apply ev_succ
   simp only [anamnesislaw08_SnapBack.j1, Bool.false_eq_true, if_false, if_neg h3, List.length_nil, show ¬ (((0 : Nat) : Int) > 0) by decide]
   refine Ev.bind (Same_ev [] 0 0 (by decide) (by decide)) ?_
   exact hj
 have hb : Ev (fun k => anamnesislaw08_SnapBack.j0 k roots s true objs c q) true := by
  apply ev_succ
  simp only [anamnesislaw08_SnapBack.j0, if_true]
  exact Ev.bind fixed_ev (Ev.now _)
 refine Ev.rounds (g := fun k => anamnesislaw08_SnapBack.f k objs c q roots s) ?_
 unfold anamnesislaw08_SnapBack.f
 refine Ev.bind fixed_ev ?_
 simp only [if_true]
 obtain ⟨b, h3, _⟩ := Small_ev objs c q hn hx
 refine Ev.bind h3 ?_
 cases b
 ·simp only [Bool.false_eq_true, if_false]; exact hb
 ·simp only [if_true]
  by_cases h5 : (roots.length : Int) > 100
  ·simp only [if_pos h5]; exact hb
  ·simp only [if_neg h5]
   by_cases h6 : (s.size : Int) > 3000
   ·simp only [decide_eq_true h6]; exact hb
   ·simp only [decide_eq_false h6]; exact hgo (by omega)
end Go.Proofs.Ytednpcfhefibdaa.Pure
