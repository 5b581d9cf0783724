import Derived.Test.YtednpcfhefibdaaSaySnapSizes
import Derived.Test.YtednpcfhefibdaaPureE
namespace Go.Proofs.Ytednpcfhefibdaa.PSnap
open Go.RowKit Go.Proofs.YtednpcfhefibdaaW.PrintWords Go.Proofs.YtednpcfhefibdaaW.PrintLast Go.Proofs.YtednpcfhefibdaaW.PrintMore
set_option linter.unusedVariables false
set_option linter.unusedSimpArgs false
theorem sizesO_cons (x : S41) (l : List S41) : sizesO (x :: l) = sizeO x + sizesO l := by simp [sizesO]
theorem encS_size {objs : List S41} {cap last : Int} {roots : List Int} (h : mayR objs cap last roots = true) : (encS objs cap last roots).size = 23 + sizesO objs + 4 * roots.length ∧ sizesO objs ≤ 102400 ∧ roots.length ≤ 64 := by
 obtain ⟨h1, h2, _⟩ := mayR_B h
 obtain ⟨h3, h4⟩ := encB_len (roots := roots) h1
 refine ⟨?_, h4, h2⟩
 unfold encS
 rw [if_pos h, ByteArray.size_append, sumB_size]
 show (encB objs cap last roots).toArray.size + 4 = _
 rw [List.size_toArray, h3]
 omega
theorem sizes_loop (objs : List S41) (c q : Int) (roots : List Int) (h : mayR objs c q roots = true) : ∀ (d i a : Nat), i + d = objs.length → a + sizesO (objs.drop i) = 23 + sizesO objs + 4 * roots.length →
  Ev (fun k => anamnesislaw08_SnapSizes.l0 k roots (a : Int) i objs c q) true
 | 0, i, a, hi, ha => by
  obtain ⟨h1, h2, h3⟩ := encS_size h
  have h5 : sizesO ([] : List S41) = 0 := rfl
  rw [List.drop_eq_nil_of_le (by omega), h5] at ha
  apply ev_succ
  simp only [anamnesislaw08_SnapSizes.l0, if_neg (show ¬ (i : Int) < (objs.length : Int) by omega)]
  refine Ev.bind (Encode_ev objs c q roots) ?_
  rw [h1]
  exact ev_is (Ev.now _) (by rw [show 23 + sizesO objs + 4 * roots.length = a by omega]; simp)
 | d + 1, i, a, hi, ha => by
  obtain ⟨h1, h2, h3⟩ := encS_size h
  obtain ⟨h4, _, _⟩ := mayR_B h
  have hl : i < objs.length := by omega
  have hm := mayObj_of h4 hl
  obtain ⟨_, h6, h7⟩ := objB_len hm
  rw [List.drop_eq_getElem_cons hl, sizesO_cons, ← rd_T41_at hl] at ha
  apply ev_succ
  simp only [anamnesislaw08_SnapSizes.l0, if_pos (show (i : Int) < (objs.length : Int) by omega), if_pos (show (0 : Int) ≤ (i : Int) by omega)]
  rw [w64_succ (by have := mayB_len h4; omega)]
  generalize hx : rd_T41 objs (i : Int) = x at *
  unfold sizeO at ha
  rw [w64 (n := 4 * (x.f2.length : Int)) (by omega) (by omega), w64 (n := 16 + 4 * (x.f2.length : Int)) (by omega) (by omega), w64 (n := 16 + 4 * (x.f2.length : Int) + (x.f3.size : Int)) (by omega) (by omega)]
  by_cases hk : x.f1 = 2
  ·rw [if_pos hk] at ha
   simp only [if_pos hk]
   rw [w64 (n := (a : Int) + _) (by omega) (by omega), w64 (by omega) (by omega), show (a : Int) + (16 + 4 * (x.f2.length : Int) + (x.f3.size : Int)) + 4 = ((a + 16 + 4 * x.f2.length + x.f3.size + 4 : Nat) : Int) by omega]
   exact sizes_loop objs c q roots h d (i + 1) _ (by omega) (by omega)
  ·rw [if_neg hk] at ha
   simp only [if_neg hk]
   rw [w64 (n := (a : Int) + _) (by omega) (by omega), show (a : Int) + (16 + 4 * (x.f2.length : Int) + (x.f3.size : Int)) = ((a + 16 + 4 * x.f2.length + x.f3.size : Nat) : Int) by omega]
   exact sizes_loop objs c q roots h d (i + 1) _ (by omega) (by omega)
end Go.Proofs.Ytednpcfhefibdaa.PSnap
namespace Go.Proofs.Ytednpcfhefibdaa.Pure
open Go.RowKit Go.Proofs.YtednpcfhefibdaaW.PrintWords Go.Proofs.Ytednpcfhefibdaa.PSnap
theorem SnapSizes : anamnesislaw08_SnapSizes.Pure := by
 intro objs c q roots h0 h1
 obtain ⟨hn, hx⟩ := Ok24_fine h0
 have hr : roots.length ≤ 17592186044416 := by have := h1.1; omega
 have hgo : mayR objs c q roots = true → Ev (fun k => anamnesislaw08_SnapSizes.j0 k roots false objs c q) true := fun h => by
  obtain ⟨_, h3, h4⟩ := encS_size h
  apply ev_succ
  simp only [anamnesislaw08_SnapSizes.j0, Bool.false_eq_true, if_false]
  rw [w64 (n := 4 * (roots.length : Int)) (by omega) (by omega), w64 (by omega) (by omega), show (23 : Int) + 4 * (roots.length : Int) = ((23 + 4 * roots.length : Nat) : Int) by omega]
  exact sizes_loop objs c q roots h objs.length 0 _ (by omega) (by rw [List.drop_zero]; omega)
 have hb : Ev (fun k => anamnesislaw08_SnapSizes.j0 k roots true objs c q) true := by
  apply ev_succ
  simp only [anamnesislaw08_SnapSizes.j0, if_true]
  exact Ev.bind fixed_ev (Ev.now _)
 refine Ev.rounds (g := fun k => anamnesislaw08_SnapSizes.f k objs c q roots) ?_
 unfold anamnesislaw08_SnapSizes.f
 refine Ev.bind fixed_ev ?_
 simp only [if_true]
 obtain ⟨b, h3, _⟩ := Small_ev objs c q hn hx
 refine Ev.bind h3 ?_
 cases b
 ·simp only [Bool.false_eq_true, if_false]; exact hb
 ·simp only [if_true]
  by_cases h5 : (roots.length : Int) > 64
  ·simp only [if_pos h5]; exact hb
  ·simp only [if_neg h5]
   refine Ev.bind (rMay_ev objs c q roots hn hx hr) ?_
   cases h6 : mayR objs c q roots
   ·exact hb
   ·exact hgo h6
end Go.Proofs.Ytednpcfhefibdaa.Pure
