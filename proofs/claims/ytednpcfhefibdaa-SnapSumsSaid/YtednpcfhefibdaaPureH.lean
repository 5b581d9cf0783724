import Derived.Test.YtednpcfhefibdaaPureG
namespace Go.Proofs.Ytednpcfhefibdaa.PSnap
open Go.RowKit Go.Proofs.YtednpcfhefibdaaW.PrintWords Go.Proofs.YtednpcfhefibdaaW.PrintLast Go.Proofs.YtednpcfhefibdaaW.PrintMore
set_option linter.unusedVariables false
set_option linter.unusedSimpArgs false
theorem One_loopG (x y : S41) (hl : x.f2.length ≤ 17592186044416) (he : x.f2.length = y.f2.length) : ∀ (d i : Nat), i + d = x.f2.length → ∃ b, Ev (fun k => anamnesisref03_One.l0 k i x.f0 x.f1 x.f2 x.f3 x.f4 x.f5 y.f0 y.f1 y.f2 y.f3 y.f4 y.f5) b ∧ (b = true → x.f2.drop i = y.f2.drop i)
 | 0, i, h => by
  refine ⟨true, ?_, fun _ => by rw [List.drop_eq_nil_of_le (by omega), List.drop_eq_nil_of_le (by omega)]⟩
  apply ev_succ
  simp only [anamnesisref03_One.l0, if_neg (show ¬ (i : Int) < (x.f2.length : Int) by omega)]
  exact Ev.now _
 | d + 1, i, h => by
  have hi : i < x.f2.length := by omega
  have hj : i < y.f2.length := by omega
  obtain ⟨b, hb, hb2⟩ := One_loopG x y hl he d (i + 1) (by omega)
  by_cases hv : x.f2[i] = y.f2[i]
  ·refine ⟨b, ?_, fun h => ?_⟩
   ·apply ev_succ
    simp only [anamnesisref03_One.l0, if_pos (show (i : Int) < (x.f2.length : Int) by omega), if_pos (show (i : Int) < (y.f2.length : Int) by omega), if_pos (show (0 : Int) ≤ (i : Int) by omega), rd_at hi, rd_at hj, if_pos hv]
    rw [w64_succ (by omega)]
    exact hb
   ·rw [List.drop_eq_getElem_cons hi, List.drop_eq_getElem_cons hj, hv, hb2 h]
  ·refine ⟨false, ?_, fun h => by cases h⟩
   apply ev_succ
   simp only [anamnesisref03_One.l0, if_pos (show (i : Int) < (x.f2.length : Int) by omega), if_pos (show (i : Int) < (y.f2.length : Int) by omega), if_pos (show (0 : Int) ≤ (i : Int) by omega), rd_at hi, rd_at hj, if_neg hv]
   exact Ev.now _
theorem One_evG (x y : S41) (hl : x.f2.length ≤ 17592186044416) : ∃ b, Ev (fun k => anamnesisref03_One.f k x.f0 x.f1 x.f2 x.f3 x.f4 x.f5 y.f0 y.f1 y.f2 y.f3 y.f4 y.f5) b ∧ (b = true → x = y) := by
 have hno : Ev (fun k => anamnesisref03_One.j0 k true x.f0 x.f1 x.f2 x.f3 x.f4 x.f5 y.f0 y.f1 y.f2 y.f3 y.f4 y.f5) false := by
  apply ev_succ
  simp only [anamnesisref03_One.j0, if_true]
  exact Ev.now _
 unfold anamnesisref03_One.f
 by_cases h0 : x.f0 = y.f0
 ·by_cases h1 : x.f1 = y.f1
  ·by_cases h3 : x.f3.toList = y.f3.toList
   ·by_cases h4 : x.f4 = y.f4
    ·by_cases h5 : x.f5 = y.f5
     ·simp only [if_pos h0, if_pos h1, if_pos h3, if_pos h4, if_pos h5]
      by_cases he : x.f2.length = y.f2.length
      ·obtain ⟨b, hb, hb2⟩ := One_loopG x y hl he x.f2.length 0 (by omega)
       refine ⟨b, ?_, fun h => ?_⟩
       ·apply ev_succ
        simp only [anamnesisref03_One.j0, he, bne_self_eq_false, Bool.false_eq_true, if_false]
        exact hb
       ·have h2 := hb2 h
        rw [List.drop_zero, List.drop_zero] at h2
        have h3' := BA_ext (BA_eq.1 h3)
        cases x; cases y
        simp_all
      ·refine ⟨false, ?_, fun h => by cases h⟩
       have e : ((x.f2.length : Int) != (y.f2.length : Int)) = true := by simp; omega
       rw [e]; exact hno
     ·simp only [if_pos h0, if_pos h1, if_pos h3, if_pos h4, if_neg h5]; exact ⟨false, hno, fun h => by cases h⟩
    ·simp only [if_pos h0, if_pos h1, if_pos h3, if_neg h4]; exact ⟨false, hno, fun h => by cases h⟩
   ·simp only [if_pos h0, if_pos h1, if_neg h3]; exact ⟨false, hno, fun h => by cases h⟩
  ·simp only [if_pos h0, if_neg h1]; exact ⟨false, hno, fun h => by cases h⟩
 ·simp only [if_neg h0]; exact ⟨false, hno, fun h => by cases h⟩
theorem Same_loopG (a b : List S41) (c q c2 q2 : Int) (hl : a.length ≤ 17592186044416) (he : a.length = b.length) (hx : ∀ x ∈ a, x.f2.length ≤ 17592186044416) : ∀ (d i : Nat), i + d = a.length → ∃ r, Ev (fun k => anamnesisref03_Same.l0 k i a c q b c2 q2) r ∧ (r = true → a.drop i = b.drop i)
 | 0, i, h => by
  refine ⟨true, ?_, fun _ => by rw [List.drop_eq_nil_of_le (by omega), List.drop_eq_nil_of_le (by omega)]⟩
  apply ev_succ
  simp only [anamnesisref03_Same.l0, if_neg (show ¬ (i : Int) < (a.length : Int) by omega)]
  exact Ev.now _
 | d + 1, i, h => by
  have hi : i < a.length := by omega
  have hj : i < b.length := by omega
  obtain ⟨r, hr, hr2⟩ := Same_loopG a b c q c2 q2 hl he hx d (i + 1) (by omega)
  obtain ⟨t, ht, ht2⟩ := One_evG a[i] b[i] (hx _ (List.getElem_mem hi))
  cases t
  ·refine ⟨false, ?_, fun h => by cases h⟩
   apply ev_succ
   simp only [anamnesisref03_Same.l0, if_pos (show (i : Int) < (a.length : Int) by omega), if_pos (show (i : Int) < (b.length : Int) by omega), if_pos (show (0 : Int) ≤ (i : Int) by omega), rd_T41_at hi, rd_T41_at hj]
   exact Ev.bind ht (Ev.now _)
  ·refine ⟨r, ?_, fun h => ?_⟩
   ·apply ev_succ
    simp only [anamnesisref03_Same.l0, if_pos (show (i : Int) < (a.length : Int) by omega), if_pos (show (i : Int) < (b.length : Int) by omega), if_pos (show (0 : Int) ≤ (i : Int) by omega), rd_T41_at hi, rd_T41_at hj]
    rw [w64_succ (by omega)]
    refine Ev.bind ht ?_
    simp only [if_true]
    exact hr
   ·rw [List.drop_eq_getElem_cons hi, List.drop_eq_getElem_cons hj, ht2 rfl, hr2 h]
theorem Same_evG (a b : List S41) (c q c2 q2 : Int) (hl : a.length ≤ 17592186044416) (hx : ∀ x ∈ a, x.f2.length ≤ 17592186044416) : ∃ r, Ev (fun k => anamnesisref03_Same.f k a c q b c2 q2) r ∧ (r = true → a = b ∧ c = c2 ∧ q = q2) := by
 have hno : Ev (fun k => anamnesisref03_Same.j0 k true a c q b c2 q2) false := by
  apply ev_succ
  simp only [anamnesisref03_Same.j0, if_true]
  exact Ev.now _
 unfold anamnesisref03_Same.f
 by_cases h0 : c = c2
 ·by_cases h1 : q = q2
  ·simp only [if_pos h0, if_pos h1]
   by_cases he : a.length = b.length
   ·obtain ⟨r, hr, hr2⟩ := Same_loopG a b c q c2 q2 hl he hx a.length 0 (by omega)
    refine ⟨r, ?_, fun h => ?_⟩
    ·apply ev_succ
     simp only [anamnesisref03_Same.j0, he, bne_self_eq_false, Bool.false_eq_true, if_false]
     exact hr
    ·have h2 := hr2 h
     rw [List.drop_zero, List.drop_zero] at h2
     exact ⟨h2, h0, h1⟩
   ·refine ⟨false, ?_, fun h => by cases h⟩
    have e : ((a.length : Int) != (b.length : Int)) = true := by simp; omega
    rw [e]; exact hno
  ·simp only [if_pos h0, if_neg h1]; exact ⟨false, hno, fun h => by cases h⟩
 ·simp only [if_neg h0]; exact ⟨false, hno, fun h => by cases h⟩
theorem xor_cancel {a b c : Nat} (h : a ^^^ c = b ^^^ c) : a = b := by
 have h2 := congrArg (· ^^^ c) h
 simpa [Nat.xor_assoc, Nat.xor_self] using h2
theorem sN_inj {x y : Nat} (hx : x < 4294967296) (hy : y < 4294967296) (h : sN x = sN y) : x = y := by
 have hp : (3988292384 : Nat).testBit 31 = true := by decide
 have ht : ∀ z, z < 4294967296 → (z / 2).testBit 31 = false := fun z hz => Nat.testBit_lt_two_pow (by omega)
 unfold sN at h
 by_cases h1 : x % 2 = 1
 ·by_cases h2 : y % 2 = 1
  ·rw [if_pos h1, if_pos h2] at h
   have := xor_cancel h
   omega
  ·rw [if_pos h1, if_neg h2] at h
   have h3 := congrArg (fun n => n.testBit 31) h
   simp only [Nat.testBit_xor, ht x hx, ht y hy, hp] at h3
   cases h3
 ·by_cases h2 : y % 2 = 1
  ·rw [if_neg h1, if_pos h2] at h
   have h3 := congrArg (fun n => n.testBit 31) h
   simp only [Nat.testBit_xor, ht x hx, ht y hy, hp] at h3
   cases h3
  ·rw [if_neg h1, if_neg h2] at h
   omega
theorem sI_inj : ∀ (n : Nat) {x y : Nat}, x < 4294967296 → y < 4294967296 → sI x n = sI y n → x = y
 | 0, x, y, _, _, h => h
 | n + 1, x, y, hx, hy, h => sN_inj hx hy (sI_inj n (sN_lt hx) (sN_lt hy) h)
theorem xb_lt {x b : Nat} (hx : x < 4294967296) (hb : b < 256) : x ^^^ b < 4294967296 := Nat.xor_lt_two_pow (n := 32) (by omega) (by omega)
theorem byteN_inj {x y b : Nat} (hx : x < 4294967296) (hy : y < 4294967296) (hb : b < 256) (h : byteN x b = byteN y b) : x = y :=
 xor_cancel (sI_inj 8 (xb_lt hx hb) (xb_lt hy hb) h)
theorem byteN_inj2 {x a b : Nat} (hx : x < 4294967296) (ha : a < 256) (hb : b < 256) (h : byteN x a = byteN x b) : a = b := by
 have h2 := sI_inj 8 (xb_lt hx ha) (xb_lt hx hb) h
 rw [Nat.xor_comm x a, Nat.xor_comm x b] at h2
 exact xor_cancel h2
theorem foldN_inj : ∀ (l : List UInt8) {x y : Nat}, x < 4294967296 → y < 4294967296 → foldN x l = foldN y l → x = y
 | [], x, y, _, _, h => h
 | b :: l, x, y, hx, hy, h => byteN_inj hx hy (UInt8.toNat_lt b) (foldN_inj l (byteN_lt hx (UInt8.toNat_lt b)) (byteN_lt hy (UInt8.toNat_lt b)) h)
theorem foldN_app (l m : List UInt8) (x : Nat) : foldN x (l ++ m) = foldN (foldN x l) m := by simp [foldN]
theorem crcN_ne {A B : List UInt8} {a b : UInt8} (h : crcN (A ++ a :: B) = crcN (A ++ b :: B)) : a = b := by
 unfold crcN at h
 rw [foldN_app, foldN_app] at h
 have h0 := foldN_lt A (x := 4294967295) (by omega)
 have ha := UInt8.toNat_lt a
 have hb := UInt8.toNat_lt b
 have h1 := foldN_lt (a :: B) h0
 have h2 := foldN_lt (b :: B) h0
 have h3 : foldN (foldN 4294967295 A) (a :: B) = foldN (foldN 4294967295 A) (b :: B) := by omega
 have h4 := foldN_inj B (byteN_lt h0 ha) (byteN_lt h0 hb) h3
 exact UInt8.toNat_inj.1 (byteN_inj2 h0 ha hb h4)
theorem crcN_lt (l : List UInt8) : crcN l < 4294967296 := by unfold crcN; omega
theorem ofNat_inj {a b : Nat} (ha : a < 256) (hb : b < 256) (h : UInt8.ofNat a = UInt8.ofNat b) : a = b := by
 have h2 := congrArg UInt8.toNat h
 rw [UInt8.toNat_ofNat', UInt8.toNat_ofNat'] at h2
 omega
theorem sumL_inj {s t : ByteArray} (h : sumL s = sumL t) : crcN s.data.toList = crcN t.data.toList := by
 rw [sumL_N, sumL_N] at h
 have h1 := crcN_lt s.data.toList
 have h2 := crcN_lt t.data.toList
 generalize crcN s.data.toList = a at *
 generalize crcN t.data.toList = b at *
 injection h with e0 h
 injection h with e1 h
 injection h with e2 h
 injection h with e3 h
 have := ofNat_inj (by omega) (by omega) e0
 have := ofNat_inj (by omega) (by omega) e1
 have := ofNat_inj (by omega) (by omega) e2
 have := ofNat_inj (by omega) (by omega) e3
 omega
end Go.Proofs.Ytednpcfhefibdaa.PSnap
