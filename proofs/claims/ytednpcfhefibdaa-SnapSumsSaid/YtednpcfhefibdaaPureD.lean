import Derived.Test.YtednpcfhefibdaaPureC
import Derived.KernelRfl
namespace Go.Proofs.Ytednpcfhefibdaa.PSnap
open Go.RowKit Go.Proofs.YtednpcfhefibdaaW.PrintWords Go.Proofs.YtednpcfhefibdaaW.PrintLast Go.Proofs.YtednpcfhefibdaaW.PrintMore
set_option linter.unusedVariables false
set_option linter.unusedSimpArgs false
def mayR (objs : List S41) (cap last : Int) (roots : List Int) : Bool := mayB objs cap last && decide ((roots.length : Int) ≤ 64) && roots.all (hasB objs.length)
theorem hasB_eq (n : Nat) (v : Int) : hasB n v = ((isSmall v || isAt v) && !(isAt v && decide (v / 2 ≥ (n : Int)))) := by
 have h1 : isRef n v = (isAt v && !(decide (v / 2 ≥ (n : Int)))) := by
  simp only [isRef, isAt]
  by_cases h : v % 2 = 0 ∧ 0 ≤ v ∧ v ≤ 2097150
  ·by_cases h2 : v / 2 ≥ (n : Int)
   ·rw [decide_eq_false (by omega), decide_eq_true h, decide_eq_true h2]; rfl
   ·rw [decide_eq_true (by omega), decide_eq_true h, decide_eq_false h2]; rfl
  ·rw [decide_eq_false (by omega), decide_eq_false h]; rfl
 have h2 : isSmall v = true → isAt v = false := by
  simp only [isSmall, isAt, decide_eq_true_eq, decide_eq_false_iff_not]; omega
 unfold hasB
 rw [h1]
 cases hs : isSmall v
 ·cases isAt v <;> simp
 ·rw [h2 hs]; rfl
theorem snap_may_loop (objs : List S41) (cap last : Int) (roots : List Int) (hr : roots.length ≤ 64) : ∀ (d i : Nat), i + d = roots.length →
  Ev (fun k => snap_may.l0 k roots (roots.length : Int) i objs cap last) ((roots.drop i).all (hasB objs.length))
 | 0, i, h => by
  rw [List.drop_eq_nil_of_le (by omega)]
  apply ev_succ
  simp only [snap_may.l0, if_neg (show ¬ (i : Int) < (roots.length : Int) by omega)]
  exact Ev.now _
 | d + 1, i, h => by
  have hi : i < roots.length := by omega
  rw [List.drop_eq_getElem_cons hi, List.all_cons]
  apply ev_succ
  simp only [snap_may.l0, if_pos (show (i : Int) < (roots.length : Int) by omega), if_pos (show (0 : Int) ≤ (i : Int) by omega), rd_at hi, At_eq, vMay_eq, Option.bind_some]
  have ih := snap_may_loop objs cap last roots hr d (i + 1) (by omega)
  rw [hasB_eq]
  have e1 : wrap64 ((i : Int) + 1) = ((i + 1 : Nat) : Int) := w64_succ (by omega)
  rw [e1]
  generalize roots[i] = v
  by_cases h1 : (isSmall v || isAt v) = true
  ·simp only [h1, if_true, Bool.true_and]
   cases h2 : isAt v
   ·simp only [Bool.false_eq_true, if_false, Bool.false_and, Bool.not_false, Bool.true_and]
    exact ih
   ·simp only [if_true, Bool.true_and]
    by_cases h3 : v / 2 ≥ (objs.length : Int)
    ·simp only [if_pos h3, decide_eq_true h3, Bool.not_true, Bool.false_and]
     exact Ev.now _
    ·simp only [if_neg h3, decide_eq_false h3, Bool.not_false, Bool.true_and]
     exact ih
  ·have h1' : (isSmall v || isAt v) = false := by simpa using h1
   simp only [h1', Bool.false_eq_true, if_false, Bool.false_and]
   exact Ev.now _
theorem snap_may_ev (objs : List S41) (cap last : Int) (roots : List Int) : Ev (fun k => snap_may.f k objs cap last roots) (mayR objs cap last roots) := by
 unfold snap_may.f heap_May.f mayR
 simp only [Option.bind_some]
 cases mayB objs cap last
 ·simp only [Bool.false_eq_true, if_false, Bool.false_and]
  apply ev_succ
  simp only [snap_may.j0, if_true]
  exact Ev.now _
 ·simp only [if_true, Bool.true_and]
  apply ev_succ
  by_cases h : (roots.length : Int) > 64
  ·simp only [snap_may.j0, decide_eq_true h, if_true]
   rw [decide_eq_false (by omega)]
   exact Ev.now _
  ·simp only [snap_may.j0, decide_eq_false h, Bool.false_eq_true, if_false]
   rw [decide_eq_true (by omega), Bool.true_and]
   exact snap_may_loop objs cap last roots (by omega) roots.length 0 (by omega)
theorem bits32 (op : BinOp) (a b : Int) : 0 ≤ Go.bits op .u32 a b ∧ Go.bits op .u32 a b < 4294967296 := by
 unfold Go.bits
 split <;> (simp only [IntKind.wrap, IntKind.bits, IntKind.signed]; first | omega | (simp; omega))
theorem crcS_range (a : Int) (s : ByteArray) : 0 ≤ crcS a s ∧ crcS a s ≤ 4294967295 := by
 obtain ⟨h1, h2⟩ := bits32 .xor IntKind.u32.max (crcFold (crcNot a) s.data.toList)
 unfold crcS
 unfold crcNot at h1 h2 ⊢
 rw [w64 (by omega) (by omega)]
 omega
def sumL (s : ByteArray) : List UInt8 := [UInt8.ofNat (crcS 0 s % 256).toNat, UInt8.ofNat (crcS 0 s / 256 % 256).toNat, UInt8.ofNat (crcS 0 s / 65536 % 256).toNat, UInt8.ofNat (crcS 0 s / 16777216 % 256).toNat]
def sumB (s : ByteArray) : ByteArray := ⟨(sumL s).toArray⟩
theorem sumB_size (s : ByteArray) : (sumB s).size = 4 := rfl
theorem crc_Of_eq (s : ByteArray) (h : s.size ≤ 4611686018427387904) : crc_Of.f s = some (crcS 0 s) := by
 unfold crc_Of.f crc_More.f
 rw [if_pos (by decide), if_pos (by decide), if_pos h]
 rfl
theorem crc_Bytes_eq (s : ByteArray) : crc_Bytes.f (crcS 0 s) = some (sumB s) := by
 obtain ⟨h1, h2⟩ := crcS_range 0 s
 unfold crc_Bytes.f crc_may.f
 rw [if_pos h1, decide_eq_true h2]
 rfl
def encA (objs : List S41) (cap last : Int) (roots : List Int) : ByteArray := ⟨(encB objs cap last roots).toArray⟩
def encS (objs : List S41) (cap last : Int) (roots : List Int) : ByteArray := if mayR objs cap last roots = true then encA objs cap last roots ++ sumB (encA objs cap last roots) else ⟨#[]⟩
theorem mayB_len {objs : List S41} {c q : Int} (h : mayB objs c q = true) : objs.length ≤ 256 := by
 simp only [mayB, Bool.and_eq_true, decide_eq_true_eq] at h
 omega
theorem mayB_obj {objs : List S41} {c q : Int} (h : mayB objs c q = true) {x : S41} (hx : x ∈ objs) : mayObj objs.length x = true := by
 simp only [mayB, Bool.and_eq_true, decide_eq_true_eq] at h
 exact any_not (p := mayObj objs.length) (by simpa using h.2) hx
def sizeO (x : S41) : Nat := 16 + 4 * x.f2.length + x.f3.size + (if x.f1 = 2 then 4 else 0)
theorem objB_len {n : Int} {x : S41} (h : mayObj n x = true) : (objB x).length = sizeO x ∧ x.f2.length ≤ 64 ∧ x.f3.size ≤ 64 := by
 simp only [mayObj, inB, Bool.and_eq_true, decide_eq_true_eq] at h
 obtain ⟨⟨⟨⟨_, hk⟩, _⟩, hkind⟩, ⟨⟨hs, ht⟩, _⟩, _⟩ := h
 refine ⟨?_, by omega, by omega⟩
 unfold kindB at hkind
 have h3 : x.f3.toList = [] → x.f3.size = 0 := fun e => by rw [← BA_toList_len, e]; rfl
 unfold objB objT sizeO
 simp only [List.length_append, numB_len]
 rcases (by omega : x.f1 = 0 ∨ x.f1 = 1 ∨ x.f1 = 2) with e | e | e
 ·rw [e] at hkind ⊢
  simp at hkind
  rw [if_pos rfl, listB_len, h3 hkind.1]
  simp; omega
 ·rw [e] at hkind ⊢
  simp at hkind
  rw [if_neg (by decide), if_pos rfl, List.length_append, numB_len, hkind.1]
  show 4 + (4 + (4 + (4 + x.f3.size))) = _
  simp; omega
 ·rw [e] at hkind ⊢
  simp at hkind
  rw [if_neg (by decide), if_neg (by decide), if_pos rfl, numB_len, hkind.1, h3 hkind.2]
  rfl
def sizesO (objs : List S41) : Nat := (objs.map sizeO).sum
theorem encT_size : ∀ (objs : List S41), (∀ x ∈ objs, (objB x).length = sizeO x) → (encT objs).length = sizesO objs
 | [], _ => rfl
 | x :: xs, h => by
  show (objB x ++ encT xs).length = (List.map sizeO (x :: xs)).sum
  rw [List.length_append, encT_size xs (fun y hy => h y (List.mem_cons_of_mem _ hy)), h x List.mem_cons_self, List.map_cons, List.sum_cons]
  rfl
theorem sizesO_le (objs : List S41) (h : ∀ x ∈ objs, sizeO x ≤ 400) : sizesO objs ≤ 400 * objs.length := by
 induction objs with
 | nil => exact Nat.le_refl _
 | cons x xs ih =>
  have h1 := ih (fun y hy => h y (List.mem_cons_of_mem _ hy))
  have h2 := h x List.mem_cons_self
  simp only [sizesO, List.map_cons, List.sum_cons, List.length_cons] at h1 ⊢
  omega
theorem encB_len {objs : List S41} {cap last : Int} {roots : List Int} (h : mayB objs cap last = true) : (encB objs cap last roots).length = 19 + sizesO objs + 4 * roots.length ∧ sizesO objs ≤ 102400 := by
 have h1 : ∀ x ∈ objs, (objB x).length = sizeO x := fun x hx => (objB_len (mayB_obj h hx)).1
 have h2 : ∀ x ∈ objs, sizeO x ≤ 400 := fun x hx => by
  obtain ⟨_, h3, h4⟩ := objB_len (mayB_obj h hx)
  unfold sizeO
  split <;> omega
 have h3 := sizesO_le objs h2
 have h4 := mayB_len h
 constructor
 ·unfold encB encH
  simp only [List.length_append, numB_len, listB_len, encT_size objs h1, List.length_cons, List.length_nil]
  omega
 ·omega
theorem mayR_B {objs : List S41} {cap last : Int} {roots : List Int} (h : mayR objs cap last roots = true) : mayB objs cap last = true ∧ roots.length ≤ 64 ∧ ∀ v ∈ roots, hasB objs.length v = true := by
 simp only [mayR, Bool.and_eq_true, decide_eq_true_eq, List.all_eq_true] at h
 exact ⟨h.1.1, by omega, h.2⟩
theorem Encode_ev (objs : List S41) (cap last : Int) (roots : List Int) : Ev (fun k => snap_Encode.f k objs cap last roots) (encS objs cap last roots) := by
 obtain ⟨K, hK⟩ := snap_may_ev objs cap last roots
 refine ⟨K, fun k hk => ?_⟩
 have h0 : snap_may.f k objs cap last roots = some (mayR objs cap last roots) := hK k hk
 show snap_Encode.f k objs cap last roots = _
 unfold snap_Encode.f encS
 rw [h0, Option.bind_some]
 cases h : mayR objs cap last roots
 ·rw [if_neg Bool.false_ne_true, if_neg Bool.false_ne_true]
 ·obtain ⟨h1, h2, _⟩ := mayR_B h
  obtain ⟨h3, h4⟩ := encB_len (roots := roots) h1
  have h5 : (encB objs cap last roots).length ≤ 35184372088832 := by omega
  have hs : (encA objs cap last roots).size ≤ 4611686018427387904 := by
   show (encB objs cap last roots).toArray.size ≤ _
   rw [List.size_toArray]; omega
  have h6 := crc_Of_eq (encA objs cap last roots) hs
  have h7 := crc_Bytes_eq (encA objs cap last roots)
  have h8 : (sumB (encA objs cap last roots)).size ≤ 35184372088832 := by rw [sumB_size]; omega
  have e : (⟨(encB objs cap last roots).toArray⟩ : ByteArray) = encA objs cap last roots := by rw [encA]
  rw [if_pos (Eq.refl true), if_pos (Eq.refl true), if_pos h5, e, h6, Option.bind_some, h7, Option.bind_some, if_pos h8]
end Go.Proofs.Ytednpcfhefibdaa.PSnap
