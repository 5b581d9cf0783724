import Derived.Test.YtednpcfhefibdaaPureE
namespace Go.Proofs.Ytednpcfhefibdaa.PSnap
open Go.RowKit Go.Proofs.YtednpcfhefibdaaW.PrintWords Go.Proofs.YtednpcfhefibdaaW.PrintLast Go.Proofs.YtednpcfhefibdaaW.PrintMore
set_option linter.unusedVariables false
set_option linter.unusedSimpArgs false
def ofL (l : List UInt8) : ByteArray := ⟨l.toArray⟩
theorem ofL_size (l : List UInt8) : (ofL l).size = l.length := by show l.toArray.size = _; simp
theorem ofL_ext (l : List UInt8) (a b : Nat) : (ofL l).extract a b = ofL ((l.drop a).take (b - a)) := by
 apply BA_ext
 rw [ByteArray.data_extract, Array.toList_extract]
 show (l.toArray.toList).extract a b = ((l.drop a).take (b - a)).toArray.toList
 rw [List.extract_eq_take_drop]
theorem ofL_left (a b : List UInt8) {n : Nat} (h : n = a.length) : (ofL (a ++ b)).extract 0 n = ofL a := by
 subst h; rw [ofL_ext, List.drop_zero, Nat.sub_zero, List.take_left]
theorem ofL_right (a b : List UInt8) {n : Nat} (h : n = a.length) : (ofL (a ++ b)).extract n (ofL (a ++ b)).size = ofL b := by
 subst h; rw [ofL_ext, List.drop_left, ofL_size, List.length_append, List.take_of_length_le (by omega)]
theorem ofL_app (a b : List UInt8) : ofL (a ++ b) = ofL a ++ ofL b := by
 apply BA_ext
 rw [ByteArray.data_append]
 simp [ofL]
theorem encS_size {objs : List S41} {cap last : Int} {roots : List Int} (h : mayR objs cap last roots = true) : (encS objs cap last roots).size = 23 + sizesO objs + 4 * roots.length ∧ sizesO objs ≤ 102400 ∧ roots.length ≤ 64 := by
 obtain ⟨h1, h2, _⟩ := mayR_B h
 obtain ⟨h3, h4⟩ := encB_len (roots := roots) h1
 refine ⟨?_, h4, h2⟩
 unfold encS
 rw [if_pos h, ByteArray.size_append, sumB_size]
 show (encB objs cap last roots).toArray.size + 4 = _
 rw [List.size_toArray, h3]
 omega
theorem bitsV_in (a : ByteArray) : I64 (bitsV a) := by unfold bitsV; generalize or64 _ _ _ = n; unfold I64 wrap64; omega
theorem objR_in {s : ByteArray} {x : S41 × ByteArray} (h : objR s = some x) : I64 x.1.f4 := by
 have hz : I64 0 := by unfold I64; omega
 unfold objR at h
 obtain ⟨y, _, h⟩ := Option.bind_eq_some_iff.mp h
 obtain ⟨z, _, h⟩ := Option.bind_eq_some_iff.mp h
 obtain ⟨t, _, h⟩ := Option.bind_eq_some_iff.mp h
 unfold bodyR at h
 split at h
 ·obtain ⟨u, _, h⟩ := Option.bind_eq_some_iff.mp h
  cases h; exact hz
 ·split at h
  ·obtain ⟨u, _, h⟩ := Option.bind_eq_some_iff.mp h
   obtain ⟨u2, _, h⟩ := Option.bind_eq_some_iff.mp h
   cases h; exact hz
  ·split at h
   ·obtain ⟨u, hu, h⟩ := Option.bind_eq_some_iff.mp h
    cases h
    unfold bitsR at hu
    split at hu
    ·cases hu
    ·cases hu; exact bitsV_in _
   ·cases h; exact hz
theorem objsR_in : ∀ (n : Nat) {s : ByteArray} {x : List S41 × ByteArray}, objsR n s = some x → ∀ y ∈ x.1, I64 y.f4
 | 0, s, x, h => by cases h; intro y hy; cases hy
 | n + 1, s, x, h => by
  rw [objsR] at h
  obtain ⟨y, hy, h⟩ := Option.bind_eq_some_iff.mp h
  obtain ⟨z, hz, h⟩ := Option.bind_eq_some_iff.mp h
  cases h
  intro u hu
  rcases List.mem_cons.1 hu with e | e
  ·rw [e]; exact objR_in hy
  ·exact objsR_in n hz u e
theorem readR_in {s : ByteArray} {r : List S41 × Int × Int × List Int} (h : readR s = some r) : ∀ y ∈ r.1, I64 y.f4 := by
 unfold readR restR at h
 obtain ⟨t, _, h⟩ := Option.bind_eq_some_iff.mp h
 obtain ⟨c, _, h⟩ := Option.bind_eq_some_iff.mp h
 obtain ⟨l, _, h⟩ := Option.bind_eq_some_iff.mp h
 obtain ⟨n, _, h⟩ := Option.bind_eq_some_iff.mp h
 obtain ⟨o, ho, h⟩ := Option.bind_eq_some_iff.mp h
 obtain ⟨u, _, h⟩ := Option.bind_eq_some_iff.mp h
 split at h
 ·cases h; exact objsR_in _ ho
 ·cases h
theorem decS_cases (s : ByteArray) : (∃ objs c q roots, decS s = (objs, c, q, roots, 0) ∧ mayR objs c q roots = true ∧ (∀ x ∈ objs, I64 x.f4) ∧ encS objs c q roots = s) ∨ ∃ e : Int, e ≠ 0 ∧ decS s = ([], 0, 0, [], e) := by
 unfold decS
 by_cases h0 : s.size < 23
 ·rw [if_pos h0]; exact .inr ⟨80, by decide, rfl⟩
 ·rw [if_neg h0]
  split
  ·split
   ·rename_i r hr
    split
    ·rename_i he
     left
     refine ⟨r.1, r.2.1, r.2.2.1, r.2.2.2, rfl, ?_, readR_in hr, BA_ext he⟩
     cases hm : mayR r.1 r.2.1 r.2.2.1 r.2.2.2
     ·exfalso
      have h2 := congrArg List.length he
      unfold encS at h2
      rw [hm, if_neg Bool.false_ne_true] at h2
      simp at h2
      omega
     ·rfl
    ·exact .inr ⟨82, by decide, rfl⟩
   ·exact .inr ⟨82, by decide, rfl⟩
  ·exact .inr ⟨81, by decide, rfl⟩
theorem fine_of {objs : List S41} {c q : Int} {roots : List Int} (h : mayR objs c q roots = true) (hx : ∀ x ∈ objs, I64 x.f4) : objs.length ≤ 256 ∧ roots.length ≤ 64 ∧ ∀ x ∈ objs, FineObj x ∧ x.f2.length ≤ 64 := by
 obtain ⟨h1, h2, h3⟩ := mayR_B h
 refine ⟨mayB_len h1, h2, fun x hm => ?_⟩
 obtain ⟨_, h6, h7⟩ := objB_len (mayB_obj h1 hm)
 exact ⟨⟨hx x hm, by omega, by omega⟩, h6⟩
end Go.Proofs.Ytednpcfhefibdaa.PSnap
