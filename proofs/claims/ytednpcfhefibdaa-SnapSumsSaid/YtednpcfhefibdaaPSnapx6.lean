import Derived.Test.YtednpcfhefibdaaPSnapx0
import Derived.Test.YtednpcfhefibdaaPSnapx4
import Derived.Test.YtednpcfhefibdaaPSnapx5
namespace Go.Proofs.Ytednpcfhefibdaa.PSnap
open Go.RowKit Go.Proofs.YtednpcfhefibdaaW.PrintWords Go.Proofs.YtednpcfhefibdaaW.PrintLast Go.Proofs.YtednpcfhefibdaaW.PrintMore
attribute [local go_sem] max2_int min2_int max_two min_two max_three min_three max_four min_four
set_option linter.unusedVariables false
set_option linter.unusedSimpArgs false
attribute [local go_sem] setCell_drewN
def CutP (w0 w : World) (g : Nat) (e : Ending) (w' : World) : Prop := e = .panicked [{ v := .iface 75 (.agg #[]), recovered := false }] ∧ Below w0.heap.size w0 w' ∧ KeepBut w w' g none
set_option maxHeartbeats 4000000 in
set_option maxRecDepth 100000 in
theorem take_cut (g : Nat) (s : ByteArray) (n : Int) (w0 w : World) (hI : IsS79 w0 w g s) (hB : Below w0.heap.size w0 w) (h : n < 0 ∨ (s.size : Int) < n) :
  Calls Try.prog 45 #[.pointer (some ⟨g, 0, none⟩), .int .i64 n] w (CutP w0 w g) := by
 have hc := cellS79_0 hI.1
 have HB := Aside0.mk hB
 have hmi : ∀ (v : Value) (w : World), (Instr.makeInterface 75 v).run Try.prog w = .ok (.iface 75 v) w := fun _ _ => rfl
 clear hI hB
 by_cases h0 : n < 0
 ·have h0z : decide (n < 0) = true := decide_eq_true h0
  go_enter Try.func45, Try.ntmps45
  go_wp2
  exact ⟨rfl, rfl, HB.out, KeepBut.refl w g none⟩
 ·have h0z : decide (n < 0) = false := decide_eq_false h0
  have h1z : decide ((s.size : Int) < n) = true := decide_eq_true (by omega)
  go_enter Try.func45, Try.ntmps45
  go_wp2
  exact ⟨rfl, rfl, HB.out, KeepBut.refl w g none⟩
set_option maxHeartbeats 4000000 in
set_option maxRecDepth 100000 in
theorem num_cut (g : Nat) (s : ByteArray) (w0 w : World) (hI : IsS79 w0 w g s) (hB : Below w0.heap.size w0 w) (h : s.size < 4) :
  Calls Try.prog 46 #[.pointer (some ⟨g, 0, none⟩)] w (CutP w0 w g) := by
 have HI := Aside0.mk hI
 have HB := Aside0.mk hB
 clear hI hB
 go_enter Try.func46, Try.ntmps46
 go_wp2_with (go_at_call 45; refine (take_cut g s 4 w0 w HI.out HB.out (.inr (by omega))).mono ?_)
 rintro e w' ⟨rfl, hb, hk⟩
 exact ⟨rfl, rfl, hb, hk⟩
set_option maxHeartbeats 4000000 in
set_option maxRecDepth 100000 in
theorem bits_cut (g : Nat) (s : ByteArray) (w0 w : World) (hI : IsS79 w0 w g s) (hB : Below w0.heap.size w0 w) (h : s.size < 8) :
  Calls Try.prog 61 #[.pointer (some ⟨g, 0, none⟩)] w (CutP w0 w g) := by
 have HI := Aside0.mk hI
 have HB := Aside0.mk hB
 clear hI hB
 go_enter Try.func61, Try.ntmps61
 go_wp2_with (go_at_call 45; refine (take_cut g s 8 w0 w HI.out HB.out (.inr (by omega))).mono ?_)
 rintro e w' ⟨rfl, hb, hk⟩
 exact ⟨rfl, rfl, hb, hk⟩
def or32 (a : ByteArray) (x : Int) (i : Int) : Int := Go.bits .or .u32 x (shl .u32 ((bt a i) % 4294967296) (wrap64 (8 * i)))
def numV (a : ByteArray) : Int := wrap64 (wrap32 (or32 a (or32 a (or32 a (or32 a 0 0) 1) 2) 3))
def numR (s : ByteArray) : Option (Int × ByteArray) := if s.size < 4 then none else some (numV (s.extract 0 4), s.extract 4 s.size)
def or64 (a : ByteArray) (x : Int) (i : Int) : Int := Go.bits .or .u64 x (shl .u64 (IntKind.u64.wrap (bt a i)) (wrap64 (8 * i)))
def bitsV (a : ByteArray) : Int := wrap64 (or64 a (or64 a (or64 a (or64 a (or64 a (or64 a (or64 a (or64 a 0 0) 1) 2) 3) 4) 5) 6) 7)
def bitsR (s : ByteArray) : Option (Int × ByteArray) := if s.size < 8 then none else some (bitsV (s.extract 0 8), s.extract 8 s.size)
def takeR (s : ByteArray) (n : Int) : Option (ByteArray × ByteArray) := if n < 0 ∨ (s.size : Int) < n then none else some (s.extract 0 n.toNat, s.extract n.toNat s.size)
def countR (s : ByteArray) (d : Int) : Option (Int × ByteArray) := (numR s).bind fun x => if x.1 < 0 ∨ x.1 > (x.2.size : Int) / d then none else some x
def numsR : Nat → ByteArray → Option (List Int × ByteArray)
 | 0, s => some ([], s)
 | n + 1, s => (numR s).bind fun x => (numsR n x.2).bind fun y => some (x.1 :: y.1, y.2)
def listR (s : ByteArray) : Option (List Int × ByteArray) := (countR s 4).bind fun x => numsR x.1.toNat x.2
def bodyR (a b c : Int) (s : ByteArray) : Option (S41 × ByteArray) :=
 if b = 0 then (listR s).bind fun x => some (⟨a, b, x.1, ⟨#[]⟩, 0, c⟩, x.2)
 else if b = 1 then (numR s).bind fun x => (takeR x.2 x.1).bind fun y => some (⟨a, b, [], y.1, 0, c⟩, y.2)
 else if b = 2 then (bitsR s).bind fun x => some (⟨a, b, [], ⟨#[]⟩, x.1, c⟩, x.2)
 else some (⟨a, b, [], ⟨#[]⟩, 0, c⟩, s)
def objR (s : ByteArray) : Option (S41 × ByteArray) := (numR s).bind fun x => (numR x.2).bind fun y => (numR y.2).bind fun z => bodyR x.1 y.1 z.1 z.2
theorem take_eq (s : ByteArray) (n : Int) : snap_reader_take.f s n = takeR s n := by
 unfold snap_reader_take.f takeR
 by_cases h0 : n < 0
 ·rw [if_pos h0, if_pos (.inl h0)]
 ·by_cases h1 : n > (s.size : Int)
  ·rw [if_neg h0, if_pos h1, if_pos (.inr h1)]
  ·rw [if_neg h0, if_neg h1, if_pos (show 0 ≤ n by omega), if_pos (show n ≤ (s.size : Int) by omega), if_neg (by omega)]
theorem ev_succ {α : Type} {g : Nat → Option α} {r : α} (h : Ev (fun k => g (k + 1)) r) : Ev g r := Ev.step (fun _ => rfl) h
theorem extract_size (s : ByteArray) (n : Nat) (h : n ≤ s.size) : (s.extract 0 n).size = n := by rw [ByteArray.size_extract]; omega
theorem num_ev {s : ByteArray} {r : Int × ByteArray} (h : numR s = some r) : Ev (fun k => snap_reader_num.f k s) r := by
 unfold numR at h
 by_cases h4 : s.size < 4
 ·rw [if_pos h4] at h; cases h
 ·rw [if_neg h4] at h
  obtain rfl := Option.some.inj h
  have hs := extract_size s 4 (by omega)
  have ht : snap_reader_take.f s 4 = some (s.extract 0 4, s.extract 4 s.size) := by rw [take_eq, takeR, if_neg (by omega)]; rfl
  unfold snap_reader_num.f
  simp only [ht, Option.bind_some]
  unfold numV
  generalize s.extract 0 4 = a at *
  have step : ∀ (x i : Int) (r : Int × ByteArray) (t : ByteArray), 0 ≤ i → i < 4 → Ev (fun k => snap_reader_num.l0 k a (or32 a x i) (i + 1) t) r → Ev (fun k => snap_reader_num.l0 k a x i t) r := by
   intro x i r t h0 h1 h2
   apply ev_succ
   have e1 : wrap64 (i + 1) = i + 1 := by unfold wrap64; omega
   have e2 : (0 : Int) ≤ wrap64 (8 * i) := by unfold wrap64; omega
   simp only [snap_reader_num.l0, if_pos h1, if_pos h0, if_pos (show i < (a.size : Int) by omega), if_pos e2, e1]
   exact h2
  refine step _ 0 _ _ (by omega) (by omega) (step _ 1 _ _ (by omega) (by omega) (step _ 2 _ _ (by omega) (by omega) (step _ 3 _ _ (by omega) (by omega) ?_)))
  apply ev_succ
  simp only [snap_reader_num.l0]
  exact Ev.now _
theorem bits_ev {s : ByteArray} {r : Int × ByteArray} (h : bitsR s = some r) : Ev (fun k => snap_reader_bits.f k s) r := by
 unfold bitsR at h
 by_cases h4 : s.size < 8
 ·rw [if_pos h4] at h; cases h
 ·rw [if_neg h4] at h
  obtain rfl := Option.some.inj h
  have hs := extract_size s 8 (by omega)
  have ht : snap_reader_take.f s 8 = some (s.extract 0 8, s.extract 8 s.size) := by rw [take_eq, takeR, if_neg (by omega)]; rfl
  unfold snap_reader_bits.f
  simp only [ht, Option.bind_some]
  unfold bitsV
  generalize s.extract 0 8 = a at *
  have step : ∀ (x i : Int) (r : Int × ByteArray) (t : ByteArray), 0 ≤ i → i < 8 → Ev (fun k => snap_reader_bits.l0 k a (or64 a x i) (i + 1) t) r → Ev (fun k => snap_reader_bits.l0 k a x i t) r := by
   intro x i r t h0 h1 h2
   apply ev_succ
   have e1 : wrap64 (i + 1) = i + 1 := by unfold wrap64; omega
   have e2 : (0 : Int) ≤ wrap64 (8 * i) := by unfold wrap64; omega
   simp only [snap_reader_bits.l0, if_pos h1, if_pos h0, if_pos (show i < (a.size : Int) by omega), if_pos e2, e1]
   exact h2
  refine step _ 0 _ _ (by omega) (by omega) (step _ 1 _ _ (by omega) (by omega) (step _ 2 _ _ (by omega) (by omega) (step _ 3 _ _ (by omega) (by omega) (step _ 4 _ _ (by omega) (by omega) (step _ 5 _ _ (by omega) (by omega) (step _ 6 _ _ (by omega) (by omega) (step _ 7 _ _ (by omega) (by omega) ?_)))))))
  apply ev_succ
  simp only [snap_reader_bits.l0]
  exact Ev.now _
theorem count_ev {s : ByteArray} {d : Int} (hd : 0 < d) (hs : s.size ≤ 4611686018427387904) {r : Int × ByteArray} (h : countR s d = some r) : Ev (fun k => snap_reader_count.f k s d) r := by
 unfold countR at h
 obtain ⟨x, h1, h2⟩ := Option.bind_eq_some_iff.mp h
 split at h2
 case isTrue => cases h2
 rename_i h3
 obtain rfl := Option.some.inj h2
 unfold snap_reader_count.f
 refine Ev.bind (num_ev h1) ?_
 have hx : (x.2.size : Int) ≤ 4611686018427387904 := by
  unfold numR at h1
  split at h1
  ·cases h1
  ·obtain rfl := Option.some.inj h1
   show ((s.extract 4 s.size).size : Int) ≤ _
   rw [ByteArray.size_extract]; omega
 have e0 : (x.2.size : Int) / d ≤ x.2.size := Int.ediv_le_self _ (by omega)
 have e1 : 0 ≤ (x.2.size : Int) / d := Int.ediv_nonneg (by omega) (by omega)
 have e2 : wrap64 ((x.2.size : Int) / d) = (x.2.size : Int) / d := by
  generalize (x.2.size : Int) / d = q at *
  unfold wrap64; omega
 simp only [if_neg (show ¬ x.1 < 0 by omega), if_neg (show ¬ d = 0 by omega), e2, if_neg (show ¬ x.1 > (x.2.size : Int) / d by omega)]
 exact Ev.now _
theorem numR_size {s : ByteArray} {x : Int × ByteArray} (h : numR s = some x) : x.2.size + 4 = s.size := by
 unfold numR at h
 split at h
 ·cases h
 ·obtain rfl := Option.some.inj h
  show (s.extract 4 s.size).size + 4 = _
  rw [ByteArray.size_extract]; omega
theorem countR_size {s : ByteArray} {d : Int} {x : Int × ByteArray} (h : countR s d = some x) : x.2.size + 4 = s.size ∧ 0 ≤ x.1 ∧ x.1 ≤ (x.2.size : Int) / d := by
 unfold countR at h
 obtain ⟨y, h1, h2⟩ := Option.bind_eq_some_iff.mp h
 split at h2
 case isTrue => cases h2
 obtain rfl := Option.some.inj h2
 exact ⟨numR_size h1, by omega, by omega⟩
theorem nums_there : ∀ (n : Nat) (s : ByteArray), 4 * n ≤ s.size → ∃ r, numsR n s = some r ∧ r.1.length = n ∧ r.2.size + 4 * n = s.size
 | 0, s, h => ⟨([], s), rfl, rfl, rfl⟩
 | n + 1, s, h => by
  have h4 : ¬ s.size < 4 := by omega
  have h1 : numR s = some (numV (s.extract 0 4), s.extract 4 s.size) := by rw [numR, if_neg h4]
  have h2 := numR_size h1
  obtain ⟨r, h5, h6, h7⟩ := nums_there n (s.extract 4 s.size) (by simp only at h2; omega)
  refine ⟨(numV (s.extract 0 4) :: r.1, r.2), ?_, by simp [h6], by simp only at h2 ⊢; omega⟩
  rw [numsR, h1]
  simp only [Option.bind_some, h5]
theorem nums_ev : ∀ (d : Nat) (acc : List Int) (i n : Nat) (s : ByteArray) (r : List Int × ByteArray), i + d = n → acc.length = i → n ≤ 4611686018427387904 → numsR d s = some r → acc.length + d ≤ 17592186044416 →
  Ev (fun k => snap_reader_list.l0 k acc n i s) (acc ++ r.1, r.2)
 | 0, acc, i, n, s, r, h, ha, hn, hr, hm => by
  obtain rfl := Option.some.inj hr
  apply ev_succ
  simp only [snap_reader_list.l0, if_neg (show ¬ (i : Int) < (n : Int) by omega), List.append_nil]
  exact Ev.now _
 | d + 1, acc, i, n, s, r, h, ha, hn, hr, hm => by
  rw [numsR] at hr
  obtain ⟨x, h1, h2⟩ := Option.bind_eq_some_iff.mp hr
  obtain ⟨y, h3, h4⟩ := Option.bind_eq_some_iff.mp h2
  obtain rfl := Option.some.inj h4
  apply ev_succ
  simp only [snap_reader_list.l0, if_pos (show (i : Int) < (n : Int) by omega)]
  refine Ev.bind (num_ev h1) ?_
  have e1 : wrap64 ((i : Int) + 1) = ((i + 1 : Nat) : Int) := by unfold wrap64; omega
  simp only [if_pos (show acc.length < 17592186044416 by omega), e1]
  have := nums_ev d (acc ++ [x.1]) (i + 1) n x.2 y (by omega) (by simp [ha]) hn h3 (by simp; omega)
  simpa [List.append_assoc] using this
theorem list_ev {s : ByteArray} (hs : s.size ≤ 17592186044416) {r : List Int × ByteArray} (h : listR s = some r) : Ev (fun k => snap_reader_list.f k s) r := by
 unfold listR at h
 obtain ⟨x, h1, h2⟩ := Option.bind_eq_some_iff.mp h
 unfold snap_reader_list.f
 refine Ev.bind (count_ev (by omega) (by omega) h1) ?_
 obtain ⟨h3, h4, h5⟩ := countR_size h1
 have h6 := nums_ev x.1.toNat [] 0 x.1.toNat x.2 r (by omega) rfl (by omega) h2 (by simp; omega)
 rw [show ((x.1.toNat : Nat) : Int) = x.1 by omega] at h6
 simpa using h6
def objP (x : S41 × ByteArray) : Int × Int × List Int × ByteArray × Int × Int × ByteArray := (x.1.f0, x.1.f1, x.1.f2, x.1.f3, x.1.f4, x.1.f5, x.2)
theorem obj_ev {s : ByteArray} (hs : s.size ≤ 17592186044416) {r : S41 × ByteArray} (h : objR s = some r) : Ev (fun k => snap_reader_object.f k s) (objP r) := by
 unfold objR at h
 obtain ⟨x, h1, h⟩ := Option.bind_eq_some_iff.mp h
 obtain ⟨y, h2, h⟩ := Option.bind_eq_some_iff.mp h
 obtain ⟨z, h3, h⟩ := Option.bind_eq_some_iff.mp h
 have s1 := numR_size h1
 have s2 := numR_size h2
 have s3 := numR_size h3
 unfold snap_reader_object.f
 refine Ev.bind (num_ev h1) (Ev.bind (num_ev h2) (Ev.bind (num_ev h3) ?_))
 unfold bodyR at h
 by_cases b0 : y.1 = 0
 ·rw [if_pos b0] at h
  simp only [if_pos b0]
  obtain ⟨u, h4, h⟩ := Option.bind_eq_some_iff.mp h
  obtain rfl := Option.some.inj h
  exact Ev.bind (list_ev (by omega) h4) (Ev.now _)
 ·rw [if_neg b0] at h
  simp only [if_neg b0]
  by_cases b1 : y.1 = 1
  ·rw [if_pos b1] at h
   simp only [if_pos b1]
   obtain ⟨u, h4, h⟩ := Option.bind_eq_some_iff.mp h
   obtain ⟨v, h5, h⟩ := Option.bind_eq_some_iff.mp h
   obtain rfl := Option.some.inj h
   refine Ev.bind (num_ev h4) ?_
   simp only [take_eq, h5, Option.bind_some]
   exact Ev.now _
  ·rw [if_neg b1] at h
   simp only [if_neg b1]
   by_cases b2 : y.1 = 2
   ·rw [if_pos b2] at h
    simp only [if_pos b2]
    obtain ⟨u, h4, h⟩ := Option.bind_eq_some_iff.mp h
    obtain rfl := Option.some.inj h
    exact Ev.bind (bits_ev h4) (Ev.now _)
   ·rw [if_neg b2] at h
    simp only [if_neg b2]
    obtain rfl := Option.some.inj h
    exact Ev.now _
theorem num_ok (g : Nat) (s : ByteArray) (x : Int × ByteArray) (w0 w : World) (hI : IsS79 w0 w g s) (hB : Below w0.heap.size w0 w) (h : numR s = some x) :
  Calls Try.prog 46 #[.pointer (some ⟨g, 0, none⟩)] w fun e w' => e = .returned (.int .i64 x.1) ∧ IsS79 w0 w' g x.2 ∧ Below w0.heap.size w0 w' ∧ KeepBut w w' g none := by
 obtain ⟨k, hk⟩ := Ev.rounds (num_ev h)
 exact snap_reader_num.calls k g s x.1 x.2 w0 w hI hB hk
theorem num_none {s : ByteArray} (h : numR s = none) : s.size < 4 := by
 unfold numR at h
 split at h
 ·assumption
 ·cases h
theorem bits_none {s : ByteArray} (h : bitsR s = none) : s.size < 8 := by
 unfold bitsR at h
 split at h
 ·assumption
 ·cases h
theorem take_none {s : ByteArray} {n : Int} (h : takeR s n = none) : n < 0 ∨ (s.size : Int) < n := by
 unfold takeR at h
 split at h
 ·assumption
 ·cases h
set_option maxHeartbeats 4000000 in
set_option maxRecDepth 100000 in
theorem count_cut (g : Nat) (s : ByteArray) (d : Int) (hd : 0 < d) (hs : s.size ≤ 17592186044416) (w0 w : World) (hI : IsS79 w0 w g s) (hB : Below w0.heap.size w0 w) (h : countR s d = none) :
  Calls Try.prog 47 #[.pointer (some ⟨g, 0, none⟩), .int .i64 d] w (CutP w0 w g) := by
 have HI := Aside0.mk hI
 have HB := Aside0.mk hB
 clear hI hB
 cases h1 : numR s with
 | none =>
  have h2 := num_none h1
  go_enter Try.func47, Try.ntmps47
  go_wp2_with (go_at_call 46; refine (num_cut g s w0 w HI.out HB.out h2).mono ?_)
  rintro e w' ⟨rfl, hb, hk⟩
  exact ⟨rfl, rfl, hb, hk⟩
 | some x =>
  have h2 : x.1 < 0 ∨ x.1 > (x.2.size : Int) / d := by
   unfold countR at h
   rw [h1] at h
   simp only [Option.bind_some] at h
   split at h
   ·assumption
   ·cases h
  have h3 := numR_size h1
  have e0 : (x.2.size : Int) / d ≤ x.2.size := Int.ediv_le_self _ (by omega)
  have e1 : 0 ≤ (x.2.size : Int) / d := Int.ediv_nonneg (by omega) (by omega)
  have H1 := Aside0.mk h1
  clear h h1
  go_enter Try.func47, Try.ntmps47
  go_wp2_with (go_at_call 46; refine (num_ok g s x w0 w HI.out HB.out H1.out).mono ?_)
  rintro e w1 ⟨rfl, hi, hb, hk⟩
  have HB1 := Aside0.mk hb
  have HK1 := Aside0.mk hk
  have hc := cellS79_0 hi.1
  clear hi hb hk
  obtain ⟨v, t⟩ := x
  simp only at *
  by_cases h4 : v < 0
  ·have h4z : decide (v < 0) = true := decide_eq_true h4
   go_wp2
   exact ⟨rfl, rfl, HB1.out, HK1.out⟩
  ·have h4z : decide (v < 0) = false := decide_eq_false h4
   have hdz : ¬ d = 0 := by omega
   have hq : Int.tdiv (t.size : Int) d = (t.size : Int) / d := Int.tdiv_eq_ediv_of_nonneg (by omega)
   have e2 : wrap64 (Int.tdiv (t.size : Int) d) = (t.size : Int) / d := by
    rw [hq]
    generalize (t.size : Int) / d = q at *
    unfold wrap64; omega
   have e3 : wrap64 ((t.size : Int) / d) = (t.size : Int) / d := by
    rw [← hq] at *
    exact e2
   have h5z : decide ((t.size : Int) / d < v) = true := decide_eq_true (by omega)
   go_wp2
   exact ⟨rfl, rfl, HB1.out, HK1.out⟩
theorem list_none {s : ByteArray} (hs : s.size ≤ 17592186044416) (h : listR s = none) : countR s 4 = none := by
 unfold listR at h
 cases h1 : countR s 4 with
 | none => rfl
 | some x =>
  rw [h1] at h
  obtain ⟨h2, h3, h4⟩ := countR_size h1
  obtain ⟨r, h5, _⟩ := nums_there x.1.toNat x.2 (by omega)
  rw [Option.bind_some, h5] at h
  cases h
set_option maxHeartbeats 4000000 in
set_option maxRecDepth 100000 in
theorem list_cut (g : Nat) (s : ByteArray) (hs : s.size ≤ 17592186044416) (w0 w : World) (hI : IsS79 w0 w g s) (hB : Below w0.heap.size w0 w) (h : listR s = none) :
  Calls Try.prog 49 #[.pointer (some ⟨g, 0, none⟩)] w (CutP w0 w g) := by
 have HI := Aside0.mk hI
 have HB := Aside0.mk hB
 have H := Aside0.mk (list_none hs h)
 clear hI hB h
 go_enter Try.func49, Try.ntmps49
 go_wp2_with (go_at_call 47; refine (count_cut g s 4 (by omega) hs w0 w HI.out HB.out H.out).mono ?_)
 rintro e w' ⟨rfl, hb, hk⟩
 exact ⟨rfl, rfl, hb, hk⟩
set_option maxHeartbeats 8000000 in
set_option maxRecDepth 100000 in
theorem obj_cut (g : Nat) (s : ByteArray) (hs : s.size ≤ 17592186044416) (w0 w : World) (hI : IsS79 w0 w g s) (hB : Below w0.heap.size w0 w) (h : objR s = none) :
  Calls Try.prog 48 #[.pointer (some ⟨g, 0, none⟩)] w (CutP w0 w g) := by
 have HI := Aside0.mk (hI.alloc (.cells #[.int .i64 0, .int .i64 0, .slice none 0 0, .string (⟨#[]⟩ : ByteArray), .int .i64 0, .int .i64 0] 41))
 have HB := Aside0.mk (below_alloc hB (.cells #[.int .i64 0, .int .i64 0, .slice none 0 0, .string (⟨#[]⟩ : ByteArray), .int .i64 0, .int .i64 0] 41))
 have HK := Aside0.mk (keep_alloc (KeepBut.refl w g none) (.cells #[.int .i64 0, .int .i64 0, .slice none 0 0, .string (⟨#[]⟩ : ByteArray), .int .i64 0, .int .i64 0] 41))
 clear hI hB
 unfold objR at h
 cases h1 : numR s with
 | none =>
  have h2 := num_none h1
  go_enter Try.func48, Try.ntmps48
  go_wp2_with (go_at_call 46; refine (num_cut g s w0 _ HI.out HB.out h2).mono ?_)
  rintro e w' ⟨rfl, hb, hk⟩
  exact ⟨rfl, rfl, hb, HK.out.trans hk (.inl rfl)⟩
 | some x =>
  rw [h1, Option.bind_some] at h
  have z1 := numR_size h1
  have H1 := Aside0.mk h1
  clear h1
  cases h2 : numR x.2 with
  | none =>
   have h3 := num_none h2
   go_enter Try.func48, Try.ntmps48
   go_wp2_with (go_at_call 46; refine (num_ok g s x w0 _ HI.out HB.out H1.out).mono ?_)
   rintro e w1 ⟨rfl, hi, hb, hk⟩
   have HK1 := Aside0.mk (HK.out.trans hk (.inl rfl))
   go_wp2_with (go_at_call 46; refine (num_cut g x.2 w0 _ hi hb h3).mono ?_)
   rintro e w' ⟨rfl, hb, hk⟩
   exact ⟨rfl, rfl, hb, HK1.out.trans hk (.inl rfl)⟩
  | some y =>
   rw [h2, Option.bind_some] at h
   have z2 := numR_size h2
   have H2 := Aside0.mk h2
   clear h2
   cases h3 : numR y.2 with
   | none =>
    have h4 := num_none h3
    go_enter Try.func48, Try.ntmps48
    go_wp2_with (go_at_call 46; refine (num_ok g s x w0 _ HI.out HB.out H1.out).mono ?_)
    rintro e w1 ⟨rfl, hi, hb, hk⟩
    have HK1 := Aside0.mk (HK.out.trans hk (.inl rfl))
    go_wp2_with (go_at_call 46; refine (num_ok g x.2 y w0 _ hi hb H2.out).mono ?_)
    rintro e w2 ⟨rfl, hi, hb, hk⟩
    have HK2 := Aside0.mk (HK1.out.trans hk (.inl rfl))
    go_wp2_with (go_at_call 46; refine (num_cut g y.2 w0 _ hi hb h4).mono ?_)
    rintro e w' ⟨rfl, hb, hk⟩
    exact ⟨rfl, rfl, hb, HK2.out.trans hk (.inl rfl)⟩
   | some z =>
    rw [h3, Option.bind_some] at h
    have z3 := numR_size h3
    have H3 := Aside0.mk h3
    clear h3
    obtain ⟨a, sa⟩ := x
    obtain ⟨b, sb⟩ := y
    obtain ⟨c, sc⟩ := z
    simp only at h z1 z2 z3 H2 H3
    go_enter Try.func48, Try.ntmps48
    go_wp2_with (go_at_call 46; refine (num_ok g s (a, sa) w0 _ HI.out HB.out H1.out).mono ?_)
    rintro e w1 rfl hi hb hk
    have HK1 := Aside0.mk (HK.out.trans hk (.inl rfl))
    go_wp2_with (go_at_call 46; refine (num_ok g sa (b, sb) w0 _ hi hb H2.out).mono ?_)
    rintro e w2 rfl hi hb hk
    have HK2 := Aside0.mk (HK1.out.trans hk (.inl rfl))
    go_wp2_with (go_at_call 46; refine (num_ok g sb (c, sc) w0 _ hi hb H3.out).mono ?_)
    rintro e w3 rfl hi hb hk
    have HK3 := Aside0.mk (keep_alloc (HK2.out.trans hk (.inl rfl)) (.cells #[.int .i64 a, .int .i64 b, .slice none 0 0, .string (⟨#[]⟩ : ByteArray), .int .i64 0, .int .i64 c] 41))
    have HI3 := Aside0.mk (hi.alloc (.cells #[.int .i64 a, .int .i64 b, .slice none 0 0, .string (⟨#[]⟩ : ByteArray), .int .i64 0, .int .i64 c] 41))
    have HB3 := Aside0.mk (below_alloc hb (.cells #[.int .i64 a, .int .i64 b, .slice none 0 0, .string (⟨#[]⟩ : ByteArray), .int .i64 0, .int .i64 c] 41))
    clear hi hb hk HK1 HK2 HK HI HB H1 H2 H3
    unfold bodyR at h
    by_cases b0 : b = 0
    ·subst b0
     rw [if_pos rfl] at h
     have h5 : listR sc = none := by
      cases h6 : listR sc with
      | none => rfl
      | some u => rw [h6] at h; cases h
     go_wp2_with (go_at_call 49; refine (list_cut g sc (by omega) w0 _ HI3.out HB3.out h5).mono ?_)
     rintro e w' ⟨rfl, hb, hk⟩
     exact ⟨rfl, rfl, hb, HK3.out.trans hk (.inl rfl)⟩
    ·have b0z : decide (b = 0) = false := decide_eq_false b0
     rw [if_neg b0] at h
     by_cases b1 : b = 1
     ·subst b1
      rw [if_pos rfl] at h
      cases h5 : numR sc with
      | none =>
       have h6 := num_none h5
       go_wp2_with (go_at_call 46; refine (num_cut g sc w0 _ HI3.out HB3.out h6).mono ?_)
       rintro e w' ⟨rfl, hb, hk⟩
       exact ⟨rfl, rfl, hb, HK3.out.trans hk (.inl rfl)⟩
      | some u =>
       rw [h5, Option.bind_some] at h
       obtain ⟨n, su⟩ := u
       have h7 : takeR su n = none := by
        cases h8 : takeR su n with
        | none => rfl
        | some v => simp only [h8] at h; cases h
       go_wp2_with (go_at_call 46; refine (num_ok g sc (n, su) w0 _ HI3.out HB3.out h5).mono ?_)
       rintro e w4 rfl hi hb hk4
       have HK4 := Aside0.mk (HK3.out.trans hk4 (.inl rfl))
       go_wp2_with (go_at_call 45; refine (take_cut g su n w0 _ hi hb (take_none h7)).mono ?_)
       rintro e w' ⟨rfl, hb, hk⟩
       exact ⟨rfl, rfl, hb, HK4.out.trans hk (.inl rfl)⟩
     ·have b1z : decide (b = 1) = false := decide_eq_false b1
      rw [if_neg b1] at h
      by_cases b2 : b = 2
      ·subst b2
       rw [if_pos rfl] at h
       have h5 : bitsR sc = none := by
        cases h6 : bitsR sc with
        | none => rfl
        | some u => rw [h6] at h; cases h
       go_wp2_with (go_at_call 61; refine (bits_cut g sc w0 _ HI3.out HB3.out (bits_none h5)).mono ?_)
       rintro e w' ⟨rfl, hb, hk⟩
       exact ⟨rfl, rfl, hb, HK3.out.trans hk (.inl rfl)⟩
      ·rw [if_neg b2] at h; cases h
set_option maxHeartbeats 4000000 in
set_option maxRecDepth 100000 in
theorem catch_idle (a b c : Value) (w : World) :
  CallsD Try.prog 44 #[a, b, c] .returning w fun e u' w' => e = .returned (.tuple #[]) ∧ u' = .returning ∧ w' = w := by
 refine callsD_of_wpS Try.func44 rfl fun c₀ cs hu => ?_
 apply wpS_seq
 apply wpS_region
 simp [wpOpsS, go_sem, recoverD, hu, Try.ntmps44, Exit.thenS]
 apply wpS_seq
 apply wpS_region
 simp [wpOpsS, go_sem, recoverD, hu, Try.ntmps44, Exit.thenS]
 refine wpS_cond (t := false) (by simp [Act.eval, Array.replicate]) ?_
 simp only [Bool.false_eq_true, if_false]
 refine wpS_of_wp (wp_skip ?_)
 cases c₀
 simp_all [bodyPostS, results, Try.results44]
set_option maxHeartbeats 4000000 in
set_option maxRecDepth 100000 in
theorem catch_cut (G2 G3 G4 : Nat) (v0 v1 v2 v3 v4 : Value) (w w0 : World) (h2 : w.heap[G2]? = some (.cells #[v0, v1, v2] 24 (0, 0))) (h3 : w.heap[G3]? = some (.cells #[v3] 25 (0, 0))) (h4 : w.heap[G4]? = some (.cells #[v4] 4 (0, 0))) (hB : Below w0.heap.size w0 w) (hG2 : w0.heap.size ≤ G2) (hG3 : w0.heap.size ≤ G3) (hG4 : w0.heap.size ≤ G4) (older : List PanicEntry) :
  CallsD Try.prog 44 #[.pointer (some ⟨G2, 0, none⟩), .pointer (some ⟨G3, 0, none⟩), .pointer (some ⟨G4, 0, none⟩)] (.panicking ({ v := .iface 75 (.agg #[]), recovered := false } :: older)) w fun e u' w' =>
   e = .returned (.tuple #[]) ∧ u' = .panicking ({ v := .iface 75 (.agg #[]), recovered := true } :: older) ∧ w'.heap[G2]? = some (.cells #[.slice none 0 0, .int .i64 0, .int .i64 0] 24 (0, 0)) ∧ w'.heap[G3]? = some (.cells #[.slice none 0 0] 25 (0, 0)) ∧ w'.heap[G4]? = some (.cells #[.bool false] 4 (0, 0)) ∧ Below w0.heap.size w0 w' := by
 refine callsD_of_wpS Try.func44 rfl fun c₀ cs hu => ?_
 apply wpS_seq
 apply wpS_region
 simp [wpOpsS, go_sem, recoverD, hu, Try.ntmps44, Exit.thenS]
 apply wpS_seq
 apply wpS_region
 simp [wpOpsS, go_sem, recoverD, hu, Try.ntmps44, Exit.thenS]
 refine wpS_cond (t := true) (by simp [Act.eval, Array.replicate]) ?_
 simp only [if_true]
 refine wpS_of_wp ?_
 change Code.wp Try.prog _ _ { tmps := #[.pointer (some ⟨G2, 0, none⟩), .pointer (some ⟨G3, 0, none⟩), .pointer (some ⟨G4, 0, none⟩), .iface 75 (.agg #[]), undef, undef, .iface 75 (.agg #[]), .iface 75 (.agg #[]), .bool true, undef, undef, undef, undef, undef, undef, undef, undef, undef], defers := [] } w
 have n23 : G2 ≠ G3 := blk_ne h2 h3 (by decide)
 have n24 : G2 ≠ G4 := blk_ne h2 h4 (by decide)
 have n34 : G3 ≠ G4 := blk_ne h3 h4 (by decide)
 have g2 : (w.alloc (.cells #[] 75)).heap[G2]? = some (.cells #[v0, v1, v2] 24 (0, 0)) := (Lib.alloc_old w _ _ (blk_lt h2)).trans h2
 have g3 : (w.alloc (.cells #[] 75)).heap[G3]? = some (.cells #[v3] 25 (0, 0)) := (Lib.alloc_old w _ _ (blk_lt h3)).trans h3
 have g4 : (w.alloc (.cells #[] 75)).heap[G4]? = some (.cells #[v4] 4 (0, 0)) := (Lib.alloc_old w _ _ (blk_lt h4)).trans h4
 have a0 : (w.alloc (.cells #[] 75)).cell? ⟨G2, 0, none⟩ = some v0 := (blk_cell g2 0).trans rfl
 have a1 : (w.alloc (.cells #[] 75)).cell? ⟨G2, 1, none⟩ = some v1 := (blk_cell g2 1).trans rfl
 have a2 : (w.alloc (.cells #[] 75)).cell? ⟨G2, 2, none⟩ = some v2 := (blk_cell g2 2).trans rfl
 have a3 : (w.alloc (.cells #[] 75)).cell? ⟨G3, 0, none⟩ = some v3 := (blk_cell g3 0).trans rfl
 have a4 : (w.alloc (.cells #[] 75)).cell? ⟨G4, 0, none⟩ = some v4 := (blk_cell g4 0).trans rfl
 have f0 := blk_frozen g2 0
 have f1 := blk_frozen g2 1
 have f2 := blk_frozen g2 2
 have f3 := blk_frozen g3 0
 have f4 := blk_frozen g4 0
 have HG2 := Aside0.mk g2
 have HG3 := Aside0.mk g3
 have HG4 := Aside0.mk g4
 have H2 := Aside0.mk h2
 have H3 := Aside0.mk h3
 have H4 := Aside0.mk h4
 have HB := Aside0.mk hB
 clear g2 g3 g4 h2 h3 h4 hB
 have hta : ∀ W : World, (Instr.typeAssert (.iface 75 (.agg #[])) 20 75 true).run Try.prog W = .ok (.tuple #[.agg #[], .bool true]) W := fun W => by simp [Instr.typeAssert, run_underlying Try.underlying75, go_sem, Result.andThen]
 go_wp2
 have k2 := blk_far (blk_far (blk_set (blk_set (blk_set HG2.out 0 (.slice none 0 0)) 1 (.int .i64 0)) 2 (.int .i64 0)) (p := ⟨G3, 0, none⟩) n23 (.slice none 0 0)) (p := ⟨G4, 0, none⟩) n24 (.bool false)
 have k3 := blk_far (blk_set (blk_far (blk_far (blk_far HG3.out (p := ⟨G2, 0, none⟩) n23.symm (.slice none 0 0)) (p := ⟨G2, 1, none⟩) n23.symm (.int .i64 0)) (p := ⟨G2, 2, none⟩) n23.symm (.int .i64 0)) 0 (.slice none 0 0)) (p := ⟨G4, 0, none⟩) n34 (.bool false)
 have k4 := blk_set (blk_far (blk_far (blk_far (blk_far HG4.out (p := ⟨G2, 0, none⟩) n24.symm (.slice none 0 0)) (p := ⟨G2, 1, none⟩) n24.symm (.int .i64 0)) (p := ⟨G2, 2, none⟩) n24.symm (.int .i64 0)) (p := ⟨G3, 0, none⟩) n34.symm (.slice none 0 0)) 0 (.bool false)
 have k5 := below_set (j := 0) (v := .bool false) (below_set (j := 0) (v := .slice none 0 0) (below_set (j := 2) (v := .int .i64 0) (below_set (j := 1) (v := .int .i64 0) (below_set (j := 0) (v := .slice none 0 0) (below_alloc HB.out (.cells #[] 75)) hG2) hG2) hG2) hG3) hG4
 clear HG2 HG3 HG4 H2 H3 H4 a0 a1 a2 a3 a4 f0 f1 f2 f3 f4 hta
 generalize World.setCell _ (⟨G4, 0, none⟩ : Addr) _ = W at k2 k3 k4 k5 ⊢
 cases c₀
 simp_all [bodyPostS, results, Try.results44]
def objsR : Nat → ByteArray → Option (List S41 × ByteArray)
 | 0, s => some ([], s)
 | n + 1, s => (objR s).bind fun x => (objsR n x.2).bind fun y => some (x.1 :: y.1, y.2)
def headR (s : ByteArray) : Option ByteArray := (takeR s 3).bind fun x => if x.1.toList = [65, 78, 49] then some x.2 else none
def restR (s : ByteArray) : Option (List S41 × Int × Int × List Int) :=
 (numR s).bind fun c => (numR c.2).bind fun l => (countR l.2 12).bind fun n => (objsR n.1.toNat n.2).bind fun o => (listR o.2).bind fun r => if r.2.size = 0 then some (o.1, c.1, l.1, r.1) else none
def readR (s : ByteArray) : Option (List S41 × Int × Int × List Int) := (headR s).bind restR
structure RS (w : World) (G2 G3 G4 g : Nat) (vo : Value) (objs : List S41) (cap last : Int) (s : ByteArray) (W : World) : Prop where
 h2 : W.heap[G2]? = some (.cells #[vo, .int .i64 cap, .int .i64 last] 24 (0, 0))
 h3 : W.heap[G3]? = some (.cells #[.slice none 0 0] 25 (0, 0))
 h4 : W.heap[G4]? = some (.cells #[.bool false] 4 (0, 0))
 I : IsS79 w W g s
 O : Kd.S k41 41 W w.heap.size (fun _ => True) vo objs
 B : Below w.heap.size w W
 g2 : w.heap.size ≤ G2
 g3 : w.heap.size ≤ G3
 g4 : w.heap.size ≤ G4
def ReadPost (w : World) (r1 : List S41) (r2 r3 : Int) (r4 : List Int) (r5 : Bool) (e : Ending) (w' : World) : Prop :=
 ∃ v0_ v3_ : Value, e = .returned (.tuple #[.agg #[v0_, .int .i64 r2, .int .i64 r3], v3_, .bool r5]) ∧ Kd.S k41 41 w' w.heap.size (fun k_ => some k_ ≠ (v3_ : Value).ownBlock) v0_ r1 ∧ Kd.R (Kd.int .i64) 3 w' w.heap.size (fun _ => True) v3_ r4 ∧ Below w.heap.size w w'
theorem RS.step {w W W' : World} {G2 G3 G4 g : Nat} {vo : Value} {objs : List S41} {cap last : Int} {s s' : ByteArray} (h : RS w G2 G3 G4 g vo objs cap last s W) (hi : IsS79 w W' g s') (hb : Below w.heap.size w W') (hk : KeepBut W W' g none) : RS w G2 G3 G4 g vo objs cap last s' W' := by
 have n2 := blk_ne h.h2 h.I.1 (by decide)
 have n3 := blk_ne h.h3 h.I.1 (by decide)
 have n4 := blk_ne h.h4 h.I.1 (by decide)
 refine ⟨(hk.2 _ (blk_lt h.h2) n2 (by simp)).trans h.h2, (hk.2 _ (blk_lt h.h3) n3 (by simp)).trans h.h3, (hk.2 _ (blk_lt h.h4) n4 (by simp)).trans h.h4, hi, ?_, hb, h.g2, h.g3, h.g4⟩
 exact Kd.S_mono (Kd.S_keep (Kd.S_types h.O h.I.1 (by decide)) hk (fun k hk => hk.2)) (fun _ _ => trivial)
theorem count_ok (g : Nat) (s : ByteArray) (d : Int) (hd : 0 < d) (hs : s.size ≤ 17592186044416) (x : Int × ByteArray) (w0 w : World) (hI : IsS79 w0 w g s) (hB : Below w0.heap.size w0 w) (h : countR s d = some x) :
  Calls Try.prog 47 #[.pointer (some ⟨g, 0, none⟩), .int .i64 d] w fun e w' => e = .returned (.int .i64 x.1) ∧ IsS79 w0 w' g x.2 ∧ Below w0.heap.size w0 w' ∧ KeepBut w w' g none := by
 obtain ⟨k, hk⟩ := Ev.rounds (count_ev hd (by omega) h)
 exact snap_reader_count.calls k g s d x.1 x.2 w0 w hI hB hk
theorem list_ok (g : Nat) (s : ByteArray) (hs : s.size ≤ 17592186044416) (x : List Int × ByteArray) (w0 w : World) (hI : IsS79 w0 w g s) (hB : Below w0.heap.size w0 w) (h : listR s = some x) :
  Calls Try.prog 49 #[.pointer (some ⟨g, 0, none⟩)] w fun e w' => ∃ v0_ : Value, e = .returned (v0_) ∧ Kd.R (Kd.int .i64) 3 w' w.heap.size (fun _ => True) v0_ x.1 ∧ IsS79 w0 w' g x.2 ∧ Below w0.heap.size w0 w' ∧ KeepBut w w' g none := by
 obtain ⟨k, hk⟩ := Ev.rounds (list_ev hs h)
 exact snap_reader_list.calls k g s x.1 x.2 w0 w hI hB hk
theorem obj_ok (g : Nat) (s : ByteArray) (hs : s.size ≤ 17592186044416) (x : S41 × ByteArray) (w0 w : World) (hI : IsS79 w0 w g s) (hB : Below w0.heap.size w0 w) (h : objR s = some x) :
  Calls Try.prog 48 #[.pointer (some ⟨g, 0, none⟩)] w fun e w' => ∃ v2_ : Value, e = .returned (.agg #[.int .i64 x.1.f0, .int .i64 x.1.f1, v2_, .string x.1.f3, .int .i64 x.1.f4, .int .i64 x.1.f5]) ∧ Kd.R (Kd.int .i64) 3 w' w.heap.size (fun _ => True) v2_ x.1.f2 ∧ IsS79 w0 w' g x.2 ∧ Below w0.heap.size w0 w' ∧ KeepBut w w' g none := by
 obtain ⟨k, hk⟩ := Ev.rounds (obj_ev hs h)
 exact snap_reader_object.calls k g s _ _ _ _ _ _ _ w0 w hI hB hk
set_option maxHeartbeats 4000000 in
set_option maxRecDepth 100000 in
theorem read_out (w W : World) (G2 G3 G4 : Nat) (tmps : Array Value) (t2 : tmps[2]? = some (.pointer (some ⟨G2, 0, none⟩))) (t3 : tmps[3]? = some (.pointer (some ⟨G3, 0, none⟩))) (t4 : tmps[4]? = some (.pointer (some ⟨G4, 0, none⟩))) (v0 v1 v2 v3 v4 : Value)
  (h2 : W.heap[G2]? = some (.cells #[v0, v1, v2] 24 (0, 0))) (h3 : W.heap[G3]? = some (.cells #[v3] 25 (0, 0))) (h4 : W.heap[G4]? = some (.cells #[v4] 4 (0, 0))) (hB : Below w.heap.size w W) (hG2 : w.heap.size ≤ G2) (hG3 : w.heap.size ≤ G3) (hG4 : w.heap.size ≤ G4) :
  bodyPostD Try.prog Try.f22 (ReadPost w [] 0 0 [] false) (Exit.panic [{ v := .iface 75 (.agg #[]), recovered := false }]) { tmps := tmps, defers := [{ target := Target.fn (Fn.func 44) #[.pointer (some ⟨G2, 0, none⟩), .pointer (some ⟨G3, 0, none⟩), .pointer (some ⟨G4, 0, none⟩)], args := #[] }] } W := by
 refine leaves_cons (f := 44) (args := #[.pointer (some ⟨G2, 0, none⟩), .pointer (some ⟨G3, 0, none⟩), .pointer (some ⟨G4, 0, none⟩)]) (by simp) (by simp [go_sem]) ?_
 refine (catch_cut G2 G3 G4 v0 v1 v2 v3 v4 W w h2 h3 h4 hB hG2 hG3 hG4 []).mono ?_
 rintro e u' w'' ⟨rfl, rfl, k2, k3, k4, kB⟩
 have c0 : w''.cell? ⟨G2, 0, none⟩ = some (.slice none 0 0) := (blk_cell k2 0).trans rfl
 have c1 : w''.cell? ⟨G2, 1, none⟩ = some (.int .i64 0) := (blk_cell k2 1).trans rfl
 have c2 : w''.cell? ⟨G2, 2, none⟩ = some (.int .i64 0) := (blk_cell k2 2).trans rfl
 have c3 : w''.cell? ⟨G3, 0, none⟩ = some (.slice none 0 0) := (blk_cell k3 0).trans rfl
 have c4 : w''.cell? ⟨G4, 0, none⟩ = some (.bool false) := (blk_cell k4 0).trans rfl
 simp [Leaves, settle, results, Try.results22, go_sem, t2, t3, t4, c0, c1, c2, c3, c4]
 exact ⟨_, _, rfl, Kd.S_nil _ _ _ _ _, Kd.R_nil _ _ _ _ _, kB⟩
theorem RS.out {w W W' : World} {G2 G3 G4 g : Nat} {vo : Value} {objs : List S41} {cap last : Int} {s : ByteArray} (h : RS w G2 G3 G4 g vo objs cap last s W) (hb : Below w.heap.size w W') (hk : KeepBut W W' g none) (tmps : Array Value) (t2 : tmps[2]? = some (.pointer (some ⟨G2, 0, none⟩))) (t3 : tmps[3]? = some (.pointer (some ⟨G3, 0, none⟩))) (t4 : tmps[4]? = some (.pointer (some ⟨G4, 0, none⟩))) :
  bodyPostD Try.prog Try.f22 (ReadPost w [] 0 0 [] false) (Exit.panic [{ v := .iface 75 (.agg #[]), recovered := false }]) { tmps := tmps, defers := [{ target := Target.fn (Fn.func 44) #[.pointer (some ⟨G2, 0, none⟩), .pointer (some ⟨G3, 0, none⟩), .pointer (some ⟨G4, 0, none⟩)], args := #[] }] } W' := by
 have n2 := blk_ne h.h2 h.I.1 (by decide)
 have n3 := blk_ne h.h3 h.I.1 (by decide)
 have n4 := blk_ne h.h4 h.I.1 (by decide)
 exact read_out w W' G2 G3 G4 tmps t2 t3 t4 _ _ _ _ _ ((hk.2 _ (blk_lt h.h2) n2 (by simp)).trans h.h2) ((hk.2 _ (blk_lt h.h3) n3 (by simp)).trans h.h3) ((hk.2 _ (blk_lt h.h4) n4 (by simp)).trans h.h4) hb h.g2 h.g3 h.g4
theorem RS.new (w : World) (s : ByteArray) : RS w w.heap.size (w.heap.size + 1) (w.heap.size + 1 + 1) (w.heap.size + 1 + 1 + 1) (.slice none 0 0) [] 0 0 s ((((w.alloc (.cells #[.slice none 0 0, .int .i64 0, .int .i64 0] 24)).alloc (.cells #[.slice none 0 0] 25)).alloc (.cells #[.bool false] 4)).alloc (.cells #[.string s] 79)) := by
 refine ⟨?_, ?_, ?_, ⟨?_, by omega⟩, Kd.S_nil _ _ _ _ _, below_alloc (below_alloc (below_alloc (below_alloc (Below.refl _ _) _) _) _) _, by omega, by omega, by omega⟩
 ·rw [Lib.alloc_old _ _ _ (by first | (simp; done) | (simp; omega)), Lib.alloc_old _ _ _ (by first | (simp; done) | (simp; omega)), Lib.alloc_old _ _ _ (by first | (simp; done) | (simp; omega))]
  exact heap_alloc_new _ _
 ·rw [Lib.alloc_old _ _ _ (by first | (simp; done) | (simp; omega)), Lib.alloc_old _ _ _ (by first | (simp; done) | (simp; omega))]
  have := heap_alloc_new (w.alloc (.cells #[.slice none 0 0, .int .i64 0, .int .i64 0] 24)) (.cells #[.slice none 0 0] 25)
  simpa using this
 ·rw [Lib.alloc_old _ _ _ (by first | (simp; done) | (simp; omega))]
  have := heap_alloc_new ((w.alloc (.cells #[.slice none 0 0, .int .i64 0, .int .i64 0] 24)).alloc (.cells #[.slice none 0 0] 25)) (.cells #[.bool false] 4)
  simpa using this
 ·have := heap_alloc_new (((w.alloc (.cells #[.slice none 0 0, .int .i64 0, .int .i64 0] 24)).alloc (.cells #[.slice none 0 0] 25)).alloc (.cells #[.bool false] 4)) (.cells #[.string s] 79)
  simpa using this
theorem take_ok (g : Nat) (s : ByteArray) (n : Int) (x : ByteArray × ByteArray) (w0 w : World) (hI : IsS79 w0 w g s) (hB : Below w0.heap.size w0 w) (h : takeR s n = some x) :
  Calls Try.prog 45 #[.pointer (some ⟨g, 0, none⟩), .int .i64 n] w fun e w' => e = .returned (.string x.1) ∧ IsS79 w0 w' g x.2 ∧ Below w0.heap.size w0 w' ∧ KeepBut w w' g none :=
 snap_reader_take.calls g s n x.1 x.2 w0 w hI hB (by rw [take_eq]; exact h)
theorem RS.heads {w W : World} {G2 G3 G4 g : Nat} {vo : Value} {objs : List S41} {a b : Int} {s : ByteArray} (h : RS w G2 G3 G4 g vo objs a b s W) (cap last : Int) : RS w G2 G3 G4 g vo objs cap last s ((W.setCell ⟨G2, 1, none⟩ (.int .i64 cap)).setCell ⟨G2, 2, none⟩ (.int .i64 last)) := by
 have n23 : G2 ≠ G3 := blk_ne h.h2 h.h3 (by decide)
 have n24 : G2 ≠ G4 := blk_ne h.h2 h.h4 (by decide)
 have ng : g ≠ G2 := blk_ne h.I.1 h.h2 (by decide)
 have k2 := blk_put h.h2 1 (.int .i64 cap) rfl
 refine ⟨blk_put k2 2 (.int .i64 last) rfl, blk_far (blk_far h.h3 n23.symm _) n23.symm _, blk_far (blk_far h.h4 n24.symm _) n24.symm _, (h.I.far ng _).far ng _, Kd.S_set (Kd.S_set h.O h.h2 (by decide) 1 _) k2 (by decide) 2 _, below_set (below_set h.B h.g2) h.g2, h.g2, h.g3, h.g4⟩
theorem leaves_congr {P : Program} {fn : Func} {t1 t2 : Array Value} {R : Ending → World → Prop} (h : results fn t1 = results fn t2) : ∀ (ds : List Deferred) (u : FrameMode) (w : World), Leaves P fn t1 R ds u w → Leaves P fn t2 R ds u w
 | [], .returning, w, hh => by obtain ⟨v, h1, h2⟩ := hh; exact ⟨v, by rw [← h]; exact h1, h2⟩
 | [], .panicking chain, w, hh => hh
 | [], .run, w, hh => hh
 | d :: ds, u, w, hh => by
  obtain ⟨h0, fv, cap, f, args, h1, h2, h3⟩ := hh
  refine ⟨h0, fv, cap, f, args, h1, h2, h3.mono ?_⟩
  intro e u' w' h4
  cases e with
  | returned v => exact leaves_congr h ds _ _ h4
  | panicked chain => exact leaves_congr h ds _ _ h4
  | outgrown => exact h4
theorem outQ {R : Ending → World → Prop} (i : Nat) (h2 : i ≠ 2) (h3 : i ≠ 3) (h4 : i ≠ 4) {v : Value} (c : List PanicEntry) (a : Act) (w : World) (h : bodyPostD Try.prog Try.f22 R (.panic c) (a.put (some i) v) w) : bodyPostD Try.prog Try.f22 R (.panic c) a w := by
 refine leaves_congr (t1 := a.tmps.setIfInBounds i v) ?_ _ _ _ h
 simp [results, Try.results22, h2, h3, h4]
theorem RS.drew {w W : World} {G2 G3 G4 g : Nat} {vo : Value} {objs : List S41} {cap last : Int} {s : ByteArray} (h : RS w G2 G3 G4 g vo objs cap last s W) : RS w G2 G3 G4 g vo objs cap last s W.drew :=
 ⟨h.h2, h.h3, h.h4, h.I.drew, Kd.S_drew h.O, h.B.drew, h.g2, h.g3, h.g4⟩
theorem RS.ne {w W : World} {G2 G3 G4 g : Nat} {vo : Value} {objs : List S41} {cap last : Int} {s : ByteArray} (h : RS w G2 G3 G4 g vo objs cap last s W) {k t : Nat} {cs : Array Value} (hk : W.heap[k]? = some (.cells cs t (0, 0))) (ht : t ≠ 41) : some k ≠ vo.ownBlock := fun e => by
 obtain ⟨cells, hc⟩ := Kd.S_typed h.O k e.symm
 rw [hk] at hc
 injection hc with hc
 injection hc with _ hc _
 exact ht hc
theorem RS.cell_grown {w W w6 : World} {G2 G3 G4 g : Nat} {vo : Value} {objs : List S41} {cap last : Int} {s : ByteArray} (h : RS w G2 G3 G4 g vo objs cap last s W) (hg : W.grownBy w6 vo.ownBlock) : w6.cell? ⟨G2, 0, none⟩ = some vo :=
 (blk_cell (blk_grown h.h2 hg (h.ne h.h2 (by decide))) 0).trans rfl
theorem RS.frozen_grown {w W w6 : World} {G2 G3 G4 g : Nat} {vo : Value} {objs : List S41} {cap last : Int} {s : ByteArray} (h : RS w G2 G3 G4 g vo objs cap last s W) (hg : W.grownBy w6 vo.ownBlock) : w6.frozen? ⟨G2, 0, none⟩ = false :=
 blk_frozen (blk_grown h.h2 hg (h.ne h.h2 (by decide))) 0
theorem RS.appended {w W w6 : World} {G2 G3 G4 g : Nat} {vo v6 : Value} {objs objs' : List S41} {cap last : Int} {s : ByteArray} (h : RS w G2 G3 G4 g vo objs cap last s W) (ho : Kd.S k41 41 w6 w.heap.size (fun _ => True) v6 objs') (hb : Below w.heap.size w w6) (hg : W.grownBy w6 vo.ownBlock) : RS w G2 G3 G4 g v6 objs' cap last s (w6.setCell ⟨G2, 0, none⟩ v6) := by
 have k2 := blk_grown h.h2 hg (h.ne h.h2 (by decide))
 have k3 := blk_grown h.h3 hg (h.ne h.h3 (by decide))
 have k4 := blk_grown h.h4 hg (h.ne h.h4 (by decide))
 have kI := h.I.grown hg (h.ne h.I.1 (by decide))
 have n23 : G2 ≠ G3 := blk_ne h.h2 h.h3 (by decide)
 have n24 : G2 ≠ G4 := blk_ne h.h2 h.h4 (by decide)
 have ng : g ≠ G2 := blk_ne h.I.1 h.h2 (by decide)
 exact ⟨blk_put k2 0 v6 rfl, blk_far k3 n23.symm _, blk_far k4 n24.symm _, kI.far ng _, Kd.S_set ho k2 (by decide) 0 _, below_set hb h.g2, h.g2, h.g3, h.g4⟩
theorem info41_ : (Try.prog.info? 41).map (fun i => (i.zero, i.size, i.bytes)) = some (some (.agg #[(.int .i64 0), (.int .i64 0), (.slice none 0 0), (.string ⟨#[]⟩), (.int .i64 0), (.int .i64 0)]), 6, 72) := by kernel_rfl
theorem goesP_ {P : Program} {ops : Array Oper} {Q : Exit → Act → World → Prop} {oi : Oper} {N : Option Tmp} {a : Act} {w : World} {K : Act → World → Prop} {f : FuncId} {fn : Func} {xs_ : Array Operand} {ts : Array TypeId} (hf : P.funcs[f]? = some fn) (hname : (fn.name == "runtime.NumGoroutine") = false) (hb : fn.body.isSome = true) (args : Array Value)
  (hw : Region.wanted oi (yielded ops a.tmps) = true) (hN : oi.dst = N) (hop : oi.op = .call { callee := .value (.func f), args := xs_, argTypes := ts }) (hargs : xs_.map a.eval = args)
  (h : Calls P f args w fun e w' => ∃ chain, e = .panicked chain ∧ Q (.panic chain) a w') : if Region.wanted oi (yielded ops a.tmps) = true then Oper.wp P oi a w K Q else K (a.put N undef) w := by
 have he := enters_ hf hname hb args w
 have hrun : (execOp a.eval oi).run P w = .ok (.enter f args) w := by
  unfold execOp
  simp [hop, resolve, Deferred.ofValue, invoke, Act.eval, hargs, he]
 rw [if_pos hw]
 unfold Oper.wp
 rw [hrun, Oper.upon_enter]
 refine h.mono fun e w'' hh => ?_
 obtain ⟨chain, rfl, hk⟩ := hh
 exact hk
theorem takeR_size {s : ByteArray} {n : Int} {x : ByteArray × ByteArray} (h : takeR s n = some x) : x.2.size ≤ s.size := by
 unfold takeR at h
 split at h
 ·cases h
 ·obtain rfl := Option.some.inj h
  show (s.extract _ s.size).size ≤ _
  rw [ByteArray.size_extract]; omega
theorem numsR_size : ∀ (n : Nat) {s : ByteArray} {x : List Int × ByteArray}, numsR n s = some x → x.2.size ≤ s.size
 | 0, s, x, h => by obtain rfl := Option.some.inj h; exact Nat.le_refl _
 | n + 1, s, x, h => by
  rw [numsR] at h
  obtain ⟨y, h1, h2⟩ := Option.bind_eq_some_iff.mp h
  obtain ⟨z, h3, h4⟩ := Option.bind_eq_some_iff.mp h2
  obtain rfl := Option.some.inj h4
  have := numR_size h1
  have := numsR_size n h3
  show z.2.size ≤ _
  omega
theorem listR_size {s : ByteArray} {x : List Int × ByteArray} (h : listR s = some x) : x.2.size ≤ s.size := by
 unfold listR at h
 obtain ⟨y, h1, h2⟩ := Option.bind_eq_some_iff.mp h
 have := countR_size h1
 have := numsR_size _ h2
 omega
theorem objR_size {s : ByteArray} {x : S41 × ByteArray} (h : objR s = some x) : x.2.size ≤ s.size := by
 unfold objR at h
 obtain ⟨a, h1, h⟩ := Option.bind_eq_some_iff.mp h
 obtain ⟨b, h2, h⟩ := Option.bind_eq_some_iff.mp h
 obtain ⟨c, h3, h⟩ := Option.bind_eq_some_iff.mp h
 have s1 := numR_size h1
 have s2 := numR_size h2
 have s3 := numR_size h3
 unfold bodyR at h
 split at h
 ·obtain ⟨u, h4, h⟩ := Option.bind_eq_some_iff.mp h
  obtain rfl := Option.some.inj h
  have := listR_size h4
  show u.2.size ≤ _
  omega
 ·split at h
  ·obtain ⟨u, h4, h⟩ := Option.bind_eq_some_iff.mp h
   obtain ⟨v, h5, h⟩ := Option.bind_eq_some_iff.mp h
   obtain rfl := Option.some.inj h
   have := numR_size h4
   have := takeR_size h5
   show v.2.size ≤ _
   omega
  ·split at h
   ·obtain ⟨u, h4, h⟩ := Option.bind_eq_some_iff.mp h
    obtain rfl := Option.some.inj h
    unfold bitsR at h4
    split at h4
    ·cases h4
    ·obtain rfl := Option.some.inj h4
     show (c.2.extract _ c.2.size).size ≤ _
     rw [ByteArray.size_extract]; omega
   ·obtain rfl := Option.some.inj h
    show c.2.size ≤ _
    omega
theorem BA_loop (s : ByteArray) : ∀ (d i : Nat) (r : List UInt8), i + d = s.size → ByteArray.toList.loop s i r = r.reverse ++ s.data.toList.drop i
 | 0, i, r, h => by
  have hs : s.data.size = s.size := rfl
  rw [ByteArray.toList.loop, if_neg (by omega), List.drop_eq_nil_of_le (by simp; omega), List.append_nil]
 | d + 1, i, r, h => by
  have hs : s.data.size = s.size := rfl
  have hi : i < s.data.toList.length := by simp; omega
  rw [ByteArray.toList.loop, if_pos (by omega), BA_loop s d (i + 1) _ (by omega), List.drop_eq_getElem_cons hi]
  have : s.get! i = s.data.toList[i] := by
   simp only [ByteArray.get!, Array.getElem_toList]
   exact getElem!_pos s.data i (by omega)
  rw [this]
  simp
theorem BA_toList (s : ByteArray) : s.toList = s.data.toList := by
 rw [ByteArray.toList, BA_loop s s.size 0 [] (by omega)]; rfl
theorem BA_toList_len (s : ByteArray) : s.toList.length = s.size := by rw [BA_toList]; simp
structure RT (w : World) (G2 G3 G4 : Nat) (vo : Value) (objs : List S41) (cap last : Int) (v3 : Value) (l3 : List Int) (b : Bool) (W : World) : Prop where
 h2 : W.heap[G2]? = some (.cells #[vo, .int .i64 cap, .int .i64 last] 24 (0, 0))
 h3 : W.heap[G3]? = some (.cells #[v3] 25 (0, 0))
 h4 : W.heap[G4]? = some (.cells #[.bool b] 4 (0, 0))
 O : Kd.S k41 41 W w.heap.size (fun k_ => some k_ ≠ v3.ownBlock) vo objs
 R : Kd.R (Kd.int .i64) 3 W w.heap.size (fun _ => True) v3 l3
 B : Below w.heap.size w W
 g2 : w.heap.size ≤ G2
 g3 : w.heap.size ≤ G3
 g4 : w.heap.size ≤ G4
theorem read_ret (w W : World) (G2 G3 G4 : Nat) (tmps : Array Value) (t2 : tmps[2]? = some (.pointer (some ⟨G2, 0, none⟩))) (t3 : tmps[3]? = some (.pointer (some ⟨G3, 0, none⟩))) (t4 : tmps[4]? = some (.pointer (some ⟨G4, 0, none⟩))) {vo v3 : Value} {objs : List S41} {cap last : Int} {l3 : List Int} (h : RT w G2 G3 G4 vo objs cap last v3 l3 true W) :
  Leaves Try.prog Try.f22 tmps (ReadPost w objs cap last l3 true) [] (settle .returning) W := by
 have c0 : W.cell? ⟨G2, 0, none⟩ = some vo := (blk_cell h.h2 0).trans rfl
 have c1 : W.cell? ⟨G2, 1, none⟩ = some (.int .i64 cap) := (blk_cell h.h2 1).trans rfl
 have c2 : W.cell? ⟨G2, 2, none⟩ = some (.int .i64 last) := (blk_cell h.h2 2).trans rfl
 have c3 : W.cell? ⟨G3, 0, none⟩ = some v3 := (blk_cell h.h3 0).trans rfl
 have c4 : W.cell? ⟨G4, 0, none⟩ = some (.bool true) := (blk_cell h.h4 0).trans rfl
 simp [Leaves, settle, results, Try.results22, go_sem, t2, t3, t4, c0, c1, c2, c3, c4]
 exact ⟨_, _, rfl, h.O, h.R, h.B⟩
theorem RT.drew {w W : World} {G2 G3 G4 : Nat} {vo v3 : Value} {objs : List S41} {cap last : Int} {l3 : List Int} {b : Bool} (h : RT w G2 G3 G4 vo objs cap last v3 l3 b W) : RT w G2 G3 G4 vo objs cap last v3 l3 b W.drew :=
 ⟨h.h2, h.h3, h.h4, Kd.S_drew h.O, Kd.R_drew h.R, h.B.drew, h.g2, h.g3, h.g4⟩
theorem RT.set2 {w W : World} {G2 G3 G4 : Nat} {vo v3 : Value} {objs : List S41} {cap last : Int} {l3 : List Int} {b : Bool} (h : RT w G2 G3 G4 vo objs cap last v3 l3 b W) : RT w G2 G3 G4 vo objs cap last v3 l3 b (((W.setCell ⟨G2, 0, none⟩ vo).setCell ⟨G2, 1, none⟩ (.int .i64 cap)).setCell ⟨G2, 2, none⟩ (.int .i64 last)) := by
 have n23 : G2 ≠ G3 := blk_ne h.h2 h.h3 (by decide)
 have n24 : G2 ≠ G4 := blk_ne h.h2 h.h4 (by decide)
 have k1 := blk_put h.h2 0 vo rfl
 have k2 := blk_put k1 1 (.int .i64 cap) rfl
 exact ⟨blk_put k2 2 (.int .i64 last) rfl, blk_far (blk_far (blk_far h.h3 n23.symm _) n23.symm _) n23.symm _, blk_far (blk_far (blk_far h.h4 n24.symm _) n24.symm _) n24.symm _, Kd.S_set (Kd.S_set (Kd.S_set h.O h.h2 (by decide) 0 _) k1 (by decide) 1 _) k2 (by decide) 2 _, Kd.R_set (Kd.R_set (Kd.R_set h.R h.h2 (by decide) 0 _) k1 (by decide) 1 _) k2 (by decide) 2 _, below_set (below_set (below_set h.B h.g2) h.g2) h.g2, h.g2, h.g3, h.g4⟩
theorem RT.set3 {w W : World} {G2 G3 G4 : Nat} {vo v3 : Value} {objs : List S41} {cap last : Int} {l3 : List Int} {b : Bool} (h : RT w G2 G3 G4 vo objs cap last v3 l3 b W) : RT w G2 G3 G4 vo objs cap last v3 l3 b (W.setCell ⟨G3, 0, none⟩ v3) := by
 have n23 : G2 ≠ G3 := blk_ne h.h2 h.h3 (by decide)
 have n34 : G3 ≠ G4 := blk_ne h.h3 h.h4 (by decide)
 exact ⟨blk_far h.h2 n23 _, blk_put h.h3 0 v3 rfl, blk_far h.h4 n34.symm _, Kd.S_set h.O h.h3 (by decide) 0 _, Kd.R_set h.R h.h3 (by decide) 0 _, below_set h.B h.g3, h.g2, h.g3, h.g4⟩
theorem RT.set4 {w W : World} {G2 G3 G4 : Nat} {vo v3 : Value} {objs : List S41} {cap last : Int} {l3 : List Int} {b : Bool} (h : RT w G2 G3 G4 vo objs cap last v3 l3 b W) (b' : Bool) : RT w G2 G3 G4 vo objs cap last v3 l3 b' (W.setCell ⟨G4, 0, none⟩ (.bool b')) := by
 have n24 : G2 ≠ G4 := blk_ne h.h2 h.h4 (by decide)
 have n34 : G3 ≠ G4 := blk_ne h.h3 h.h4 (by decide)
 exact ⟨blk_far h.h2 n24 _, blk_far h.h3 n34 _, blk_put h.h4 0 (.bool b') rfl, Kd.S_set h.O h.h4 (by decide) 0 _, Kd.R_set h.R h.h4 (by decide) 0 _, below_set h.B h.g4, h.g2, h.g3, h.g4⟩
theorem RS.listed {w W W' : World} {G2 G3 G4 g : Nat} {vo v3 : Value} {objs : List S41} {cap last : Int} {s s' : ByteArray} {l3 : List Int} (h : RS w G2 G3 G4 g vo objs cap last s W) (hr : Kd.R (Kd.int .i64) 3 W' W.heap.size (fun _ => True) v3 l3) (hi : IsS79 w W' g s') (hb : Below w.heap.size w W') (hk : KeepBut W W' g none) : RT w G2 G3 G4 vo objs cap last v3 l3 false (W'.setCell ⟨G3, 0, none⟩ v3) := by
 have h5 := h.step hi hb hk
 have n23 : G2 ≠ G3 := blk_ne h5.h2 h5.h3 (by decide)
 have n34 : G3 ≠ G4 := blk_ne h5.h3 h5.h4 (by decide)
 have hO : Kd.S k41 41 W' w.heap.size (fun k_ => some k_ ≠ v3.ownBlock) vo objs := Kd.S_mono (Kd.S_keep (Kd.S_types (Kd.S_bound h.O) h.I.1 (by decide)) hk (fun k_ hk_ => hk_.2)) (fun k_ hk_ e_ => by have h1_ := Kd.R_base hr k_ e_.symm; have h2_ := hk_.1.2.2.1; omega)
 have hR : Kd.R (Kd.int .i64) 3 W' w.heap.size (fun _ => True) v3 l3 := Kd.R_lower hr h.B.size
 exact ⟨blk_far h5.h2 n23 _, blk_put h5.h3 0 v3 rfl, blk_far h5.h4 n34.symm _, Kd.S_set hO h5.h3 (by decide) 0 _, Kd.R_set hR h5.h3 (by decide) 0 _, below_set h5.B h5.g3, h5.g2, h5.g3, h5.g4⟩
def ReadP (w : World) : Option (List S41 × Int × Int × List Int) → Ending → World → Prop
 | none => ReadPost w [] 0 0 [] false
 | some r => ReadPost w r.1 r.2.1 r.2.2.1 r.2.2.2 true
set_option maxHeartbeats 8000000 in
set_option maxRecDepth 100000 in
theorem read_calls (s : ByteArray) (hs : s.size ≤ 17592186044416) (w : World) : Calls Try.prog 22 #[.string s] w (ReadP w (readR s)) := by
 have hmf : ∀ (fn : Fn) (first cap : Array Value) (w : World), (Instr.makeFunc fn first cap).run Try.prog w = .ok (.func fn first cap) w := fun _ _ _ _ => rfl
 have hmi : ∀ (v : Value) (w : World), (Instr.makeInterface 75 v).run Try.prog w = .ok (.iface 75 v) w := fun _ _ => rfl
 have HS := Aside0.mk (RS.new w s)
 cases h1 : takeR s 3 with
 | none =>
  have hR : Aside0 (readR s = none) := ⟨by simp only [readR, headR, h1, Option.bind_none]⟩
  have h2 := take_none h1
  go_enter_defers Try.func22, Try.ntmps22
  go_wp2_with (go_at_call 45; refine (take_cut (w.heap.size + 1 + 1 + 1) s 3 w _ HS.out.I HS.out.B h2).mono ?_)
  rintro e w' ⟨rfl, hb, hk⟩
  change bodyPostD Try.prog Try.f22 (ReadP w (readR s)) (Exit.panic _) _ _
  rw [hR.out]
  exact HS.out.out hb hk _ rfl rfl rfl
 | some x =>
  by_cases h2 : x.1.toList = [65, 78, 49]
  ·have hhead : headR s = some x.2 := by simp only [headR, h1, Option.bind_some, if_pos h2]
   have hsz : x.2.size ≤ 17592186044416 := by
    unfold takeR at h1
    split at h1
    ·cases h1
    ·obtain rfl := Option.some.inj h1
     show (s.extract _ s.size).size ≤ _
     rw [ByteArray.size_extract]; omega
   have H1 := Aside0.mk h1
   go_enter_defers Try.func22, Try.ntmps22
   go_wp2_with (go_at_call 45; refine (take_ok (w.heap.size + 1 + 1 + 1) s 3 x w _ HS.out.I HS.out.B H1.out).mono ?_)
   rintro e w1 ⟨rfl, hi, hb, hk⟩
   have HS1 := Aside0.mk (HS.out.step hi hb hk)
   have h2y : (x.1.toList == [65, 78, 49]) = true := by simpa using h2
   clear hi hb hk HS H1 h1
   obtain ⟨xa, sx⟩ := x
   have hread : Aside0 (readR s = restR sx) := ⟨by rw [readR, hhead, Option.bind_some]⟩
   simp only at h2y h2 hsz HS1
   generalize w.heap.size + 1 + 1 + 1 = g at HS1 ⊢
   cases h3 : numR sx with
   | none =>
    have hR : Aside0 (readR s = none) := ⟨by rw [hread.out, restR, h3, Option.bind_none]⟩
    have h4 := num_none h3
    go_wp2_with (go_at_call 46; refine (num_cut g sx w _ HS1.out.I HS1.out.B h4).mono ?_)
    rintro e w' ⟨rfl, hb, hk⟩
    change bodyPostD Try.prog Try.f22 (ReadP w (readR s)) (Exit.panic _) _ _
    rw [hR.out]
    exact HS1.out.out hb hk _ rfl rfl rfl
   | some y =>
    cases h4 : numR y.2 with
    | none =>
     have hR : Aside0 (readR s = none) := ⟨by rw [hread.out, restR, h3, Option.bind_some, h4, Option.bind_none]⟩
     have h5 := num_none h4
     have H3 := Aside0.mk h3
     clear h3
     go_wp2_with (go_at_call 46; refine (num_ok g sx y w _ HS1.out.I HS1.out.B H3.out).mono ?_)
     rintro e w2 ⟨rfl, hi, hb, hk⟩
     have HS2 := Aside0.mk (HS1.out.step hi hb hk)
     clear hi hb hk HS1
     go_wp2_with (go_at_call 46; refine (num_cut g y.2 w _ HS2.out.I HS2.out.B h5).mono ?_)
     rintro e w' ⟨rfl, hb, hk⟩
     change bodyPostD Try.prog Try.f22 (ReadP w (readR s)) (Exit.panic _) _ _
     rw [hR.out]
     exact HS2.out.out hb hk _ rfl rfl rfl
    | some z =>
     have z1 := numR_size h3
     have z2 := numR_size h4
     have HRD : Aside0 (readR s = (countR z.2 12).bind fun n => (objsR n.1.toNat n.2).bind fun o => (listR o.2).bind fun r => if r.2.size = 0 then some (o.1, y.1, z.1, r.1) else none) := ⟨by rw [hread.out, restR, h3, Option.bind_some, h4, Option.bind_some]⟩
     have H3 := Aside0.mk h3
     have H4 := Aside0.mk h4
     clear h3 h4 hread
     go_wp2_with (go_at_call 46; refine (num_ok g sx y w _ HS1.out.I HS1.out.B H3.out).mono ?_)
     rintro e w2 ⟨rfl, hi, hb, hk⟩
     have HS2 := Aside0.mk (HS1.out.step hi hb hk)
     clear hi hb hk HS1
     go_wp2_with (go_at_call 46; refine (num_ok g y.2 z w _ HS2.out.I HS2.out.B H4.out).mono ?_)
     rintro e w3 ⟨rfl, hi, hb, hk⟩
     have HS3 := Aside0.mk (HS2.out.step hi hb hk)
     clear hi hb hk HS2 H3 H4
     obtain ⟨cap, sy⟩ := y
     obtain ⟨last, sz⟩ := z
     simp only at z1 z2 HS3 HRD
     have c1 : w3.cell? ⟨w.heap.size, 1, none⟩ = some (.int .i64 0) := (blk_cell HS3.out.h2 1).trans rfl
     have c2 : w3.cell? ⟨w.heap.size, 2, none⟩ = some (.int .i64 0) := (blk_cell HS3.out.h2 2).trans rfl
     have f1 : w3.frozen? ⟨w.heap.size, 1, none⟩ = false := blk_frozen HS3.out.h2 1
     have f2 : w3.frozen? ⟨w.heap.size, 2, none⟩ = false := blk_frozen HS3.out.h2 2
     cases h5 : countR sz 12 with
     | none =>
      have hR : Aside0 (readR s = none) := ⟨by rw [HRD.out, h5, Option.bind_none]⟩
      go_wp2_with (go_at_call 47; refine (count_cut g sz 12 (by omega) (by omega) w _ (HS3.out.heads cap last).I (HS3.out.heads cap last).B h5).mono ?_)
      rintro e w' ⟨rfl, hb, hk⟩
      change bodyPostD Try.prog Try.f22 (ReadP w (readR s)) (Exit.panic _) _ _
      rw [hR.out]
      exact (HS3.out.heads cap last).out hb hk _ rfl rfl rfl
     | some n =>
      have z3 := countR_size h5
      have HRD2 : Aside0 (readR s = (objsR n.1.toNat n.2).bind fun o => (listR o.2).bind fun r => if r.2.size = 0 then some (o.1, cap, last, r.1) else none) := ⟨by rw [HRD.out, h5, Option.bind_some]⟩
      have H5 := Aside0.mk h5
      clear h5 HRD
      go_wp2_with (go_at_call 47; refine (count_ok g sz 12 (by omega) (by omega) n w _ (HS3.out.heads cap last).I (HS3.out.heads cap last).B H5.out).mono ?_)
      rintro e w4 ⟨rfl, hi, hb, hk⟩
      have HS4 := Aside0.mk ((HS3.out.heads cap last).step hi hb hk)
      clear hi hb hk HS3 c1 c2 f1 f2 H5
      obtain ⟨nn, sn⟩ := n
      simp only at z3 HS4 HRD2
      obtain ⟨m, rfl⟩ := Int.eq_ofNat_of_zero_le z3.2.1
      have hm : m ≤ 17592186044416 := by omega
      simp only [Int.toNat_natCast] at HRD2
      go_wp2
      have hm12 : 12 * m ≤ 17592186044416 := by have := z3.2.2; omega
      go_loopg [23] m (fun gg s23 wr => ∃ (j : Nat) (vo : Value) (objs : List S41) (t : ByteArray), j ≤ m ∧ m - j ≤ gg ∧ s23 = .int .i64 j ∧ Aside0 (objs.length = j) ∧ Aside0 (t.size ≤ 17592186044416) ∧ Aside0 (readR s = (objsR (m - j) t).bind fun o => (listR o.2).bind fun r => if r.2.size = 0 then some (objs ++ o.1, cap, last, r.1) else none) ∧ Aside0 (RS w w.heap.size (w.heap.size + 1) (w.heap.size + 1 + 1) g vo objs cap last t wr))
      case atStart => exact ⟨0, .slice none 0 0, [], sn, by omega, by omega, by simp [goInt], ⟨rfl⟩, ⟨by omega⟩, ⟨by simpa using HRD2.out⟩, HS4⟩
      case round =>
       clear HS4 HRD2
       obtain ⟨j, vo, objs, t, hj, hgg, rfl, HL0, HT, HRD, HS⟩ := hrel
       by_cases hlt : j < m
       ·have hltz : decide (j < m) = true := decide_eq_true hlt
        have HL : Aside0 ((objs.length + 1) * 72 ≤ 140737488355328) := ⟨by have := HL0.out; omega⟩
        have hmj : m - j = m - (j + 1) + 1 := by omega
        cases hx : objR t with
        | none =>
         have hR : Aside0 (readR s = none) := ⟨by rw [HRD.out, hmj, objsR, hx, Option.bind_none, Option.bind_none]⟩
         have HX := Aside0.mk hx
         go_wp2
         refine start_ (n := 8) (S := fun w' => w'.cell? ⟨w.heap.size, 0, none⟩ = some vo) (ds := [7]) #[false, false, false, false, false, false, false, false] (by kernel_rfl) rfl rfl ((blk_cell HS.out.h2 0).trans rfl) (fun hHeld => ?_)
         replace HS := Aside0.mk HS.out.drew
         generalize wr.drew = wd at HS hHeld ⊢
         refine pure_ (i := 0) (N := some 25) (v := ?_) (a' := ?_) #[true, false, false, false, false, false, false, false] rfl rfl (by kernel_rfl) (fun c_ a_ w_ h_ => outQ 25 (by decide) (by decide) (by decide) c_ a_ w_ h_) (Or.inl ⟨by rfl, ?_⟩) ?_ ?_
         rotate_left
         ·intro w'
          go_simp
          with_reducible rfl
         rotate_left
         ·simp only [Act.put, List.setIfInBounds_toArray, List.set_cons_zero, List.set_cons_succ, i64_w, i32_w]
          rfl
         refine pure_ (i := 2) (N := some 27) (v := ?_) (a' := ?_) #[true, false, true, false, false, false, false, false] rfl rfl (by kernel_rfl) (fun c_ a_ w_ h_ => outQ 27 (by decide) (by decide) (by decide) c_ a_ w_ h_) (Or.inl ⟨by rfl, ?_⟩) ?_ ?_
         rotate_left
         ·intro w'
          go_simp
          with_reducible rfl
         rotate_left
         ·simp only [Act.put, List.setIfInBounds_toArray, List.set_cons_zero, List.set_cons_succ, i64_w, i32_w]
          rfl
         refine take_ (i := 1) (N := some 26) (v := ?_) (a' := ?_) #[true, true, true, false, false, false, false, false] rfl rfl (by kernel_rfl) (fun c_ a_ w_ h_ => outQ 26 (by decide) (by decide) (by decide) c_ a_ w_ h_) (Or.inl ⟨by rfl, ?_⟩) hHeld ?_ ?_
         rotate_left
         ·intro w' s0
          go_simp
          with_reducible rfl
         rotate_left
         ·simp only [Act.put, List.setIfInBounds_toArray, List.set_cons_zero, List.set_cons_succ, i64_w, i32_w]
          rfl
         refine one_ (i := 3) (N := some 28) #[true, true, true, true, false, false, false, false] rfl rfl (by kernel_rfl) (by decide) (fun K hK => ?_)
         refine goesP_ Try.func48 (by kernel_rfl) rfl #[.pointer (some ⟨g, 0, none⟩)] (by rfl) rfl rfl (by (try simp only [List.map_toArray, List.map_cons, List.map_nil]); first | done | rfl) ?_
         refine (obj_cut g t HT.out w _ HS.out.I HS.out.B HX.out).mono ?_
         rintro e w5 ⟨rfl, hb, hk⟩
         refine ⟨_, rfl, ?_⟩
         change bodyPostD Try.prog Try.f22 (ReadP w (readR s)) (Exit.panic _) _ _
         rw [hR.out]
         exact HS.out.out hb hk _ rfl rfl rfl
        | some x =>
         have HRD3 : Aside0 (readR s = (objsR (m - (j + 1)) x.2).bind fun o => (listR o.2).bind fun r => if r.2.size = 0 then some ((objs ++ [x.1]) ++ o.1, cap, last, r.1) else none) := ⟨by
          rw [HRD.out, hmj, objsR, hx, Option.bind_some]
          cases objsR (m - (j + 1)) x.2 with
          | none => rfl
          | some o => simp [List.append_assoc]⟩
         have HX := Aside0.mk hx
         have HT2 : Aside0 (x.2.size ≤ 17592186044416) := ⟨Nat.le_trans (objR_size hx) HT.out⟩
         go_wp2
         refine start_ (n := 8) (S := fun w' => w'.cell? ⟨w.heap.size, 0, none⟩ = some vo) (ds := [7]) #[false, false, false, false, false, false, false, false] (by kernel_rfl) rfl rfl ((blk_cell HS.out.h2 0).trans rfl) (fun hHeld => ?_)
         replace HS := Aside0.mk HS.out.drew
         generalize wr.drew = wd at HS hHeld ⊢
         refine pure_ (i := 0) (N := some 25) (v := ?_) (a' := ?_) #[true, false, false, false, false, false, false, false] rfl rfl (by kernel_rfl) (fun c_ a_ w_ h_ => outQ 25 (by decide) (by decide) (by decide) c_ a_ w_ h_) (Or.inl ⟨by rfl, ?_⟩) ?_ ?_
         rotate_left
         ·intro w'
          go_simp
          with_reducible rfl
         rotate_left
         ·simp only [Act.put, List.setIfInBounds_toArray, List.set_cons_zero, List.set_cons_succ, i64_w, i32_w]
          rfl
         refine pure_ (i := 2) (N := some 27) (v := ?_) (a' := ?_) #[true, false, true, false, false, false, false, false] rfl rfl (by kernel_rfl) (fun c_ a_ w_ h_ => outQ 27 (by decide) (by decide) (by decide) c_ a_ w_ h_) (Or.inl ⟨by rfl, ?_⟩) ?_ ?_
         rotate_left
         ·intro w'
          go_simp
          with_reducible rfl
         rotate_left
         ·simp only [Act.put, List.setIfInBounds_toArray, List.set_cons_zero, List.set_cons_succ, i64_w, i32_w]
          rfl
         refine take_ (i := 1) (N := some 26) (v := ?_) (a' := ?_) #[true, true, true, false, false, false, false, false] rfl rfl (by kernel_rfl) (fun c_ a_ w_ h_ => outQ 26 (by decide) (by decide) (by decide) c_ a_ w_ h_) (Or.inl ⟨by rfl, ?_⟩) hHeld ?_ ?_
         rotate_left
         ·intro w' s0
          go_simp
          with_reducible rfl
         rotate_left
         ·simp only [Act.put, List.setIfInBounds_toArray, List.set_cons_zero, List.set_cons_succ, i64_w, i32_w]
          rfl
         refine one_ (i := 3) (N := some 28) #[true, true, true, true, false, false, false, false] rfl rfl (by kernel_rfl) (by decide) (fun K hK => ?_)
         refine goes_ Try.func48 (by kernel_rfl) rfl #[.pointer (some ⟨g, 0, none⟩)] (by rfl) rfl rfl (by (try simp only [List.map_toArray, List.map_cons, List.map_nil]); first | done | rfl) ?_
         refine (obj_ok g t HT.out x w _ HS.out.I HS.out.B HX.out).mono ?_
         rintro e w5 ⟨v2, rfl, hr, hi, hb, hk⟩
         obtain ⟨A2, c2, rfl⟩ := Kd.R_slice hr
         refine ⟨_, rfl, ?_⟩
         have HOB : Aside0 (Kd.S k41 41 w5 w.heap.size (fun k_ => some k_ ≠ (.slice A2 x.1.f2.length c2 : Value).ownBlock) vo objs) := ⟨Kd.S_mono (Kd.S_keep (Kd.S_types (Kd.S_bound HS.out.O) HS.out.I.1 (by decide)) hk (fun k_ hk_ => hk_.2)) (fun k_ hk_ e_ => by have h1_ := Kd.R_base hr k_ e_.symm; have h2_ := hk_.1.2.2.1; omega)⟩
         have HNE : Aside0 (∀ k_, some k_ = (.slice A2 x.1.f2.length c2 : Value).ownBlock → some k_ ≠ vo.ownBlock) := ⟨fun k_ h_ e_ => by have h1_ := Kd.R_base hr k_ h_.symm; have h2_ := Kd.S_lt HS.out.O k_ e_.symm; omega⟩
         have HR2 := Aside0.mk (Kd.R_lower (Kd.R_tight rfl hr) HS.out.B.size)
         have HS5 := Aside0.mk (HS.out.step hi hb hk)
         clear hr hi hb hk
         refine hK.out _ _ ((blk_cell HS5.out.h2 0).trans rfl) (fun hHeld => ?_)
         clear hK K
         refine norm_ (a' := ?_) ?_ ?_
         rotate_left
         ·show Act.put _ (some 28) _ = _
          simp only [Act.put, List.setIfInBounds_toArray, List.set_cons_zero, List.set_cons_succ, i64_w, i32_w]
          rfl
         refine one_ (i := 4) (N := some 29) #[true, true, true, true, true, false, false, false] rfl rfl (by kernel_rfl) (by decide) (fun K hK => ?_)
         refine value_ (w1 := ?_) (v := ?_) (by rfl) rfl ?_ ?_
         rotate_left 2
         ·go_simp
          constructor
          ·rfl
          ·rfl
         refine hK.out _ _ ((World.cell?_alloc_lt _ _ _ (World.block_lt_of_cell? _ _ hHeld)).trans hHeld) (fun hHeld => ?_)
         clear hK K
         refine norm_ (a' := ?_) ?_ ?_
         rotate_left
         ·show Act.put _ (some 29) _ = _
          simp only [Act.put, List.setIfInBounds_toArray, List.set_cons_zero, List.set_cons_succ, i64_w, i32_w]
          rfl
         refine one_ (i := 5) (N := some 30) #[true, true, true, true, true, true, false, false] rfl rfl (by kernel_rfl) (by decide) (fun K hK => ?_)
         refine Kd.S_append_step k41 (w0 := w) (W := w5) w.heap.size (by rfl) (.tmp 26) (.tmp 29) 22 41 (.agg #[(.int .i64 0), (.int .i64 0), (.slice none 0 0), (.string ⟨#[]⟩), (.int .i64 0), (.int .i64 0)]) 72 rfl Try.underlying22 info41_ rfl (by decide) (by omega) vo objs x.1 [.int .i64 x.1.f0, .int .i64 x.1.f1, .slice A2 x.1.f2.length c2, .string x.1.f3, .int .i64 x.1.f4, .int .i64 x.1.f5] (fun _ => True) (fun k_ => some k_ = (.slice A2 x.1.f2.length c2 : Value).ownBlock) rfl rfl ?aP (fun k_ h_ => ⟨trivial, HNE.out k_ h_⟩) (fun _ _ => trivial) ?aO HS5.out.B HS5.out.B.size ?aL ?_
         (case aP => exact k41_mkM _ _ _ x.1 HR2.out)
         (case aO => exact Kd.S_mono HOB.out (fun k_ hk_ => ⟨trivial, hk_⟩))
         (case aL => have := HL.out; omega)
         intro v6 w6 ho hb6 hg6 _
         obtain ⟨A6, c6, rfl⟩ := Kd.S_slice ho
         rw [show (objs ++ [x.1]).length = objs.length + 1 from by simp] at ho
         have HS6 := Aside0.mk (HS5.out.appended ho hb6 hg6)
         have hc6 := HS5.out.cell_grown hg6
         have hf6 := HS5.out.frozen_grown hg6
         clear ho hb6 hg6
         refine hK.out _ _ (hc6) (fun hHeld => ?_)
         clear hK K
         refine norm_ (a' := ?_) ?_ ?_
         rotate_left
         ·show Act.put _ (some 30) _ = _
          simp only [Act.put, List.setIfInBounds_toArray, List.set_cons_zero, List.set_cons_succ, i64_w, i32_w]
          rfl
         refine pure_ (i := 6) (N := some 31) (v := ?_) (a' := ?_) #[true, true, true, true, true, true, true, false] rfl rfl (by kernel_rfl) (fun c_ a_ w_ h_ => outQ 31 (by decide) (by decide) (by decide) c_ a_ w_ h_) (Or.inl ⟨by rfl, ?_⟩) ?_ ?_
         rotate_left
         ·intro w'
          go_simp
          with_reducible rfl
         rotate_left
         ·simp only [Act.put, List.setIfInBounds_toArray, List.set_cons_zero, List.set_cons_succ, i64_w, i32_w]
          rfl
         refine last_ (i := 7) (N := none) #[true, true, true, true, true, true, true, true] rfl rfl (by kernel_rfl) (by decide) (fun K hK => ?_)
         refine skip_ (w1 := ?_) (by rfl) rfl ?_ ?_
         rotate_left
         ·go_simp
          rfl
         refine hK.out _ _ ?_
         clear hK K
         refine done_ (by kernel_rfl) ?_
         go_wp2
         go_roundg (m - (j + 1))
         case measure => omega
         case rel =>
          refine ⟨j + 1, _, objs ++ [x.1], x.2, by omega, by omega, ?_, ⟨by have := HL0.out; simp; omega⟩, HT2, HRD3, HS6⟩
          first | rfl | (simp [goInt]; done) | (rw [show wrap64 ((j : Int) + 1) = ((j + 1 : Nat) : Int) from by unfold wrap64; omega])
       ·have hltz : decide (j < m) = false := decide_eq_false hlt
        have hjm : j = m := by omega
        subst hjm
        rw [Nat.sub_self, objsR] at HRD
        have HRD4 : Aside0 (readR s = (listR t).bind fun r => if r.2.size = 0 then some (objs, cap, last, r.1) else none) := ⟨by rw [HRD.out]; simp⟩
        clear HRD
        obtain ⟨A0, c0, rfl⟩ := Kd.S_slice HS.out.O
        cases hl : listR t with
        | none =>
         have hR : Aside0 (readR s = none) := ⟨by rw [HRD4.out, hl, Option.bind_none]⟩
         have HX := Aside0.mk hl
         go_wp2_with (go_at_call 49; refine (list_cut g t HT.out w _ HS.out.I HS.out.B HX.out).mono ?_)
         rintro e w' ⟨rfl, hb, hk⟩
         change bodyPostD Try.prog Try.f22 (ReadP w (readR s)) (Exit.panic _) _ _
         rw [hR.out]
         exact HS.out.out hb hk _ rfl rfl rfl
        | some r =>
         have HX := Aside0.mk hl
         clear hl
         go_wp2_with (go_at_call 49; refine (list_ok g t HT.out r w _ HS.out.I HS.out.B HX.out).mono ?_)
         rintro e w5 ⟨v3, rfl, hr, hi, hb, hk⟩
         obtain ⟨A3, c3, rfl⟩ := Kd.R_slice hr
         have HT5 := Aside0.mk (HS.out.listed hr hi hb hk)
         have HI5 := Aside0.mk ((HS.out.step hi hb hk).I.far (p := ⟨w.heap.size + 1, 0, none⟩) (blk_ne (HS.out.step hi hb hk).I.1 (HS.out.step hi hb hk).h3 (by decide)) (.slice A3 r.1.length c3))
         have e3_ : w5.cell? ⟨w.heap.size + 1, 0, none⟩ = some (.slice none 0 0) := (blk_cell (HS.out.step hi hb hk).h3 0).trans rfl
         have f3_ := blk_frozen (HS.out.step hi hb hk).h3 0
         have hcs : (w5.setCell ⟨w.heap.size + 1, 0, none⟩ (.slice A3 r.1.length c3)).cell? ⟨g, 0, none⟩ = some (.string r.2) := cellS79_0 HI5.out.1
         clear hr hi hb hk HS HT HI5
         by_cases hz : r.2.size = 0
         ·have hR : Aside0 (readR s = some (objs, cap, last, r.1)) := ⟨by rw [HRD4.out, HX.out, Option.bind_some, if_pos hz]⟩
          have hzz : (r.2.toList == []) = true := by
           have : r.2.toList = [] := by
            apply List.eq_nil_of_length_eq_zero
            rw [BA_toList_len]; exact hz
           simp [this]
          go_wp2
          clear e3_ f3_ hcs
          have HT := HT5
          clear HT5
          refine start_ (n := 5) (S := fun w' => w'.cell? ⟨w.heap.size, 0, none⟩ = some (.slice A0 objs.length c0) ∧ w'.cell? ⟨w.heap.size, 1, none⟩ = some (.int .i64 cap) ∧ w'.cell? ⟨w.heap.size, 2, none⟩ = some (.int .i64 last) ∧ w'.cell? ⟨w.heap.size + 1, 0, none⟩ = some (.slice A3 r.1.length c3)) (ds := [3, 4]) #[false, false, false, false, false] (by kernel_rfl) rfl rfl ⟨(blk_cell HT.out.h2 0).trans rfl, (blk_cell HT.out.h2 1).trans rfl, (blk_cell HT.out.h2 2).trans rfl, (blk_cell HT.out.h3 0).trans rfl⟩ (fun hHeld => ?_)
          replace HT := Aside0.mk HT.out.drew
          generalize World.drew _ = wd at HT hHeld ⊢
          have e0_ : wd.cell? ⟨w.heap.size, 0, none⟩ = some (.slice A0 objs.length c0) := (blk_cell HT.out.h2 0).trans rfl
          have e1_ : wd.cell? ⟨w.heap.size, 1, none⟩ = some (.int .i64 cap) := (blk_cell HT.out.h2 1).trans rfl
          have e2_ : wd.cell? ⟨w.heap.size, 2, none⟩ = some (.int .i64 last) := (blk_cell HT.out.h2 2).trans rfl
          have f0_ := blk_frozen HT.out.h2 0
          have f1_ := blk_frozen HT.out.h2 1
          have f2_ := blk_frozen HT.out.h2 2
          refine take_ (i := 0) (N := some 42) (v := ?_) (a' := ?_) #[true, false, false, false, false] rfl rfl (by kernel_rfl) (fun c_ a_ w_ h_ => outQ 42 (by decide) (by decide) (by decide) c_ a_ w_ h_) (Or.inl ⟨by rfl, ?_⟩) hHeld ?_ ?_
          rotate_left
          ·rintro w' ⟨s0, s1, s2, s3⟩
           go_simp
           with_reducible rfl
          rotate_left
          ·simp only [Act.put, List.setIfInBounds_toArray, List.set_cons_zero, List.set_cons_succ, i64_w, i32_w]
           rfl
          refine take_ (i := 1) (N := some 43) (v := ?_) (a' := ?_) #[true, true, false, false, false] rfl rfl (by kernel_rfl) (fun c_ a_ w_ h_ => outQ 43 (by decide) (by decide) (by decide) c_ a_ w_ h_) (Or.inl ⟨by rfl, ?_⟩) hHeld ?_ ?_
          rotate_left
          ·rintro w' ⟨s0, s1, s2, s3⟩
           go_simp
           with_reducible rfl
          rotate_left
          ·simp only [Act.put, List.setIfInBounds_toArray, List.set_cons_zero, List.set_cons_succ, i64_w, i32_w]
           rfl
          refine one_ (i := 2) (N := none) #[true, true, true, false, false] rfl rfl (by kernel_rfl) (by decide) (fun K hK => ?_)
          refine skip_ (w1 := ?_) (by rfl) rfl ?_ ?_
          rotate_left
          ·go_simp
           rfl
          refine hK.out _ _ ⟨(blk_cell HT.out.set2.h2 0).trans rfl, (blk_cell HT.out.set2.h2 1).trans rfl, (blk_cell HT.out.set2.h2 2).trans rfl, (blk_cell HT.out.set2.h3 0).trans rfl⟩ (fun hHeld => ?_)
          replace HT := Aside0.mk HT.out.set2
          clear e0_ e1_ e2_ f0_ f1_ f2_
          generalize World.setCell _ (⟨w.heap.size, 2, none⟩ : Addr) _ = we at HT hHeld ⊢
          have e3_ : we.cell? ⟨w.heap.size + 1, 0, none⟩ = some (.slice A3 r.1.length c3) := (blk_cell HT.out.h3 0).trans rfl
          have f3_ := blk_frozen HT.out.h3 0
          have e4_ : we.cell? ⟨w.heap.size + 1 + 1, 0, none⟩ = some (.bool false) := (blk_cell HT.out.h4 0).trans rfl
          have f4_ := blk_frozen HT.out.h4 0
          clear hK K
          refine last_ (i := 3) (N := none) #[true, true, true, true, false] rfl rfl (by kernel_rfl) (by decide) (fun K hK => ?_)
          refine skip_ (w1 := ?_) (by rfl) rfl ?_ ?_
          rotate_left
          ·go_simp
           rfl
          refine hK.out _ _ ?_
          clear hK K
          refine last_ (i := 4) (N := none) #[true, true, true, true, true] rfl rfl (by kernel_rfl) (by decide) (fun K hK => ?_)
          refine skip_ (w1 := ?_) (by rfl) rfl ?_ ?_
          rotate_left
          ·go_simp
           rfl
          refine hK.out _ _ ?_
          clear hK K
          refine done_ (by kernel_rfl) ?_
          replace HT := Aside0.mk (HT.out.set3.set4 true)
          clear e3_ f3_ e4_ f4_
          go_wp2
          refine leaves_cons (f := 44) (args := #[.pointer (some ⟨w.heap.size, 0, none⟩), .pointer (some ⟨w.heap.size + 1, 0, none⟩), .pointer (some ⟨w.heap.size + 1 + 1, 0, none⟩)]) (by simp) (by simp [go_sem]) ?_
          refine (catch_idle _ _ _ _).mono ?_
          generalize World.setCell _ (⟨w.heap.size + 1 + 1, 0, none⟩ : Addr) _ = wf at HT ⊢
          rintro e u' w'' ⟨rfl, rfl, rfl⟩
          rw [hR.out]
          exact read_ret w w'' _ _ _ _ rfl rfl rfl HT.out
         ·have hR : Aside0 (readR s = none) := ⟨by rw [HRD4.out, HX.out, Option.bind_some, if_neg hz]⟩
          have hzz : (r.2.toList == []) = false := by
           have : r.2.toList ≠ [] := by
            intro h
            have h2_ := congrArg List.length h
            rw [BA_toList_len] at h2_
            exact hz h2_
           simpa using this
          go_wp2
          change bodyPostD Try.prog Try.f22 (ReadP w (readR s)) (Exit.panic _) _ _
          rw [hR.out]
          exact read_out w _ _ _ _ _ rfl rfl rfl _ _ _ _ _ HT5.out.h2 HT5.out.h3 HT5.out.h4 HT5.out.B HT5.out.g2 HT5.out.g3 HT5.out.g4
  ·have hR : Aside0 (readR s = none) := ⟨by simp only [readR, headR, h1, Option.bind_some, if_neg h2, Option.bind_none]⟩
   have h2y : (x.1.toList == [65, 78, 49]) = false := by simpa using h2
   have H1 := Aside0.mk h1
   go_enter_defers Try.func22, Try.ntmps22
   go_wp2_with (go_at_call 45; refine (take_ok (w.heap.size + 1 + 1 + 1) s 3 x w _ HS.out.I HS.out.B H1.out).mono ?_)
   rintro e w1 ⟨rfl, hi, hb, hk⟩
   have HS1 := Aside0.mk (HS.out.step hi hb hk)
   clear hi hb hk HS
   go_wp2
   change bodyPostD Try.prog Try.f22 (ReadP w (readR s)) (Exit.panic _) _ _
   rw [hR.out]
   exact HS1.out.out HS1.out.B (KeepBut.refl _ _ _) _ rfl rfl rfl
def snap_read.f (a0 : ByteArray) : Option (List S41 × Int × Int × List Int × Bool) := if a0.size ≤ 17592186044416 then some (match readR a0 with | some r => (r.1, r.2.1, r.2.2.1, r.2.2.2, true) | none => ([], 0, 0, [], false)) else none
theorem snap_read.calls (a0 : ByteArray) (r1 : List (S41)) (r2 : Int) (r3 : Int) (r4 : List Int) (r5 : Bool) (w : World) (h : snap_read.f a0 = some (r1, r2, r3, r4, r5)) :
  Calls Try.prog 22 #[.string a0] w fun e w' => ∃ v0_ v3_ : Value, e = .returned (.tuple #[.agg #[v0_, .int .i64 r2, .int .i64 r3], v3_, .bool r5]) ∧ Kd.S k41 41 w' w.heap.size (fun k_ => some k_ ≠ (v3_ : Value).ownBlock) v0_ r1 ∧ Kd.R (Kd.int .i64) 3 w' w.heap.size (fun _ => True) v3_ r4 ∧ Below w.heap.size w w' := by
 unfold snap_read.f at h
 split at h
 case isFalse => cases h
 rename_i hs
 have h2 := Option.some.inj h
 have h3 := read_calls a0 hs w
 cases hr : readR a0 with
 | none =>
  rw [hr] at h2 h3
  simp only [Prod.mk.injEq] at h2
  obtain ⟨rfl, rfl, rfl, rfl, rfl⟩ := h2
  exact h3
 | some r =>
  rw [hr] at h2 h3
  obtain ⟨o, c, l, t⟩ := r
  simp only [Prod.mk.injEq] at h2
  obtain ⟨rfl, rfl, rfl, rfl, rfl⟩ := h2
  exact h3
end Go.Proofs.Ytednpcfhefibdaa.PSnap
