import Derived.Test.YtednpcfhefibdaaPSnapx0
import Derived.Test.YtednpcfhefibdaaPSnapx1
namespace Go.Proofs.Ytednpcfhefibdaa.PSnap
open Go.RowKit Go.Proofs.YtednpcfhefibdaaW.PrintWords Go.Proofs.YtednpcfhefibdaaW.PrintLast Go.Proofs.YtednpcfhefibdaaW.PrintMore
attribute [local go_sem] max2_int min2_int max_two min_two max_three min_three max_four min_four
set_option linter.unusedVariables false
set_option linter.unusedSimpArgs false
attribute [local go_sem] setCell_drewN
theorem bits_and_one (a : Int) : Go.bits .and .i64 a 1 = a % 2 := by
 have h : ((BitVec.ofInt 64 a &&& BitVec.ofInt 64 1).toNat : Int) = a % 2 := by
  rw [BitVec.toNat_and]
  have h1 : (BitVec.ofInt 64 1).toNat = 1 := by decide
  rw [h1, Nat.and_one_is_mod, BitVec.toNat_ofInt]
  omega
 have h2 : Go.bits .and .i64 a 1 = IntKind.i64.wrap ((BitVec.ofInt 64 a &&& BitVec.ofInt 64 1).toNat : Int) := rfl
 rw [h2, h, IntKind.wrap_i64]
 omega
def isRef (n v : Int) : Bool := decide (v % 2 = 0 ∧ 0 ≤ v ∧ v ≤ 2097150 ∧ v < 2 * n)
def refI (n v : Int) : Int := if isRef n v then v / 2 else -1
def isSmall (v : Int) : Bool := decide (v % 2 = 1 ∧ -2147483647 ≤ v ∧ v ≤ 2147483647)
def hasB (n v : Int) : Bool := isSmall v || isRef n v
theorem refI_nonneg (n v : Int) : decide (0 ≤ refI n v) = isRef n v := by
 unfold refI
 cases h : isRef n v
 ·simp
 ·simp only [if_true]
  unfold isRef at h
  simp only [decide_eq_true_eq] at h ⊢
  omega
def fltWord (a0 : Int) : Nat := (IntKind.u64.wrap a0).toNat
def fltNum (b : Nat) : Bool := !(FloatKind.f64.format.order b b != some Ordering.eq)
theorem flt_number.calls (a0 : Int) (w : World) :
  Calls Try.prog 81 #[.int .i64 a0] w fun e w' => e = .returned (.float .f64 (fltWord a0)) ∧ Drawn0 w w' := by
 have h67 : ∀ (n : Int) (W : World), (callFunc 85 #[.int .u64 n]).run Try.prog W = .ok (.value (.float .f64 n.toNat)) W := fun n W => by
  rw [run_callFunc_extern (fn := Try.f85) (e := Extern.MathFloatBits.float64frombits) (by kernel_rfl) (by kernel_rfl) (by kernel_rfl) (by kernel_rfl) (by kernel_rfl)]; rfl
 go_enter Try.func81, Try.ntmps81
 go_wp2
 go_ret
 exact ⟨rfl, Drawn0.refl _⟩
def flt_bits.v (b : Nat) : Int := if fltNum b = true then wrap64 (b : Int) else 9221120237041090561
theorem flt_bits.calls (b : Nat) (w : World) :
  Calls Try.prog 80 #[.float .f64 b] w fun e w' => e = .returned (.int .i64 (flt_bits.v b)) ∧ Drawn0 w w' := by
 have h66 : ∀ (n : Nat) (W : World), (callFunc 84 #[.float .f64 n]).run Try.prog W = .ok (.value (.int .u64 n)) W := fun n W => by
  rw [run_callFunc_extern (fn := Try.f84) (e := Extern.MathFloatBits.float64bits) (by kernel_rfl) (by kernel_rfl) (by kernel_rfl) (by kernel_rfl) (by kernel_rfl)]; rfl
 cases hb : fltNum b with
 | true =>
  have hne : (FloatKind.f64.format.order b b != some Ordering.eq) = false := by simpa [fltNum] using hb
  have hv : flt_bits.v b = wrap64 (b : Int) := by unfold flt_bits.v; rw [if_pos hb]
  have Hv := Aside0.mk hv
  clear hv hb
  go_enter Try.func80, Try.ntmps80
  go_wp2
  go_ret
  exact ⟨by rw [Hv.out]; rfl, Drawn0.refl _⟩
 | false =>
  have hne : (FloatKind.f64.format.order b b != some Ordering.eq) = true := by simpa [fltNum] using hb
  have hv : flt_bits.v b = 9221120237041090561 := by unfold flt_bits.v; rw [hb]; rfl
  have Hv := Aside0.mk hv
  clear hv hb
  go_enter Try.func80, Try.ntmps80
  go_wp2
  go_ret
  exact ⟨by rw [Hv.out]; rfl, Drawn0.refl _⟩
def flt_Canon.f (a0 : Int) : Option Int := some (flt_bits.v (fltWord a0))
theorem flt_Canon.calls (a0 : Int) (r : Int) (w : World) (h : flt_Canon.f a0 = some r) :
  Calls Try.prog 74 #[.int .i64 a0] w fun e w' => e = .returned (.int .i64 r) ∧ Drawn0 w w' := by
 obtain rfl := Option.some.inj h
 clear h
 go_enter Try.func74, Try.ntmps74
 go_wp2_with (first | (go_at_call 81; (with_reducible refine (flt_number.calls a0 _).mono ?_); rintro e w' ⟨rfl, ⟨nd, rfl⟩⟩) | (go_at_call 80; (with_reducible refine (flt_bits.calls (fltWord a0) _).mono ?_); rintro e w' ⟨rfl, ⟨nd, rfl⟩⟩))
 go_ret
 exact ⟨rfl, by repeat (first | exact Drawn0.refl _ | apply Drawn0.step)⟩
def IdxPost (R : World → World → Prop) (b : Bool) (w : World) (e : Ending) (w' : World) : Prop := ∃ j : Int, e = .returned (.int .i64 j) ∧ decide (0 ≤ j) = b ∧ R w w'
theorem any_here {α : Type} (p : α → Bool) (xs : List α) (k : Nat) (d : α) (h : k < xs.length) (hq : p (xs.getD k d) = true) : xs.any p = true := by
 rw [List.any_eq_true]
 exact ⟨xs.getD k d, by rw [List.getD_eq_getElem?_getD, List.getElem?_eq_getElem h]; exact List.getElem_mem h, hq⟩
theorem any_none {α : Type} (p : α → Bool) (xs : List α) (d : α) (h : ∀ j, j < xs.length → p (xs.getD j d) = false) : xs.any p = false := by
 rw [List.any_eq_false]
 intro x hx
 obtain ⟨j, hj, rfl⟩ := List.getElem_of_mem hx
 have := h j hj
 rw [List.getD_eq_getElem?_getD, List.getElem?_eq_getElem hj] at this
 simpa using this
def BelowOf (w w' : World) : Prop := Below w.heap.size w w'
set_option maxHeartbeats 2000000 in
theorem idx_obj (p : S41 → Bool) (g : Nat) (lb : Array Value) (eg : ∀ args w, (callFunc g args).run Try.prog w = .ok (.enter g args) w) (A : Option Addr) (c : Nat) (xs : List S41) (w : World)
  (hr : Kd.C k41 w A xs.length xs) (hbig : xs.length ≤ 9223372036854775807)
  (hp : ∀ (W : World) (x : S41) (A2 : Option Addr) (c2 : Nat), Below w.heap.size w W → x.f2.length ≤ c2 → Kd.C (Kd.int .i64) w A2 x.f2.length x.f2 → Calls Try.prog g (#[.agg #[.int .i64 x.f0, .int .i64 x.f1, .slice A2 x.f2.length c2, .string x.f3, .int .i64 x.f4, .int .i64 x.f5]] ++ lb) W fun e w' => e = .returned (.bool (p x)) ∧ Below w.heap.size w w') :
  Calls Try.prog 72 #[.slice A xs.length c, .func (.func g) #[] lb] w (IdxPost BelowOf (xs.any p) w) := by
 have HR := Aside0.mk hr
 clear hr
 go_enter Try.func72, Try.ntmps72
 go_wp2
 go_loopg [5, 8] xs.length (fun gg _ s8 wr => ∃ kk : Nat, kk ≤ xs.length ∧ xs.length - kk ≤ gg ∧ s8 = .int .i64 kk ∧ Aside0 (Below w.heap.size w wr) ∧ Aside0 (∀ j, j < kk → p (xs.getD j z41) = false))
 case atStart => exact ⟨0, Nat.zero_le _, by omega, rfl, ⟨Below.refl _ w⟩, ⟨fun j hj => absurd hj (Nat.not_lt_zero _)⟩⟩
 case round =>
  obtain ⟨kk, hkk, hg, rfl, BW, A0⟩ := hrel
  by_cases hlt : kk < xs.length
  ·have hltz : (kk : Int) < (xs.length : Int) := by omega
   obtain ⟨ad, A2, c2, e, h0, h1, h2, h3, h4, h5, hl, hC⟩ := at_T41 HR.out kk (by omega) hltz
   cases e
   replace h0 := (BW.out.cell (World.block_lt_of_cell? w _ h0)).trans h0
   replace h1 := (BW.out.cell (World.block_lt_of_cell? w _ h1)).trans h1
   replace h2 := (BW.out.cell (World.block_lt_of_cell? w _ h2)).trans h2
   replace h3 := (BW.out.cell (World.block_lt_of_cell? w _ h3)).trans h3
   replace h4 := (BW.out.cell (World.block_lt_of_cell? w _ h4)).trans h4
   replace h5 := (BW.out.cell (World.block_lt_of_cell? w _ h5)).trans h5
   have hcall := hp wr (rd_T41 xs kk) A2 c2 BW.out hl hC
   have e1 : rd_T41 xs (kk : Int) = xs.getD kk z41 := by unfold rd_T41; rw [Int.toNat_natCast]
   rw [e1] at h0 h1 h2 h3 h4 h5 hl hC hcall
   rw [Int.toNat_natCast] at h0 h1 h2 h3 h4 h5
   have hhit := any_here p xs kk z41 hlt
   clear hp e1 hC hl
   generalize hy : xs.getD kk z41 = y at h0 h1 h2 h3 h4 h5 hcall hhit
   have B : Aside0 (xs.getD kk z41 = y) := ⟨hy⟩
   clear hy
   cases hq : p y with
   | true =>
    rw [hq] at hcall
    have hh := Aside0.mk (hhit hq)
    clear hhit
    go_wp2_with (go_at_fn g; refine hcall.mono ?_; rintro e w' ⟨rfl, hb'⟩)
    go_ret
    exact ⟨_, rfl, by rw [hh.out]; simp, hb'⟩
   | false =>
    rw [hq] at hcall
    clear hhit
    go_wp2_with (go_at_fn g; refine hcall.mono ?_; rintro e w' ⟨rfl, hb'⟩)
    go_roundg (xs.length - (kk + 1))
    case measure => omega
    case rel =>
     refine ⟨kk + 1, by omega, by omega, by go_num, ⟨hb'⟩, ⟨fun j hj => ?_⟩⟩
     by_cases e : j = kk
     ·subst e
      rw [B.out]; exact hq
     ·exact A0.out j (by omega)
  ·have hltz : ¬ (kk : Int) < (xs.length : Int) := by omega
   have : kk = xs.length := by omega
   subst this
   go_wp2
   go_ret
   refine ⟨-1, rfl, ?_, BW.out⟩
   rw [any_none p xs z41 A0.out]
   rfl
theorem cont_obj (p : S41 → Bool) (g : Nat) (lb : Array Value) (eg : ∀ args w, (callFunc g args).run Try.prog w = .ok (.enter g args) w) (A : Option Addr) (c : Nat) (xs : List S41) (w : World)
  (hr : Kd.C k41 w A xs.length xs) (hbig : xs.length ≤ 9223372036854775807)
  (hp : ∀ (W : World) (x : S41) (A2 : Option Addr) (c2 : Nat), Below w.heap.size w W → x.f2.length ≤ c2 → Kd.C (Kd.int .i64) w A2 x.f2.length x.f2 → Calls Try.prog g (#[.agg #[.int .i64 x.f0, .int .i64 x.f1, .slice A2 x.f2.length c2, .string x.f3, .int .i64 x.f4, .int .i64 x.f5]] ++ lb) W fun e w' => e = .returned (.bool (p x)) ∧ Below w.heap.size w w') :
  Calls Try.prog 63 #[.slice A xs.length c, .func (.func g) #[] lb] w fun e w' => e = .returned (.bool (xs.any p)) ∧ Below w.heap.size w w' := by
 have HX := Aside0.mk (idx_obj p g lb eg A c xs w hr hbig hp)
 clear hr hp
 go_enter Try.func63, Try.ntmps63
 go_wp2_with (go_at_call 72; refine HX.out.mono ?_; rintro e w' ⟨j, rfl, hj, hd⟩)
 go_ret
 exact ⟨by rw [← hj]; rfl, hd⟩
set_option maxHeartbeats 2000000 in
theorem idx_int (p : Int → Bool) (g : Nat) (lb : Array Value) (eg : ∀ args w, (callFunc g args).run Try.prog w = .ok (.enter g args) w) (A : Option Addr) (c : Nat) (xs : List Int) (w : World)
  (hr : Kd.C (Kd.int .i64) w A xs.length xs) (hbig : xs.length ≤ 9223372036854775807) (hp : ∀ (W : World) x, Drawn0 w W → Calls Try.prog g (#[.int .i64 x] ++ lb) W fun e w' => e = .returned (.bool (p x)) ∧ Drawn0 w w') :
  Calls Try.prog 82 #[.slice A xs.length c, .func (.func g) #[] lb] w (IdxPost Drawn0 (xs.any p) w) := by
 have HR := Aside0.mk hr
 clear hr
 go_enter Try.func82, Try.ntmps82
 go_wp2
 go_loopg [5, 8] xs.length (fun gg _ s8 wr => ∃ kk : Nat, kk ≤ xs.length ∧ xs.length - kk ≤ gg ∧ s8 = .int .i64 kk ∧ Aside0 (Drawn0 w wr) ∧ Aside0 (∀ j, j < kk → p (xs.getD j 0) = false))
 case atStart => exact ⟨0, Nat.zero_le _, by omega, rfl, ⟨Drawn0.refl w⟩, ⟨fun j hj => absurd hj (Nat.not_lt_zero _)⟩⟩
 case round =>
  obtain ⟨kk, hkk, hg, rfl, BW, A0⟩ := hrel
  by_cases hlt : kk < xs.length
  ·have hltz : (kk : Int) < (xs.length : Int) := by omega
   obtain ⟨ad, e, hx⟩ := Kd.at_int HR.out kk (by omega) hltz
   cases e
   replace hx := (BW.out.below.cell (World.block_lt_of_cell? w _ hx)).trans hx
   have hcall := hp wr (xs.getD kk 0) BW.out
   have e1 : rd xs (kk : Int) = xs.getD kk 0 := by unfold rd; rw [Int.toNat_natCast]
   rw [e1, Int.toNat_natCast] at hx
   have hhit := any_here p xs kk 0 hlt
   clear hp e1
   generalize hy : xs.getD kk 0 = y at hx hcall hhit
   have B : Aside0 (xs.getD kk 0 = y) := ⟨hy⟩
   clear hy
   cases hq : p y with
   | true =>
    rw [hq] at hcall
    have hh := Aside0.mk (hhit hq)
    clear hhit
    go_wp2_with (go_at_fn g; refine hcall.mono ?_; rintro e w' ⟨rfl, hb'⟩)
    go_ret
    exact ⟨_, rfl, by rw [hh.out]; simp, hb'⟩
   | false =>
    rw [hq] at hcall
    clear hhit
    go_wp2_with (go_at_fn g; refine hcall.mono ?_; rintro e w' ⟨rfl, hb'⟩)
    go_roundg (xs.length - (kk + 1))
    case measure => omega
    case rel =>
     refine ⟨kk + 1, by omega, by omega, by go_num, ⟨hb'⟩, ⟨fun j hj => ?_⟩⟩
     by_cases e : j = kk
     ·subst e
      rw [B.out]; exact hq
     ·exact A0.out j (by omega)
  ·have hltz : ¬ (kk : Int) < (xs.length : Int) := by omega
   have : kk = xs.length := by omega
   subst this
   go_wp2
   go_ret
   refine ⟨-1, rfl, ?_, BW.out⟩
   rw [any_none p xs 0 A0.out]
   rfl
theorem cont_int (p : Int → Bool) (g : Nat) (lb : Array Value) (eg : ∀ args w, (callFunc g args).run Try.prog w = .ok (.enter g args) w) (A : Option Addr) (c : Nat) (xs : List Int) (w : World)
  (hr : Kd.C (Kd.int .i64) w A xs.length xs) (hbig : xs.length ≤ 9223372036854775807) (hp : ∀ (W : World) x, Drawn0 w W → Calls Try.prog g (#[.int .i64 x] ++ lb) W fun e w' => e = .returned (.bool (p x)) ∧ Drawn0 w w') :
  Calls Try.prog 75 #[.slice A xs.length c, .func (.func g) #[] lb] w fun e w' => e = .returned (.bool (xs.any p)) ∧ Drawn0 w w' := by
 have hcall := fun W (h : W = w) => idx_int p g lb eg A c xs w hr hbig hp
 have HX := Aside0.mk (idx_int p g lb eg A c xs w hr hbig hp)
 clear hr hp hcall
 go_enter Try.func75, Try.ntmps75
 go_wp2_with (go_at_call 82; refine HX.out.mono ?_; rintro e w' ⟨j, rfl, hj, hd⟩)
 go_ret
 exact ⟨by rw [← hj]; rfl, hd⟩
theorem ref_eq (n v : Int) : heap_objects_ref.f n v = some (refI n v) := by
 unfold heap_objects_ref.f value_At.f value_object.f refI isRef
 rw [bits_and_one]
 by_cases h0 : v % 2 = 0
 ·rw [if_pos h0]
  by_cases h1 : v / 2 ≥ 0
  ·rw [if_pos h1]
   simp only [Option.bind_some]
   by_cases h2 : v / 2 < 1048576
   ·rw [if_pos (by simpa using h2)]
    simp only [Option.bind_some, if_true]
    by_cases h3 : v / 2 < n
    ·rw [if_pos h3, if_pos (by simp only [decide_eq_true_eq]; omega)]
    ·rw [if_neg h3, if_neg (by simp only [decide_eq_true_eq]; omega)]
   ·rw [if_neg (by simpa using h2), if_neg (by simp only [decide_eq_true_eq]; omega)]; rfl
  ·rw [if_neg h1, if_neg (by simp only [decide_eq_true_eq]; omega)]; rfl
 ·rw [if_neg h0, if_neg (by simp only [decide_eq_true_eq]; omega)]; rfl
theorem N_eq (v : Int) : value_N.f v = some (if isSmall v then (v / 2, true) else (0, false)) := by
 unfold value_N.f value_small.f isSmall
 rw [bits_and_one]
 by_cases h0 : v % 2 = 1
 ·rw [if_pos h0]
  by_cases h1 : v / 2 ≥ (-1073741824)
  ·rw [if_pos h1]
   simp only [Option.bind_some]
   by_cases h2 : v / 2 ≤ 1073741823
   ·rw [if_pos (by simpa using h2), if_pos (by simp only [decide_eq_true_eq]; omega)]
   ·rw [if_neg (by simpa using h2), if_neg (by simp only [decide_eq_true_eq]; omega)]
  ·rw [if_neg h1, if_neg (by simp only [decide_eq_true_eq]; omega)]; rfl
 ·rw [if_neg h0, if_neg (by simp only [decide_eq_true_eq]; omega)]
theorem has_eq (n v : Int) : heap_objects_has.f n v = some (hasB n v) := by
 unfold heap_objects_has.f
 rw [N_eq, ref_eq]
 unfold hasB
 cases h : isSmall v
 ·simp only [Option.bind_some]
  rw [← refI_nonneg]
  simp
 ·simp
def inB (a m : Int) : Bool := decide (0 ≤ a ∧ a ≤ m)
theorem in_eq (a m : Int) : heap_in.f a m = some (inB a m) := by
 unfold heap_in.f inB
 by_cases h0 : a ≥ 0
 ·rw [if_pos h0]; congr 1; simp only [decide_eq_decide]; omega
 ·rw [if_neg h0]; congr 1; symm; simp only [decide_eq_false_iff_not]; omega
theorem may1_calls (n v : Int) (B : Nat) (w : World) (hc : w.cell? ⟨B, 0, none⟩ = some (.int .i64 n)) :
  Calls Try.prog 76 #[.int .i64 v, .pointer (some ⟨B, 0, none⟩)] w fun e w' => e = .returned (.bool (!(hasB n v))) ∧ Drawn0 w w' := by
 go_enter Try.func76, Try.ntmps76
 go_wp2_with (first | (go_at_call 77; (with_reducible refine (heap_objects_has.calls n v _ _ (has_eq n v)).mono ?_); rintro e w' ⟨rfl, ⟨nd, rfl⟩⟩))
 go_ret
 exact ⟨rfl, by repeat (first | exact Drawn0.refl _ | apply Drawn0.step)⟩
def canonB (b : Int) : Bool := flt_bits.v (fltWord b) == b
def kindB (k : Int) (slots : List Int) (text : ByteArray) (bits : Int) : Bool :=
 !((k != 0) && decide ((slots.length : Int) > 0) || (k != 1) && (text.toList != []) || (k != 2) && (bits != 0))
def mayObj (n : Int) (x : S41) : Bool :=
 isRef n x.f0 && inB x.f1 2 && inB x.f5 1073741823 && kindB x.f1 x.f2 x.f3 x.f4 && (decide ((x.f2.length : Int) ≤ 64) && decide ((x.f3.size : Int) ≤ 64) && canonB x.f4 && !(x.f2.any fun v => !(hasB n v)))
theorem refI_neg (n v : Int) : decide (refI n v < 0) = !(isRef n v) := by
 rw [← refI_nonneg]
 by_cases h : 0 ≤ refI n v <;> simp [h] <;> omega
theorem quiet_at {P : Program} {f : FuncId} {args : Array Value} {W : World} {a n : Nat} {v : Value} (h : Calls P f args (W.drewN (a + n)) fun e w' => e = .returned v ∧ Drawn0 (W.drewN (a + n)) w') :
  Calls P f args (W.drewN (a + n)) fun e w'' => e = .returned v ∧ ∃ m, w'' = W.drewN (a + m) :=
 h.mono fun _ _ ⟨he, hd⟩ => ⟨he, by obtain ⟨m, rfl⟩ := hd; exact ⟨n + m, by rw [World.drewN_drewN, Nat.add_assoc]⟩⟩
theorem has_any_calls (n : Int) (A2 : Option Addr) (c2 : Nat) (f2 : List Int) (B : Nat) (W : World) (hB : W.cell? ⟨B, 0, none⟩ = some (.int .i64 n)) (hr : Kd.C (Kd.int .i64) W A2 f2.length f2) :
  Calls Try.prog 75 #[.slice A2 f2.length c2, .func (.func 76) #[] #[.pointer (some ⟨B, 0, none⟩)]] W fun e w' => e = .returned (.bool (f2.any fun v => !(hasB n v))) ∧ Drawn0 W w' :=
 cont_int (fun v => !(hasB n v)) 76 #[.pointer (some ⟨B, 0, none⟩)] (enters_of Try.func76 (by kernel_rfl) rfl) A2 c2 f2 W hr hr.2.1
  (fun W1 x hd => (may1_calls n x B W1 ((hd.below.cell (World.block_lt_of_cell? W _ hB)).trans hB)).mono fun e w' ⟨he, hd'⟩ => ⟨he, by obtain ⟨m, rfl⟩ := hd; obtain ⟨m', rfl⟩ := hd'; exact ⟨⟨m + m', World.drewN_drewN ..⟩⟩⟩)
set_option maxHeartbeats 8000000 in
set_option maxRecDepth 100000 in
theorem may_k0 (n f0 : Int) (f2 : List Int) (f3 : ByteArray) (f4 f5 : Int) (A2 : Option Addr) (c2 : Nat) (w : World) (h0 : isRef n f0 = true) (h5 : inB f5 1073741823 = true) (HR : Aside0 (Kd.C (Kd.int .i64) w A2 f2.length f2)) :
  Calls Try.prog 65 #[.int .i64 n, .agg #[.int .i64 f0, .int .i64 0, .slice A2 f2.length c2, .string f3, .int .i64 f4, .int .i64 f5]] w fun e w' => e = .returned (.bool (mayObj n ⟨f0, 0, f2, f3, f4, f5⟩)) ∧ Below w.heap.size w w' := by
 have hn := refI_neg n f0
 have h1 : inB 0 2 = true := by decide
 have HX := Aside0.mk (fun (W : World) hB hr => has_any_calls n A2 c2 f2 w.heap.size W hB hr)
 have hval : mayObj n ⟨f0, 0, f2, f3, f4, f5⟩ = (kindB 0 f2 f3 f4 && (decide ((f2.length : Int) ≤ 64) && decide ((f3.size : Int) ≤ 64) && canonB f4 && !(f2.any fun v => !(hasB n v)))) := by
  simp only [mayObj, h0, h1, h5, Bool.true_and]
 have hkind : kindB 0 f2 f3 f4 = !((f3.toList != []) || (f4 != 0)) := by
  unfold kindB; simp
 rw [hkind] at hval
 have HV := Aside0.mk hval
 clear hval hkind
 rw [h0] at hn
 clear h0
 cases q1 : (f3.toList != []) with
 | true =>
  rw [q1] at HV
  have t1 : ¬ f3.toList = [] := by simpa using q1
  go_enter Try.func65, Try.ntmps65
  go_wp2_with (first | (go_at_call 73; (with_reducible refine (heap_objects_ref.calls n f0 _ _ (ref_eq n f0)).mono ?_); rintro e w' ⟨rfl, ⟨nd, rfl⟩⟩) | (go_at_call 62; (first | (with_reducible refine (heap_in.calls 0 2 _ _ (in_eq _ _)).mono ?_) | (with_reducible refine (heap_in.calls f5 1073741823 _ _ (in_eq _ _)).mono ?_)); rintro e w' ⟨rfl, ⟨nd, rfl⟩⟩))
  go_ret
  exact ⟨by rw [HV.out]; rfl, by repeat (first | exact Below.refl _ _ | apply below_alloc | apply pw_below_drewN | apply below_drew1)⟩
 | false =>
  rw [q1] at HV
  have t1 : f3.toList = [] := by simpa using q1
  cases q2 : (f4 != 0) with
  | true =>
   rw [q2] at HV
   skip
   go_enter Try.func65, Try.ntmps65
   go_wp2_with (first | (go_at_call 73; (with_reducible refine (heap_objects_ref.calls n f0 _ _ (ref_eq n f0)).mono ?_); rintro e w' ⟨rfl, ⟨nd, rfl⟩⟩) | (go_at_call 62; (first | (with_reducible refine (heap_in.calls 0 2 _ _ (in_eq _ _)).mono ?_) | (with_reducible refine (heap_in.calls f5 1073741823 _ _ (in_eq _ _)).mono ?_)); rintro e w' ⟨rfl, ⟨nd, rfl⟩⟩))
   go_ret
   exact ⟨by rw [HV.out]; rfl, by repeat (first | exact Below.refl _ _ | apply below_alloc | apply pw_below_drewN | apply below_drew1)⟩
  | false =>
   rw [q2] at HV
   skip
   go_enter Try.func65, Try.ntmps65
   go_wp2_with (first | (go_at_call 73; (with_reducible refine (heap_objects_ref.calls n f0 _ _ (ref_eq n f0)).mono ?_); rintro e w' ⟨rfl, ⟨nd, rfl⟩⟩) | (go_at_call 62; (first | (with_reducible refine (heap_in.calls 0 2 _ _ (in_eq _ _)).mono ?_) | (with_reducible refine (heap_in.calls f5 1073741823 _ _ (in_eq _ _)).mono ?_)); rintro e w' ⟨rfl, ⟨nd, rfl⟩⟩))
   cases b1 : decide ((f2.length : Int) ≤ 64) with
   | false =>
    rw [b1] at HV
    go_quiet (fail)
    go_wp2
    go_ret
    exact ⟨by rw [HV.out]; rfl, by repeat (first | exact Below.refl _ _ | apply below_alloc | apply pw_below_drewN | apply below_drew1)⟩
   | true =>
    rw [b1] at HV
    cases b2 : decide ((f3.size : Int) ≤ 64) with
    | false =>
     rw [b2] at HV
     go_quiet (fail)
     go_wp2
     go_ret
     exact ⟨by rw [HV.out]; rfl, by repeat (first | exact Below.refl _ _ | apply below_alloc | apply pw_below_drewN | apply below_drew1)⟩
    | true =>
     rw [b2] at HV
     cases b3 : (flt_bits.v (fltWord f4) == f4) with
     | false =>
      rw [show canonB f4 = false from b3] at HV
      go_quiet ((first | (go_at_call 74; exact quiet_at (flt_Canon.calls f4 _ _ rfl)) | (go_at_call 75; exact quiet_at (HX.out _ (by simp) (by repeat (first | exact HR.out | apply Kd.C_alloc | apply Kd.C_drewN))))))
      go_wp2
      go_ret
      exact ⟨by rw [HV.out]; rfl, by repeat (first | exact Below.refl _ _ | apply below_alloc | apply pw_below_drewN | apply below_drew1)⟩
     | true =>
      rw [show canonB f4 = true from b3] at HV
      go_quiet ((first | (go_at_call 74; exact quiet_at (flt_Canon.calls f4 _ _ rfl)) | (go_at_call 75; exact quiet_at (HX.out _ (by simp) (by repeat (first | exact HR.out | apply Kd.C_alloc | apply Kd.C_drewN))))))
      go_wp2
      go_ret
      exact ⟨by rw [HV.out]; simp, by repeat (first | exact Below.refl _ _ | apply below_alloc | apply pw_below_drewN | apply below_drew1)⟩
set_option maxHeartbeats 8000000 in
set_option maxRecDepth 100000 in
theorem may_k1 (n f0 : Int) (f2 : List Int) (f3 : ByteArray) (f4 f5 : Int) (A2 : Option Addr) (c2 : Nat) (w : World) (h0 : isRef n f0 = true) (h5 : inB f5 1073741823 = true) (HR : Aside0 (Kd.C (Kd.int .i64) w A2 f2.length f2)) :
  Calls Try.prog 65 #[.int .i64 n, .agg #[.int .i64 f0, .int .i64 1, .slice A2 f2.length c2, .string f3, .int .i64 f4, .int .i64 f5]] w fun e w' => e = .returned (.bool (mayObj n ⟨f0, 1, f2, f3, f4, f5⟩)) ∧ Below w.heap.size w w' := by
 have hn := refI_neg n f0
 have h1 : inB 1 2 = true := by decide
 have HX := Aside0.mk (fun (W : World) hB hr => has_any_calls n A2 c2 f2 w.heap.size W hB hr)
 have hval : mayObj n ⟨f0, 1, f2, f3, f4, f5⟩ = (kindB 1 f2 f3 f4 && (decide ((f2.length : Int) ≤ 64) && decide ((f3.size : Int) ≤ 64) && canonB f4 && !(f2.any fun v => !(hasB n v)))) := by
  simp only [mayObj, h0, h1, h5, Bool.true_and]
 have hkind : kindB 1 f2 f3 f4 = !((decide (0 < f2.length)) || (f4 != 0)) := by
  unfold kindB; simp
 rw [hkind] at hval
 have HV := Aside0.mk hval
 clear hval hkind
 rw [h0] at hn
 clear h0
 cases q1 : (decide (0 < f2.length)) with
 | true =>
  rw [q1] at HV
  have s1 : ¬ f2 = [] := (fun h => by rw [h] at q1; simp at q1)
  go_enter Try.func65, Try.ntmps65
  go_wp2_with (first | (go_at_call 73; (with_reducible refine (heap_objects_ref.calls n f0 _ _ (ref_eq n f0)).mono ?_); rintro e w' ⟨rfl, ⟨nd, rfl⟩⟩) | (go_at_call 62; (first | (with_reducible refine (heap_in.calls 1 2 _ _ (in_eq _ _)).mono ?_) | (with_reducible refine (heap_in.calls f5 1073741823 _ _ (in_eq _ _)).mono ?_)); rintro e w' ⟨rfl, ⟨nd, rfl⟩⟩))
  go_ret
  exact ⟨by rw [HV.out]; rfl, by repeat (first | exact Below.refl _ _ | apply below_alloc | apply pw_below_drewN | apply below_drew1)⟩
 | false =>
  rw [q1] at HV
  obtain rfl : f2 = [] := by cases f2 with | nil => rfl | cons a l => simp at q1
  cases q2 : (f4 != 0) with
  | true =>
   rw [q2] at HV
   skip
   go_enter Try.func65, Try.ntmps65
   go_wp2_with (first | (go_at_call 73; (with_reducible refine (heap_objects_ref.calls n f0 _ _ (ref_eq n f0)).mono ?_); rintro e w' ⟨rfl, ⟨nd, rfl⟩⟩) | (go_at_call 62; (first | (with_reducible refine (heap_in.calls 1 2 _ _ (in_eq _ _)).mono ?_) | (with_reducible refine (heap_in.calls f5 1073741823 _ _ (in_eq _ _)).mono ?_)); rintro e w' ⟨rfl, ⟨nd, rfl⟩⟩))
   go_ret
   exact ⟨by rw [HV.out]; rfl, by repeat (first | exact Below.refl _ _ | apply below_alloc | apply pw_below_drewN | apply below_drew1)⟩
  | false =>
   rw [q2] at HV
   skip
   go_enter Try.func65, Try.ntmps65
   go_wp2_with (first | (go_at_call 73; (with_reducible refine (heap_objects_ref.calls n f0 _ _ (ref_eq n f0)).mono ?_); rintro e w' ⟨rfl, ⟨nd, rfl⟩⟩) | (go_at_call 62; (first | (with_reducible refine (heap_in.calls 1 2 _ _ (in_eq _ _)).mono ?_) | (with_reducible refine (heap_in.calls f5 1073741823 _ _ (in_eq _ _)).mono ?_)); rintro e w' ⟨rfl, ⟨nd, rfl⟩⟩))
   cases b1 : decide (((([] : List Int).length : Nat) : Int) ≤ 64) with
   | false => simp at b1
   | true =>
    rw [b1] at HV
    cases b2 : decide ((f3.size : Int) ≤ 64) with
    | false =>
     rw [b2] at HV
     go_quiet (fail)
     go_wp2
     go_ret
     exact ⟨by rw [HV.out]; rfl, by repeat (first | exact Below.refl _ _ | apply below_alloc | apply pw_below_drewN | apply below_drew1)⟩
    | true =>
     rw [b2] at HV
     cases b3 : (flt_bits.v (fltWord f4) == f4) with
     | false =>
      rw [show canonB f4 = false from b3] at HV
      go_quiet ((first | (go_at_call 74; exact quiet_at (flt_Canon.calls f4 _ _ rfl)) | (go_at_call 75; exact quiet_at (HX.out _ (by simp) (by repeat (first | exact HR.out | apply Kd.C_alloc | apply Kd.C_drewN))))))
      go_wp2
      go_ret
      exact ⟨by rw [HV.out]; rfl, by repeat (first | exact Below.refl _ _ | apply below_alloc | apply pw_below_drewN | apply below_drew1)⟩
     | true =>
      rw [show canonB f4 = true from b3] at HV
      go_quiet ((first | (go_at_call 74; exact quiet_at (flt_Canon.calls f4 _ _ rfl)) | (go_at_call 75; exact quiet_at (HX.out _ (by simp) (by repeat (first | exact HR.out | apply Kd.C_alloc | apply Kd.C_drewN))))))
      go_wp2
      go_ret
      exact ⟨by rw [HV.out]; simp, by repeat (first | exact Below.refl _ _ | apply below_alloc | apply pw_below_drewN | apply below_drew1)⟩
set_option maxHeartbeats 8000000 in
set_option maxRecDepth 100000 in
theorem may_k2 (n f0 : Int) (f2 : List Int) (f3 : ByteArray) (f4 f5 : Int) (A2 : Option Addr) (c2 : Nat) (w : World) (h0 : isRef n f0 = true) (h5 : inB f5 1073741823 = true) (HR : Aside0 (Kd.C (Kd.int .i64) w A2 f2.length f2)) :
  Calls Try.prog 65 #[.int .i64 n, .agg #[.int .i64 f0, .int .i64 2, .slice A2 f2.length c2, .string f3, .int .i64 f4, .int .i64 f5]] w fun e w' => e = .returned (.bool (mayObj n ⟨f0, 2, f2, f3, f4, f5⟩)) ∧ Below w.heap.size w w' := by
 have hn := refI_neg n f0
 have h1 : inB 2 2 = true := by decide
 have HX := Aside0.mk (fun (W : World) hB hr => has_any_calls n A2 c2 f2 w.heap.size W hB hr)
 have hval : mayObj n ⟨f0, 2, f2, f3, f4, f5⟩ = (kindB 2 f2 f3 f4 && (decide ((f2.length : Int) ≤ 64) && decide ((f3.size : Int) ≤ 64) && canonB f4 && !(f2.any fun v => !(hasB n v)))) := by
  simp only [mayObj, h0, h1, h5, Bool.true_and]
 have hkind : kindB 2 f2 f3 f4 = !((decide (0 < f2.length)) || (f3.toList != [])) := by
  unfold kindB; simp
 rw [hkind] at hval
 have HV := Aside0.mk hval
 clear hval hkind
 rw [h0] at hn
 clear h0
 cases q1 : (decide (0 < f2.length)) with
 | true =>
  rw [q1] at HV
  have s1 : ¬ f2 = [] := (fun h => by rw [h] at q1; simp at q1)
  go_enter Try.func65, Try.ntmps65
  go_wp2_with (first | (go_at_call 73; (with_reducible refine (heap_objects_ref.calls n f0 _ _ (ref_eq n f0)).mono ?_); rintro e w' ⟨rfl, ⟨nd, rfl⟩⟩) | (go_at_call 62; (first | (with_reducible refine (heap_in.calls 2 2 _ _ (in_eq _ _)).mono ?_) | (with_reducible refine (heap_in.calls f5 1073741823 _ _ (in_eq _ _)).mono ?_)); rintro e w' ⟨rfl, ⟨nd, rfl⟩⟩))
  go_ret
  exact ⟨by rw [HV.out]; rfl, by repeat (first | exact Below.refl _ _ | apply below_alloc | apply pw_below_drewN | apply below_drew1)⟩
 | false =>
  rw [q1] at HV
  obtain rfl : f2 = [] := by cases f2 with | nil => rfl | cons a l => simp at q1
  cases q2 : (f3.toList != []) with
  | true =>
   rw [q2] at HV
   have t1 : ¬ f3.toList = [] := by simpa using q2
   go_enter Try.func65, Try.ntmps65
   go_wp2_with (first | (go_at_call 73; (with_reducible refine (heap_objects_ref.calls n f0 _ _ (ref_eq n f0)).mono ?_); rintro e w' ⟨rfl, ⟨nd, rfl⟩⟩) | (go_at_call 62; (first | (with_reducible refine (heap_in.calls 2 2 _ _ (in_eq _ _)).mono ?_) | (with_reducible refine (heap_in.calls f5 1073741823 _ _ (in_eq _ _)).mono ?_)); rintro e w' ⟨rfl, ⟨nd, rfl⟩⟩))
   go_ret
   exact ⟨by rw [HV.out]; rfl, by repeat (first | exact Below.refl _ _ | apply below_alloc | apply pw_below_drewN | apply below_drew1)⟩
  | false =>
   rw [q2] at HV
   have t1 : f3.toList = [] := by simpa using q2
   go_enter Try.func65, Try.ntmps65
   go_wp2_with (first | (go_at_call 73; (with_reducible refine (heap_objects_ref.calls n f0 _ _ (ref_eq n f0)).mono ?_); rintro e w' ⟨rfl, ⟨nd, rfl⟩⟩) | (go_at_call 62; (first | (with_reducible refine (heap_in.calls 2 2 _ _ (in_eq _ _)).mono ?_) | (with_reducible refine (heap_in.calls f5 1073741823 _ _ (in_eq _ _)).mono ?_)); rintro e w' ⟨rfl, ⟨nd, rfl⟩⟩))
   cases b1 : decide (((([] : List Int).length : Nat) : Int) ≤ 64) with
   | false => simp at b1
   | true =>
    rw [b1] at HV
    cases b2 : decide ((f3.size : Int) ≤ 64) with
    | false =>
     rw [b2] at HV
     go_quiet (fail)
     go_wp2
     go_ret
     exact ⟨by rw [HV.out]; rfl, by repeat (first | exact Below.refl _ _ | apply below_alloc | apply pw_below_drewN | apply below_drew1)⟩
    | true =>
     rw [b2] at HV
     cases b3 : (flt_bits.v (fltWord f4) == f4) with
     | false =>
      rw [show canonB f4 = false from b3] at HV
      go_quiet ((first | (go_at_call 74; exact quiet_at (flt_Canon.calls f4 _ _ rfl)) | (go_at_call 75; exact quiet_at (HX.out _ (by simp) (by repeat (first | exact HR.out | apply Kd.C_alloc | apply Kd.C_drewN))))))
      go_wp2
      go_ret
      exact ⟨by rw [HV.out]; rfl, by repeat (first | exact Below.refl _ _ | apply below_alloc | apply pw_below_drewN | apply below_drew1)⟩
     | true =>
      rw [show canonB f4 = true from b3] at HV
      go_quiet ((first | (go_at_call 74; exact quiet_at (flt_Canon.calls f4 _ _ rfl)) | (go_at_call 75; exact quiet_at (HX.out _ (by simp) (by repeat (first | exact HR.out | apply Kd.C_alloc | apply Kd.C_drewN))))))
      go_wp2
      go_ret
      exact ⟨by rw [HV.out]; simp, by repeat (first | exact Below.refl _ _ | apply below_alloc | apply pw_below_drewN | apply below_drew1)⟩
set_option maxHeartbeats 4000000 in
set_option maxRecDepth 100000 in
theorem may_head_no (n : Int) (x : S41) (A2 : Option Addr) (c2 : Nat) (w : World) (h : (isRef n x.f0 && inB x.f1 2 && inB x.f5 1073741823) = false) :
  Calls Try.prog 65 #[.int .i64 n, .agg #[.int .i64 x.f0, .int .i64 x.f1, .slice A2 x.f2.length c2, .string x.f3, .int .i64 x.f4, .int .i64 x.f5]] w fun e w' => e = .returned (.bool (mayObj n x)) ∧ Below w.heap.size w w' := by
 have hm : mayObj n x = false := by unfold mayObj; rw [h]; rfl
 have HM := Aside0.mk hm
 clear hm
 have hn := refI_neg n x.f0
 cases h0 : isRef n x.f0 with
 | false =>
  rw [h0] at hn
  clear h h0
  go_enter Try.func65, Try.ntmps65
  go_wp2_with (go_at_call 73; (with_reducible refine (heap_objects_ref.calls n x.f0 _ _ (ref_eq n x.f0)).mono ?_); rintro e w' ⟨rfl, ⟨nd, rfl⟩⟩)
  go_ret
  exact ⟨by rw [HM.out]; rfl, by repeat (first | exact Below.refl _ _ | apply below_alloc | apply pw_below_drewN | apply below_drew1)⟩
 | true =>
  rw [h0] at hn
  cases h1 : inB x.f1 2 with
  | false =>
   clear h h0
   go_enter Try.func65, Try.ntmps65
   go_wp2_with (first | (go_at_call 73; (with_reducible refine (heap_objects_ref.calls n x.f0 _ _ (ref_eq n x.f0)).mono ?_); rintro e w' ⟨rfl, ⟨nd, rfl⟩⟩) | (go_at_call 62; (with_reducible refine (heap_in.calls x.f1 2 _ _ (in_eq _ _)).mono ?_); rintro e w' ⟨rfl, ⟨nd, rfl⟩⟩))
   go_ret
   exact ⟨by rw [HM.out]; rfl, by repeat (first | exact Below.refl _ _ | apply below_alloc | apply pw_below_drewN | apply below_drew1)⟩
  | true =>
   have h5 : inB x.f5 1073741823 = false := by simpa [h0, h1] using h
   clear h h0
   go_enter Try.func65, Try.ntmps65
   go_wp2_with (first | (go_at_call 73; (with_reducible refine (heap_objects_ref.calls n x.f0 _ _ (ref_eq n x.f0)).mono ?_); rintro e w' ⟨rfl, ⟨nd, rfl⟩⟩) | (go_at_call 62; (first | (with_reducible refine (heap_in.calls x.f1 2 _ _ (in_eq _ _)).mono ?_) | (with_reducible refine (heap_in.calls x.f5 1073741823 _ _ (in_eq _ _)).mono ?_)); rintro e w' ⟨rfl, ⟨nd, rfl⟩⟩))
   go_ret
   exact ⟨by rw [HM.out]; rfl, by repeat (first | exact Below.refl _ _ | apply below_alloc | apply pw_below_drewN | apply below_drew1)⟩
theorem may_calls (n : Int) (x : S41) (A2 : Option Addr) (c2 : Nat) (w : World) (hr : Kd.C (Kd.int .i64) w A2 x.f2.length x.f2) :
  Calls Try.prog 65 #[.int .i64 n, .agg #[.int .i64 x.f0, .int .i64 x.f1, .slice A2 x.f2.length c2, .string x.f3, .int .i64 x.f4, .int .i64 x.f5]] w fun e w' => e = .returned (.bool (mayObj n x)) ∧ Below w.heap.size w w' := by
 cases h : (isRef n x.f0 && inB x.f1 2 && inB x.f5 1073741823) with
 | false => exact may_head_no n x A2 c2 w h
 | true =>
  obtain ⟨f0, f1, f2, f3, f4, f5⟩ := x
  simp only [Bool.and_eq_true] at h
  obtain ⟨⟨h0, h1⟩, h5⟩ := h
  have hk : f1 = 0 ∨ f1 = 1 ∨ f1 = 2 := by
   unfold inB at h1
   simp only [decide_eq_true_eq] at h1
   omega
  rcases hk with rfl | rfl | rfl
  ·exact may_k0 n f0 f2 f3 f4 f5 A2 c2 w h0 h5 ⟨hr⟩
  ·exact may_k1 n f0 f2 f3 f4 f5 A2 c2 w h0 h5 ⟨hr⟩
  ·exact may_k2 n f0 f2 f3 f4 f5 A2 c2 w h0 h5 ⟨hr⟩
theorem May1_calls (n : Int) (x : S41) (A2 : Option Addr) (c2 : Nat) (B : Nat) (w : World) (hB : w.cell? ⟨B, 0, none⟩ = some (.int .i64 n)) (hr : Kd.C (Kd.int .i64) w A2 x.f2.length x.f2) :
  Calls Try.prog 64 #[.agg #[.int .i64 x.f0, .int .i64 x.f1, .slice A2 x.f2.length c2, .string x.f3, .int .i64 x.f4, .int .i64 x.f5], .pointer (some ⟨B, 0, none⟩)] w fun e w' => e = .returned (.bool (!(mayObj n x))) ∧ Below w.heap.size w w' := by
 have hlt := World.block_lt_of_cell? w _ hB
 have hne : B ≠ w.heap.size := by simp at hlt; omega
 have HR := Aside0.mk hr
 clear hr
 have HX := Aside0.mk (fun (W : World) h => may_calls n x A2 c2 W h)
 go_enter Try.func64, Try.ntmps64
 go_wp2_with (go_at_call 65; refine (HX.out _ (Kd.C_alloc HR.out _)).mono ?_; rintro e w' ⟨rfl, hb⟩)
 go_ret
 exact ⟨rfl, below_step (below_alloc (Below.refl _ _) _) hb⟩
def mayB (objs : List S41) (cap last : Int) : Bool := decide (1 ≤ cap) && decide (cap ≤ 256) && decide ((objs.length : Int) ≤ cap) && inB last 1073741823 && !(objs.any fun x => !(mayObj objs.length x))
def heap_May.f (l0_0 : List S41) (a0_1 : Int) (a0_2 : Int) : Option Bool := some (mayB l0_0 a0_1 a0_2)
set_option maxHeartbeats 8000000 in
set_option maxRecDepth 100000 in
theorem heap_May.calls (A0_0 : Option Addr) (c0_0 : Nat) (l0_0 : List (S41)) (a0_1 : Int) (a0_2 : Int) (r : Bool) (w : World) (hr0_0 : Kd.C k41 w A0_0 l0_0.length l0_0) (hc0_0 : l0_0.length ≤ c0_0) (h : heap_May.f l0_0 a0_1 a0_2 = some r) :
  Calls Try.prog 51 #[.agg #[.slice A0_0 l0_0.length c0_0, .int .i64 a0_1, .int .i64 a0_2]] w fun e w' => e = .returned (.bool r) ∧ Below w.heap.size w w' := by
 obtain rfl := Option.some.inj h
 clear h
 have hbig := hr0_0.2.1
 have HX := Aside0.mk (fun (W : World) (B : Nat) (hB : W.cell? ⟨B, 0, none⟩ = some (.int .i64 (l0_0.length : Int))) (hb : Below w.heap.size w W) =>
  cont_obj (fun x => !(mayObj l0_0.length x)) 64 #[.pointer (some ⟨B, 0, none⟩)] (enters_of Try.func64 (by kernel_rfl) rfl) A0_0 c0_0 l0_0 W (Kd.C_below hr0_0 hb) hbig
   (fun W1 x A2 c2 hb1 hl hC => (May1_calls l0_0.length x A2 c2 B W1 ((hb1.cell (World.block_lt_of_cell? W _ hB)).trans hB) (Kd.C_below hC hb1)).mono fun e w' ⟨he, hb'⟩ => ⟨he, below_step hb1 hb'⟩))
 clear hr0_0
 have hu24 := Try.underlying24
 have h4 := in_eq a0_2 1073741823
 have FIN : Aside0 (mayB l0_0 a0_1 a0_2 = (decide (1 ≤ a0_1) && decide (a0_1 ≤ 256) && decide ((l0_0.length : Int) ≤ a0_1) && inB a0_2 1073741823 && !(l0_0.any fun x => !(mayObj l0_0.length x)))) := ⟨rfl⟩
 generalize mayB l0_0 a0_1 a0_2 = res at FIN ⊢
 by_cases c1 : a0_1 < 1
 ·have c1b : decide (a0_1 < 1) = true := decide_eq_true c1
  have e1 : res = false := by rw [FIN.out, show decide (1 ≤ a0_1) = false from decide_eq_false (by omega)]; rfl
  subst e1
  clear c1
  go_enter Try.func51, Try.ntmps51
  go_wp2
  go_ret
  exact ⟨rfl, by repeat (first | exact Below.refl _ _ | apply below_alloc | apply pw_below_drewN | apply below_drew1)⟩
 ·have c1b : decide (a0_1 < 1) = false := decide_eq_false c1
  have c1c : decide (1 ≤ a0_1) = true := decide_eq_true (by omega)
  rw [c1c] at FIN
  by_cases c2 : a0_1 > 256
  ·have c2b : decide (256 < a0_1) = true := decide_eq_true c2
   have e1 : res = false := by rw [FIN.out, show decide (a0_1 ≤ 256) = false from decide_eq_false (by omega)]; rfl
   subst e1
   clear c1 c2
   go_enter Try.func51, Try.ntmps51
   go_wp2
   go_ret
   exact ⟨rfl, by repeat (first | exact Below.refl _ _ | apply below_alloc | apply pw_below_drewN | apply below_drew1)⟩
  ·have c2b : decide (256 < a0_1) = false := decide_eq_false c2
   rw [show decide (a0_1 ≤ 256) = true from decide_eq_true (by omega)] at FIN
   by_cases c3 : (l0_0.length : Int) > a0_1
   ·have c3b : decide (a0_1 < (l0_0.length : Int)) = true := decide_eq_true c3
    have e1 : res = false := by rw [FIN.out, show decide ((l0_0.length : Int) ≤ a0_1) = false from decide_eq_false (by omega)]; rfl
    subst e1
    clear c1 c2 c3
    go_enter Try.func51, Try.ntmps51
    go_wp2
    go_ret
    exact ⟨rfl, by repeat (first | exact Below.refl _ _ | apply below_alloc | apply pw_below_drewN | apply below_drew1)⟩
   ·have c3b : decide (a0_1 < (l0_0.length : Int)) = false := decide_eq_false c3
    rw [show decide ((l0_0.length : Int) ≤ a0_1) = true from decide_eq_true (by omega)] at FIN
    clear c1 c2 c3
    cases c4 : inB a0_2 1073741823 with
    | false =>
     rw [c4] at FIN h4
     obtain rfl : res = false := by rw [FIN.out]; rfl
     go_enter Try.func51, Try.ntmps51
     go_wp2_with (go_at_call 62; (with_reducible refine (heap_in.calls a0_2 1073741823 _ _ h4).mono ?_); rintro e w' ⟨rfl, ⟨nd, rfl⟩⟩)
     go_ret
     exact ⟨rfl, by repeat (first | exact Below.refl _ _ | apply below_alloc | apply pw_below_drewN | apply below_drew1)⟩
    | true =>
     rw [c4] at FIN h4
     go_enter Try.func51, Try.ntmps51
     go_wp2_with (first | (go_at_call 62; (with_reducible refine (heap_in.calls a0_2 1073741823 _ _ h4).mono ?_); rintro e w' ⟨rfl, ⟨nd, rfl⟩⟩) | (go_at_call 63; go_loud (refine (HX.out _ (w.heap.size + 1) ?sb ?bel).mono ?_); (case sb => go_simp); (case bel => repeat (first | exact Below.refl _ _ | apply below_alloc | apply pw_below_drewN | apply below_drew1)); rintro e w' ⟨rfl, hb⟩))
     go_ret
     exact ⟨by rw [FIN.out]; simp, below_step (by repeat (first | exact Below.refl _ _ | apply below_alloc | apply pw_below_drewN | apply below_drew1)) hb⟩
def value_May.f (a0 : Int) : Option (Bool) := (value_N.f a0).bind fun bt116 => ((value_At.f a0).bind fun bt118 => (if bt116.2 = true then (some true) else (some bt118.2)))
set_option maxHeartbeats 8000000 in
set_option maxRecDepth 100000 in
theorem value_May.calls (a0 : Int) (r : Bool) (w : World) (h : value_May.f a0 = some r) :
  Calls Try.prog 53 #[.int .i64 a0] w fun e w' => e = .returned (.bool r) ∧ Drawn0 w w' := by
 have H : ((value_N.f a0).bind fun bt116 => ((value_At.f a0).bind fun bt118 => (if bt116.2 = true then (some true) else (some bt118.2)))) = some r := h
 clear h
 replace H := Option.bind_eq_some_iff.mp H
 obtain ⟨⟨t116, t117⟩, A20, H⟩ := H
 replace H : ((value_At.f a0).bind fun bt118 => (if t117 = true then (some true) else (some bt118.2))) = some r := H
 have A2 := Aside0.mk A20
 clear A20
 replace H := Option.bind_eq_some_iff.mp H
 obtain ⟨⟨t118, t119⟩, A30, H⟩ := H
 replace H : (if t117 = true then (some true) else (some t119)) = some r := H
 have A3 := Aside0.mk A30
 clear A30
 by_cases c4 : t117 = true
 ·subst c4
  have H1 : (some true) = some r := by rw [if_pos rfl] at H; exact H
  clear H
  have H := H1
  clear H1
  obtain rfl := Option.some.inj H
  go_enter Try.func53, Try.ntmps53
  go_wp2_with (first | ((with_reducible refine gate_callee (f := 67) rfl ?_); refine goesL_ (some 9) rfl rfl Try.func67 (by kernel_rfl) rfl #[.int .i64 a0] rfl (by (try simp only [List.map_toArray, List.map_cons, List.map_nil]); first | done | rfl | (simp only [List.length_drop, List.length_take]; rfl)) ?_; (with_reducible refine (value_N.calls a0 t116 true _ A2.out).mono ?_); rintro e w' ⟨rfl, ⟨nd, rfl⟩⟩; refine ⟨_, rfl, ?_⟩) | ((with_reducible refine gate_callee (f := 52) rfl ?_); refine goesL_ (some 14) rfl rfl Try.func52 (by kernel_rfl) rfl #[.int .i64 a0] rfl (by (try simp only [List.map_toArray, List.map_cons, List.map_nil]); first | done | rfl | (simp only [List.length_drop, List.length_take]; rfl)) ?_; (with_reducible refine (value_At.calls a0 t118 t119 _ A3.out).mono ?_); rintro e w' ⟨rfl, ⟨nd, rfl⟩⟩; refine ⟨_, rfl, ?_⟩))
  go_ret
  exact ⟨by first | rfl | (simp; done) | (simp [*]; done), by repeat (first | exact Drawn0.refl _ | apply Drawn0.step)⟩
 ·replace c4 := Bool.eq_false_iff.mpr c4
  subst c4
  have H1 : (some t119) = some r := by rw [if_neg (show ¬ (false = true) by decide)] at H; exact H
  clear H
  have H := H1
  clear H1
  obtain rfl := Option.some.inj H
  go_enter Try.func53, Try.ntmps53
  go_wp2_with (first | ((with_reducible refine gate_callee (f := 67) rfl ?_); refine goesL_ (some 9) rfl rfl Try.func67 (by kernel_rfl) rfl #[.int .i64 a0] rfl (by (try simp only [List.map_toArray, List.map_cons, List.map_nil]); first | done | rfl | (simp only [List.length_drop, List.length_take]; rfl)) ?_; (with_reducible refine (value_N.calls a0 t116 false _ A2.out).mono ?_); rintro e w' ⟨rfl, ⟨nd, rfl⟩⟩; refine ⟨_, rfl, ?_⟩) | ((with_reducible refine gate_callee (f := 52) rfl ?_); refine goesL_ (some 14) rfl rfl Try.func52 (by kernel_rfl) rfl #[.int .i64 a0] rfl (by (try simp only [List.map_toArray, List.map_cons, List.map_nil]); first | done | rfl | (simp only [List.length_drop, List.length_take]; rfl)) ?_; (with_reducible refine (value_At.calls a0 t118 t119 _ A3.out).mono ?_); rintro e w' ⟨rfl, ⟨nd, rfl⟩⟩; refine ⟨_, rfl, ?_⟩))
  go_ret
  exact ⟨by first | rfl | (simp; done) | (simp [*]; done), by repeat (first | exact Drawn0.refl _ | apply Drawn0.step)⟩
end Go.Proofs.Ytednpcfhefibdaa.PSnap
