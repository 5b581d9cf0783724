import Derived.Test.YtednpcfhefibdaaPSnapx0
import Derived.Test.YtednpcfhefibdaaPSnapx4
import Derived.Test.YtednpcfhefibdaaPSnapx7
import Derived.Test.YtednpcfhefibdaaPSnapx9
namespace Go.Proofs.Ytednpcfhefibdaa.PSnap
open Go.RowKit Go.Proofs.YtednpcfhefibdaaW.PrintWords Go.Proofs.YtednpcfhefibdaaW.PrintLast Go.Proofs.YtednpcfhefibdaaW.PrintMore
attribute [local go_sem] max2_int min2_int max_two min_two max_three min_three max_four min_four
set_option linter.unusedVariables false
set_option linter.unusedSimpArgs false
attribute [local go_sem] setCell_drewN
mutual
def anamnesisref07_More.l0 : Nat → Int → ByteArray → Int → Option (Int)
 | 0, _, _, _ => none
 | k + 1, x0, x1, x5 => if x5 < (x1.size : Int) then (if 0 ≤ x5 then (anamnesisref07_More.l1 k x0 x1 x5 (wrap64 (bt x1 x5)) 0) else (none)) else (some (wrap64 (4294967295 - x0)))
def anamnesisref07_More.l1 : Nat → Int → ByteArray → Int → Int → Int → Option (Int)
 | 0, _, _, _, _, _ => none
 | k + 1, x0, x1, x5, x6, x7 => if x7 < 8 then ((anamnesisref07_bit.f x0 (Int.tmod x6 2)).bind fun t185 => (anamnesisref07_More.l1 k t185 x1 x5 (wrap64 (Int.tdiv x6 2)) (wrap64 (x7 + 1)))) else (anamnesisref07_More.l0 k x0 x1 (wrap64 (x5 + 1)))
end
def anamnesisref07_More.f (k : Nat) (a0 : Int) (a1 : ByteArray) : Option (Int) := (anamnesisref07_May.f a0).bind fun t184 => (if t184 = true then (anamnesisref07_More.l0 k (wrap64 (4294967295 - a0)) a1 0) else (some 0))
theorem anamnesisref07_More.mono_l : ∀ k, (∀ y0 y1 y2, LeO (anamnesisref07_More.l0 k y0 y1 y2) (anamnesisref07_More.l0 (k + 1) y0 y1 y2)) ∧ (∀ y0 y1 y2 y3 y4, LeO (anamnesisref07_More.l1 k y0 y1 y2 y3 y4) (anamnesisref07_More.l1 (k + 1) y0 y1 y2 y3 y4))
 | 0 => ⟨fun _ _ _ r h => by simp [anamnesisref07_More.l0] at h, fun _ _ _ _ _ r h => by simp [anamnesisref07_More.l1] at h⟩
 | k + 1 => by
  obtain ⟨ih0, ih1⟩ := anamnesisref07_More.mono_l k
  refine ⟨?_, ?_⟩
  ·intro y0 y1 y2
   unfold anamnesisref07_More.l0
   repeat' first
   | (with_reducible exact ih0 _ _ _)
   | (with_reducible exact ih1 _ _ _ _ _)
   | (with_reducible exact LeO.refl _)
   | (with_reducible exact LeO.none _)
   | (with_reducible refine LeO.ite ?_ ?_)
   | (with_reducible refine LeO.bind ?_ (fun _ => ?_))
   | exact ih0 _ _ _
   | exact ih1 _ _ _ _ _
   | exact LeO.none _
   | refine LeO.ite ?_ ?_
   | refine LeO.bind ?_ (fun _ => ?_)
  ·intro y0 y1 y2 y3 y4
   unfold anamnesisref07_More.l1
   repeat' first
   | (with_reducible exact ih0 _ _ _)
   | (with_reducible exact ih1 _ _ _ _ _)
   | (with_reducible exact LeO.refl _)
   | (with_reducible exact LeO.none _)
   | (with_reducible refine LeO.ite ?_ ?_)
   | (with_reducible refine LeO.bind ?_ (fun _ => ?_))
   | exact ih0 _ _ _
   | exact ih1 _ _ _ _ _
   | exact LeO.none _
   | refine LeO.ite ?_ ?_
   | refine LeO.bind ?_ (fun _ => ?_)
theorem anamnesisref07_More.mono : ∀ a0 a1 k, LeO (anamnesisref07_More.f k a0 a1) (anamnesisref07_More.f (k + 1) a0 a1) := by
 intro a0 a1 k
 obtain ⟨ih0, ih1⟩ := anamnesisref07_More.mono_l k
 unfold anamnesisref07_More.f
 repeat' first
   | (with_reducible exact ih0 _ _ _)
   | (with_reducible exact ih1 _ _ _ _ _)
   | (with_reducible exact LeO.refl _)
   | (with_reducible exact LeO.none _)
   | (with_reducible refine LeO.ite ?_ ?_)
   | (with_reducible refine LeO.bind ?_ (fun _ => ?_))
   | exact ih0 _ _ _
   | exact ih1 _ _ _ _ _
   | exact LeO.none _
   | refine LeO.ite ?_ ?_
   | refine LeO.bind ?_ (fun _ => ?_)
set_option maxHeartbeats 8000000 in
set_option maxRecDepth 100000 in
theorem anamnesisref07_More.calls (k : Nat) (a0 : Int) (a1 : ByteArray) (r : Int) (w : World) (h : anamnesisref07_More.f k a0 a1 = some r) :
  Calls Try.prog 41 #[.int .i64 a0, .string a1] w fun e w' => e = .returned (.int .i64 r) ∧ Drawn0 w w' := by
 have H : ((anamnesisref07_May.f a0).bind fun t184 => (if t184 = true then (anamnesisref07_More.l0 k (wrap64 (4294967295 - a0)) a1 0) else (some 0))) = some r := h
 clear h
 replace H := Option.bind_eq_some_iff.mp H
 obtain ⟨t184, A30, H⟩ := H
 replace H : (if t184 = true then (anamnesisref07_More.l0 k (wrap64 (4294967295 - a0)) a1 0) else (some 0)) = some r := H
 have A3 := Aside0.mk A30
 clear A30
 by_cases c4 : t184 = true
 ·subst c4
  have H1 : (anamnesisref07_More.l0 k (wrap64 (4294967295 - a0)) a1 0) = some r := by rw [if_pos rfl] at H; exact H
  clear H
  have H := H1
  clear H1
  have H' := Aside0.mk H
  clear H
  go_enter Try.func41, Try.ntmps41
  go_wp2_with (first | ((with_reducible refine gate_callee (f := 40) rfl ?_); refine goesL_ (some 9) rfl rfl Try.func40 (by kernel_rfl) rfl #[.int .i64 a0] rfl (by (try simp only [List.map_toArray, List.map_cons, List.map_nil]); first | done | rfl | (simp only [List.length_drop, List.length_take]; rfl)) ?_; (with_reducible refine (anamnesisref07_May.calls a0 true _ A3.out).mono ?_); rintro e w' ⟨rfl, ⟨nd, rfl⟩⟩; refine ⟨_, rfl, ?_⟩))
  go_loopg [0, 5] k (fun kq v0 v5 w' => ∃ (x0_1 : Int) (x5_1 : Int), v0 = .int .i64 x0_1 ∧ v5 = .int .i64 x5_1 ∧ Aside0 (anamnesisref07_More.l0 kq x0_1 a1 x5_1 = some r) ∧ Aside0 (kq ≤ k) ∧ Drawn0 w w')
  case atStart => exact ⟨(wrap64 (4294967295 - a0)), (0), (by first | rfl | (simp; done) | (simp [*]; done)), (by first | rfl | (simp; done) | (simp [*]; done)), H', ⟨Nat.le_refl _⟩, by repeat (first | exact Drawn0.refl _ | apply Drawn0.step)⟩
  case round =>
   clear H'
   try clear p2
   try clear c4
   obtain ⟨x0_1, x5_1, rfl, rfl, HA, HK1, ⟨m1, rfl⟩⟩ := hrel
   cases gk with
   | zero => exact absurd HA.out (by simp [anamnesisref07_More.l0])
   | succ k1 =>
    have H := HA.out
    clear HA
    simp only [anamnesisref07_More.l0] at H
    by_cases c5 : x5_1 < (a1.size : Int)
    ·rw [if_pos c5] at H
     have c5b0 : decide (x5_1 < (a1.size : Int)) = true := decide_eq_true c5
     clear c5
     by_cases c6 : 0 ≤ x5_1
     ·rw [if_pos c6] at H
      have c6b0 : decide (0 ≤ x5_1) = true := decide_eq_true c6
      clear c6
      have H' := Aside0.mk H
      clear H
      have p7 : 0 ≤ (x5_1 : Int) := of_decide_eq_true (by first | (with_reducible assumption) | assumption)
      have q7 : x5_1 < (a1.size : Int) := of_decide_eq_true (by first | (with_reducible assumption) | assumption)
      have hx7 := bt_at a1 x5_1
      replace p7 := eq_true p7
      replace q7 := eq_true q7
      go_wp2
      go_loopg [0, 6, 7] k1 (fun kq v0 v6 v7 w' => ∃ (x0_2 : Int) (x6_2 : Int) (x7_2 : Int), v0 = .int .i64 x0_2 ∧ v6 = .int .i64 x6_2 ∧ v7 = .int .i64 x7_2 ∧ Aside0 (anamnesisref07_More.l1 kq x0_2 a1 x5_1 x6_2 x7_2 = some r) ∧ Aside0 (kq ≤ k1) ∧ Drawn0 w w')
      case atStart => exact ⟨(x0_1), (wrap64 (bt a1 x5_1)), (0), (by first | rfl | (simp; done) | (simp [*]; done)), (by first | rfl | (simp; done) | (simp [*]; done)), (by first | rfl | (simp; done) | (simp [*]; done)), H', ⟨Nat.le_refl _⟩, by repeat (first | exact Drawn0.refl _ | apply Drawn0.step)⟩
      case round =>
       clear H'
       try clear p2
       try clear c4
       try clear c5
       try clear c5b0
       try clear c6
       try clear c6b0
       try clear p6
       try clear p7
       try clear q7
       try clear hx7
       try clear p2
       try clear p7
       try clear q7
       obtain ⟨x0_2, x6_2, x7_2, rfl, rfl, rfl, HA, HK2, ⟨m2, rfl⟩⟩ := hrel
       cases gk with
       | zero => exact absurd HA.out (by simp [anamnesisref07_More.l1])
       | succ k2 =>
        have H := HA.out
        clear HA
        simp only [anamnesisref07_More.l1] at H
        by_cases c8 : x7_2 < 8
        ·rw [if_pos c8] at H
         have c8b0 : decide (x7_2 < 8) = true := decide_eq_true c8
         clear c8
         replace H := Option.bind_eq_some_iff.mp H
         obtain ⟨t185, A90, H⟩ := H
         replace H : (anamnesisref07_More.l1 k2 t185 a1 x5_1 (wrap64 (Int.tdiv x6_2 2)) (wrap64 (x7_2 + 1))) = some r := H
         have A9 := Aside0.mk A90
         clear A90
         have H' := Aside0.mk H
         clear H
         go_wp2_with (first | ((with_reducible refine gate_callee (f := 59) rfl ?_); refine goesL_ (some 30) rfl rfl Try.func59 (by kernel_rfl) rfl #[.int .i64 x0_2, .int .i64 (Int.tmod x6_2 2)] rfl (by (try simp only [List.map_toArray, List.map_cons, List.map_nil]); first | done | rfl | (simp only [List.length_drop, List.length_take]; rfl)) ?_; (with_reducible refine (anamnesisref07_bit.calls x0_2 (Int.tmod x6_2 2) t185 _ A9.out).mono ?_); rintro e w' ⟨rfl, ⟨nd, rfl⟩⟩; refine ⟨_, rfl, ?_⟩))
         go_roundg k2
         case measure => have := HK1.out; have := HK2.out; omega
         case rel => exact ⟨(t185), (wrap64 (Int.tdiv x6_2 2)), (wrap64 (x7_2 + 1)), (by first | rfl | (simp; done) | (simp [*]; done)), (by first | rfl | (simp; done) | (simp [*]; done)), (by first | rfl | (simp; done) | (simp [*]; done)), H', ⟨by have := HK1.out; have := HK2.out; omega⟩, by repeat (first | exact Drawn0.refl _ | apply Drawn0.step)⟩
        ·rw [if_neg c8] at H
         have c8b0 : decide (x7_2 < 8) = false := decide_eq_false c8
         clear c8
         have H' := Aside0.mk H
         clear H
         go_wp2
         go_roundg k2
         case measure => have := HK1.out; have := HK2.out; omega
         case rel => exact ⟨(x0_2), (wrap64 (x5_1 + 1)), (by first | rfl | (simp; done) | (simp [*]; done)), (by first | rfl | (simp; done) | (simp [*]; done)), H', ⟨by have := HK1.out; have := HK2.out; omega⟩, by repeat (first | exact Drawn0.refl _ | apply Drawn0.step)⟩
     ·rw [if_neg c6] at H
      exact absurd H (by simp)
    ·rw [if_neg c5] at H
     have c5b0 : decide (x5_1 < (a1.size : Int)) = false := decide_eq_false c5
     clear c5
     obtain rfl := Option.some.inj H
     go_wp2
     go_ret
     exact ⟨by first | rfl | (simp; done) | (simp [*]; done), by repeat (first | exact Drawn0.refl _ | apply Drawn0.step)⟩
 ·replace c4 := Bool.eq_false_iff.mpr c4
  subst c4
  have H1 : (some 0) = some r := by rw [if_neg (show ¬ (false = true) by decide)] at H; exact H
  clear H
  have H := H1
  clear H1
  obtain rfl := Option.some.inj H
  go_enter Try.func41, Try.ntmps41
  go_wp2_with (first | ((with_reducible refine gate_callee (f := 40) rfl ?_); refine goesL_ (some 9) rfl rfl Try.func40 (by kernel_rfl) rfl #[.int .i64 a0] rfl (by (try simp only [List.map_toArray, List.map_cons, List.map_nil]); first | done | rfl | (simp only [List.length_drop, List.length_take]; rfl)) ?_; (with_reducible refine (anamnesisref07_May.calls a0 false _ A3.out).mono ?_); rintro e w' ⟨rfl, ⟨nd, rfl⟩⟩; refine ⟨_, rfl, ?_⟩))
  go_ret
  exact ⟨by first | rfl | (simp; done) | (simp [*]; done), by repeat (first | exact Drawn0.refl _ | apply Drawn0.step)⟩
def anamnesisref07_Of.f (k : Nat) (a0 : ByteArray) : Option (Int) := (anamnesisref07_More.f k 0 a0).bind fun t186 => (some t186)
theorem anamnesisref07_Of.mono : ∀ a0 k, LeO (anamnesisref07_Of.f k a0) (anamnesisref07_Of.f (k + 1) a0) := by
 intro a0 k
 unfold anamnesisref07_Of.f
 repeat' first
   | (with_reducible exact anamnesisref07_More.mono _ _ _)
   | (with_reducible exact LeO.refl _)
   | (with_reducible exact LeO.none _)
   | (with_reducible refine LeO.ite ?_ ?_)
   | (with_reducible refine LeO.bind ?_ (fun _ => ?_))
   | exact anamnesisref07_More.mono _ _ _
   | exact LeO.none _
   | refine LeO.ite ?_ ?_
   | refine LeO.bind ?_ (fun _ => ?_)
set_option maxHeartbeats 8000000 in
set_option maxRecDepth 100000 in
theorem anamnesisref07_Of.calls (k : Nat) (a0 : ByteArray) (r : Int) (w : World) (h : anamnesisref07_Of.f k a0 = some r) :
  Calls Try.prog 19 #[.string a0] w fun e w' => e = .returned (.int .i64 r) ∧ Drawn0 w w' := by
 have H : ((anamnesisref07_More.f k 0 a0).bind fun t186 => (some t186)) = some r := h
 clear h
 replace H := Option.bind_eq_some_iff.mp H
 obtain ⟨t186, A20, H⟩ := H
 replace H : (some t186) = some r := H
 have A2 := Aside0.mk A20
 clear A20
 obtain rfl := Option.some.inj H
 go_enter Try.func19, Try.ntmps19
 go_wp2_with (first | ((with_reducible refine gate_callee (f := 41) rfl ?_); refine goesL_ (some 4) rfl rfl Try.func41 (by kernel_rfl) rfl #[.int .i64 0, .string a0] rfl (by (try simp only [List.map_toArray, List.map_cons, List.map_nil]); first | done | rfl | (simp only [List.length_drop, List.length_take]; rfl)) ?_; (with_reducible refine (anamnesisref07_More.calls k 0 a0 t186 _ A2.out).mono ?_); rintro e w' ⟨rfl, ⟨nd, rfl⟩⟩; refine ⟨_, rfl, ?_⟩))
 go_ret
 exact ⟨by first | rfl | (simp; done) | (simp [*]; done), by repeat (first | exact Drawn0.refl _ | apply Drawn0.step)⟩
def anamnesislaw08_fixed.f (k : Nat)  : Option (Bool) := (some (([(⟨0, 0, ([] : List Int), (⟨#[]⟩ : ByteArray), 0, 1⟩ : S41)] : List (S41)) : List (S41))).bind fun y187 => ((snap_Encode.f k y187 3 0 ([] : List Int)).bind fun t191 => ((snap_Decode.f k t191).bind fun bt192 => (if (t191.size : Int) = 39 then (if bt192.2.2.2.2 = 0 then ((anamnesisref03_Same.f k bt192.1 bt192.2.1 bt192.2.2.1 y187 3 0).bind fun t202 => (if t202 = true then (if (bt192.2.2.2.1.length : Int) = 0 then (if 0 ≤ 7 then (if 7 ≤ (t191.size : Int) then (if (t191.extract 0 7).toList = ([65, 78, 49, 3, 0, 0, 0] : List UInt8) then (if 0 ≤ 22 then (if 22 ≤ (t191.size : Int) then ((snap_Decode.f k (t191.extract 0 22)).bind fun bt203 => (if t191.size + 1 ≤ 9223372036854775807 then ((snap_Decode.f k (t191 ++ (⟨#[0]⟩ : ByteArray))).bind fun bt213 => (if 3 ≤ 35 then (if 35 ≤ (t191.size : Int) then (if 3 + (t191.extract 3 35).size ≤ 9223372036854775807 then (if ((⟨#[65, 78, 49]⟩ : ByteArray) ++ (t191.extract 3 35)).size + 1 ≤ 9223372036854775807 then ((anamnesisref07_Of.f k (((⟨#[65, 78, 49]⟩ : ByteArray) ++ (t191.extract 3 35)) ++ (⟨#[0]⟩ : ByteArray))).bind fun t223 => ((anamnesisref07_Bytes.f t223).bind fun t224 => (if (((⟨#[65, 78, 49]⟩ : ByteArray) ++ (t191.extract 3 35)) ++ (⟨#[0]⟩ : ByteArray)).size + t224.size ≤ 9223372036854775807 then ((snap_Decode.f k ((((⟨#[65, 78, 49]⟩ : ByteArray) ++ (t191.extract 3 35)) ++ (⟨#[0]⟩ : ByteArray)) ++ t224)).bind fun bt225 => (if bt203.2.2.2.2 = 80 then (if bt213.2.2.2.2 = 81 then (if bt225.2.2.2.2 = 82 then ((snap_Encode.f k y187 3 0 (([2] : List Int))).bind fun t238 => (if t238.toList = ([] : List UInt8) then ((snap_Encode.f k ([] : List (S41)) 0 0 ([] : List Int)).bind fun t239 => (some (t239.toList == ([] : List UInt8)))) else (none))) else (none)) else (none)) else (none))) else (none)))) else (none)) else (none)) else (none)) else (none))) else (none))) else (none)) else (none)) else (none)) else (none)) else (none)) else (none)) else (none))) else (none)) else (none))))
theorem anamnesislaw08_fixed.mono : ∀ k, LeO (anamnesislaw08_fixed.f k ) (anamnesislaw08_fixed.f (k + 1) ) := by
 intro  k
 unfold anamnesislaw08_fixed.f
 repeat' first
   | (with_reducible exact anamnesisref03_Same.mono _ _ _ _ _ _ _)
   | (with_reducible exact anamnesisref07_Of.mono _ _)
   | (with_reducible exact snap_Decode.mono _ _)
   | (with_reducible exact snap_Encode.mono _ _ _ _ _)
   | (with_reducible exact LeO.refl _)
   | (with_reducible exact LeO.none _)
   | (with_reducible refine LeO.ite ?_ ?_)
   | (with_reducible refine LeO.bind ?_ (fun _ => ?_))
   | exact anamnesisref03_Same.mono _ _ _ _ _ _ _
   | exact anamnesisref07_Of.mono _ _
   | exact snap_Decode.mono _ _
   | exact snap_Encode.mono _ _ _ _ _
   | exact LeO.none _
   | refine LeO.ite ?_ ?_
   | refine LeO.bind ?_ (fun _ => ?_)
set_option maxHeartbeats 8000000 in
set_option maxRecDepth 100000 in
theorem anamnesislaw08_fixed.calls (k : Nat)  (r : Bool) (w : World) (h : anamnesislaw08_fixed.f k  = some r) :
  Calls Try.prog 9 #[] w fun e w' => e = .returned (.bool r) ∧ Below w.heap.size w w' := by
 have hu41 := Try.underlying41
 have hu24 := Try.underlying24
 have HB := Aside0.mk (Below.refl w.heap.size w)
 have H : ((some (([(⟨0, 0, ([] : List Int), (⟨#[]⟩ : ByteArray), 0, 1⟩ : S41)] : List (S41)) : List (S41))).bind fun y187 => ((snap_Encode.f k y187 3 0 ([] : List Int)).bind fun t191 => ((snap_Decode.f k t191).bind fun bt192 => (if (t191.size : Int) = 39 then (if bt192.2.2.2.2 = 0 then ((anamnesisref03_Same.f k bt192.1 bt192.2.1 bt192.2.2.1 y187 3 0).bind fun t202 => (if t202 = true then (if (bt192.2.2.2.1.length : Int) = 0 then (if 0 ≤ 7 then (if 7 ≤ (t191.size : Int) then (if (t191.extract 0 7).toList = ([65, 78, 49, 3, 0, 0, 0] : List UInt8) then (if 0 ≤ 22 then (if 22 ≤ (t191.size : Int) then ((snap_Decode.f k (t191.extract 0 22)).bind fun bt203 => (if t191.size + 1 ≤ 9223372036854775807 then ((snap_Decode.f k (t191 ++ (⟨#[0]⟩ : ByteArray))).bind fun bt213 => (if 3 ≤ 35 then (if 35 ≤ (t191.size : Int) then (if 3 + (t191.extract 3 35).size ≤ 9223372036854775807 then (if ((⟨#[65, 78, 49]⟩ : ByteArray) ++ (t191.extract 3 35)).size + 1 ≤ 9223372036854775807 then ((anamnesisref07_Of.f k (((⟨#[65, 78, 49]⟩ : ByteArray) ++ (t191.extract 3 35)) ++ (⟨#[0]⟩ : ByteArray))).bind fun t223 => ((anamnesisref07_Bytes.f t223).bind fun t224 => (if (((⟨#[65, 78, 49]⟩ : ByteArray) ++ (t191.extract 3 35)) ++ (⟨#[0]⟩ : ByteArray)).size + t224.size ≤ 9223372036854775807 then ((snap_Decode.f k ((((⟨#[65, 78, 49]⟩ : ByteArray) ++ (t191.extract 3 35)) ++ (⟨#[0]⟩ : ByteArray)) ++ t224)).bind fun bt225 => (if bt203.2.2.2.2 = 80 then (if bt213.2.2.2.2 = 81 then (if bt225.2.2.2.2 = 82 then ((snap_Encode.f k y187 3 0 (([2] : List Int))).bind fun t238 => (if t238.toList = ([] : List UInt8) then ((snap_Encode.f k ([] : List (S41)) 0 0 ([] : List Int)).bind fun t239 => (some (t239.toList == ([] : List UInt8)))) else (none))) else (none)) else (none)) else (none))) else (none)))) else (none)) else (none)) else (none)) else (none))) else (none))) else (none)) else (none)) else (none)) else (none)) else (none)) else (none)) else (none))) else (none)) else (none))))) = some r := h
 clear h
 obtain ⟨y187, hy187⟩ : ∃ y_ : List (S41), y_ = (([(⟨0, 0, ([] : List Int), (⟨#[]⟩ : ByteArray), 0, 1⟩ : S41)] : List (S41))) := ⟨_, rfl⟩
 replace H : ((snap_Encode.f k y187 3 0 ([] : List Int)).bind fun t191 => ((snap_Decode.f k t191).bind fun bt192 => (if (t191.size : Int) = 39 then (if bt192.2.2.2.2 = 0 then ((anamnesisref03_Same.f k bt192.1 bt192.2.1 bt192.2.2.1 y187 3 0).bind fun t202 => (if t202 = true then (if (bt192.2.2.2.1.length : Int) = 0 then (if 0 ≤ 7 then (if 7 ≤ (t191.size : Int) then (if (t191.extract 0 7).toList = ([65, 78, 49, 3, 0, 0, 0] : List UInt8) then (if 0 ≤ 22 then (if 22 ≤ (t191.size : Int) then ((snap_Decode.f k (t191.extract 0 22)).bind fun bt203 => (if t191.size + 1 ≤ 9223372036854775807 then ((snap_Decode.f k (t191 ++ (⟨#[0]⟩ : ByteArray))).bind fun bt213 => (if 3 ≤ 35 then (if 35 ≤ (t191.size : Int) then (if 3 + (t191.extract 3 35).size ≤ 9223372036854775807 then (if ((⟨#[65, 78, 49]⟩ : ByteArray) ++ (t191.extract 3 35)).size + 1 ≤ 9223372036854775807 then ((anamnesisref07_Of.f k (((⟨#[65, 78, 49]⟩ : ByteArray) ++ (t191.extract 3 35)) ++ (⟨#[0]⟩ : ByteArray))).bind fun t223 => ((anamnesisref07_Bytes.f t223).bind fun t224 => (if (((⟨#[65, 78, 49]⟩ : ByteArray) ++ (t191.extract 3 35)) ++ (⟨#[0]⟩ : ByteArray)).size + t224.size ≤ 9223372036854775807 then ((snap_Decode.f k ((((⟨#[65, 78, 49]⟩ : ByteArray) ++ (t191.extract 3 35)) ++ (⟨#[0]⟩ : ByteArray)) ++ t224)).bind fun bt225 => (if bt203.2.2.2.2 = 80 then (if bt213.2.2.2.2 = 81 then (if bt225.2.2.2.2 = 82 then ((snap_Encode.f k y187 3 0 (([2] : List Int))).bind fun t238 => (if t238.toList = ([] : List UInt8) then ((snap_Encode.f k ([] : List (S41)) 0 0 ([] : List Int)).bind fun t239 => (some (t239.toList == ([] : List UInt8)))) else (none))) else (none)) else (none)) else (none))) else (none)))) else (none)) else (none)) else (none)) else (none))) else (none))) else (none)) else (none)) else (none)) else (none)) else (none)) else (none)) else (none))) else (none)) else (none)))) = some r := by first | (rw [hy187]; with_reducible exact H) | (have H2_ := (Option.bind_some _ _).symm.trans H; rw [hy187]; with_reducible exact H2_) | (have H2_ := (Option.bind_some _ _).symm.trans H; with_reducible exact H2_) | with_reducible exact H | (rw [hy187]; exact H) | exact H
 have Ny187 := Aside0.mk hy187
 clear hy187
 replace H := Option.bind_eq_some_iff.mp H
 obtain ⟨t191, A10, H⟩ := H
 replace H : ((snap_Decode.f k t191).bind fun bt192 => (if (t191.size : Int) = 39 then (if bt192.2.2.2.2 = 0 then ((anamnesisref03_Same.f k bt192.1 bt192.2.1 bt192.2.2.1 y187 3 0).bind fun t202 => (if t202 = true then (if (bt192.2.2.2.1.length : Int) = 0 then (if 0 ≤ 7 then (if 7 ≤ (t191.size : Int) then (if (t191.extract 0 7).toList = ([65, 78, 49, 3, 0, 0, 0] : List UInt8) then (if 0 ≤ 22 then (if 22 ≤ (t191.size : Int) then ((snap_Decode.f k (t191.extract 0 22)).bind fun bt203 => (if t191.size + 1 ≤ 9223372036854775807 then ((snap_Decode.f k (t191 ++ (⟨#[0]⟩ : ByteArray))).bind fun bt213 => (if 3 ≤ 35 then (if 35 ≤ (t191.size : Int) then (if 3 + (t191.extract 3 35).size ≤ 9223372036854775807 then (if ((⟨#[65, 78, 49]⟩ : ByteArray) ++ (t191.extract 3 35)).size + 1 ≤ 9223372036854775807 then ((anamnesisref07_Of.f k (((⟨#[65, 78, 49]⟩ : ByteArray) ++ (t191.extract 3 35)) ++ (⟨#[0]⟩ : ByteArray))).bind fun t223 => ((anamnesisref07_Bytes.f t223).bind fun t224 => (if (((⟨#[65, 78, 49]⟩ : ByteArray) ++ (t191.extract 3 35)) ++ (⟨#[0]⟩ : ByteArray)).size + t224.size ≤ 9223372036854775807 then ((snap_Decode.f k ((((⟨#[65, 78, 49]⟩ : ByteArray) ++ (t191.extract 3 35)) ++ (⟨#[0]⟩ : ByteArray)) ++ t224)).bind fun bt225 => (if bt203.2.2.2.2 = 80 then (if bt213.2.2.2.2 = 81 then (if bt225.2.2.2.2 = 82 then ((snap_Encode.f k y187 3 0 (([2] : List Int))).bind fun t238 => (if t238.toList = ([] : List UInt8) then ((snap_Encode.f k ([] : List (S41)) 0 0 ([] : List Int)).bind fun t239 => (some (t239.toList == ([] : List UInt8)))) else (none))) else (none)) else (none)) else (none))) else (none)))) else (none)) else (none)) else (none)) else (none))) else (none))) else (none)) else (none)) else (none)) else (none)) else (none)) else (none)) else (none))) else (none)) else (none))) = some r := H
 have A1 := Aside0.mk A10
 clear A10
 replace H := Option.bind_eq_some_iff.mp H
 obtain ⟨⟨t192, t195, t196, t197, t200⟩, A20, H⟩ := H
 replace H : (if (t191.size : Int) = 39 then (if t200 = 0 then ((anamnesisref03_Same.f k t192 t195 t196 y187 3 0).bind fun t202 => (if t202 = true then (if (t197.length : Int) = 0 then (if 0 ≤ 7 then (if 7 ≤ (t191.size : Int) then (if (t191.extract 0 7).toList = ([65, 78, 49, 3, 0, 0, 0] : List UInt8) then (if 0 ≤ 22 then (if 22 ≤ (t191.size : Int) then ((snap_Decode.f k (t191.extract 0 22)).bind fun bt203 => (if t191.size + 1 ≤ 9223372036854775807 then ((snap_Decode.f k (t191 ++ (⟨#[0]⟩ : ByteArray))).bind fun bt213 => (if 3 ≤ 35 then (if 35 ≤ (t191.size : Int) then (if 3 + (t191.extract 3 35).size ≤ 9223372036854775807 then (if ((⟨#[65, 78, 49]⟩ : ByteArray) ++ (t191.extract 3 35)).size + 1 ≤ 9223372036854775807 then ((anamnesisref07_Of.f k (((⟨#[65, 78, 49]⟩ : ByteArray) ++ (t191.extract 3 35)) ++ (⟨#[0]⟩ : ByteArray))).bind fun t223 => ((anamnesisref07_Bytes.f t223).bind fun t224 => (if (((⟨#[65, 78, 49]⟩ : ByteArray) ++ (t191.extract 3 35)) ++ (⟨#[0]⟩ : ByteArray)).size + t224.size ≤ 9223372036854775807 then ((snap_Decode.f k ((((⟨#[65, 78, 49]⟩ : ByteArray) ++ (t191.extract 3 35)) ++ (⟨#[0]⟩ : ByteArray)) ++ t224)).bind fun bt225 => (if bt203.2.2.2.2 = 80 then (if bt213.2.2.2.2 = 81 then (if bt225.2.2.2.2 = 82 then ((snap_Encode.f k y187 3 0 (([2] : List Int))).bind fun t238 => (if t238.toList = ([] : List UInt8) then ((snap_Encode.f k ([] : List (S41)) 0 0 ([] : List Int)).bind fun t239 => (some (t239.toList == ([] : List UInt8)))) else (none))) else (none)) else (none)) else (none))) else (none)))) else (none)) else (none)) else (none)) else (none))) else (none))) else (none)) else (none)) else (none)) else (none)) else (none)) else (none)) else (none))) else (none)) else (none)) = some r := H
 have A2 := Aside0.mk A20
 clear A20
 by_cases c3 : (t191.size : Int) = 39
 ·rw [if_pos c3] at H
  have c3b0 : ((t191.size : Int) == 39) = true := beq_iff_eq.mpr c3
  have c3b1 : ((t191.size : Int) != 39) = false := bne_eq_false_iff_eq.mpr c3
  clear c3
  by_cases c4 : t200 = 0
  ·rw [if_pos c4] at H
   have c4b0 : (t200 == 0) = true := beq_iff_eq.mpr c4
   have c4b1 : (t200 != 0) = false := bne_eq_false_iff_eq.mpr c4
   clear c4
   replace H := Option.bind_eq_some_iff.mp H
   obtain ⟨t202, A50, H⟩ := H
   replace H : (if t202 = true then (if (t197.length : Int) = 0 then (if 0 ≤ 7 then (if 7 ≤ (t191.size : Int) then (if (t191.extract 0 7).toList = ([65, 78, 49, 3, 0, 0, 0] : List UInt8) then (if 0 ≤ 22 then (if 22 ≤ (t191.size : Int) then ((snap_Decode.f k (t191.extract 0 22)).bind fun bt203 => (if t191.size + 1 ≤ 9223372036854775807 then ((snap_Decode.f k (t191 ++ (⟨#[0]⟩ : ByteArray))).bind fun bt213 => (if 3 ≤ 35 then (if 35 ≤ (t191.size : Int) then (if 3 + (t191.extract 3 35).size ≤ 9223372036854775807 then (if ((⟨#[65, 78, 49]⟩ : ByteArray) ++ (t191.extract 3 35)).size + 1 ≤ 9223372036854775807 then ((anamnesisref07_Of.f k (((⟨#[65, 78, 49]⟩ : ByteArray) ++ (t191.extract 3 35)) ++ (⟨#[0]⟩ : ByteArray))).bind fun t223 => ((anamnesisref07_Bytes.f t223).bind fun t224 => (if (((⟨#[65, 78, 49]⟩ : ByteArray) ++ (t191.extract 3 35)) ++ (⟨#[0]⟩ : ByteArray)).size + t224.size ≤ 9223372036854775807 then ((snap_Decode.f k ((((⟨#[65, 78, 49]⟩ : ByteArray) ++ (t191.extract 3 35)) ++ (⟨#[0]⟩ : ByteArray)) ++ t224)).bind fun bt225 => (if bt203.2.2.2.2 = 80 then (if bt213.2.2.2.2 = 81 then (if bt225.2.2.2.2 = 82 then ((snap_Encode.f k y187 3 0 (([2] : List Int))).bind fun t238 => (if t238.toList = ([] : List UInt8) then ((snap_Encode.f k ([] : List (S41)) 0 0 ([] : List Int)).bind fun t239 => (some (t239.toList == ([] : List UInt8)))) else (none))) else (none)) else (none)) else (none))) else (none)))) else (none)) else (none)) else (none)) else (none))) else (none))) else (none)) else (none)) else (none)) else (none)) else (none)) else (none)) else (none)) = some r := H
   have A5 := Aside0.mk A50
   clear A50
   by_cases c6 : t202 = true
   ·subst c6
    have H1 : (if (t197.length : Int) = 0 then (if 0 ≤ 7 then (if 7 ≤ (t191.size : Int) then (if (t191.extract 0 7).toList = ([65, 78, 49, 3, 0, 0, 0] : List UInt8) then (if 0 ≤ 22 then (if 22 ≤ (t191.size : Int) then ((snap_Decode.f k (t191.extract 0 22)).bind fun bt203 => (if t191.size + 1 ≤ 9223372036854775807 then ((snap_Decode.f k (t191 ++ (⟨#[0]⟩ : ByteArray))).bind fun bt213 => (if 3 ≤ 35 then (if 35 ≤ (t191.size : Int) then (if 3 + (t191.extract 3 35).size ≤ 9223372036854775807 then (if ((⟨#[65, 78, 49]⟩ : ByteArray) ++ (t191.extract 3 35)).size + 1 ≤ 9223372036854775807 then ((anamnesisref07_Of.f k (((⟨#[65, 78, 49]⟩ : ByteArray) ++ (t191.extract 3 35)) ++ (⟨#[0]⟩ : ByteArray))).bind fun t223 => ((anamnesisref07_Bytes.f t223).bind fun t224 => (if (((⟨#[65, 78, 49]⟩ : ByteArray) ++ (t191.extract 3 35)) ++ (⟨#[0]⟩ : ByteArray)).size + t224.size ≤ 9223372036854775807 then ((snap_Decode.f k ((((⟨#[65, 78, 49]⟩ : ByteArray) ++ (t191.extract 3 35)) ++ (⟨#[0]⟩ : ByteArray)) ++ t224)).bind fun bt225 => (if bt203.2.2.2.2 = 80 then (if bt213.2.2.2.2 = 81 then (if bt225.2.2.2.2 = 82 then ((snap_Encode.f k y187 3 0 (([2] : List Int))).bind fun t238 => (if t238.toList = ([] : List UInt8) then ((snap_Encode.f k ([] : List (S41)) 0 0 ([] : List Int)).bind fun t239 => (some (t239.toList == ([] : List UInt8)))) else (none))) else (none)) else (none)) else (none))) else (none)))) else (none)) else (none)) else (none)) else (none))) else (none))) else (none)) else (none)) else (none)) else (none)) else (none)) else (none)) = some r := by rw [if_pos rfl] at H; exact H
    clear H
    have H := H1
    clear H1
    by_cases c7 : (t197.length : Int) = 0
    ·rw [if_pos c7] at H
     have c7b0 : ((t197.length : Int) == 0) = true := beq_iff_eq.mpr c7
     have c7b1 : ((t197.length : Int) != 0) = false := bne_eq_false_iff_eq.mpr c7
     clear c7
     by_cases c8 : 0 ≤ 7
     ·rw [if_pos c8] at H
      have c8b0 := eq_true c8
      have c8b1 : decide (0 ≤ 7) = true := decide_eq_true c8
      clear c8
      by_cases c9 : 7 ≤ (t191.size : Int)
      ·rw [if_pos c9] at H
       have c9b0 := eq_true c9
       have c9b1 : decide (7 ≤ (t191.size : Int)) = true := decide_eq_true c9
       clear c9
       by_cases c10 : (t191.extract 0 7).toList = ([65, 78, 49, 3, 0, 0, 0] : List UInt8)
       ·rw [if_pos c10] at H
        have c10b0 : ((t191.extract 0 7).toList == ([65, 78, 49, 3, 0, 0, 0] : List UInt8)) = true := beq_iff_eq.mpr c10
        have c10b1 : ((t191.extract 0 7).toList != ([65, 78, 49, 3, 0, 0, 0] : List UInt8)) = false := bne_eq_false_iff_eq.mpr c10
        clear c10
        by_cases c11 : 0 ≤ 22
        ·rw [if_pos c11] at H
         have c11b0 := eq_true c11
         have c11b1 : decide (0 ≤ 22) = true := decide_eq_true c11
         clear c11
         by_cases c12 : 22 ≤ (t191.size : Int)
         ·rw [if_pos c12] at H
          have c12b0 := eq_true c12
          have c12b1 : decide (22 ≤ (t191.size : Int)) = true := decide_eq_true c12
          clear c12
          replace H := Option.bind_eq_some_iff.mp H
          obtain ⟨⟨t203, t206, t207, t208, t211⟩, A130, H⟩ := H
          replace H : (if t191.size + 1 ≤ 9223372036854775807 then ((snap_Decode.f k (t191 ++ (⟨#[0]⟩ : ByteArray))).bind fun bt213 => (if 3 ≤ 35 then (if 35 ≤ (t191.size : Int) then (if 3 + (t191.extract 3 35).size ≤ 9223372036854775807 then (if ((⟨#[65, 78, 49]⟩ : ByteArray) ++ (t191.extract 3 35)).size + 1 ≤ 9223372036854775807 then ((anamnesisref07_Of.f k (((⟨#[65, 78, 49]⟩ : ByteArray) ++ (t191.extract 3 35)) ++ (⟨#[0]⟩ : ByteArray))).bind fun t223 => ((anamnesisref07_Bytes.f t223).bind fun t224 => (if (((⟨#[65, 78, 49]⟩ : ByteArray) ++ (t191.extract 3 35)) ++ (⟨#[0]⟩ : ByteArray)).size + t224.size ≤ 9223372036854775807 then ((snap_Decode.f k ((((⟨#[65, 78, 49]⟩ : ByteArray) ++ (t191.extract 3 35)) ++ (⟨#[0]⟩ : ByteArray)) ++ t224)).bind fun bt225 => (if t211 = 80 then (if bt213.2.2.2.2 = 81 then (if bt225.2.2.2.2 = 82 then ((snap_Encode.f k y187 3 0 (([2] : List Int))).bind fun t238 => (if t238.toList = ([] : List UInt8) then ((snap_Encode.f k ([] : List (S41)) 0 0 ([] : List Int)).bind fun t239 => (some (t239.toList == ([] : List UInt8)))) else (none))) else (none)) else (none)) else (none))) else (none)))) else (none)) else (none)) else (none)) else (none))) else (none)) = some r := H
          have A13 := Aside0.mk A130
          clear A130
          by_cases c14 : t191.size + 1 ≤ 9223372036854775807
          ·rw [if_pos c14] at H
           have c14b0 := eq_true c14
           have c14b1 : decide (t191.size + 1 ≤ 9223372036854775807) = true := decide_eq_true c14
           try have c14b2 : (9223372036854775807 < t191.size + 1) = False := eq_false (Nat.not_lt.2 c14)
           replace H := Option.bind_eq_some_iff.mp H
           obtain ⟨⟨t213, t216, t217, t218, t221⟩, A150, H⟩ := H
           replace H : (if 3 ≤ 35 then (if 35 ≤ (t191.size : Int) then (if 3 + (t191.extract 3 35).size ≤ 9223372036854775807 then (if ((⟨#[65, 78, 49]⟩ : ByteArray) ++ (t191.extract 3 35)).size + 1 ≤ 9223372036854775807 then ((anamnesisref07_Of.f k (((⟨#[65, 78, 49]⟩ : ByteArray) ++ (t191.extract 3 35)) ++ (⟨#[0]⟩ : ByteArray))).bind fun t223 => ((anamnesisref07_Bytes.f t223).bind fun t224 => (if (((⟨#[65, 78, 49]⟩ : ByteArray) ++ (t191.extract 3 35)) ++ (⟨#[0]⟩ : ByteArray)).size + t224.size ≤ 9223372036854775807 then ((snap_Decode.f k ((((⟨#[65, 78, 49]⟩ : ByteArray) ++ (t191.extract 3 35)) ++ (⟨#[0]⟩ : ByteArray)) ++ t224)).bind fun bt225 => (if t211 = 80 then (if t221 = 81 then (if bt225.2.2.2.2 = 82 then ((snap_Encode.f k y187 3 0 (([2] : List Int))).bind fun t238 => (if t238.toList = ([] : List UInt8) then ((snap_Encode.f k ([] : List (S41)) 0 0 ([] : List Int)).bind fun t239 => (some (t239.toList == ([] : List UInt8)))) else (none))) else (none)) else (none)) else (none))) else (none)))) else (none)) else (none)) else (none)) else (none)) = some r := H
           have A15 := Aside0.mk A150
           clear A150
           by_cases c16 : 3 ≤ 35
           ·rw [if_pos c16] at H
            have c16b0 := eq_true c16
            have c16b1 : decide (3 ≤ 35) = true := decide_eq_true c16
            clear c16
            by_cases c17 : 35 ≤ (t191.size : Int)
            ·rw [if_pos c17] at H
             have c17b0 := eq_true c17
             have c17b1 : decide (35 ≤ (t191.size : Int)) = true := decide_eq_true c17
             clear c17
             by_cases c18 : 3 + (t191.extract 3 35).size ≤ 9223372036854775807
             ·rw [if_pos c18] at H
              have c18b0 := eq_true c18
              have c18b1 : decide (3 + (t191.extract 3 35).size ≤ 9223372036854775807) = true := decide_eq_true c18
              try have c18b2 : (9223372036854775807 < 3 + (t191.extract 3 35).size) = False := eq_false (Nat.not_lt.2 c18)
              try (have c18n := c18; simp at c18n; have c18m := eq_false (Nat.not_lt.2 c18n))
              try (have c18p := c18; simp [c17b0, c16b0, c14b0, c12b0, c11b0, c10b0, c9b0, c8b0, c7b0, c4b0, c3b0] at c18p; have c18q := eq_false (Nat.not_lt.2 c18p))
              by_cases c19 : ((⟨#[65, 78, 49]⟩ : ByteArray) ++ (t191.extract 3 35)).size + 1 ≤ 9223372036854775807
              ·rw [if_pos c19] at H
               have c19b0 := eq_true c19
               have c19b1 : decide (((⟨#[65, 78, 49]⟩ : ByteArray) ++ (t191.extract 3 35)).size + 1 ≤ 9223372036854775807) = true := decide_eq_true c19
               try have c19b2 : (9223372036854775807 < ((⟨#[65, 78, 49]⟩ : ByteArray) ++ (t191.extract 3 35)).size + 1) = False := eq_false (Nat.not_lt.2 c19)
               try (have c19n := c19; simp at c19n; (try simp only [show (⟨#[65, 78, 49]⟩ : ByteArray).size = 3 from rfl] at c19n); have c19m := eq_false (Nat.not_lt.2 c19n))
               try (have c19p := c19; simp [c18b0, c17b0, c16b0, c14b0, c12b0, c11b0, c10b0, c9b0, c8b0, c7b0, c4b0, c3b0] at c19p; (try simp only [show (⟨#[65, 78, 49]⟩ : ByteArray).size = 3 from rfl] at c19p); have c19q := eq_false (Nat.not_lt.2 c19p))
               replace H := Option.bind_eq_some_iff.mp H
               obtain ⟨t223, A200, H⟩ := H
               replace H : ((anamnesisref07_Bytes.f t223).bind fun t224 => (if (((⟨#[65, 78, 49]⟩ : ByteArray) ++ (t191.extract 3 35)) ++ (⟨#[0]⟩ : ByteArray)).size + t224.size ≤ 9223372036854775807 then ((snap_Decode.f k ((((⟨#[65, 78, 49]⟩ : ByteArray) ++ (t191.extract 3 35)) ++ (⟨#[0]⟩ : ByteArray)) ++ t224)).bind fun bt225 => (if t211 = 80 then (if t221 = 81 then (if bt225.2.2.2.2 = 82 then ((snap_Encode.f k y187 3 0 (([2] : List Int))).bind fun t238 => (if t238.toList = ([] : List UInt8) then ((snap_Encode.f k ([] : List (S41)) 0 0 ([] : List Int)).bind fun t239 => (some (t239.toList == ([] : List UInt8)))) else (none))) else (none)) else (none)) else (none))) else (none))) = some r := H
               have A20 := Aside0.mk A200
               clear A200
               replace H := Option.bind_eq_some_iff.mp H
               obtain ⟨t224, A210, H⟩ := H
               replace H : (if (((⟨#[65, 78, 49]⟩ : ByteArray) ++ (t191.extract 3 35)) ++ (⟨#[0]⟩ : ByteArray)).size + t224.size ≤ 9223372036854775807 then ((snap_Decode.f k ((((⟨#[65, 78, 49]⟩ : ByteArray) ++ (t191.extract 3 35)) ++ (⟨#[0]⟩ : ByteArray)) ++ t224)).bind fun bt225 => (if t211 = 80 then (if t221 = 81 then (if bt225.2.2.2.2 = 82 then ((snap_Encode.f k y187 3 0 (([2] : List Int))).bind fun t238 => (if t238.toList = ([] : List UInt8) then ((snap_Encode.f k ([] : List (S41)) 0 0 ([] : List Int)).bind fun t239 => (some (t239.toList == ([] : List UInt8)))) else (none))) else (none)) else (none)) else (none))) else (none)) = some r := H
               have A21 := Aside0.mk A210
               clear A210
               by_cases c22 : (((⟨#[65, 78, 49]⟩ : ByteArray) ++ (t191.extract 3 35)) ++ (⟨#[0]⟩ : ByteArray)).size + t224.size ≤ 9223372036854775807
               ·rw [if_pos c22] at H
                have c22b0 := eq_true c22
                have c22b1 : decide ((((⟨#[65, 78, 49]⟩ : ByteArray) ++ (t191.extract 3 35)) ++ (⟨#[0]⟩ : ByteArray)).size + t224.size ≤ 9223372036854775807) = true := decide_eq_true c22
                try have c22b2 : (9223372036854775807 < (((⟨#[65, 78, 49]⟩ : ByteArray) ++ (t191.extract 3 35)) ++ (⟨#[0]⟩ : ByteArray)).size + t224.size) = False := eq_false (Nat.not_lt.2 c22)
                try (have c22n := c22; simp at c22n; (try simp only [show (⟨#[0]⟩ : ByteArray).size = 1 from rfl, show (⟨#[65, 78, 49]⟩ : ByteArray).size = 3 from rfl] at c22n); have c22m := eq_false (Nat.not_lt.2 c22n))
                try (have c22p := c22; simp [c19b0, c18b0, c17b0, c16b0, c14b0, c12b0, c11b0, c10b0, c9b0, c8b0, c7b0, c4b0, c3b0] at c22p; (try simp only [show (⟨#[0]⟩ : ByteArray).size = 1 from rfl, show (⟨#[65, 78, 49]⟩ : ByteArray).size = 3 from rfl] at c22p); have c22q := eq_false (Nat.not_lt.2 c22p))
                replace H := Option.bind_eq_some_iff.mp H
                obtain ⟨⟨t225, t228, t229, t230, t233⟩, A230, H⟩ := H
                replace H : (if t211 = 80 then (if t221 = 81 then (if t233 = 82 then ((snap_Encode.f k y187 3 0 (([2] : List Int))).bind fun t238 => (if t238.toList = ([] : List UInt8) then ((snap_Encode.f k ([] : List (S41)) 0 0 ([] : List Int)).bind fun t239 => (some (t239.toList == ([] : List UInt8)))) else (none))) else (none)) else (none)) else (none)) = some r := H
                have A23 := Aside0.mk A230
                clear A230
                by_cases c24 : t211 = 80
                ·rw [if_pos c24] at H
                 have c24b0 : (t211 == 80) = true := beq_iff_eq.mpr c24
                 have c24b1 : (t211 != 80) = false := bne_eq_false_iff_eq.mpr c24
                 clear c24
                 by_cases c25 : t221 = 81
                 ·rw [if_pos c25] at H
                  have c25b0 : (t221 == 81) = true := beq_iff_eq.mpr c25
                  have c25b1 : (t221 != 81) = false := bne_eq_false_iff_eq.mpr c25
                  clear c25
                  by_cases c26 : t233 = 82
                  ·rw [if_pos c26] at H
                   have c26b0 : (t233 == 82) = true := beq_iff_eq.mpr c26
                   have c26b1 : (t233 != 82) = false := bne_eq_false_iff_eq.mpr c26
                   clear c26
                   obtain ⟨y235, hy235⟩ : ∃ y_ : List Int, y_ = (([2] : List Int)) := ⟨_, rfl⟩
                   replace H : ((snap_Encode.f k y187 3 0 y235).bind fun t238 => (if t238.toList = ([] : List UInt8) then ((snap_Encode.f k ([] : List (S41)) 0 0 ([] : List Int)).bind fun t239 => (some (t239.toList == ([] : List UInt8)))) else (none))) = some r := by first | (rw [hy235]; with_reducible exact H) | (have H2_ := (Option.bind_some _ _).symm.trans H; rw [hy235]; with_reducible exact H2_) | (have H2_ := (Option.bind_some _ _).symm.trans H; with_reducible exact H2_) | with_reducible exact H | (rw [hy235]; exact H) | exact H
                   have Ny235 := Aside0.mk hy235
                   clear hy235
                   replace H := Option.bind_eq_some_iff.mp H
                   obtain ⟨t238, A270, H⟩ := H
                   replace H : (if t238.toList = ([] : List UInt8) then ((snap_Encode.f k ([] : List (S41)) 0 0 ([] : List Int)).bind fun t239 => (some (t239.toList == ([] : List UInt8)))) else (none)) = some r := H
                   have A27 := Aside0.mk A270
                   clear A270
                   by_cases c28 : t238.toList = ([] : List UInt8)
                   ·rw [if_pos c28] at H
                    have c28b0 : (t238.toList == ([] : List UInt8)) = true := beq_iff_eq.mpr c28
                    have c28b1 : (t238.toList != ([] : List UInt8)) = false := bne_eq_false_iff_eq.mpr c28
                    clear c28
                    replace H := Option.bind_eq_some_iff.mp H
                    obtain ⟨t239, A290, H⟩ := H
                    replace H : (some (t239.toList == ([] : List UInt8))) = some r := H
                    have A29 := Aside0.mk A290
                    clear A290
                    obtain rfl := Option.some.inj H
                    go_enter Try.func9, Try.ntmps9
                    go_wp2_with (first | ((with_reducible refine gate_dst (N := 17) rfl ?_); (try (refine gate_guard (by rfl) ?_; dsimp only)); refine Kd.S_lit k41 _ 41 ?hg (N := 17) ?hd (xs := ([(⟨0, 0, ([] : List Int), (⟨#[]⟩ : ByteArray), 0, 1⟩ : S41)] : List (S41))) (inner := [.int .i64 0, .int .i64 0, .slice none 0 0, .string (⟨#[]⟩ : ByteArray), .int .i64 0, .int .i64 1]) (ok := fun _ => True) (okp := fun _ => True) ?hr ?hp (fun _ hk => hk) trivial (Below.refl _ _) (Nat.le_refl _) (by simp) ?_; (case hd => rfl); (case hg => rfl); (case hr => first | (go_simp; done) | (go_simp; rfl)); (case hp => exact (Reps.c6 (show Kd.M k41 _ _ _ (⟨0, 0, ([] : List Int), (⟨#[]⟩ : ByteArray), 0, 1⟩ : S41) [.int .i64 0, .int .i64 0, .slice none 0 0, .string (⟨#[]⟩ : ByteArray), .int .i64 0, .int .i64 1] from (k41_mkM _ _ _ (⟨0, 0, ([] : List Int), (⟨#[]⟩ : ByteArray), 0, 1⟩ : S41) (Kd.R_nil _ _ _ _ _))) (Reps.none _ _))); intro v188 w30 ho31 hb hg_ hnew_; clear hg_ hnew_; (first | rw [← Ny187.out] at ho31 | (simp only [Int.reduceToNat] at ho31; rw [← Ny187.out] at ho31)); have n0_ := Aside0.mk (Kd.S_lower ho31 (below_size (by repeat (first | (with_reducible first | exact HB.out | apply below_alloc | apply pw_below_drewN | apply below_drew1) | exact HB.out)))); have n1_ := Aside0.mk (below_step (by repeat (first | (with_reducible first | exact HB.out | apply below_alloc | apply pw_below_drewN | apply below_drew1) | exact HB.out)) hb); clear HB; have HO189 := n0_; have HB := n1_; clear n0_ n1_; clear hb ho31; obtain ⟨Ao32, co32, eo32⟩ := Kd.S_slice HO189.out; subst eo32) | ((with_reducible refine gate_dst (N := 1) rfl ?_); (try (refine gate_guard (by rfl) ?_; dsimp only)); refine box_event ?hg (N := 1) ?hd (cs := #[.slice none 0 0, .int .i64 0, .int .i64 0]) (t := 24) ?hr ?_; (case hd => rfl); (case hg => rfl); (case hr => first | (go_simp; done) | (go_simp; rfl)); intro gb190 hg w33 hbox hb; have n0_ := Aside0.mk (Kd.S_below (by (with_reducible repeat (first | apply Kd.S_alloc | apply Kd.S_drewN | apply Kd.S_drew)); exact HO189.out) hb); have n1_ := Aside0.mk (below_step (by repeat (first | (with_reducible first | exact HB.out | apply below_alloc | apply pw_below_drewN | apply below_drew1) | exact HB.out)) hb); have n2_ := Aside0.mk (hbox); have n3_ := Aside0.mk ((by rw [hg]; exact (below_size (by repeat (first | (with_reducible first | exact HB.out | apply below_alloc | apply pw_below_drewN | apply below_drew1) | exact HB.out))) : w.heap.size ≤ gb190)); have n4_ := Aside0.mk ((by rw [hg]; exact (below_size (by repeat (first | (with_reducible first | exact HB.out | apply below_alloc | apply pw_below_drewN | apply below_drew1) | exact HB.out))) : w.heap.size ≤ gb190)); clear HO189; clear HB; have HO189 := n0_; have HB := n1_; have BK190 := n2_; have GW190 := n3_; have GE190 := n4_; clear n0_ n1_ n2_ n3_ n4_; clear hb hbox hg; have hcz34_0 : w33.cell? ⟨gb190, 0, none⟩ = some (.slice none 0 0) := (blk_cell BK190.out 0).trans rfl; have hcz34_1 : w33.cell? ⟨gb190, 1, none⟩ = some (.int .i64 0) := (blk_cell BK190.out 1).trans rfl; have hcz34_2 : w33.cell? ⟨gb190, 2, none⟩ = some (.int .i64 0) := (blk_cell BK190.out 2).trans rfl; have hfz34_0 := blk_frozen BK190.out 0; have hfz34_1 := blk_frozen BK190.out 1; have hfz34_2 := blk_frozen BK190.out 2) | ((with_reducible refine gate_callee (f := 12) rfl ?_); refine goesL_ (some 20) rfl rfl Try.func12 (by kernel_rfl) rfl #[.agg #[.slice Ao32 y187.length co32, .int .i64 3, .int .i64 0], .slice none 0 0] rfl (by (try simp only [List.map_toArray, List.map_cons, List.map_nil]); first | done | rfl | (simp only [List.length_drop, List.length_take]; rfl)) ?_; (refine (snap_Encode.calls k _ _ y187 3 0 _ _ ([] : List Int) t191 _ ?side1 ?side2 ?side3 ?side4 A1.out).mono ?_); (case side1 => refine (Kd.S_reads' (e := 41) (base := w.heap.size) (ok := fun k_ => True) (n := y187.length) (c := co32) ?_).2.2; exact (by (with_reducible repeat (first | apply Kd.S_alloc | apply Kd.S_drewN | apply Kd.S_drew)); exact (Kd.S_mono (Kd.S_far (p := ⟨gb190, 2, none⟩) (Kd.S_far (p := ⟨gb190, 1, none⟩) (Kd.S_far (p := ⟨gb190, 0, none⟩) (Kd.S_types HO189.out BK190.out (by decide)) (fun _ hk => hk.2) (.slice Ao32 y187.length co32)) (fun _ hk => hk.2) (.int .i64 3)) (fun _ hk => hk.2) (.int .i64 0)) (fun _ h_ => h_.1)))); (case side2 => exact (Kd.S_reads' HO189.out).2.1); (case side3 => exact Kd.C_nil _ _); (case side4 => exact Nat.le_refl _); rintro e w35 ⟨rfl, hb⟩; refine ⟨_, rfl, ?_⟩; have n0_ := Aside0.mk (Kd.S_below (by (with_reducible repeat (first | apply Kd.S_alloc | apply Kd.S_drewN | apply Kd.S_drew)); exact (Kd.S_mono (Kd.S_far (p := ⟨gb190, 2, none⟩) (Kd.S_far (p := ⟨gb190, 1, none⟩) (Kd.S_far (p := ⟨gb190, 0, none⟩) (Kd.S_types HO189.out BK190.out (by decide)) (fun _ hk => hk.2) (.slice Ao32 y187.length co32)) (fun _ hk => hk.2) (.int .i64 3)) (fun _ hk => hk.2) (.int .i64 0)) (fun _ h_ => h_.1))) hb); have n1_ := Aside0.mk (blk_below (g := gb190) (o := .cells #[.slice Ao32 y187.length co32, .int .i64 3, .int .i64 0] 24 (0, 0)) (by (with_reducible repeat (first | refine blk_drewN ?_ _ | refine blk_drew ?_ | refine blk_alloc ?_ _)); refine blk_put (cs := #[.slice Ao32 y187.length co32, .int .i64 3, .int .i64 0]) ?_ 2 _ rfl; (with_reducible repeat (first | refine blk_drewN ?_ _ | refine blk_drew ?_ | refine blk_alloc ?_ _)); refine blk_put (cs := #[.slice Ao32 y187.length co32, .int .i64 0, .int .i64 0]) ?_ 1 _ rfl; (with_reducible repeat (first | refine blk_drewN ?_ _ | refine blk_drew ?_ | refine blk_alloc ?_ _)); refine blk_put (cs := #[.slice none 0 0, .int .i64 0, .int .i64 0]) ?_ 0 _ rfl; (with_reducible repeat (first | refine blk_drewN ?_ _ | refine blk_drew ?_ | refine blk_alloc ?_ _)); exact BK190.out) hb); have n2_ := Aside0.mk (below_step (by repeat (first | (with_reducible first | exact HB.out | apply below_alloc | apply pw_below_drewN | apply below_drew1 | refine below_set ?_ GE190.out) | exact HB.out)) hb); clear HO189; clear BK190; clear HB; have HO189 := n0_; have BK190 := n1_; have HB := n2_; clear n0_ n1_ n2_; (try clear hb); (try clear hb2); (try clear hk); (try clear hi)) | ((with_reducible refine gate_callee (f := 10) rfl ?_); refine goesL_ (some 23) rfl rfl Try.func10 (by kernel_rfl) rfl #[.string t191] rfl (by (try simp only [List.map_toArray, List.map_cons, List.map_nil]); first | done | rfl | (simp only [List.length_drop, List.length_take]; rfl)) ?_; (with_reducible refine (snap_Decode.calls k t191 t192 t195 t196 t197 t200 _ A2.out).mono ?_); rintro e w36 ⟨v193, v198, rfl, ho0, ho1, hb⟩; refine ⟨_, rfl, ?_⟩; have n0_ := Aside0.mk (Kd.S_mono (Kd.S_told (Kd.S_told (Kd.S_old (by (with_reducible repeat (first | apply Kd.S_alloc | apply Kd.S_drewN | apply Kd.S_drew)); exact HO189.out) hb) (Kd.S_base ho0)) (Kd.R_base ho1)) (fun _ h_ => h_.1)); have n1_ := Aside0.mk (Kd.S_lower (Kd.S_new' ho0 (Kd.S_lt (by (with_reducible repeat (first | apply Kd.S_alloc | apply Kd.S_drewN | apply Kd.S_drew)); exact HO189.out))) (below_size (by repeat (first | (with_reducible first | exact HB.out | apply below_alloc | apply pw_below_drewN | apply below_drew1 | refine below_set ?_ GE190.out) | exact HB.out)))); have n2_ := Aside0.mk (Kd.R_lower ho1 (below_size (by repeat (first | (with_reducible first | exact HB.out | apply below_alloc | apply pw_below_drewN | apply below_drew1 | refine below_set ?_ GE190.out) | exact HB.out)))); have n3_ := Aside0.mk (blk_below (g := gb190) (o := .cells #[.slice Ao32 y187.length co32, .int .i64 3, .int .i64 0] 24 (0, 0)) (by (with_reducible repeat (first | refine blk_drewN ?_ _ | refine blk_drew ?_ | refine blk_alloc ?_ _)); exact BK190.out) hb); have n4_ := Aside0.mk (below_step (by repeat (first | (with_reducible first | exact HB.out | apply below_alloc | apply pw_below_drewN | apply below_drew1 | refine below_set ?_ GE190.out) | exact HB.out)) hb); clear HO189; clear BK190; clear HB; have HO189 := n0_; have HO194 := n1_; have HO199 := n2_; have BK190 := n3_; have HB := n4_; clear n0_ n1_ n2_ n3_ n4_; (try clear hb); (try clear hb2); (try clear hk); (try clear hi); (try clear ho0); (try clear ho1)) | ((with_reducible refine gate_dst (N := 3) rfl ?_); (try (refine gate_guard (by rfl) ?_; dsimp only)); refine box_event ?hg (N := 3) ?hd (cs := #[.slice none 0 0, .int .i64 0, .int .i64 0]) (t := 24) ?hr ?_; (case hd => rfl); (case hg => rfl); (case hr => first | (go_simp; done) | (go_simp; rfl)); intro gb201 hg w37 hbox hb; have n0_ := Aside0.mk (Kd.S_below (by (with_reducible repeat (first | apply Kd.S_alloc | apply Kd.S_drewN | apply Kd.S_drew)); exact HO189.out) hb); have n1_ := Aside0.mk (Kd.S_below (by (with_reducible repeat (first | apply Kd.S_alloc | apply Kd.S_drewN | apply Kd.S_drew)); exact HO194.out) hb); have n2_ := Aside0.mk (Kd.R_below (by (with_reducible repeat (first | apply Kd.R_alloc | apply Kd.R_drewN | apply Kd.R_drew)); exact HO199.out) hb); have n3_ := Aside0.mk (blk_below (g := gb190) (o := .cells #[.slice Ao32 y187.length co32, .int .i64 3, .int .i64 0] 24 (0, 0)) (by (with_reducible repeat (first | refine blk_drewN ?_ _ | refine blk_drew ?_ | refine blk_alloc ?_ _)); exact BK190.out) hb); have n4_ := Aside0.mk (below_step (by repeat (first | (with_reducible first | exact HB.out | apply below_alloc | apply pw_below_drewN | apply below_drew1 | refine below_set ?_ GE190.out) | exact HB.out)) hb); have n5_ := Aside0.mk (hbox); have n6_ := Aside0.mk ((by rw [hg]; exact (below_size (by repeat (first | (with_reducible first | exact HB.out | apply below_alloc | apply pw_below_drewN | apply below_drew1 | refine below_set ?_ GE190.out) | exact HB.out))) : w.heap.size ≤ gb201)); have n7_ := Aside0.mk ((by rw [hg]; exact (below_size (by repeat (first | (with_reducible first | exact HB.out | apply below_alloc | apply pw_below_drewN | apply below_drew1 | refine below_set ?_ GE190.out) | exact HB.out))) : w.heap.size ≤ gb201)); have n8_ := Aside0.mk ((by rw [hg]; exact Nat.ne_of_lt (blk_lt (g := gb190) (o := .cells #[.slice Ao32 y187.length co32, .int .i64 3, .int .i64 0] 24 (0, 0)) (by (with_reducible repeat (first | refine blk_drewN ?_ _ | refine blk_drew ?_ | refine blk_alloc ?_ _)); exact BK190.out)) : gb190 ≠ gb201)); have n9_ := Aside0.mk ((by rw [hg]; exact Nat.ne_of_gt (blk_lt (g := gb190) (o := .cells #[.slice Ao32 y187.length co32, .int .i64 3, .int .i64 0] 24 (0, 0)) (by (with_reducible repeat (first | refine blk_drewN ?_ _ | refine blk_drew ?_ | refine blk_alloc ?_ _)); exact BK190.out)) : gb201 ≠ gb190)); clear HO189; clear HO194; clear HO199; clear BK190; clear HB; have HO189 := n0_; have HO194 := n1_; have HO199 := n2_; have BK190 := n3_; have HB := n4_; have BK201 := n5_; have GW201 := n6_; have GE201 := n7_; have NB190_201 := n8_; have NB201_190 := n9_; clear n0_ n1_ n2_ n3_ n4_ n5_ n6_ n7_ n8_ n9_; clear hb hbox hg; obtain ⟨Ao38, co38, eo38⟩ := Kd.S_slice HO194.out; subst eo38; have hnb39 := NB201_190.out; have hnc39 := NB190_201.out; have hcz40_0 : w37.cell? ⟨gb201, 0, none⟩ = some (.slice none 0 0) := (blk_cell BK201.out 0).trans rfl; have hcz40_1 : w37.cell? ⟨gb201, 1, none⟩ = some (.int .i64 0) := (blk_cell BK201.out 1).trans rfl; have hcz40_2 : w37.cell? ⟨gb201, 2, none⟩ = some (.int .i64 0) := (blk_cell BK201.out 2).trans rfl; have hfz40_0 := blk_frozen BK201.out 0; have hfz40_1 := blk_frozen BK201.out 1; have hfz40_2 := blk_frozen BK201.out 2; have hcz41_0 : w37.cell? ⟨gb190, 0, none⟩ = some (.slice Ao32 y187.length co32) := (blk_cell BK190.out 0).trans rfl; have hcz41_1 : w37.cell? ⟨gb190, 1, none⟩ = some (.int .i64 3) := (blk_cell BK190.out 1).trans rfl; have hcz41_2 : w37.cell? ⟨gb190, 2, none⟩ = some (.int .i64 0) := (blk_cell BK190.out 2).trans rfl; have hfz41_0 := blk_frozen BK190.out 0; have hfz41_1 := blk_frozen BK190.out 1; have hfz41_2 := blk_frozen BK190.out 2) | (go_at_call 14; (with_reducible refine (anamnesisref03_Same.calls k _ _ t192 t195 t196 _ _ y187 3 0 true _ ?side1 ?side2 ?side3 ?side4 A5.out).mono ?_); (case side1 => refine (Kd.S_reads' (e := 41) (base := w.heap.size) (ok := fun k_ => (some k_ ≠ (v198 : Value).ownBlock ∧ some k_ ≠ (.slice Ao32 y187.length co32 : Value).ownBlock)) (n := t192.length) (c := co38) ?_).2.2; exact (by (with_reducible repeat (first | apply Kd.S_alloc | apply Kd.S_drewN | apply Kd.S_drew)); exact (Kd.S_mono (Kd.S_far (p := ⟨gb201, 2, none⟩) (Kd.S_far (p := ⟨gb201, 1, none⟩) (Kd.S_far (p := ⟨gb201, 0, none⟩) (Kd.S_types HO194.out BK201.out (by decide)) (fun _ hk => hk.2) (.slice Ao38 t192.length co38)) (fun _ hk => hk.2) (.int .i64 t195)) (fun _ hk => hk.2) (.int .i64 t196)) (fun _ h_ => h_.1)))); (case side2 => exact (Kd.S_reads' HO194.out).2.1); (case side3 => refine (Kd.S_reads' (e := 41) (base := w.heap.size) (ok := fun k_ => ((True ∧ some k_ ≠ (.slice Ao38 t192.length co38 : Value).ownBlock) ∧ some k_ ≠ (v198 : Value).ownBlock)) (n := y187.length) (c := co32) ?_).2.2; exact (by (with_reducible repeat (first | apply Kd.S_alloc | apply Kd.S_drewN | apply Kd.S_drew)); exact (Kd.S_mono (Kd.S_far (p := ⟨gb201, 2, none⟩) (Kd.S_far (p := ⟨gb201, 1, none⟩) (Kd.S_far (p := ⟨gb201, 0, none⟩) (Kd.S_types HO189.out BK201.out (by decide)) (fun _ hk => hk.2) (.slice Ao38 t192.length co38)) (fun _ hk => hk.2) (.int .i64 t195)) (fun _ hk => hk.2) (.int .i64 t196)) (fun _ h_ => h_.1)))); (case side4 => exact (Kd.S_reads' HO189.out).2.1); rintro e w42 ⟨rfl, hb⟩; have n0_ := Aside0.mk (Kd.S_below (by (with_reducible repeat (first | apply Kd.S_alloc | apply Kd.S_drewN | apply Kd.S_drew)); exact (Kd.S_mono (Kd.S_far (p := ⟨gb201, 2, none⟩) (Kd.S_far (p := ⟨gb201, 1, none⟩) (Kd.S_far (p := ⟨gb201, 0, none⟩) (Kd.S_types HO189.out BK201.out (by decide)) (fun _ hk => hk.2) (.slice Ao38 t192.length co38)) (fun _ hk => hk.2) (.int .i64 t195)) (fun _ hk => hk.2) (.int .i64 t196)) (fun _ h_ => h_.1))) hb); have n1_ := Aside0.mk (Kd.S_below (by (with_reducible repeat (first | apply Kd.S_alloc | apply Kd.S_drewN | apply Kd.S_drew)); exact (Kd.S_mono (Kd.S_far (p := ⟨gb201, 2, none⟩) (Kd.S_far (p := ⟨gb201, 1, none⟩) (Kd.S_far (p := ⟨gb201, 0, none⟩) (Kd.S_types HO194.out BK201.out (by decide)) (fun _ hk => hk.2) (.slice Ao38 t192.length co38)) (fun _ hk => hk.2) (.int .i64 t195)) (fun _ hk => hk.2) (.int .i64 t196)) (fun _ h_ => h_.1))) hb); have n2_ := Aside0.mk (Kd.R_below (by (with_reducible repeat (first | apply Kd.R_alloc | apply Kd.R_drewN | apply Kd.R_drew)); exact (Kd.R_mono (Kd.R_far (p := ⟨gb201, 2, none⟩) (Kd.R_far (p := ⟨gb201, 1, none⟩) (Kd.R_far (p := ⟨gb201, 0, none⟩) (Kd.R_types HO199.out BK201.out (by decide)) (fun _ hk => hk.2) (.slice Ao38 t192.length co38)) (fun _ hk => hk.2) (.int .i64 t195)) (fun _ hk => hk.2) (.int .i64 t196)) (fun _ h_ => h_.1))) hb); have n3_ := Aside0.mk (blk_below (g := gb190) (o := .cells #[.slice Ao32 y187.length co32, .int .i64 3, .int .i64 0] 24 (0, 0)) (by (with_reducible repeat (first | refine blk_drewN ?_ _ | refine blk_drew ?_ | refine blk_alloc ?_ _)); refine blk_far ?_ NB190_201.out _; (with_reducible repeat (first | refine blk_drewN ?_ _ | refine blk_drew ?_ | refine blk_alloc ?_ _)); refine blk_far ?_ NB190_201.out _; (with_reducible repeat (first | refine blk_drewN ?_ _ | refine blk_drew ?_ | refine blk_alloc ?_ _)); refine blk_far ?_ NB190_201.out _; (with_reducible repeat (first | refine blk_drewN ?_ _ | refine blk_drew ?_ | refine blk_alloc ?_ _)); exact BK190.out) hb); have n4_ := Aside0.mk (blk_below (g := gb201) (o := .cells #[.slice Ao38 t192.length co38, .int .i64 t195, .int .i64 t196] 24 (0, 0)) (by (with_reducible repeat (first | refine blk_drewN ?_ _ | refine blk_drew ?_ | refine blk_alloc ?_ _)); refine blk_put (cs := #[.slice Ao38 t192.length co38, .int .i64 t195, .int .i64 0]) ?_ 2 _ rfl; (with_reducible repeat (first | refine blk_drewN ?_ _ | refine blk_drew ?_ | refine blk_alloc ?_ _)); refine blk_put (cs := #[.slice Ao38 t192.length co38, .int .i64 0, .int .i64 0]) ?_ 1 _ rfl; (with_reducible repeat (first | refine blk_drewN ?_ _ | refine blk_drew ?_ | refine blk_alloc ?_ _)); refine blk_put (cs := #[.slice none 0 0, .int .i64 0, .int .i64 0]) ?_ 0 _ rfl; (with_reducible repeat (first | refine blk_drewN ?_ _ | refine blk_drew ?_ | refine blk_alloc ?_ _)); exact BK201.out) hb); have n5_ := Aside0.mk (below_step (by repeat (first | (with_reducible first | exact HB.out | apply below_alloc | apply pw_below_drewN | apply below_drew1 | refine below_set ?_ GE190.out | refine below_set ?_ GE201.out) | exact HB.out)) hb); clear HO189; clear HO194; clear HO199; clear BK190; clear BK201; clear HB; have HO189 := n0_; have HO194 := n1_; have HO199 := n2_; have BK190 := n3_; have BK201 := n4_; have HB := n5_; clear n0_ n1_ n2_ n3_ n4_ n5_; (try clear hb); (try clear hb2); (try clear hk); (try clear hi); obtain ⟨Ao43, co43, eo43⟩ := Kd.R_slice HO199.out; subst eo43) | ((with_reducible refine gate_callee (f := 10) rfl ?_); refine goesL_ (some 53) rfl rfl Try.func10 (by kernel_rfl) rfl #[.string (t191.extract 0 22)] rfl (by (try simp only [List.map_toArray, List.map_cons, List.map_nil]); first | done | rfl | (simp only [List.length_drop, List.length_take]; rfl)) ?_; (with_reducible refine (snap_Decode.calls k (t191.extract 0 22) t203 t206 t207 t208 t211 _ A13.out).mono ?_); rintro e w44 ⟨v204, v209, rfl, ho0, ho1, hb⟩; refine ⟨_, rfl, ?_⟩; have n0_ := Aside0.mk (Kd.S_mono (Kd.S_told (Kd.S_told (Kd.S_old (by (with_reducible repeat (first | apply Kd.S_alloc | apply Kd.S_drewN | apply Kd.S_drew)); exact HO189.out) hb) (Kd.S_base ho0)) (Kd.R_base ho1)) (fun _ h_ => h_.1)); have n1_ := Aside0.mk (Kd.S_mono (Kd.S_told (Kd.S_told (Kd.S_old (by (with_reducible repeat (first | apply Kd.S_alloc | apply Kd.S_drewN | apply Kd.S_drew)); exact HO194.out) hb) (Kd.S_base ho0)) (Kd.R_base ho1)) (fun _ h_ => h_.1)); have n2_ := Aside0.mk (Kd.R_elder' (by (with_reducible repeat (first | apply Kd.R_alloc | apply Kd.R_drewN | apply Kd.R_drew)); exact HO199.out) (Kd.R_base ho1) hb); have n3_ := Aside0.mk (Kd.S_lower (Kd.S_new' (Kd.S_new' (Kd.S_new' ho0 (Kd.S_lt (by (with_reducible repeat (first | apply Kd.S_alloc | apply Kd.S_drewN | apply Kd.S_drew)); exact HO189.out))) (Kd.S_lt (by (with_reducible repeat (first | apply Kd.S_alloc | apply Kd.S_drewN | apply Kd.S_drew)); exact HO194.out))) (Kd.R_lt (by (with_reducible repeat (first | apply Kd.R_alloc | apply Kd.R_drewN | apply Kd.R_drew)); exact HO199.out))) (below_size (by repeat (first | (with_reducible first | exact HB.out | apply below_alloc | apply pw_below_drewN | apply below_drew1 | refine below_set ?_ GE190.out | refine below_set ?_ GE201.out) | exact HB.out)))); have n4_ := Aside0.mk (Kd.R_lower (Kd.R_new' ho1 (Kd.R_lt (by (with_reducible repeat (first | apply Kd.R_alloc | apply Kd.R_drewN | apply Kd.R_drew)); exact HO199.out))) (below_size (by repeat (first | (with_reducible first | exact HB.out | apply below_alloc | apply pw_below_drewN | apply below_drew1 | refine below_set ?_ GE190.out | refine below_set ?_ GE201.out) | exact HB.out)))); have n5_ := Aside0.mk (blk_below (g := gb190) (o := .cells #[.slice Ao32 y187.length co32, .int .i64 3, .int .i64 0] 24 (0, 0)) (by (with_reducible repeat (first | refine blk_drewN ?_ _ | refine blk_drew ?_ | refine blk_alloc ?_ _)); exact BK190.out) hb); have n6_ := Aside0.mk (blk_below (g := gb201) (o := .cells #[.slice Ao38 t192.length co38, .int .i64 t195, .int .i64 t196] 24 (0, 0)) (by (with_reducible repeat (first | refine blk_drewN ?_ _ | refine blk_drew ?_ | refine blk_alloc ?_ _)); exact BK201.out) hb); have n7_ := Aside0.mk (below_step (by repeat (first | (with_reducible first | exact HB.out | apply below_alloc | apply pw_below_drewN | apply below_drew1 | refine below_set ?_ GE190.out | refine below_set ?_ GE201.out) | exact HB.out)) hb); clear HO189; clear HO194; clear HO199; clear BK190; clear BK201; clear HB; have HO189 := n0_; have HO194 := n1_; have HO199 := n2_; have HO205 := n3_; have HO210 := n4_; have BK190 := n5_; have BK201 := n6_; have HB := n7_; clear n0_ n1_ n2_ n3_ n4_ n5_ n6_ n7_; (try clear hb); (try clear hb2); (try clear hk); (try clear hi); (try clear ho0); (try clear ho1)) | ((with_reducible refine gate_dst (N := 6) rfl ?_); (try (refine gate_guard (by rfl) ?_; dsimp only)); refine box_event ?hg (N := 6) ?hd (cs := #[.slice none 0 0, .int .i64 0, .int .i64 0]) (t := 24) ?hr ?_; (case hd => rfl); (case hg => rfl); (case hr => first | (go_simp; done) | (go_simp; rfl)); intro gb212 hg w45 hbox hb; have n0_ := Aside0.mk (Kd.S_below (by (with_reducible repeat (first | apply Kd.S_alloc | apply Kd.S_drewN | apply Kd.S_drew)); exact HO189.out) hb); have n1_ := Aside0.mk (Kd.S_below (by (with_reducible repeat (first | apply Kd.S_alloc | apply Kd.S_drewN | apply Kd.S_drew)); exact HO194.out) hb); have n2_ := Aside0.mk (Kd.S_below (by (with_reducible repeat (first | apply Kd.S_alloc | apply Kd.S_drewN | apply Kd.S_drew)); exact HO205.out) hb); have n3_ := Aside0.mk (Kd.R_below (by (with_reducible repeat (first | apply Kd.R_alloc | apply Kd.R_drewN | apply Kd.R_drew)); exact HO210.out) hb); have n4_ := Aside0.mk (blk_below (g := gb190) (o := .cells #[.slice Ao32 y187.length co32, .int .i64 3, .int .i64 0] 24 (0, 0)) (by (with_reducible repeat (first | refine blk_drewN ?_ _ | refine blk_drew ?_ | refine blk_alloc ?_ _)); exact BK190.out) hb); have n5_ := Aside0.mk (blk_below (g := gb201) (o := .cells #[.slice Ao38 t192.length co38, .int .i64 t195, .int .i64 t196] 24 (0, 0)) (by (with_reducible repeat (first | refine blk_drewN ?_ _ | refine blk_drew ?_ | refine blk_alloc ?_ _)); exact BK201.out) hb); have n6_ := Aside0.mk (below_step (by repeat (first | (with_reducible first | exact HB.out | apply below_alloc | apply pw_below_drewN | apply below_drew1 | refine below_set ?_ GE190.out | refine below_set ?_ GE201.out) | exact HB.out)) hb); have n7_ := Aside0.mk (hbox); have n8_ := Aside0.mk ((by rw [hg]; exact (below_size (by repeat (first | (with_reducible first | exact HB.out | apply below_alloc | apply pw_below_drewN | apply below_drew1 | refine below_set ?_ GE190.out | refine below_set ?_ GE201.out) | exact HB.out))) : w.heap.size ≤ gb212)); have n9_ := Aside0.mk ((by rw [hg]; exact (below_size (by repeat (first | (with_reducible first | exact HB.out | apply below_alloc | apply pw_below_drewN | apply below_drew1 | refine below_set ?_ GE190.out | refine below_set ?_ GE201.out) | exact HB.out))) : w.heap.size ≤ gb212)); have n10_ := Aside0.mk ((by rw [hg]; exact Nat.ne_of_lt (blk_lt (g := gb190) (o := .cells #[.slice Ao32 y187.length co32, .int .i64 3, .int .i64 0] 24 (0, 0)) (by (with_reducible repeat (first | refine blk_drewN ?_ _ | refine blk_drew ?_ | refine blk_alloc ?_ _)); exact BK190.out)) : gb190 ≠ gb212)); have n11_ := Aside0.mk ((by rw [hg]; exact Nat.ne_of_gt (blk_lt (g := gb190) (o := .cells #[.slice Ao32 y187.length co32, .int .i64 3, .int .i64 0] 24 (0, 0)) (by (with_reducible repeat (first | refine blk_drewN ?_ _ | refine blk_drew ?_ | refine blk_alloc ?_ _)); exact BK190.out)) : gb212 ≠ gb190)); have n12_ := Aside0.mk ((by rw [hg]; exact Nat.ne_of_lt (blk_lt (g := gb201) (o := .cells #[.slice Ao38 t192.length co38, .int .i64 t195, .int .i64 t196] 24 (0, 0)) (by (with_reducible repeat (first | refine blk_drewN ?_ _ | refine blk_drew ?_ | refine blk_alloc ?_ _)); exact BK201.out)) : gb201 ≠ gb212)); have n13_ := Aside0.mk ((by rw [hg]; exact Nat.ne_of_gt (blk_lt (g := gb201) (o := .cells #[.slice Ao38 t192.length co38, .int .i64 t195, .int .i64 t196] 24 (0, 0)) (by (with_reducible repeat (first | refine blk_drewN ?_ _ | refine blk_drew ?_ | refine blk_alloc ?_ _)); exact BK201.out)) : gb212 ≠ gb201)); clear HO189; clear HO194; clear HO205; clear HO210; clear BK190; clear BK201; clear HB; have HO189 := n0_; have HO194 := n1_; have HO205 := n2_; have HO210 := n3_; have BK190 := n4_; have BK201 := n5_; have HB := n6_; have BK212 := n7_; have GW212 := n8_; have GE212 := n9_; have NB190_212 := n10_; have NB212_190 := n11_; have NB201_212 := n12_; have NB212_201 := n13_; clear n0_ n1_ n2_ n3_ n4_ n5_ n6_ n7_ n8_ n9_ n10_ n11_ n12_ n13_; clear hb hbox hg; obtain ⟨Ao46, co46, eo46⟩ := Kd.S_slice HO205.out; subst eo46; have hnb47 := NB212_190.out; have hnc47 := NB190_212.out; have hnb48 := NB212_201.out; have hnc48 := NB201_212.out; have hcz49_0 : w45.cell? ⟨gb212, 0, none⟩ = some (.slice none 0 0) := (blk_cell BK212.out 0).trans rfl; have hcz49_1 : w45.cell? ⟨gb212, 1, none⟩ = some (.int .i64 0) := (blk_cell BK212.out 1).trans rfl; have hcz49_2 : w45.cell? ⟨gb212, 2, none⟩ = some (.int .i64 0) := (blk_cell BK212.out 2).trans rfl; have hfz49_0 := blk_frozen BK212.out 0; have hfz49_1 := blk_frozen BK212.out 1; have hfz49_2 := blk_frozen BK212.out 2) | ((with_reducible refine gate_callee (f := 10) rfl ?_); refine goesL_ (some 60) rfl rfl Try.func10 (by kernel_rfl) rfl #[.string (t191 ++ (⟨#[0]⟩ : ByteArray))] rfl (by (try simp only [List.map_toArray, List.map_cons, List.map_nil]); first | done | rfl | (simp only [List.length_drop, List.length_take]; rfl)) ?_; (with_reducible refine (snap_Decode.calls k (t191 ++ (⟨#[0]⟩ : ByteArray)) t213 t216 t217 t218 t221 _ A15.out).mono ?_); rintro e w50 ⟨v214, v219, rfl, ho0, ho1, hb⟩; refine ⟨_, rfl, ?_⟩; have n0_ := Aside0.mk (Kd.S_mono (Kd.S_told (Kd.S_told (Kd.S_old (by (with_reducible repeat (first | apply Kd.S_alloc | apply Kd.S_drewN | apply Kd.S_drew)); exact (Kd.S_mono (Kd.S_far (p := ⟨gb212, 2, none⟩) (Kd.S_far (p := ⟨gb212, 1, none⟩) (Kd.S_far (p := ⟨gb212, 0, none⟩) (Kd.S_types HO189.out BK212.out (by decide)) (fun _ hk => hk.2) (.slice Ao46 t203.length co46)) (fun _ hk => hk.2) (.int .i64 t206)) (fun _ hk => hk.2) (.int .i64 t207)) (fun _ h_ => h_.1))) hb) (Kd.S_base ho0)) (Kd.R_base ho1)) (fun _ h_ => h_.1)); have n1_ := Aside0.mk (Kd.S_mono (Kd.S_told (Kd.S_told (Kd.S_old (by (with_reducible repeat (first | apply Kd.S_alloc | apply Kd.S_drewN | apply Kd.S_drew)); exact (Kd.S_mono (Kd.S_far (p := ⟨gb212, 2, none⟩) (Kd.S_far (p := ⟨gb212, 1, none⟩) (Kd.S_far (p := ⟨gb212, 0, none⟩) (Kd.S_types HO194.out BK212.out (by decide)) (fun _ hk => hk.2) (.slice Ao46 t203.length co46)) (fun _ hk => hk.2) (.int .i64 t206)) (fun _ hk => hk.2) (.int .i64 t207)) (fun _ h_ => h_.1))) hb) (Kd.S_base ho0)) (Kd.R_base ho1)) (fun _ h_ => h_.1)); have n2_ := Aside0.mk (Kd.S_mono (Kd.S_told (Kd.S_told (Kd.S_old (by (with_reducible repeat (first | apply Kd.S_alloc | apply Kd.S_drewN | apply Kd.S_drew)); exact (Kd.S_mono (Kd.S_far (p := ⟨gb212, 2, none⟩) (Kd.S_far (p := ⟨gb212, 1, none⟩) (Kd.S_far (p := ⟨gb212, 0, none⟩) (Kd.S_types HO205.out BK212.out (by decide)) (fun _ hk => hk.2) (.slice Ao46 t203.length co46)) (fun _ hk => hk.2) (.int .i64 t206)) (fun _ hk => hk.2) (.int .i64 t207)) (fun _ h_ => h_.1))) hb) (Kd.S_base ho0)) (Kd.R_base ho1)) (fun _ h_ => h_.1)); have n3_ := Aside0.mk (Kd.S_lower (Kd.S_new' (Kd.S_new' (Kd.S_new' ho0 (Kd.S_lt (by (with_reducible repeat (first | apply Kd.S_alloc | apply Kd.S_drewN | apply Kd.S_drew)); exact (Kd.S_mono (Kd.S_far (p := ⟨gb212, 2, none⟩) (Kd.S_far (p := ⟨gb212, 1, none⟩) (Kd.S_far (p := ⟨gb212, 0, none⟩) (Kd.S_types HO189.out BK212.out (by decide)) (fun _ hk => hk.2) (.slice Ao46 t203.length co46)) (fun _ hk => hk.2) (.int .i64 t206)) (fun _ hk => hk.2) (.int .i64 t207)) (fun _ h_ => h_.1))))) (Kd.S_lt (by (with_reducible repeat (first | apply Kd.S_alloc | apply Kd.S_drewN | apply Kd.S_drew)); exact (Kd.S_mono (Kd.S_far (p := ⟨gb212, 2, none⟩) (Kd.S_far (p := ⟨gb212, 1, none⟩) (Kd.S_far (p := ⟨gb212, 0, none⟩) (Kd.S_types HO194.out BK212.out (by decide)) (fun _ hk => hk.2) (.slice Ao46 t203.length co46)) (fun _ hk => hk.2) (.int .i64 t206)) (fun _ hk => hk.2) (.int .i64 t207)) (fun _ h_ => h_.1))))) (Kd.S_lt (by (with_reducible repeat (first | apply Kd.S_alloc | apply Kd.S_drewN | apply Kd.S_drew)); exact (Kd.S_mono (Kd.S_far (p := ⟨gb212, 2, none⟩) (Kd.S_far (p := ⟨gb212, 1, none⟩) (Kd.S_far (p := ⟨gb212, 0, none⟩) (Kd.S_types HO205.out BK212.out (by decide)) (fun _ hk => hk.2) (.slice Ao46 t203.length co46)) (fun _ hk => hk.2) (.int .i64 t206)) (fun _ hk => hk.2) (.int .i64 t207)) (fun _ h_ => h_.1))))) (below_size (by repeat (first | (with_reducible first | exact HB.out | apply below_alloc | apply pw_below_drewN | apply below_drew1 | refine below_set ?_ GE190.out | refine below_set ?_ GE201.out | refine below_set ?_ GE212.out) | exact HB.out)))); have n4_ := Aside0.mk (Kd.R_lower ho1 (below_size (by repeat (first | (with_reducible first | exact HB.out | apply below_alloc | apply pw_below_drewN | apply below_drew1 | refine below_set ?_ GE190.out | refine below_set ?_ GE201.out | refine below_set ?_ GE212.out) | exact HB.out)))); have n5_ := Aside0.mk (blk_below (g := gb190) (o := .cells #[.slice Ao32 y187.length co32, .int .i64 3, .int .i64 0] 24 (0, 0)) (by (with_reducible repeat (first | refine blk_drewN ?_ _ | refine blk_drew ?_ | refine blk_alloc ?_ _)); refine blk_far ?_ NB190_212.out _; (with_reducible repeat (first | refine blk_drewN ?_ _ | refine blk_drew ?_ | refine blk_alloc ?_ _)); refine blk_far ?_ NB190_212.out _; (with_reducible repeat (first | refine blk_drewN ?_ _ | refine blk_drew ?_ | refine blk_alloc ?_ _)); refine blk_far ?_ NB190_212.out _; (with_reducible repeat (first | refine blk_drewN ?_ _ | refine blk_drew ?_ | refine blk_alloc ?_ _)); exact BK190.out) hb); have n6_ := Aside0.mk (blk_below (g := gb201) (o := .cells #[.slice Ao38 t192.length co38, .int .i64 t195, .int .i64 t196] 24 (0, 0)) (by (with_reducible repeat (first | refine blk_drewN ?_ _ | refine blk_drew ?_ | refine blk_alloc ?_ _)); refine blk_far ?_ NB201_212.out _; (with_reducible repeat (first | refine blk_drewN ?_ _ | refine blk_drew ?_ | refine blk_alloc ?_ _)); refine blk_far ?_ NB201_212.out _; (with_reducible repeat (first | refine blk_drewN ?_ _ | refine blk_drew ?_ | refine blk_alloc ?_ _)); refine blk_far ?_ NB201_212.out _; (with_reducible repeat (first | refine blk_drewN ?_ _ | refine blk_drew ?_ | refine blk_alloc ?_ _)); exact BK201.out) hb); have n7_ := Aside0.mk (blk_below (g := gb212) (o := .cells #[.slice Ao46 t203.length co46, .int .i64 t206, .int .i64 t207] 24 (0, 0)) (by (with_reducible repeat (first | refine blk_drewN ?_ _ | refine blk_drew ?_ | refine blk_alloc ?_ _)); refine blk_put (cs := #[.slice Ao46 t203.length co46, .int .i64 t206, .int .i64 0]) ?_ 2 _ rfl; (with_reducible repeat (first | refine blk_drewN ?_ _ | refine blk_drew ?_ | refine blk_alloc ?_ _)); refine blk_put (cs := #[.slice Ao46 t203.length co46, .int .i64 0, .int .i64 0]) ?_ 1 _ rfl; (with_reducible repeat (first | refine blk_drewN ?_ _ | refine blk_drew ?_ | refine blk_alloc ?_ _)); refine blk_put (cs := #[.slice none 0 0, .int .i64 0, .int .i64 0]) ?_ 0 _ rfl; (with_reducible repeat (first | refine blk_drewN ?_ _ | refine blk_drew ?_ | refine blk_alloc ?_ _)); exact BK212.out) hb); have n8_ := Aside0.mk (below_step (by repeat (first | (with_reducible first | exact HB.out | apply below_alloc | apply pw_below_drewN | apply below_drew1 | refine below_set ?_ GE190.out | refine below_set ?_ GE201.out | refine below_set ?_ GE212.out) | exact HB.out)) hb); clear HO189; clear HO194; clear HO205; clear BK190; clear BK201; clear BK212; clear HB; have HO189 := n0_; have HO194 := n1_; have HO205 := n2_; have HO215 := n3_; have HO220 := n4_; have BK190 := n5_; have BK201 := n6_; have BK212 := n7_; have HB := n8_; clear n0_ n1_ n2_ n3_ n4_ n5_ n6_ n7_ n8_; (try clear hb); (try clear hb2); (try clear hk); (try clear hi); (try clear ho0); (try clear ho1)) | ((with_reducible refine gate_dst (N := 9) rfl ?_); (try (refine gate_guard (by rfl) ?_; dsimp only)); refine box_event ?hg (N := 9) ?hd (cs := #[.slice none 0 0, .int .i64 0, .int .i64 0]) (t := 24) ?hr ?_; (case hd => rfl); (case hg => rfl); (case hr => first | (go_simp; done) | (go_simp; rfl)); intro gb222 hg w51 hbox hb; have n0_ := Aside0.mk (Kd.S_below (by (with_reducible repeat (first | apply Kd.S_alloc | apply Kd.S_drewN | apply Kd.S_drew)); exact HO189.out) hb); have n1_ := Aside0.mk (Kd.S_below (by (with_reducible repeat (first | apply Kd.S_alloc | apply Kd.S_drewN | apply Kd.S_drew)); exact HO194.out) hb); have n2_ := Aside0.mk (Kd.S_below (by (with_reducible repeat (first | apply Kd.S_alloc | apply Kd.S_drewN | apply Kd.S_drew)); exact HO205.out) hb); have n3_ := Aside0.mk (Kd.S_below (by (with_reducible repeat (first | apply Kd.S_alloc | apply Kd.S_drewN | apply Kd.S_drew)); exact HO215.out) hb); have n4_ := Aside0.mk (Kd.R_below (by (with_reducible repeat (first | apply Kd.R_alloc | apply Kd.R_drewN | apply Kd.R_drew)); exact HO220.out) hb); have n5_ := Aside0.mk (blk_below (g := gb190) (o := .cells #[.slice Ao32 y187.length co32, .int .i64 3, .int .i64 0] 24 (0, 0)) (by (with_reducible repeat (first | refine blk_drewN ?_ _ | refine blk_drew ?_ | refine blk_alloc ?_ _)); exact BK190.out) hb); have n6_ := Aside0.mk (blk_below (g := gb201) (o := .cells #[.slice Ao38 t192.length co38, .int .i64 t195, .int .i64 t196] 24 (0, 0)) (by (with_reducible repeat (first | refine blk_drewN ?_ _ | refine blk_drew ?_ | refine blk_alloc ?_ _)); exact BK201.out) hb); have n7_ := Aside0.mk (blk_below (g := gb212) (o := .cells #[.slice Ao46 t203.length co46, .int .i64 t206, .int .i64 t207] 24 (0, 0)) (by (with_reducible repeat (first | refine blk_drewN ?_ _ | refine blk_drew ?_ | refine blk_alloc ?_ _)); exact BK212.out) hb); have n8_ := Aside0.mk (below_step (by repeat (first | (with_reducible first | exact HB.out | apply below_alloc | apply pw_below_drewN | apply below_drew1 | refine below_set ?_ GE190.out | refine below_set ?_ GE201.out | refine below_set ?_ GE212.out) | exact HB.out)) hb); have n9_ := Aside0.mk (hbox); have n10_ := Aside0.mk ((by rw [hg]; exact (below_size (by repeat (first | (with_reducible first | exact HB.out | apply below_alloc | apply pw_below_drewN | apply below_drew1 | refine below_set ?_ GE190.out | refine below_set ?_ GE201.out | refine below_set ?_ GE212.out) | exact HB.out))) : w.heap.size ≤ gb222)); have n11_ := Aside0.mk ((by rw [hg]; exact (below_size (by repeat (first | (with_reducible first | exact HB.out | apply below_alloc | apply pw_below_drewN | apply below_drew1 | refine below_set ?_ GE190.out | refine below_set ?_ GE201.out | refine below_set ?_ GE212.out) | exact HB.out))) : w.heap.size ≤ gb222)); have n12_ := Aside0.mk ((by rw [hg]; exact Nat.ne_of_lt (blk_lt (g := gb190) (o := .cells #[.slice Ao32 y187.length co32, .int .i64 3, .int .i64 0] 24 (0, 0)) (by (with_reducible repeat (first | refine blk_drewN ?_ _ | refine blk_drew ?_ | refine blk_alloc ?_ _)); exact BK190.out)) : gb190 ≠ gb222)); have n13_ := Aside0.mk ((by rw [hg]; exact Nat.ne_of_gt (blk_lt (g := gb190) (o := .cells #[.slice Ao32 y187.length co32, .int .i64 3, .int .i64 0] 24 (0, 0)) (by (with_reducible repeat (first | refine blk_drewN ?_ _ | refine blk_drew ?_ | refine blk_alloc ?_ _)); exact BK190.out)) : gb222 ≠ gb190)); have n14_ := Aside0.mk ((by rw [hg]; exact Nat.ne_of_lt (blk_lt (g := gb201) (o := .cells #[.slice Ao38 t192.length co38, .int .i64 t195, .int .i64 t196] 24 (0, 0)) (by (with_reducible repeat (first | refine blk_drewN ?_ _ | refine blk_drew ?_ | refine blk_alloc ?_ _)); exact BK201.out)) : gb201 ≠ gb222)); have n15_ := Aside0.mk ((by rw [hg]; exact Nat.ne_of_gt (blk_lt (g := gb201) (o := .cells #[.slice Ao38 t192.length co38, .int .i64 t195, .int .i64 t196] 24 (0, 0)) (by (with_reducible repeat (first | refine blk_drewN ?_ _ | refine blk_drew ?_ | refine blk_alloc ?_ _)); exact BK201.out)) : gb222 ≠ gb201)); have n16_ := Aside0.mk ((by rw [hg]; exact Nat.ne_of_lt (blk_lt (g := gb212) (o := .cells #[.slice Ao46 t203.length co46, .int .i64 t206, .int .i64 t207] 24 (0, 0)) (by (with_reducible repeat (first | refine blk_drewN ?_ _ | refine blk_drew ?_ | refine blk_alloc ?_ _)); exact BK212.out)) : gb212 ≠ gb222)); have n17_ := Aside0.mk ((by rw [hg]; exact Nat.ne_of_gt (blk_lt (g := gb212) (o := .cells #[.slice Ao46 t203.length co46, .int .i64 t206, .int .i64 t207] 24 (0, 0)) (by (with_reducible repeat (first | refine blk_drewN ?_ _ | refine blk_drew ?_ | refine blk_alloc ?_ _)); exact BK212.out)) : gb222 ≠ gb212)); clear HO189; clear HO194; clear HO205; clear HO215; clear HO220; clear BK190; clear BK201; clear BK212; clear HB; have HO189 := n0_; have HO194 := n1_; have HO205 := n2_; have HO215 := n3_; have HO220 := n4_; have BK190 := n5_; have BK201 := n6_; have BK212 := n7_; have HB := n8_; have BK222 := n9_; have GW222 := n10_; have GE222 := n11_; have NB190_222 := n12_; have NB222_190 := n13_; have NB201_222 := n14_; have NB222_201 := n15_; have NB212_222 := n16_; have NB222_212 := n17_; clear n0_ n1_ n2_ n3_ n4_ n5_ n6_ n7_ n8_ n9_ n10_ n11_ n12_ n13_ n14_ n15_ n16_ n17_; clear hb hbox hg; obtain ⟨Ao52, co52, eo52⟩ := Kd.S_slice HO215.out; subst eo52; have hnb53 := NB222_190.out; have hnc53 := NB190_222.out; have hnb54 := NB222_201.out; have hnc54 := NB201_222.out; have hnb55 := NB222_212.out; have hnc55 := NB212_222.out; have hcz56_0 : w51.cell? ⟨gb222, 0, none⟩ = some (.slice none 0 0) := (blk_cell BK222.out 0).trans rfl; have hcz56_1 : w51.cell? ⟨gb222, 1, none⟩ = some (.int .i64 0) := (blk_cell BK222.out 1).trans rfl; have hcz56_2 : w51.cell? ⟨gb222, 2, none⟩ = some (.int .i64 0) := (blk_cell BK222.out 2).trans rfl; have hfz56_0 := blk_frozen BK222.out 0; have hfz56_1 := blk_frozen BK222.out 1; have hfz56_2 := blk_frozen BK222.out 2) | ((with_reducible refine gate_callee (f := 19) rfl ?_); refine goesL_ (some 71) rfl rfl Try.func19 (by kernel_rfl) rfl #[.string (((⟨#[65, 78, 49]⟩ : ByteArray) ++ (t191.extract 3 35)) ++ (⟨#[0]⟩ : ByteArray))] rfl (by (try simp only [List.map_toArray, List.map_cons, List.map_nil]); first | done | rfl | (simp only [List.length_drop, List.length_take]; rfl)) ?_; (with_reducible refine (anamnesisref07_Of.calls k (((⟨#[65, 78, 49]⟩ : ByteArray) ++ (t191.extract 3 35)) ++ (⟨#[0]⟩ : ByteArray)) t223 _ A20.out).mono ?_); rintro e w' ⟨rfl, ⟨nd, rfl⟩⟩; refine ⟨_, rfl, ?_⟩) | ((with_reducible refine gate_callee (f := 18) rfl ?_); refine goesL_ (some 72) rfl rfl Try.func18 (by kernel_rfl) rfl #[.int .i64 t223] rfl (by (try simp only [List.map_toArray, List.map_cons, List.map_nil]); first | done | rfl | (simp only [List.length_drop, List.length_take]; rfl)) ?_; (with_reducible refine (anamnesisref07_Bytes.calls t223 t224 _ A21.out).mono ?_); rintro e w57 ⟨rfl, hb⟩; refine ⟨_, rfl, ?_⟩; have n0_ := Aside0.mk (Kd.S_below (by (with_reducible repeat (first | apply Kd.S_alloc | apply Kd.S_drewN | apply Kd.S_drew)); exact (Kd.S_mono (Kd.S_far (p := ⟨gb222, 2, none⟩) (Kd.S_far (p := ⟨gb222, 1, none⟩) (Kd.S_far (p := ⟨gb222, 0, none⟩) (Kd.S_types HO189.out BK222.out (by decide)) (fun _ hk => hk.2) (.slice Ao52 t213.length co52)) (fun _ hk => hk.2) (.int .i64 t216)) (fun _ hk => hk.2) (.int .i64 t217)) (fun _ h_ => h_.1))) hb); have n1_ := Aside0.mk (Kd.S_below (by (with_reducible repeat (first | apply Kd.S_alloc | apply Kd.S_drewN | apply Kd.S_drew)); exact (Kd.S_mono (Kd.S_far (p := ⟨gb222, 2, none⟩) (Kd.S_far (p := ⟨gb222, 1, none⟩) (Kd.S_far (p := ⟨gb222, 0, none⟩) (Kd.S_types HO194.out BK222.out (by decide)) (fun _ hk => hk.2) (.slice Ao52 t213.length co52)) (fun _ hk => hk.2) (.int .i64 t216)) (fun _ hk => hk.2) (.int .i64 t217)) (fun _ h_ => h_.1))) hb); have n2_ := Aside0.mk (Kd.S_below (by (with_reducible repeat (first | apply Kd.S_alloc | apply Kd.S_drewN | apply Kd.S_drew)); exact (Kd.S_mono (Kd.S_far (p := ⟨gb222, 2, none⟩) (Kd.S_far (p := ⟨gb222, 1, none⟩) (Kd.S_far (p := ⟨gb222, 0, none⟩) (Kd.S_types HO205.out BK222.out (by decide)) (fun _ hk => hk.2) (.slice Ao52 t213.length co52)) (fun _ hk => hk.2) (.int .i64 t216)) (fun _ hk => hk.2) (.int .i64 t217)) (fun _ h_ => h_.1))) hb); have n3_ := Aside0.mk (Kd.S_below (by (with_reducible repeat (first | apply Kd.S_alloc | apply Kd.S_drewN | apply Kd.S_drew)); exact (Kd.S_mono (Kd.S_far (p := ⟨gb222, 2, none⟩) (Kd.S_far (p := ⟨gb222, 1, none⟩) (Kd.S_far (p := ⟨gb222, 0, none⟩) (Kd.S_types HO215.out BK222.out (by decide)) (fun _ hk => hk.2) (.slice Ao52 t213.length co52)) (fun _ hk => hk.2) (.int .i64 t216)) (fun _ hk => hk.2) (.int .i64 t217)) (fun _ h_ => h_.1))) hb); have n4_ := Aside0.mk (blk_below (g := gb190) (o := .cells #[.slice Ao32 y187.length co32, .int .i64 3, .int .i64 0] 24 (0, 0)) (by (with_reducible repeat (first | refine blk_drewN ?_ _ | refine blk_drew ?_ | refine blk_alloc ?_ _)); refine blk_far ?_ NB190_222.out _; (with_reducible repeat (first | refine blk_drewN ?_ _ | refine blk_drew ?_ | refine blk_alloc ?_ _)); refine blk_far ?_ NB190_222.out _; (with_reducible repeat (first | refine blk_drewN ?_ _ | refine blk_drew ?_ | refine blk_alloc ?_ _)); refine blk_far ?_ NB190_222.out _; (with_reducible repeat (first | refine blk_drewN ?_ _ | refine blk_drew ?_ | refine blk_alloc ?_ _)); exact BK190.out) hb); have n5_ := Aside0.mk (blk_below (g := gb201) (o := .cells #[.slice Ao38 t192.length co38, .int .i64 t195, .int .i64 t196] 24 (0, 0)) (by (with_reducible repeat (first | refine blk_drewN ?_ _ | refine blk_drew ?_ | refine blk_alloc ?_ _)); refine blk_far ?_ NB201_222.out _; (with_reducible repeat (first | refine blk_drewN ?_ _ | refine blk_drew ?_ | refine blk_alloc ?_ _)); refine blk_far ?_ NB201_222.out _; (with_reducible repeat (first | refine blk_drewN ?_ _ | refine blk_drew ?_ | refine blk_alloc ?_ _)); refine blk_far ?_ NB201_222.out _; (with_reducible repeat (first | refine blk_drewN ?_ _ | refine blk_drew ?_ | refine blk_alloc ?_ _)); exact BK201.out) hb); have n6_ := Aside0.mk (blk_below (g := gb212) (o := .cells #[.slice Ao46 t203.length co46, .int .i64 t206, .int .i64 t207] 24 (0, 0)) (by (with_reducible repeat (first | refine blk_drewN ?_ _ | refine blk_drew ?_ | refine blk_alloc ?_ _)); refine blk_far ?_ NB212_222.out _; (with_reducible repeat (first | refine blk_drewN ?_ _ | refine blk_drew ?_ | refine blk_alloc ?_ _)); refine blk_far ?_ NB212_222.out _; (with_reducible repeat (first | refine blk_drewN ?_ _ | refine blk_drew ?_ | refine blk_alloc ?_ _)); refine blk_far ?_ NB212_222.out _; (with_reducible repeat (first | refine blk_drewN ?_ _ | refine blk_drew ?_ | refine blk_alloc ?_ _)); exact BK212.out) hb); have n7_ := Aside0.mk (blk_below (g := gb222) (o := .cells #[.slice Ao52 t213.length co52, .int .i64 t216, .int .i64 t217] 24 (0, 0)) (by (with_reducible repeat (first | refine blk_drewN ?_ _ | refine blk_drew ?_ | refine blk_alloc ?_ _)); refine blk_put (cs := #[.slice Ao52 t213.length co52, .int .i64 t216, .int .i64 0]) ?_ 2 _ rfl; (with_reducible repeat (first | refine blk_drewN ?_ _ | refine blk_drew ?_ | refine blk_alloc ?_ _)); refine blk_put (cs := #[.slice Ao52 t213.length co52, .int .i64 0, .int .i64 0]) ?_ 1 _ rfl; (with_reducible repeat (first | refine blk_drewN ?_ _ | refine blk_drew ?_ | refine blk_alloc ?_ _)); refine blk_put (cs := #[.slice none 0 0, .int .i64 0, .int .i64 0]) ?_ 0 _ rfl; (with_reducible repeat (first | refine blk_drewN ?_ _ | refine blk_drew ?_ | refine blk_alloc ?_ _)); exact BK222.out) hb); have n8_ := Aside0.mk (below_step (by repeat (first | (with_reducible first | exact HB.out | apply below_alloc | apply pw_below_drewN | apply below_drew1 | refine below_set ?_ GE190.out | refine below_set ?_ GE201.out | refine below_set ?_ GE212.out | refine below_set ?_ GE222.out) | exact HB.out)) hb); clear HO189; clear HO194; clear HO205; clear HO215; clear BK190; clear BK201; clear BK212; clear BK222; clear HB; have HO189 := n0_; have HO194 := n1_; have HO205 := n2_; have HO215 := n3_; have BK190 := n4_; have BK201 := n5_; have BK212 := n6_; have BK222 := n7_; have HB := n8_; clear n0_ n1_ n2_ n3_ n4_ n5_ n6_ n7_ n8_; (try clear hb); (try clear hb2); (try clear hk); (try clear hi)) | ((with_reducible refine gate_callee (f := 10) rfl ?_); refine goesL_ (some 74) rfl rfl Try.func10 (by kernel_rfl) rfl #[.string ((((⟨#[65, 78, 49]⟩ : ByteArray) ++ (t191.extract 3 35)) ++ (⟨#[0]⟩ : ByteArray)) ++ t224)] rfl (by (try simp only [List.map_toArray, List.map_cons, List.map_nil]); first | done | rfl | (simp only [List.length_drop, List.length_take]; rfl)) ?_; (with_reducible refine (snap_Decode.calls k ((((⟨#[65, 78, 49]⟩ : ByteArray) ++ (t191.extract 3 35)) ++ (⟨#[0]⟩ : ByteArray)) ++ t224) t225 t228 t229 t230 t233 _ A23.out).mono ?_); rintro e w58 ⟨v226, v231, rfl, ho0, ho1, hb⟩; refine ⟨_, rfl, ?_⟩; have n0_ := Aside0.mk (Kd.S_mono (Kd.S_told (Kd.S_told (Kd.S_old (by (with_reducible repeat (first | apply Kd.S_alloc | apply Kd.S_drewN | apply Kd.S_drew)); exact HO189.out) hb) (Kd.S_base ho0)) (Kd.R_base ho1)) (fun _ h_ => h_.1)); have n1_ := Aside0.mk (Kd.S_mono (Kd.S_told (Kd.S_told (Kd.S_old (by (with_reducible repeat (first | apply Kd.S_alloc | apply Kd.S_drewN | apply Kd.S_drew)); exact HO194.out) hb) (Kd.S_base ho0)) (Kd.R_base ho1)) (fun _ h_ => h_.1)); have n2_ := Aside0.mk (Kd.S_mono (Kd.S_told (Kd.S_told (Kd.S_old (by (with_reducible repeat (first | apply Kd.S_alloc | apply Kd.S_drewN | apply Kd.S_drew)); exact HO205.out) hb) (Kd.S_base ho0)) (Kd.R_base ho1)) (fun _ h_ => h_.1)); have n3_ := Aside0.mk (Kd.S_mono (Kd.S_told (Kd.S_told (Kd.S_old (by (with_reducible repeat (first | apply Kd.S_alloc | apply Kd.S_drewN | apply Kd.S_drew)); exact HO215.out) hb) (Kd.S_base ho0)) (Kd.R_base ho1)) (fun _ h_ => h_.1)); have n4_ := Aside0.mk (Kd.S_lower (Kd.S_new' (Kd.S_new' (Kd.S_new' (Kd.S_new' ho0 (Kd.S_lt (by (with_reducible repeat (first | apply Kd.S_alloc | apply Kd.S_drewN | apply Kd.S_drew)); exact HO189.out))) (Kd.S_lt (by (with_reducible repeat (first | apply Kd.S_alloc | apply Kd.S_drewN | apply Kd.S_drew)); exact HO194.out))) (Kd.S_lt (by (with_reducible repeat (first | apply Kd.S_alloc | apply Kd.S_drewN | apply Kd.S_drew)); exact HO205.out))) (Kd.S_lt (by (with_reducible repeat (first | apply Kd.S_alloc | apply Kd.S_drewN | apply Kd.S_drew)); exact HO215.out))) (below_size (by repeat (first | (with_reducible first | exact HB.out | apply below_alloc | apply pw_below_drewN | apply below_drew1 | refine below_set ?_ GE190.out | refine below_set ?_ GE201.out | refine below_set ?_ GE212.out | refine below_set ?_ GE222.out) | exact HB.out)))); have n5_ := Aside0.mk (Kd.R_lower ho1 (below_size (by repeat (first | (with_reducible first | exact HB.out | apply below_alloc | apply pw_below_drewN | apply below_drew1 | refine below_set ?_ GE190.out | refine below_set ?_ GE201.out | refine below_set ?_ GE212.out | refine below_set ?_ GE222.out) | exact HB.out)))); have n6_ := Aside0.mk (blk_below (g := gb190) (o := .cells #[.slice Ao32 y187.length co32, .int .i64 3, .int .i64 0] 24 (0, 0)) (by (with_reducible repeat (first | refine blk_drewN ?_ _ | refine blk_drew ?_ | refine blk_alloc ?_ _)); exact BK190.out) hb); have n7_ := Aside0.mk (blk_below (g := gb201) (o := .cells #[.slice Ao38 t192.length co38, .int .i64 t195, .int .i64 t196] 24 (0, 0)) (by (with_reducible repeat (first | refine blk_drewN ?_ _ | refine blk_drew ?_ | refine blk_alloc ?_ _)); exact BK201.out) hb); have n8_ := Aside0.mk (blk_below (g := gb212) (o := .cells #[.slice Ao46 t203.length co46, .int .i64 t206, .int .i64 t207] 24 (0, 0)) (by (with_reducible repeat (first | refine blk_drewN ?_ _ | refine blk_drew ?_ | refine blk_alloc ?_ _)); exact BK212.out) hb); have n9_ := Aside0.mk (blk_below (g := gb222) (o := .cells #[.slice Ao52 t213.length co52, .int .i64 t216, .int .i64 t217] 24 (0, 0)) (by (with_reducible repeat (first | refine blk_drewN ?_ _ | refine blk_drew ?_ | refine blk_alloc ?_ _)); exact BK222.out) hb); have n10_ := Aside0.mk (below_step (by repeat (first | (with_reducible first | exact HB.out | apply below_alloc | apply pw_below_drewN | apply below_drew1 | refine below_set ?_ GE190.out | refine below_set ?_ GE201.out | refine below_set ?_ GE212.out | refine below_set ?_ GE222.out) | exact HB.out)) hb); clear HO189; clear HO194; clear HO205; clear HO215; clear BK190; clear BK201; clear BK212; clear BK222; clear HB; have HO189 := n0_; have HO194 := n1_; have HO205 := n2_; have HO215 := n3_; have HO227 := n4_; have HO232 := n5_; have BK190 := n6_; have BK201 := n7_; have BK212 := n8_; have BK222 := n9_; have HB := n10_; clear n0_ n1_ n2_ n3_ n4_ n5_ n6_ n7_ n8_ n9_ n10_; (try clear hb); (try clear hb2); (try clear hk); (try clear hi); (try clear ho0); (try clear ho1)) | ((with_reducible refine gate_dst (N := 13) rfl ?_); (try (refine gate_guard (by rfl) ?_; dsimp only)); refine box_event ?hg (N := 13) ?hd (cs := #[.slice none 0 0, .int .i64 0, .int .i64 0]) (t := 24) ?hr ?_; (case hd => rfl); (case hg => rfl); (case hr => first | (go_simp; done) | (go_simp; rfl)); intro gb234 hg w59 hbox hb; have n0_ := Aside0.mk (Kd.S_below (by (with_reducible repeat (first | apply Kd.S_alloc | apply Kd.S_drewN | apply Kd.S_drew)); exact HO189.out) hb); have n1_ := Aside0.mk (Kd.S_below (by (with_reducible repeat (first | apply Kd.S_alloc | apply Kd.S_drewN | apply Kd.S_drew)); exact HO194.out) hb); have n2_ := Aside0.mk (Kd.S_below (by (with_reducible repeat (first | apply Kd.S_alloc | apply Kd.S_drewN | apply Kd.S_drew)); exact HO205.out) hb); have n3_ := Aside0.mk (Kd.S_below (by (with_reducible repeat (first | apply Kd.S_alloc | apply Kd.S_drewN | apply Kd.S_drew)); exact HO215.out) hb); have n4_ := Aside0.mk (Kd.S_below (by (with_reducible repeat (first | apply Kd.S_alloc | apply Kd.S_drewN | apply Kd.S_drew)); exact HO227.out) hb); have n5_ := Aside0.mk (Kd.R_below (by (with_reducible repeat (first | apply Kd.R_alloc | apply Kd.R_drewN | apply Kd.R_drew)); exact HO232.out) hb); have n6_ := Aside0.mk (blk_below (g := gb190) (o := .cells #[.slice Ao32 y187.length co32, .int .i64 3, .int .i64 0] 24 (0, 0)) (by (with_reducible repeat (first | refine blk_drewN ?_ _ | refine blk_drew ?_ | refine blk_alloc ?_ _)); exact BK190.out) hb); have n7_ := Aside0.mk (blk_below (g := gb201) (o := .cells #[.slice Ao38 t192.length co38, .int .i64 t195, .int .i64 t196] 24 (0, 0)) (by (with_reducible repeat (first | refine blk_drewN ?_ _ | refine blk_drew ?_ | refine blk_alloc ?_ _)); exact BK201.out) hb); have n8_ := Aside0.mk (blk_below (g := gb212) (o := .cells #[.slice Ao46 t203.length co46, .int .i64 t206, .int .i64 t207] 24 (0, 0)) (by (with_reducible repeat (first | refine blk_drewN ?_ _ | refine blk_drew ?_ | refine blk_alloc ?_ _)); exact BK212.out) hb); have n9_ := Aside0.mk (blk_below (g := gb222) (o := .cells #[.slice Ao52 t213.length co52, .int .i64 t216, .int .i64 t217] 24 (0, 0)) (by (with_reducible repeat (first | refine blk_drewN ?_ _ | refine blk_drew ?_ | refine blk_alloc ?_ _)); exact BK222.out) hb); have n10_ := Aside0.mk (below_step (by repeat (first | (with_reducible first | exact HB.out | apply below_alloc | apply pw_below_drewN | apply below_drew1 | refine below_set ?_ GE190.out | refine below_set ?_ GE201.out | refine below_set ?_ GE212.out | refine below_set ?_ GE222.out) | exact HB.out)) hb); have n11_ := Aside0.mk (hbox); have n12_ := Aside0.mk ((by rw [hg]; exact (below_size (by repeat (first | (with_reducible first | exact HB.out | apply below_alloc | apply pw_below_drewN | apply below_drew1 | refine below_set ?_ GE190.out | refine below_set ?_ GE201.out | refine below_set ?_ GE212.out | refine below_set ?_ GE222.out) | exact HB.out))) : w.heap.size ≤ gb234)); have n13_ := Aside0.mk ((by rw [hg]; exact (below_size (by repeat (first | (with_reducible first | exact HB.out | apply below_alloc | apply pw_below_drewN | apply below_drew1 | refine below_set ?_ GE190.out | refine below_set ?_ GE201.out | refine below_set ?_ GE212.out | refine below_set ?_ GE222.out) | exact HB.out))) : w.heap.size ≤ gb234)); have n14_ := Aside0.mk ((by rw [hg]; exact Nat.ne_of_lt (blk_lt (g := gb190) (o := .cells #[.slice Ao32 y187.length co32, .int .i64 3, .int .i64 0] 24 (0, 0)) (by (with_reducible repeat (first | refine blk_drewN ?_ _ | refine blk_drew ?_ | refine blk_alloc ?_ _)); exact BK190.out)) : gb190 ≠ gb234)); have n15_ := Aside0.mk ((by rw [hg]; exact Nat.ne_of_gt (blk_lt (g := gb190) (o := .cells #[.slice Ao32 y187.length co32, .int .i64 3, .int .i64 0] 24 (0, 0)) (by (with_reducible repeat (first | refine blk_drewN ?_ _ | refine blk_drew ?_ | refine blk_alloc ?_ _)); exact BK190.out)) : gb234 ≠ gb190)); have n16_ := Aside0.mk ((by rw [hg]; exact Nat.ne_of_lt (blk_lt (g := gb201) (o := .cells #[.slice Ao38 t192.length co38, .int .i64 t195, .int .i64 t196] 24 (0, 0)) (by (with_reducible repeat (first | refine blk_drewN ?_ _ | refine blk_drew ?_ | refine blk_alloc ?_ _)); exact BK201.out)) : gb201 ≠ gb234)); have n17_ := Aside0.mk ((by rw [hg]; exact Nat.ne_of_gt (blk_lt (g := gb201) (o := .cells #[.slice Ao38 t192.length co38, .int .i64 t195, .int .i64 t196] 24 (0, 0)) (by (with_reducible repeat (first | refine blk_drewN ?_ _ | refine blk_drew ?_ | refine blk_alloc ?_ _)); exact BK201.out)) : gb234 ≠ gb201)); have n18_ := Aside0.mk ((by rw [hg]; exact Nat.ne_of_lt (blk_lt (g := gb212) (o := .cells #[.slice Ao46 t203.length co46, .int .i64 t206, .int .i64 t207] 24 (0, 0)) (by (with_reducible repeat (first | refine blk_drewN ?_ _ | refine blk_drew ?_ | refine blk_alloc ?_ _)); exact BK212.out)) : gb212 ≠ gb234)); have n19_ := Aside0.mk ((by rw [hg]; exact Nat.ne_of_gt (blk_lt (g := gb212) (o := .cells #[.slice Ao46 t203.length co46, .int .i64 t206, .int .i64 t207] 24 (0, 0)) (by (with_reducible repeat (first | refine blk_drewN ?_ _ | refine blk_drew ?_ | refine blk_alloc ?_ _)); exact BK212.out)) : gb234 ≠ gb212)); have n20_ := Aside0.mk ((by rw [hg]; exact Nat.ne_of_lt (blk_lt (g := gb222) (o := .cells #[.slice Ao52 t213.length co52, .int .i64 t216, .int .i64 t217] 24 (0, 0)) (by (with_reducible repeat (first | refine blk_drewN ?_ _ | refine blk_drew ?_ | refine blk_alloc ?_ _)); exact BK222.out)) : gb222 ≠ gb234)); have n21_ := Aside0.mk ((by rw [hg]; exact Nat.ne_of_gt (blk_lt (g := gb222) (o := .cells #[.slice Ao52 t213.length co52, .int .i64 t216, .int .i64 t217] 24 (0, 0)) (by (with_reducible repeat (first | refine blk_drewN ?_ _ | refine blk_drew ?_ | refine blk_alloc ?_ _)); exact BK222.out)) : gb234 ≠ gb222)); clear HO189; clear HO194; clear HO205; clear HO215; clear HO227; clear HO232; clear BK190; clear BK201; clear BK212; clear BK222; clear HB; have HO189 := n0_; have HO194 := n1_; have HO205 := n2_; have HO215 := n3_; have HO227 := n4_; have HO232 := n5_; have BK190 := n6_; have BK201 := n7_; have BK212 := n8_; have BK222 := n9_; have HB := n10_; have BK234 := n11_; have GW234 := n12_; have GE234 := n13_; have NB190_234 := n14_; have NB234_190 := n15_; have NB201_234 := n16_; have NB234_201 := n17_; have NB212_234 := n18_; have NB234_212 := n19_; have NB222_234 := n20_; have NB234_222 := n21_; clear n0_ n1_ n2_ n3_ n4_ n5_ n6_ n7_ n8_ n9_ n10_ n11_ n12_ n13_ n14_ n15_ n16_ n17_ n18_ n19_ n20_ n21_; clear hb hbox hg; obtain ⟨Ao60, co60, eo60⟩ := Kd.S_slice HO227.out; subst eo60; have hnb61 := NB234_190.out; have hnc61 := NB190_234.out; have hnb62 := NB234_201.out; have hnc62 := NB201_234.out; have hnb63 := NB234_212.out; have hnc63 := NB212_234.out; have hnb64 := NB234_222.out; have hnc64 := NB222_234.out; have hcz65_0 : w59.cell? ⟨gb234, 0, none⟩ = some (.slice none 0 0) := (blk_cell BK234.out 0).trans rfl; have hcz65_1 : w59.cell? ⟨gb234, 1, none⟩ = some (.int .i64 0) := (blk_cell BK234.out 1).trans rfl; have hcz65_2 : w59.cell? ⟨gb234, 2, none⟩ = some (.int .i64 0) := (blk_cell BK234.out 2).trans rfl; have hfz65_0 := blk_frozen BK234.out 0; have hfz65_1 := blk_frozen BK234.out 1; have hfz65_2 := blk_frozen BK234.out 2; have hcz66_0 : w59.cell? ⟨gb190, 0, none⟩ = some (.slice Ao32 y187.length co32) := (blk_cell BK190.out 0).trans rfl; have hcz66_1 : w59.cell? ⟨gb190, 1, none⟩ = some (.int .i64 3) := (blk_cell BK190.out 1).trans rfl; have hcz66_2 : w59.cell? ⟨gb190, 2, none⟩ = some (.int .i64 0) := (blk_cell BK190.out 2).trans rfl; have hfz66_0 := blk_frozen BK190.out 0; have hfz66_1 := blk_frozen BK190.out 1; have hfz66_2 := blk_frozen BK190.out 2) | ((with_reducible refine gate_dst (N := 90) rfl ?_); (try (refine gate_guard (by rfl) ?_; dsimp only)); refine Kd.R_lit (Kd.int .i64) _ 3 ?hg (N := 90) ?hd (xs := ([2] : List Int)) (inner := [.int .i64 2]) (ok := fun _ => True) (okp := fun _ => True) ?hr ?hp (fun _ hk => hk) trivial (Below.refl _ _) (Nat.le_refl _) (by simp) ?_; (case hd => rfl); (case hg => rfl); (case hr => first | (go_simp; done) | (go_simp; rfl)); (case hp => exact (Reps.one (show Kd.M (Kd.int .i64) _ _ _ 2 [.int .i64 2] from rfl) (Reps.none _ _))); intro v236 w67 ho68 hb hg_ hnew_; clear hg_ hnew_; (first | rw [← Ny235.out] at ho68 | (simp only [Int.reduceToNat] at ho68; rw [← Ny235.out] at ho68)); have n0_ := Aside0.mk (Kd.S_elder' (by (with_reducible repeat (first | apply Kd.S_alloc | apply Kd.S_drewN | apply Kd.S_drew)); exact (Kd.S_mono (Kd.S_far (p := ⟨gb234, 2, none⟩) (Kd.S_far (p := ⟨gb234, 1, none⟩) (Kd.S_far (p := ⟨gb234, 0, none⟩) (Kd.S_types HO189.out BK234.out (by decide)) (fun _ hk => hk.2) (.slice Ao60 t225.length co60)) (fun _ hk => hk.2) (.int .i64 t228)) (fun _ hk => hk.2) (.int .i64 t229)) (fun _ h_ => h_.1))) (Kd.R_base ho68) hb); have n1_ := Aside0.mk (Kd.S_elder' (by (with_reducible repeat (first | apply Kd.S_alloc | apply Kd.S_drewN | apply Kd.S_drew)); exact (Kd.S_mono (Kd.S_far (p := ⟨gb234, 2, none⟩) (Kd.S_far (p := ⟨gb234, 1, none⟩) (Kd.S_far (p := ⟨gb234, 0, none⟩) (Kd.S_types HO194.out BK234.out (by decide)) (fun _ hk => hk.2) (.slice Ao60 t225.length co60)) (fun _ hk => hk.2) (.int .i64 t228)) (fun _ hk => hk.2) (.int .i64 t229)) (fun _ h_ => h_.1))) (Kd.R_base ho68) hb); have n2_ := Aside0.mk (Kd.S_elder' (by (with_reducible repeat (first | apply Kd.S_alloc | apply Kd.S_drewN | apply Kd.S_drew)); exact (Kd.S_mono (Kd.S_far (p := ⟨gb234, 2, none⟩) (Kd.S_far (p := ⟨gb234, 1, none⟩) (Kd.S_far (p := ⟨gb234, 0, none⟩) (Kd.S_types HO205.out BK234.out (by decide)) (fun _ hk => hk.2) (.slice Ao60 t225.length co60)) (fun _ hk => hk.2) (.int .i64 t228)) (fun _ hk => hk.2) (.int .i64 t229)) (fun _ h_ => h_.1))) (Kd.R_base ho68) hb); have n3_ := Aside0.mk (Kd.S_elder' (by (with_reducible repeat (first | apply Kd.S_alloc | apply Kd.S_drewN | apply Kd.S_drew)); exact (Kd.S_mono (Kd.S_far (p := ⟨gb234, 2, none⟩) (Kd.S_far (p := ⟨gb234, 1, none⟩) (Kd.S_far (p := ⟨gb234, 0, none⟩) (Kd.S_types HO215.out BK234.out (by decide)) (fun _ hk => hk.2) (.slice Ao60 t225.length co60)) (fun _ hk => hk.2) (.int .i64 t228)) (fun _ hk => hk.2) (.int .i64 t229)) (fun _ h_ => h_.1))) (Kd.R_base ho68) hb); have n4_ := Aside0.mk (Kd.S_elder' (by (with_reducible repeat (first | apply Kd.S_alloc | apply Kd.S_drewN | apply Kd.S_drew)); exact (Kd.S_mono (Kd.S_far (p := ⟨gb234, 2, none⟩) (Kd.S_far (p := ⟨gb234, 1, none⟩) (Kd.S_far (p := ⟨gb234, 0, none⟩) (Kd.S_types HO227.out BK234.out (by decide)) (fun _ hk => hk.2) (.slice Ao60 t225.length co60)) (fun _ hk => hk.2) (.int .i64 t228)) (fun _ hk => hk.2) (.int .i64 t229)) (fun _ h_ => h_.1))) (Kd.R_base ho68) hb); have n5_ := Aside0.mk (Kd.R_lower ho68 (below_size (by repeat (first | (with_reducible first | exact HB.out | apply below_alloc | apply pw_below_drewN | apply below_drew1 | refine below_set ?_ GE190.out | refine below_set ?_ GE201.out | refine below_set ?_ GE212.out | refine below_set ?_ GE222.out | refine below_set ?_ GE234.out) | exact HB.out)))); have n6_ := Aside0.mk (blk_below (g := gb190) (o := .cells #[.slice Ao32 y187.length co32, .int .i64 3, .int .i64 0] 24 (0, 0)) (by (with_reducible repeat (first | refine blk_drewN ?_ _ | refine blk_drew ?_ | refine blk_alloc ?_ _)); refine blk_far ?_ NB190_234.out _; (with_reducible repeat (first | refine blk_drewN ?_ _ | refine blk_drew ?_ | refine blk_alloc ?_ _)); refine blk_far ?_ NB190_234.out _; (with_reducible repeat (first | refine blk_drewN ?_ _ | refine blk_drew ?_ | refine blk_alloc ?_ _)); refine blk_far ?_ NB190_234.out _; (with_reducible repeat (first | refine blk_drewN ?_ _ | refine blk_drew ?_ | refine blk_alloc ?_ _)); exact BK190.out) hb); have n7_ := Aside0.mk (blk_below (g := gb201) (o := .cells #[.slice Ao38 t192.length co38, .int .i64 t195, .int .i64 t196] 24 (0, 0)) (by (with_reducible repeat (first | refine blk_drewN ?_ _ | refine blk_drew ?_ | refine blk_alloc ?_ _)); refine blk_far ?_ NB201_234.out _; (with_reducible repeat (first | refine blk_drewN ?_ _ | refine blk_drew ?_ | refine blk_alloc ?_ _)); refine blk_far ?_ NB201_234.out _; (with_reducible repeat (first | refine blk_drewN ?_ _ | refine blk_drew ?_ | refine blk_alloc ?_ _)); refine blk_far ?_ NB201_234.out _; (with_reducible repeat (first | refine blk_drewN ?_ _ | refine blk_drew ?_ | refine blk_alloc ?_ _)); exact BK201.out) hb); have n8_ := Aside0.mk (blk_below (g := gb212) (o := .cells #[.slice Ao46 t203.length co46, .int .i64 t206, .int .i64 t207] 24 (0, 0)) (by (with_reducible repeat (first | refine blk_drewN ?_ _ | refine blk_drew ?_ | refine blk_alloc ?_ _)); refine blk_far ?_ NB212_234.out _; (with_reducible repeat (first | refine blk_drewN ?_ _ | refine blk_drew ?_ | refine blk_alloc ?_ _)); refine blk_far ?_ NB212_234.out _; (with_reducible repeat (first | refine blk_drewN ?_ _ | refine blk_drew ?_ | refine blk_alloc ?_ _)); refine blk_far ?_ NB212_234.out _; (with_reducible repeat (first | refine blk_drewN ?_ _ | refine blk_drew ?_ | refine blk_alloc ?_ _)); exact BK212.out) hb); have n9_ := Aside0.mk (blk_below (g := gb222) (o := .cells #[.slice Ao52 t213.length co52, .int .i64 t216, .int .i64 t217] 24 (0, 0)) (by (with_reducible repeat (first | refine blk_drewN ?_ _ | refine blk_drew ?_ | refine blk_alloc ?_ _)); refine blk_far ?_ NB222_234.out _; (with_reducible repeat (first | refine blk_drewN ?_ _ | refine blk_drew ?_ | refine blk_alloc ?_ _)); refine blk_far ?_ NB222_234.out _; (with_reducible repeat (first | refine blk_drewN ?_ _ | refine blk_drew ?_ | refine blk_alloc ?_ _)); refine blk_far ?_ NB222_234.out _; (with_reducible repeat (first | refine blk_drewN ?_ _ | refine blk_drew ?_ | refine blk_alloc ?_ _)); exact BK222.out) hb); have n10_ := Aside0.mk (blk_below (g := gb234) (o := .cells #[.slice Ao60 t225.length co60, .int .i64 t228, .int .i64 t229] 24 (0, 0)) (by (with_reducible repeat (first | refine blk_drewN ?_ _ | refine blk_drew ?_ | refine blk_alloc ?_ _)); refine blk_put (cs := #[.slice Ao60 t225.length co60, .int .i64 t228, .int .i64 0]) ?_ 2 _ rfl; (with_reducible repeat (first | refine blk_drewN ?_ _ | refine blk_drew ?_ | refine blk_alloc ?_ _)); refine blk_put (cs := #[.slice Ao60 t225.length co60, .int .i64 0, .int .i64 0]) ?_ 1 _ rfl; (with_reducible repeat (first | refine blk_drewN ?_ _ | refine blk_drew ?_ | refine blk_alloc ?_ _)); refine blk_put (cs := #[.slice none 0 0, .int .i64 0, .int .i64 0]) ?_ 0 _ rfl; (with_reducible repeat (first | refine blk_drewN ?_ _ | refine blk_drew ?_ | refine blk_alloc ?_ _)); exact BK234.out) hb); have n11_ := Aside0.mk (below_step (by repeat (first | (with_reducible first | exact HB.out | apply below_alloc | apply pw_below_drewN | apply below_drew1 | refine below_set ?_ GE190.out | refine below_set ?_ GE201.out | refine below_set ?_ GE212.out | refine below_set ?_ GE222.out | refine below_set ?_ GE234.out) | exact HB.out)) hb); clear HO189; clear HO194; clear HO205; clear HO215; clear HO227; clear BK190; clear BK201; clear BK212; clear BK222; clear BK234; clear HB; have HO189 := n0_; have HO194 := n1_; have HO205 := n2_; have HO215 := n3_; have HO227 := n4_; have HO237 := n5_; have BK190 := n6_; have BK201 := n7_; have BK212 := n8_; have BK222 := n9_; have BK234 := n10_; have HB := n11_; clear n0_ n1_ n2_ n3_ n4_ n5_ n6_ n7_ n8_ n9_ n10_ n11_; clear hb ho68; obtain ⟨Ao69, co69, eo69⟩ := Kd.R_slice HO237.out; subst eo69) | (go_at_call 12; (with_reducible refine (snap_Encode.calls k _ _ y187 3 0 _ _ y235 t238 _ ?side1 ?side2 ?side3 ?side4 A27.out).mono ?_); (case side1 => repeat (first | exact (Kd.S_reads' HO189.out).2.2 | (with_reducible refine Kd.C_alloc ?_ _) | (with_reducible refine Kd.C_drewN ?_ _) | (with_reducible refine Kd.C_drew ?_))); (case side2 => exact (Kd.S_reads' HO189.out).2.1); (case side3 => repeat (first | exact (Kd.R_reads' HO237.out).2.2 | (with_reducible refine Kd.C_alloc ?_ _) | (with_reducible refine Kd.C_drewN ?_ _) | (with_reducible refine Kd.C_drew ?_))); (case side4 => exact (Kd.R_reads' HO237.out).2.1); rintro e w70 ⟨rfl, hb⟩; have n0_ := Aside0.mk (Kd.S_below (by (with_reducible repeat (first | apply Kd.S_alloc | apply Kd.S_drewN | apply Kd.S_drew)); exact HO189.out) hb); have n1_ := Aside0.mk (Kd.S_below (by (with_reducible repeat (first | apply Kd.S_alloc | apply Kd.S_drewN | apply Kd.S_drew)); exact HO194.out) hb); have n2_ := Aside0.mk (Kd.S_below (by (with_reducible repeat (first | apply Kd.S_alloc | apply Kd.S_drewN | apply Kd.S_drew)); exact HO205.out) hb); have n3_ := Aside0.mk (Kd.S_below (by (with_reducible repeat (first | apply Kd.S_alloc | apply Kd.S_drewN | apply Kd.S_drew)); exact HO215.out) hb); have n4_ := Aside0.mk (Kd.S_below (by (with_reducible repeat (first | apply Kd.S_alloc | apply Kd.S_drewN | apply Kd.S_drew)); exact HO227.out) hb); have n5_ := Aside0.mk (Kd.R_below (by (with_reducible repeat (first | apply Kd.R_alloc | apply Kd.R_drewN | apply Kd.R_drew)); exact HO237.out) hb); have n6_ := Aside0.mk (blk_below (g := gb190) (o := .cells #[.slice Ao32 y187.length co32, .int .i64 3, .int .i64 0] 24 (0, 0)) (by (with_reducible repeat (first | refine blk_drewN ?_ _ | refine blk_drew ?_ | refine blk_alloc ?_ _)); exact BK190.out) hb); have n7_ := Aside0.mk (blk_below (g := gb201) (o := .cells #[.slice Ao38 t192.length co38, .int .i64 t195, .int .i64 t196] 24 (0, 0)) (by (with_reducible repeat (first | refine blk_drewN ?_ _ | refine blk_drew ?_ | refine blk_alloc ?_ _)); exact BK201.out) hb); have n8_ := Aside0.mk (blk_below (g := gb212) (o := .cells #[.slice Ao46 t203.length co46, .int .i64 t206, .int .i64 t207] 24 (0, 0)) (by (with_reducible repeat (first | refine blk_drewN ?_ _ | refine blk_drew ?_ | refine blk_alloc ?_ _)); exact BK212.out) hb); have n9_ := Aside0.mk (blk_below (g := gb222) (o := .cells #[.slice Ao52 t213.length co52, .int .i64 t216, .int .i64 t217] 24 (0, 0)) (by (with_reducible repeat (first | refine blk_drewN ?_ _ | refine blk_drew ?_ | refine blk_alloc ?_ _)); exact BK222.out) hb); have n10_ := Aside0.mk (blk_below (g := gb234) (o := .cells #[.slice Ao60 t225.length co60, .int .i64 t228, .int .i64 t229] 24 (0, 0)) (by (with_reducible repeat (first | refine blk_drewN ?_ _ | refine blk_drew ?_ | refine blk_alloc ?_ _)); exact BK234.out) hb); have n11_ := Aside0.mk (below_step (by repeat (first | (with_reducible first | exact HB.out | apply below_alloc | apply pw_below_drewN | apply below_drew1 | refine below_set ?_ GE190.out | refine below_set ?_ GE201.out | refine below_set ?_ GE212.out | refine below_set ?_ GE222.out | refine below_set ?_ GE234.out) | exact HB.out)) hb); clear HO189; clear HO194; clear HO205; clear HO215; clear HO227; clear HO237; clear BK190; clear BK201; clear BK212; clear BK222; clear BK234; clear HB; have HO189 := n0_; have HO194 := n1_; have HO205 := n2_; have HO215 := n3_; have HO227 := n4_; have HO237 := n5_; have BK190 := n6_; have BK201 := n7_; have BK212 := n8_; have BK222 := n9_; have BK234 := n10_; have HB := n11_; clear n0_ n1_ n2_ n3_ n4_ n5_ n6_ n7_ n8_ n9_ n10_ n11_; (try clear hb); (try clear hb2); (try clear hk); (try clear hi)) | (go_at_call 12; (refine (snap_Encode.calls k _ _ ([] : List (S41)) 0 0 _ _ ([] : List Int) t239 _ ?side1 ?side2 ?side3 ?side4 A29.out).mono ?_); (case side1 => exact Kd.C_nil _ _); (case side2 => exact Nat.le_refl _); (case side3 => exact Kd.C_nil _ _); (case side4 => exact Nat.le_refl _); rintro e w71 ⟨rfl, hb⟩; have n0_ := Aside0.mk (Kd.S_below (by (with_reducible repeat (first | apply Kd.S_alloc | apply Kd.S_drewN | apply Kd.S_drew)); exact HO189.out) hb); have n1_ := Aside0.mk (Kd.S_below (by (with_reducible repeat (first | apply Kd.S_alloc | apply Kd.S_drewN | apply Kd.S_drew)); exact HO194.out) hb); have n2_ := Aside0.mk (Kd.S_below (by (with_reducible repeat (first | apply Kd.S_alloc | apply Kd.S_drewN | apply Kd.S_drew)); exact HO205.out) hb); have n3_ := Aside0.mk (Kd.S_below (by (with_reducible repeat (first | apply Kd.S_alloc | apply Kd.S_drewN | apply Kd.S_drew)); exact HO215.out) hb); have n4_ := Aside0.mk (Kd.S_below (by (with_reducible repeat (first | apply Kd.S_alloc | apply Kd.S_drewN | apply Kd.S_drew)); exact HO227.out) hb); have n5_ := Aside0.mk (Kd.R_below (by (with_reducible repeat (first | apply Kd.R_alloc | apply Kd.R_drewN | apply Kd.R_drew)); exact HO237.out) hb); have n6_ := Aside0.mk (blk_below (g := gb190) (o := .cells #[.slice Ao32 y187.length co32, .int .i64 3, .int .i64 0] 24 (0, 0)) (by (with_reducible repeat (first | refine blk_drewN ?_ _ | refine blk_drew ?_ | refine blk_alloc ?_ _)); exact BK190.out) hb); have n7_ := Aside0.mk (blk_below (g := gb201) (o := .cells #[.slice Ao38 t192.length co38, .int .i64 t195, .int .i64 t196] 24 (0, 0)) (by (with_reducible repeat (first | refine blk_drewN ?_ _ | refine blk_drew ?_ | refine blk_alloc ?_ _)); exact BK201.out) hb); have n8_ := Aside0.mk (blk_below (g := gb212) (o := .cells #[.slice Ao46 t203.length co46, .int .i64 t206, .int .i64 t207] 24 (0, 0)) (by (with_reducible repeat (first | refine blk_drewN ?_ _ | refine blk_drew ?_ | refine blk_alloc ?_ _)); exact BK212.out) hb); have n9_ := Aside0.mk (blk_below (g := gb222) (o := .cells #[.slice Ao52 t213.length co52, .int .i64 t216, .int .i64 t217] 24 (0, 0)) (by (with_reducible repeat (first | refine blk_drewN ?_ _ | refine blk_drew ?_ | refine blk_alloc ?_ _)); exact BK222.out) hb); have n10_ := Aside0.mk (blk_below (g := gb234) (o := .cells #[.slice Ao60 t225.length co60, .int .i64 t228, .int .i64 t229] 24 (0, 0)) (by (with_reducible repeat (first | refine blk_drewN ?_ _ | refine blk_drew ?_ | refine blk_alloc ?_ _)); exact BK234.out) hb); have n11_ := Aside0.mk (below_step (by repeat (first | (with_reducible first | exact HB.out | apply below_alloc | apply pw_below_drewN | apply below_drew1 | refine below_set ?_ GE190.out | refine below_set ?_ GE201.out | refine below_set ?_ GE212.out | refine below_set ?_ GE222.out | refine below_set ?_ GE234.out) | exact HB.out)) hb); clear HO189; clear HO194; clear HO205; clear HO215; clear HO227; clear HO237; clear BK190; clear BK201; clear BK212; clear BK222; clear BK234; clear HB; have HO189 := n0_; have HO194 := n1_; have HO205 := n2_; have HO215 := n3_; have HO227 := n4_; have HO237 := n5_; have BK190 := n6_; have BK201 := n7_; have BK212 := n8_; have BK222 := n9_; have BK234 := n10_; have HB := n11_; clear n0_ n1_ n2_ n3_ n4_ n5_ n6_ n7_ n8_ n9_ n10_ n11_; (try clear hb); (try clear hb2); (try clear hk); (try clear hi)))
                    go_ret
                    exact ⟨by first | rfl | (simp [errW_none, errW_some] <;> rfl) | (simp [*, errW_none, errW_some] <;> rfl), by repeat (first | (with_reducible first | exact HB.out | apply below_alloc | apply pw_below_drewN | apply below_drew1 | refine below_set ?_ GE190.out | refine below_set ?_ GE201.out | refine below_set ?_ GE212.out | refine below_set ?_ GE222.out | refine below_set ?_ GE234.out) | exact HB.out)⟩
                   ·rw [if_neg c28] at H
                    exact absurd H (by simp)
                  ·rw [if_neg c26] at H
                   exact absurd H (by simp)
                 ·rw [if_neg c25] at H
                  exact absurd H (by simp)
                ·rw [if_neg c24] at H
                 exact absurd H (by simp)
               ·rw [if_neg c22] at H
                exact absurd H (by simp)
              ·rw [if_neg c19] at H
               exact absurd H (by simp)
             ·rw [if_neg c18] at H
              exact absurd H (by simp)
            ·rw [if_neg c17] at H
             exact absurd H (by simp)
           ·rw [if_neg c16] at H
            exact absurd H (by simp)
          ·rw [if_neg c14] at H
           exact absurd H (by simp)
         ·rw [if_neg c12] at H
          exact absurd H (by simp)
        ·rw [if_neg c11] at H
         exact absurd H (by simp)
       ·rw [if_neg c10] at H
        exact absurd H (by simp)
      ·rw [if_neg c9] at H
       exact absurd H (by simp)
     ·rw [if_neg c8] at H
      exact absurd H (by simp)
    ·rw [if_neg c7] at H
     exact absurd H (by simp)
   ·replace c6 := Bool.eq_false_iff.mpr c6
    subst c6
    have H1 : (none) = some r := by rw [if_neg (show ¬ (false = true) by decide)] at H; exact H
    clear H
    have H := H1
    clear H1
    exact absurd H (by simp)
  ·rw [if_neg c4] at H
   exact absurd H (by simp)
 ·rw [if_neg c3] at H
  exact absurd H (by simp)
def anamnesisref01_N.f (a0 : Int) : Option (Int × Bool) := if (Int.tmod a0 2) = 0 then (some (0, false)) else (if a0 < (-2147483647) then (some (0, false)) else (if a0 > 2147483647 then (some (0, false)) else (some (wrap64 (Int.tdiv (wrap64 (a0 - 1)) 2), true))))
set_option maxHeartbeats 8000000 in
set_option maxRecDepth 100000 in
theorem anamnesisref01_N.calls (a0 : Int) (r1 : Int) (r2 : Bool) (w : World) (h : anamnesisref01_N.f a0 = some (r1, r2)) :
  Calls Try.prog 56 #[.int .i64 a0] w fun e w' => e = .returned (.tuple #[.int .i64 r1, .bool r2]) ∧ Drawn0 w w' := by
 have H : (if (Int.tmod a0 2) = 0 then (some (0, false)) else (if a0 < (-2147483647) then (some (0, false)) else (if a0 > 2147483647 then (some (0, false)) else (some (wrap64 (Int.tdiv (wrap64 (a0 - 1)) 2), true))))) = some (r1, r2) := h
 clear h
 by_cases c2 : (Int.tmod a0 2) = 0
 ·rw [if_pos c2] at H
  have c2b0 : ((Int.tmod a0 2) == 0) = true := beq_iff_eq.mpr c2
  have c2b1 : ((Int.tmod a0 2) != 0) = false := bne_eq_false_iff_eq.mpr c2
  clear c2
  simp only [Option.some.injEq, Prod.mk.injEq] at H
  obtain ⟨rfl, rfl⟩ := H
  go_enter Try.func56, Try.ntmps56
  go_wp2
  go_ret2
  exact ⟨by first | rfl | (simp; done) | (simp [*]; done), by repeat (first | exact Drawn0.refl _ | apply Drawn0.step)⟩
 ·rw [if_neg c2] at H
  have c2b0 : ((Int.tmod a0 2) == 0) = false := beq_eq_false_iff_ne.mpr c2
  have c2b1 : ((Int.tmod a0 2) != 0) = true := bne_iff_ne.mpr c2
  by_cases c3 : a0 < (-2147483647)
  ·rw [if_pos c3] at H
   have c3b0 : decide (a0 < (-2147483647)) = true := decide_eq_true c3
   clear c3
   simp only [Option.some.injEq, Prod.mk.injEq] at H
   obtain ⟨rfl, rfl⟩ := H
   go_enter Try.func56, Try.ntmps56
   go_wp2
   go_ret2
   exact ⟨by first | rfl | (simp; done) | (simp [*]; done), by repeat (first | exact Drawn0.refl _ | apply Drawn0.step)⟩
  ·rw [if_neg c3] at H
   have c3b0 : decide (a0 < (-2147483647)) = false := decide_eq_false c3
   clear c3
   by_cases c4 : a0 > 2147483647
   ·rw [if_pos c4] at H
    have c4b0 : decide (2147483647 < a0) = true := decide_eq_true c4
    clear c4
    simp only [Option.some.injEq, Prod.mk.injEq] at H
    obtain ⟨rfl, rfl⟩ := H
    go_enter Try.func56, Try.ntmps56
    go_wp2
    go_ret2
    exact ⟨by first | rfl | (simp; done) | (simp [*]; done), by repeat (first | exact Drawn0.refl _ | apply Drawn0.step)⟩
   ·rw [if_neg c4] at H
    have c4b0 : decide (2147483647 < a0) = false := decide_eq_false c4
    clear c4
    simp only [Option.some.injEq, Prod.mk.injEq] at H
    obtain ⟨rfl, rfl⟩ := H
    go_enter Try.func56, Try.ntmps56
    go_wp2
    go_ret2
    exact ⟨by first | rfl | (simp; done) | (simp [*]; done), by repeat (first | exact Drawn0.refl _ | apply Drawn0.step)⟩
def anamnesisref01_At.f (a0 : Int) : Option (Int × Bool) := if (Int.tmod a0 2) = 0 then (if a0 < 0 then (some (0, false)) else (if a0 > 2097150 then (some (0, false)) else (some (wrap64 (Int.tdiv a0 2), true)))) else (some (0, false))
set_option maxHeartbeats 8000000 in
set_option maxRecDepth 100000 in
theorem anamnesisref01_At.calls (a0 : Int) (r1 : Int) (r2 : Bool) (w : World) (h : anamnesisref01_At.f a0 = some (r1, r2)) :
  Calls Try.prog 69 #[.int .i64 a0] w fun e w' => e = .returned (.tuple #[.int .i64 r1, .bool r2]) ∧ Drawn0 w w' := by
 have H : (if (Int.tmod a0 2) = 0 then (if a0 < 0 then (some (0, false)) else (if a0 > 2097150 then (some (0, false)) else (some (wrap64 (Int.tdiv a0 2), true)))) else (some (0, false))) = some (r1, r2) := h
 clear h
 by_cases c2 : (Int.tmod a0 2) = 0
 ·rw [if_pos c2] at H
  have c2b0 : ((Int.tmod a0 2) == 0) = true := beq_iff_eq.mpr c2
  have c2b1 : ((Int.tmod a0 2) != 0) = false := bne_eq_false_iff_eq.mpr c2
  clear c2
  by_cases c3 : a0 < 0
  ·rw [if_pos c3] at H
   have c3b0 : decide (a0 < 0) = true := decide_eq_true c3
   clear c3
   simp only [Option.some.injEq, Prod.mk.injEq] at H
   obtain ⟨rfl, rfl⟩ := H
   go_enter Try.func69, Try.ntmps69
   go_wp2
   go_ret2
   exact ⟨by first | rfl | (simp; done) | (simp [*]; done), by repeat (first | exact Drawn0.refl _ | apply Drawn0.step)⟩
  ·rw [if_neg c3] at H
   have c3b0 : decide (a0 < 0) = false := decide_eq_false c3
   clear c3
   by_cases c4 : a0 > 2097150
   ·rw [if_pos c4] at H
    have c4b0 : decide (2097150 < a0) = true := decide_eq_true c4
    clear c4
    simp only [Option.some.injEq, Prod.mk.injEq] at H
    obtain ⟨rfl, rfl⟩ := H
    go_enter Try.func69, Try.ntmps69
    go_wp2
    go_ret2
    exact ⟨by first | rfl | (simp; done) | (simp [*]; done), by repeat (first | exact Drawn0.refl _ | apply Drawn0.step)⟩
   ·rw [if_neg c4] at H
    have c4b0 : decide (2097150 < a0) = false := decide_eq_false c4
    clear c4
    simp only [Option.some.injEq, Prod.mk.injEq] at H
    obtain ⟨rfl, rfl⟩ := H
    go_enter Try.func69, Try.ntmps69
    go_wp2
    go_ret2
    exact ⟨by first | rfl | (simp; done) | (simp [*]; done), by repeat (first | exact Drawn0.refl _ | apply Drawn0.step)⟩
 ·rw [if_neg c2] at H
  have c2b0 : ((Int.tmod a0 2) == 0) = false := beq_eq_false_iff_ne.mpr c2
  have c2b1 : ((Int.tmod a0 2) != 0) = true := bne_iff_ne.mpr c2
  simp only [Option.some.injEq, Prod.mk.injEq] at H
  obtain ⟨rfl, rfl⟩ := H
  go_enter Try.func69, Try.ntmps69
  go_wp2
  go_ret2
  exact ⟨by first | rfl | (simp; done) | (simp [*]; done), by repeat (first | exact Drawn0.refl _ | apply Drawn0.step)⟩
def anamnesisref03_Ref.f (l0_0 : List (S41)) (a0_1 : Int) (a0_2 : Int) (a1 : Int) : Option (Int) := (anamnesisref01_At.f a1).bind fun bt241 => (if bt241.2 = true then (if bt241.1 ≥ (l0_0.length : Int) then (some (-1)) else (some bt241.1)) else (some (-1)))
set_option maxHeartbeats 8000000 in
set_option maxRecDepth 100000 in
theorem anamnesisref03_Ref.calls (A0_0 : Option Addr) (c0_0 : Nat) (l0_0 : List (S41)) (a0_1 : Int) (a0_2 : Int) (a1 : Int) (r : Int) (w : World) (hr0_0 : Kd.C k41 w A0_0 l0_0.length l0_0) (hc0_0 : l0_0.length ≤ c0_0) (h : anamnesisref03_Ref.f l0_0 a0_1 a0_2 a1 = some r) :
  Calls Try.prog 57 #[.agg #[.slice A0_0 l0_0.length c0_0, .int .i64 a0_1, .int .i64 a0_2], .int .i64 a1] w fun e w' => e = .returned (.int .i64 r) ∧ Below w.heap.size w w' := by
 have hu24 := Try.underlying24
 have HR0_0 := Aside0.mk hr0_0
 have HC0_0 := Aside0.mk hc0_0
 clear hr0_0 hc0_0
 have HB := Aside0.mk (Below.refl w.heap.size w)
 have H : ((anamnesisref01_At.f a1).bind fun bt241 => (if bt241.2 = true then (if bt241.1 ≥ (l0_0.length : Int) then (some (-1)) else (some bt241.1)) else (some (-1)))) = some r := h
 clear h
 replace H := Option.bind_eq_some_iff.mp H
 obtain ⟨⟨t241, t242⟩, A30, H⟩ := H
 replace H : (if t242 = true then (if t241 ≥ (l0_0.length : Int) then (some (-1)) else (some t241)) else (some (-1))) = some r := H
 have A3 := Aside0.mk A30
 clear A30
 by_cases c4 : t242 = true
 ·subst c4
  have H1 : (if t241 ≥ (l0_0.length : Int) then (some (-1)) else (some t241)) = some r := by rw [if_pos rfl] at H; exact H
  clear H
  have H := H1
  clear H1
  by_cases c5 : t241 ≥ (l0_0.length : Int)
  ·rw [if_pos c5] at H
   have c5b0 : decide ((l0_0.length : Int) ≤ t241) = true := decide_eq_true c5
   clear c5
   obtain rfl := Option.some.inj H
   go_enter Try.func57, Try.ntmps57
   go_wp2_with (first | ((with_reducible refine gate_dst (N := 2) rfl ?_); (try (refine gate_guard (by rfl) ?_; dsimp only)); refine box_event ?hg (N := 2) ?hd (cs := #[.slice A0_0 l0_0.length c0_0, .int .i64 a0_1, .int .i64 a0_2]) (t := 24) ?hr ?_; (case hd => rfl); (case hg => rfl); (case hr => first | (go_simp; done) | (go_simp; rfl)); intro gb240 hg w6 hbox hb; have n0_ := Aside0.mk (below_step (by repeat (first | (with_reducible first | exact HB.out | apply below_alloc | apply pw_below_drewN | apply below_drew1) | exact HB.out)) hb); have n1_ := Aside0.mk (hbox); have n2_ := Aside0.mk ((by rw [hg]; exact (below_size (by repeat (first | (with_reducible first | exact HB.out | apply below_alloc | apply pw_below_drewN | apply below_drew1) | exact HB.out))) : w.heap.size ≤ gb240)); have n3_ := Aside0.mk ((by rw [hg]; exact (below_size (by repeat (first | (with_reducible first | exact HB.out | apply below_alloc | apply pw_below_drewN | apply below_drew1) | exact HB.out))) : w.heap.size ≤ gb240)); clear HB; have HB := n0_; have BK240 := n1_; have GW240 := n2_; have GE240 := n3_; clear n0_ n1_ n2_ n3_; clear hb hbox hg) | ((with_reducible refine gate_callee (f := 69) rfl ?_); refine goesL_ (some 9) rfl rfl Try.func69 (by kernel_rfl) rfl #[.int .i64 a1] rfl (by (try simp only [List.map_toArray, List.map_cons, List.map_nil]); first | done | rfl | (simp only [List.length_drop, List.length_take]; rfl)) ?_; (with_reducible refine (anamnesisref01_At.calls a1 t241 true _ A3.out).mono ?_); rintro e w' ⟨rfl, ⟨nd, rfl⟩⟩; refine ⟨_, rfl, ?_⟩; have hcz7_0 : w6.cell? ⟨gb240, 0, none⟩ = some (.slice A0_0 l0_0.length c0_0) := (blk_cell BK240.out 0).trans rfl; have hcz7_1 : w6.cell? ⟨gb240, 1, none⟩ = some (.int .i64 a0_1) := (blk_cell BK240.out 1).trans rfl; have hcz7_2 : w6.cell? ⟨gb240, 2, none⟩ = some (.int .i64 a0_2) := (blk_cell BK240.out 2).trans rfl; have hfz7_0 := blk_frozen BK240.out 0; have hfz7_1 := blk_frozen BK240.out 1; have hfz7_2 := blk_frozen BK240.out 2))
   go_ret
   exact ⟨by first | rfl | (simp [errW_none, errW_some] <;> rfl) | (simp [*, errW_none, errW_some] <;> rfl), by repeat (first | (with_reducible first | exact HB.out | apply below_alloc | apply pw_below_drewN | apply below_drew1 | refine below_set ?_ GE240.out) | exact HB.out)⟩
  ·rw [if_neg c5] at H
   have c5b0 : decide ((l0_0.length : Int) ≤ t241) = false := decide_eq_false c5
   clear c5
   obtain rfl := Option.some.inj H
   go_enter Try.func57, Try.ntmps57
   go_wp2_with (first | ((with_reducible refine gate_dst (N := 2) rfl ?_); (try (refine gate_guard (by rfl) ?_; dsimp only)); refine box_event ?hg (N := 2) ?hd (cs := #[.slice A0_0 l0_0.length c0_0, .int .i64 a0_1, .int .i64 a0_2]) (t := 24) ?hr ?_; (case hd => rfl); (case hg => rfl); (case hr => first | (go_simp; done) | (go_simp; rfl)); intro gb240 hg w8 hbox hb; have n0_ := Aside0.mk (below_step (by repeat (first | (with_reducible first | exact HB.out | apply below_alloc | apply pw_below_drewN | apply below_drew1) | exact HB.out)) hb); have n1_ := Aside0.mk (hbox); have n2_ := Aside0.mk ((by rw [hg]; exact (below_size (by repeat (first | (with_reducible first | exact HB.out | apply below_alloc | apply pw_below_drewN | apply below_drew1) | exact HB.out))) : w.heap.size ≤ gb240)); have n3_ := Aside0.mk ((by rw [hg]; exact (below_size (by repeat (first | (with_reducible first | exact HB.out | apply below_alloc | apply pw_below_drewN | apply below_drew1) | exact HB.out))) : w.heap.size ≤ gb240)); clear HB; have HB := n0_; have BK240 := n1_; have GW240 := n2_; have GE240 := n3_; clear n0_ n1_ n2_ n3_; clear hb hbox hg) | ((with_reducible refine gate_callee (f := 69) rfl ?_); refine goesL_ (some 9) rfl rfl Try.func69 (by kernel_rfl) rfl #[.int .i64 a1] rfl (by (try simp only [List.map_toArray, List.map_cons, List.map_nil]); first | done | rfl | (simp only [List.length_drop, List.length_take]; rfl)) ?_; (with_reducible refine (anamnesisref01_At.calls a1 t241 true _ A3.out).mono ?_); rintro e w' ⟨rfl, ⟨nd, rfl⟩⟩; refine ⟨_, rfl, ?_⟩; have hcz9_0 : w8.cell? ⟨gb240, 0, none⟩ = some (.slice A0_0 l0_0.length c0_0) := (blk_cell BK240.out 0).trans rfl; have hcz9_1 : w8.cell? ⟨gb240, 1, none⟩ = some (.int .i64 a0_1) := (blk_cell BK240.out 1).trans rfl; have hcz9_2 : w8.cell? ⟨gb240, 2, none⟩ = some (.int .i64 a0_2) := (blk_cell BK240.out 2).trans rfl; have hfz9_0 := blk_frozen BK240.out 0; have hfz9_1 := blk_frozen BK240.out 1; have hfz9_2 := blk_frozen BK240.out 2))
   go_ret
   exact ⟨by first | rfl | (simp [errW_none, errW_some] <;> rfl) | (simp [*, errW_none, errW_some] <;> rfl), by repeat (first | (with_reducible first | exact HB.out | apply below_alloc | apply pw_below_drewN | apply below_drew1 | refine below_set ?_ GE240.out) | exact HB.out)⟩
 ·replace c4 := Bool.eq_false_iff.mpr c4
  subst c4
  have H1 : (some (-1)) = some r := by rw [if_neg (show ¬ (false = true) by decide)] at H; exact H
  clear H
  have H := H1
  clear H1
  obtain rfl := Option.some.inj H
  go_enter Try.func57, Try.ntmps57
  go_wp2_with (first | ((with_reducible refine gate_dst (N := 2) rfl ?_); (try (refine gate_guard (by rfl) ?_; dsimp only)); refine box_event ?hg (N := 2) ?hd (cs := #[.slice A0_0 l0_0.length c0_0, .int .i64 a0_1, .int .i64 a0_2]) (t := 24) ?hr ?_; (case hd => rfl); (case hg => rfl); (case hr => first | (go_simp; done) | (go_simp; rfl)); intro gb240 hg w10 hbox hb; have n0_ := Aside0.mk (below_step (by repeat (first | (with_reducible first | exact HB.out | apply below_alloc | apply pw_below_drewN | apply below_drew1) | exact HB.out)) hb); have n1_ := Aside0.mk (hbox); have n2_ := Aside0.mk ((by rw [hg]; exact (below_size (by repeat (first | (with_reducible first | exact HB.out | apply below_alloc | apply pw_below_drewN | apply below_drew1) | exact HB.out))) : w.heap.size ≤ gb240)); have n3_ := Aside0.mk ((by rw [hg]; exact (below_size (by repeat (first | (with_reducible first | exact HB.out | apply below_alloc | apply pw_below_drewN | apply below_drew1) | exact HB.out))) : w.heap.size ≤ gb240)); clear HB; have HB := n0_; have BK240 := n1_; have GW240 := n2_; have GE240 := n3_; clear n0_ n1_ n2_ n3_; clear hb hbox hg) | ((with_reducible refine gate_callee (f := 69) rfl ?_); refine goesL_ (some 9) rfl rfl Try.func69 (by kernel_rfl) rfl #[.int .i64 a1] rfl (by (try simp only [List.map_toArray, List.map_cons, List.map_nil]); first | done | rfl | (simp only [List.length_drop, List.length_take]; rfl)) ?_; (with_reducible refine (anamnesisref01_At.calls a1 t241 false _ A3.out).mono ?_); rintro e w' ⟨rfl, ⟨nd, rfl⟩⟩; refine ⟨_, rfl, ?_⟩))
  go_ret
  exact ⟨by first | rfl | (simp [errW_none, errW_some] <;> rfl) | (simp [*, errW_none, errW_some] <;> rfl), by repeat (first | (with_reducible first | exact HB.out | apply below_alloc | apply pw_below_drewN | apply below_drew1 | refine below_set ?_ GE240.out) | exact HB.out)⟩
def anamnesisref03_Has.f (l0_0 : List (S41)) (a0_1 : Int) (a0_2 : Int) (a1 : Int) : Option (Bool) := (anamnesisref01_N.f a1).bind fun bt244 => (if bt244.2 = true then (some true) else ((anamnesisref03_Ref.f l0_0 a0_1 a0_2 a1).bind fun t246 => (some (decide (t246 ≥ 0)))))
set_option maxHeartbeats 8000000 in
set_option maxRecDepth 100000 in
theorem anamnesisref03_Has.calls (A0_0 : Option Addr) (c0_0 : Nat) (l0_0 : List (S41)) (a0_1 : Int) (a0_2 : Int) (a1 : Int) (r : Bool) (w : World) (hr0_0 : Kd.C k41 w A0_0 l0_0.length l0_0) (hc0_0 : l0_0.length ≤ c0_0) (h : anamnesisref03_Has.f l0_0 a0_1 a0_2 a1 = some r) :
  Calls Try.prog 37 #[.agg #[.slice A0_0 l0_0.length c0_0, .int .i64 a0_1, .int .i64 a0_2], .int .i64 a1] w fun e w' => e = .returned (.bool r) ∧ Below w.heap.size w w' := by
 have hu24 := Try.underlying24
 have HR0_0 := Aside0.mk hr0_0
 have HC0_0 := Aside0.mk hc0_0
 clear hr0_0 hc0_0
 have HB := Aside0.mk (Below.refl w.heap.size w)
 have H : ((anamnesisref01_N.f a1).bind fun bt244 => (if bt244.2 = true then (some true) else ((anamnesisref03_Ref.f l0_0 a0_1 a0_2 a1).bind fun t246 => (some (decide (t246 ≥ 0)))))) = some r := h
 clear h
 replace H := Option.bind_eq_some_iff.mp H
 obtain ⟨⟨t244, t245⟩, A30, H⟩ := H
 replace H : (if t245 = true then (some true) else ((anamnesisref03_Ref.f l0_0 a0_1 a0_2 a1).bind fun t246 => (some (decide (t246 ≥ 0))))) = some r := H
 have A3 := Aside0.mk A30
 clear A30
 by_cases c4 : t245 = true
 ·subst c4
  have H1 : (some true) = some r := by rw [if_pos rfl] at H; exact H
  clear H
  have H := H1
  clear H1
  obtain rfl := Option.some.inj H
  go_enter Try.func37, Try.ntmps37
  go_wp2_with (first | ((with_reducible refine gate_dst (N := 2) rfl ?_); refine box_event ?hg (N := 2) ?hd (cs := #[.slice A0_0 l0_0.length c0_0, .int .i64 a0_1, .int .i64 a0_2]) (t := 24) ?hr ?_; (case hd => rfl); (case hg => rfl); (case hr => first | (go_simp; done) | (go_simp; rfl)); intro gb243 hg w5 hbox hb; have n0_ := Aside0.mk (below_step (by repeat (first | (with_reducible first | exact HB.out | apply below_alloc | apply pw_below_drewN | apply below_drew1) | exact HB.out)) hb); have n1_ := Aside0.mk (hbox); have n2_ := Aside0.mk ((by rw [hg]; exact (below_size (by repeat (first | (with_reducible first | exact HB.out | apply below_alloc | apply pw_below_drewN | apply below_drew1) | exact HB.out))) : w.heap.size ≤ gb243)); have n3_ := Aside0.mk ((by rw [hg]; exact (below_size (by repeat (first | (with_reducible first | exact HB.out | apply below_alloc | apply pw_below_drewN | apply below_drew1) | exact HB.out))) : w.heap.size ≤ gb243)); clear HB; have HB := n0_; have BK243 := n1_; have GW243 := n2_; have GE243 := n3_; clear n0_ n1_ n2_ n3_; clear hb hbox hg) | ((with_reducible refine gate_callee (f := 56) rfl ?_); refine goesL_ (some 9) rfl rfl Try.func56 (by kernel_rfl) rfl #[.int .i64 a1] rfl (by (try simp only [List.map_toArray, List.map_cons, List.map_nil]); first | done | rfl | (simp only [List.length_drop, List.length_take]; rfl)) ?_; (with_reducible refine (anamnesisref01_N.calls a1 t244 true _ A3.out).mono ?_); rintro e w' ⟨rfl, ⟨nd, rfl⟩⟩; refine ⟨_, rfl, ?_⟩))
  go_ret
  exact ⟨by first | rfl | (simp [errW_none, errW_some] <;> rfl) | (simp [*, errW_none, errW_some] <;> rfl), by repeat (first | (with_reducible first | exact HB.out | apply below_alloc | apply pw_below_drewN | apply below_drew1 | refine below_set ?_ GE243.out) | exact HB.out)⟩
 ·replace c4 := Bool.eq_false_iff.mpr c4
  subst c4
  have H1 : ((anamnesisref03_Ref.f l0_0 a0_1 a0_2 a1).bind fun t246 => (some (decide (t246 ≥ 0)))) = some r := by rw [if_neg (show ¬ (false = true) by decide)] at H; exact H
  clear H
  have H := H1
  clear H1
  replace H := Option.bind_eq_some_iff.mp H
  obtain ⟨t246, A60, H⟩ := H
  replace H : (some (decide (t246 ≥ 0))) = some r := H
  have A6 := Aside0.mk A60
  clear A60
  obtain rfl := Option.some.inj H
  go_enter Try.func37, Try.ntmps37
  go_wp2_with (first | ((with_reducible refine gate_dst (N := 2) rfl ?_); refine box_event ?hg (N := 2) ?hd (cs := #[.slice A0_0 l0_0.length c0_0, .int .i64 a0_1, .int .i64 a0_2]) (t := 24) ?hr ?_; (case hd => rfl); (case hg => rfl); (case hr => first | (go_simp; done) | (go_simp; rfl)); intro gb243 hg w7 hbox hb; have n0_ := Aside0.mk (below_step (by repeat (first | (with_reducible first | exact HB.out | apply below_alloc | apply pw_below_drewN | apply below_drew1) | exact HB.out)) hb); have n1_ := Aside0.mk (hbox); have n2_ := Aside0.mk ((by rw [hg]; exact (below_size (by repeat (first | (with_reducible first | exact HB.out | apply below_alloc | apply pw_below_drewN | apply below_drew1) | exact HB.out))) : w.heap.size ≤ gb243)); have n3_ := Aside0.mk ((by rw [hg]; exact (below_size (by repeat (first | (with_reducible first | exact HB.out | apply below_alloc | apply pw_below_drewN | apply below_drew1) | exact HB.out))) : w.heap.size ≤ gb243)); clear HB; have HB := n0_; have BK243 := n1_; have GW243 := n2_; have GE243 := n3_; clear n0_ n1_ n2_ n3_; clear hb hbox hg) | ((with_reducible refine gate_callee (f := 56) rfl ?_); refine goesL_ (some 9) rfl rfl Try.func56 (by kernel_rfl) rfl #[.int .i64 a1] rfl (by (try simp only [List.map_toArray, List.map_cons, List.map_nil]); first | done | rfl | (simp only [List.length_drop, List.length_take]; rfl)) ?_; (with_reducible refine (anamnesisref01_N.calls a1 t244 false _ A3.out).mono ?_); rintro e w' ⟨rfl, ⟨nd, rfl⟩⟩; refine ⟨_, rfl, ?_⟩; have hcz8_0 : w7.cell? ⟨gb243, 0, none⟩ = some (.slice A0_0 l0_0.length c0_0) := (blk_cell BK243.out 0).trans rfl; have hcz8_1 : w7.cell? ⟨gb243, 1, none⟩ = some (.int .i64 a0_1) := (blk_cell BK243.out 1).trans rfl; have hcz8_2 : w7.cell? ⟨gb243, 2, none⟩ = some (.int .i64 a0_2) := (blk_cell BK243.out 2).trans rfl; have hfz8_0 := blk_frozen BK243.out 0; have hfz8_1 := blk_frozen BK243.out 1; have hfz8_2 := blk_frozen BK243.out 2) | (go_at_call 57; (with_reducible refine (anamnesisref03_Ref.calls _ _ l0_0 a0_1 a0_2 a1 t246 _ ?side1 ?side2 A6.out).mono ?_); (case side1 => repeat (first | exact (Kd.C_below HR0_0.out (by repeat (first | (with_reducible first | exact HB.out | apply below_alloc | apply pw_below_drewN | apply below_drew1 | refine below_set ?_ GE243.out) | exact HB.out))) | (with_reducible refine Kd.C_alloc ?_ _) | (with_reducible refine Kd.C_drewN ?_ _) | (with_reducible refine Kd.C_drew ?_))); (case side2 => exact HC0_0.out); rintro e w9 ⟨rfl, hb⟩; have n0_ := Aside0.mk (blk_below (g := gb243) (o := .cells #[.slice A0_0 l0_0.length c0_0, .int .i64 a0_1, .int .i64 a0_2] 24 (0, 0)) (by (with_reducible repeat (first | refine blk_drewN ?_ _ | refine blk_drew ?_ | refine blk_alloc ?_ _)); exact BK243.out) hb); have n1_ := Aside0.mk (below_step (by repeat (first | (with_reducible first | exact HB.out | apply below_alloc | apply pw_below_drewN | apply below_drew1 | refine below_set ?_ GE243.out) | exact HB.out)) hb); clear BK243; clear HB; have BK243 := n0_; have HB := n1_; clear n0_ n1_; (try clear hb); (try clear hb2); (try clear hk); (try clear hi)))
  go_ret
  exact ⟨by first | rfl | (simp [errW_none, errW_some] <;> rfl) | (simp [*, errW_none, errW_some] <;> rfl), by repeat (first | (with_reducible first | exact HB.out | apply below_alloc | apply pw_below_drewN | apply below_drew1 | refine below_set ?_ GE243.out) | exact HB.out)⟩
def anamnesisref03_hash.f (a0 : Int) : Option (Bool) := if a0 ≥ 0 then (some (decide (a0 < 1073741824))) else (some false)
set_option maxHeartbeats 8000000 in
set_option maxRecDepth 100000 in
theorem anamnesisref03_hash.calls (a0 : Int) (r : Bool) (w : World) (h : anamnesisref03_hash.f a0 = some r) :
  Calls Try.prog 39 #[.int .i64 a0] w fun e w' => e = .returned (.bool r) ∧ Drawn0 w w' := by
 have H : (if a0 ≥ 0 then (some (decide (a0 < 1073741824))) else (some false)) = some r := h
 clear h
 by_cases c2 : a0 ≥ 0
 ·rw [if_pos c2] at H
  have c2b0 : decide (0 ≤ a0) = true := decide_eq_true c2
  clear c2
  obtain rfl := Option.some.inj H
  go_enter Try.func39, Try.ntmps39
  go_wp2
  go_ret
  exact ⟨by first | rfl | (simp; done) | (simp [*]; done), by repeat (first | exact Drawn0.refl _ | apply Drawn0.step)⟩
 ·rw [if_neg c2] at H
  have c2b0 : decide (0 ≤ a0) = false := decide_eq_false c2
  clear c2
  obtain rfl := Option.some.inj H
  go_enter Try.func39, Try.ntmps39
  go_wp2
  go_ret
  exact ⟨by first | rfl | (simp; done) | (simp [*]; done), by repeat (first | exact Drawn0.refl _ | apply Drawn0.step)⟩
def anamnesisref02_most.f  : Option (Int) := some 9223372036854775807
set_option maxHeartbeats 8000000 in
set_option maxRecDepth 100000 in
theorem anamnesisref02_most.calls  (r : Int) (w : World) (h : anamnesisref02_most.f  = some r) :
  Calls Try.prog 83 #[] w fun e w' => e = .returned (.int .i64 r) ∧ Drawn0 w w' := by
 have H : (some 9223372036854775807) = some r := h
 clear h
 obtain rfl := Option.some.inj H
 go_enter Try.func83, Try.ntmps83
 go_wp2
 go_ret
 exact ⟨by first | rfl | (simp; done) | (simp [*]; done), by repeat (first | exact Drawn0.refl _ | apply Drawn0.step)⟩
def anamnesisref02_plain.f (a0 : Int) : Option (Int) := (anamnesisref02_most.f).bind fun t247 => (some (Go.bits .and .i64 a0 t247))
set_option maxHeartbeats 8000000 in
set_option maxRecDepth 100000 in
theorem anamnesisref02_plain.calls (a0 : Int) (r : Int) (w : World) (h : anamnesisref02_plain.f a0 = some r) :
  Calls Try.prog 79 #[.int .i64 a0] w fun e w' => e = .returned (.int .i64 r) ∧ Drawn0 w w' := by
 have H : ((anamnesisref02_most.f).bind fun t247 => (some (Go.bits .and .i64 a0 t247))) = some r := h
 clear h
 replace H := Option.bind_eq_some_iff.mp H
 obtain ⟨t247, A20, H⟩ := H
 replace H : (some (Go.bits .and .i64 a0 t247)) = some r := H
 have A2 := Aside0.mk A20
 clear A20
 obtain rfl := Option.some.inj H
 go_enter Try.func79, Try.ntmps79
 go_wp2_with (first | ((with_reducible refine gate_callee (f := 83) rfl ?_); refine goesL_ (some 4) rfl rfl Try.func83 (by kernel_rfl) rfl #[] rfl (by (try simp only [List.map_toArray, List.map_cons, List.map_nil]); first | done | rfl | (simp only [List.length_drop, List.length_take]; rfl)) ?_; (with_reducible refine (anamnesisref02_most.calls  t247 _ A2.out).mono ?_); rintro e w' ⟨rfl, ⟨nd, rfl⟩⟩; refine ⟨_, rfl, ?_⟩))
 go_ret
 exact ⟨by first | rfl | (simp; done) | (simp [*]; done), by repeat (first | exact Drawn0.refl _ | apply Drawn0.step)⟩
def anamnesisref02_Kind.f (a0 : Int) : Option (Int) := (anamnesisref02_plain.f a0).bind fun t248 => ((anamnesisref02_plain.f a0).bind fun t249 => (if (t248 / 4503599627370496) = 2047 then (if (Int.tmod t249 4503599627370496) = 0 then (some 1) else (some 0)) else (if (t248 / 4503599627370496) > 0 then (some 4) else (if (Int.tmod t249 4503599627370496) > 0 then (some 3) else (some 2)))))
set_option maxHeartbeats 8000000 in
set_option maxRecDepth 100000 in
theorem anamnesisref02_Kind.calls (a0 : Int) (r : Int) (w : World) (h : anamnesisref02_Kind.f a0 = some r) :
  Calls Try.prog 70 #[.int .i64 a0] w fun e w' => e = .returned (.int .i64 r) ∧ Drawn0 w w' := by
 have H : ((anamnesisref02_plain.f a0).bind fun t248 => ((anamnesisref02_plain.f a0).bind fun t249 => (if (t248 / 4503599627370496) = 2047 then (if (Int.tmod t249 4503599627370496) = 0 then (some 1) else (some 0)) else (if (t248 / 4503599627370496) > 0 then (some 4) else (if (Int.tmod t249 4503599627370496) > 0 then (some 3) else (some 2)))))) = some r := h
 clear h
 replace H := Option.bind_eq_some_iff.mp H
 obtain ⟨t248, A20, H⟩ := H
 replace H : ((anamnesisref02_plain.f a0).bind fun t249 => (if (t248 / 4503599627370496) = 2047 then (if (Int.tmod t249 4503599627370496) = 0 then (some 1) else (some 0)) else (if (t248 / 4503599627370496) > 0 then (some 4) else (if (Int.tmod t249 4503599627370496) > 0 then (some 3) else (some 2))))) = some r := H
 have A2 := Aside0.mk A20
 clear A20
 replace H := Option.bind_eq_some_iff.mp H
 obtain ⟨t249, A30, H⟩ := H
 replace H : (if (t248 / 4503599627370496) = 2047 then (if (Int.tmod t249 4503599627370496) = 0 then (some 1) else (some 0)) else (if (t248 / 4503599627370496) > 0 then (some 4) else (if (Int.tmod t249 4503599627370496) > 0 then (some 3) else (some 2)))) = some r := H
 have A3 := Aside0.mk A30
 clear A30
 by_cases c4 : (t248 / 4503599627370496) = 2047
 ·rw [if_pos c4] at H
  have c4b0 : ((t248 / 4503599627370496) == 2047) = true := beq_iff_eq.mpr c4
  have c4b1 : ((t248 / 4503599627370496) != 2047) = false := bne_eq_false_iff_eq.mpr c4
  clear c4
  by_cases c5 : (Int.tmod t249 4503599627370496) = 0
  ·rw [if_pos c5] at H
   have c5b0 : ((Int.tmod t249 4503599627370496) == 0) = true := beq_iff_eq.mpr c5
   have c5b1 : ((Int.tmod t249 4503599627370496) != 0) = false := bne_eq_false_iff_eq.mpr c5
   clear c5
   obtain rfl := Option.some.inj H
   go_enter Try.func70, Try.ntmps70
   go_wp2_with (first | ((with_reducible refine gate_callee (f := 79) rfl ?_); refine goesL_ (some 6) rfl rfl Try.func79 (by kernel_rfl) rfl #[.int .i64 a0] rfl (by (try simp only [List.map_toArray, List.map_cons, List.map_nil]); first | done | rfl | (simp only [List.length_drop, List.length_take]; rfl)) ?_; (with_reducible refine (anamnesisref02_plain.calls a0 t248 _ A2.out).mono ?_); rintro e w' ⟨rfl, ⟨nd, rfl⟩⟩; refine ⟨_, rfl, ?_⟩) | ((with_reducible refine gate_callee (f := 79) rfl ?_); refine goesL_ (some 9) rfl rfl Try.func79 (by kernel_rfl) rfl #[.int .i64 a0] rfl (by (try simp only [List.map_toArray, List.map_cons, List.map_nil]); first | done | rfl | (simp only [List.length_drop, List.length_take]; rfl)) ?_; (with_reducible refine (anamnesisref02_plain.calls a0 t249 _ A3.out).mono ?_); rintro e w' ⟨rfl, ⟨nd, rfl⟩⟩; refine ⟨_, rfl, ?_⟩))
   go_ret
   exact ⟨by first | rfl | (simp; done) | (simp [*]; done), by repeat (first | exact Drawn0.refl _ | apply Drawn0.step)⟩
  ·rw [if_neg c5] at H
   have c5b0 : ((Int.tmod t249 4503599627370496) == 0) = false := beq_eq_false_iff_ne.mpr c5
   have c5b1 : ((Int.tmod t249 4503599627370496) != 0) = true := bne_iff_ne.mpr c5
   obtain rfl := Option.some.inj H
   go_enter Try.func70, Try.ntmps70
   go_wp2_with (first | ((with_reducible refine gate_callee (f := 79) rfl ?_); refine goesL_ (some 6) rfl rfl Try.func79 (by kernel_rfl) rfl #[.int .i64 a0] rfl (by (try simp only [List.map_toArray, List.map_cons, List.map_nil]); first | done | rfl | (simp only [List.length_drop, List.length_take]; rfl)) ?_; (with_reducible refine (anamnesisref02_plain.calls a0 t248 _ A2.out).mono ?_); rintro e w' ⟨rfl, ⟨nd, rfl⟩⟩; refine ⟨_, rfl, ?_⟩) | ((with_reducible refine gate_callee (f := 79) rfl ?_); refine goesL_ (some 9) rfl rfl Try.func79 (by kernel_rfl) rfl #[.int .i64 a0] rfl (by (try simp only [List.map_toArray, List.map_cons, List.map_nil]); first | done | rfl | (simp only [List.length_drop, List.length_take]; rfl)) ?_; (with_reducible refine (anamnesisref02_plain.calls a0 t249 _ A3.out).mono ?_); rintro e w' ⟨rfl, ⟨nd, rfl⟩⟩; refine ⟨_, rfl, ?_⟩))
   go_ret
   exact ⟨by first | rfl | (simp; done) | (simp [*]; done), by repeat (first | exact Drawn0.refl _ | apply Drawn0.step)⟩
 ·rw [if_neg c4] at H
  have c4b0 : ((t248 / 4503599627370496) == 2047) = false := beq_eq_false_iff_ne.mpr c4
  have c4b1 : ((t248 / 4503599627370496) != 2047) = true := bne_iff_ne.mpr c4
  by_cases c6 : (t248 / 4503599627370496) > 0
  ·rw [if_pos c6] at H
   have c6b0 : decide (0 < (t248 / 4503599627370496)) = true := decide_eq_true c6
   clear c6
   obtain rfl := Option.some.inj H
   go_enter Try.func70, Try.ntmps70
   go_wp2_with (first | ((with_reducible refine gate_callee (f := 79) rfl ?_); refine goesL_ (some 6) rfl rfl Try.func79 (by kernel_rfl) rfl #[.int .i64 a0] rfl (by (try simp only [List.map_toArray, List.map_cons, List.map_nil]); first | done | rfl | (simp only [List.length_drop, List.length_take]; rfl)) ?_; (with_reducible refine (anamnesisref02_plain.calls a0 t248 _ A2.out).mono ?_); rintro e w' ⟨rfl, ⟨nd, rfl⟩⟩; refine ⟨_, rfl, ?_⟩) | ((with_reducible refine gate_callee (f := 79) rfl ?_); refine goesL_ (some 9) rfl rfl Try.func79 (by kernel_rfl) rfl #[.int .i64 a0] rfl (by (try simp only [List.map_toArray, List.map_cons, List.map_nil]); first | done | rfl | (simp only [List.length_drop, List.length_take]; rfl)) ?_; (with_reducible refine (anamnesisref02_plain.calls a0 t249 _ A3.out).mono ?_); rintro e w' ⟨rfl, ⟨nd, rfl⟩⟩; refine ⟨_, rfl, ?_⟩))
   go_ret
   exact ⟨by first | rfl | (simp; done) | (simp [*]; done), by repeat (first | exact Drawn0.refl _ | apply Drawn0.step)⟩
  ·rw [if_neg c6] at H
   have c6b0 : decide (0 < (t248 / 4503599627370496)) = false := decide_eq_false c6
   clear c6
   by_cases c7 : (Int.tmod t249 4503599627370496) > 0
   ·rw [if_pos c7] at H
    have c7b0 : decide (0 < (Int.tmod t249 4503599627370496)) = true := decide_eq_true c7
    clear c7
    obtain rfl := Option.some.inj H
    go_enter Try.func70, Try.ntmps70
    go_wp2_with (first | ((with_reducible refine gate_callee (f := 79) rfl ?_); refine goesL_ (some 6) rfl rfl Try.func79 (by kernel_rfl) rfl #[.int .i64 a0] rfl (by (try simp only [List.map_toArray, List.map_cons, List.map_nil]); first | done | rfl | (simp only [List.length_drop, List.length_take]; rfl)) ?_; (with_reducible refine (anamnesisref02_plain.calls a0 t248 _ A2.out).mono ?_); rintro e w' ⟨rfl, ⟨nd, rfl⟩⟩; refine ⟨_, rfl, ?_⟩) | ((with_reducible refine gate_callee (f := 79) rfl ?_); refine goesL_ (some 9) rfl rfl Try.func79 (by kernel_rfl) rfl #[.int .i64 a0] rfl (by (try simp only [List.map_toArray, List.map_cons, List.map_nil]); first | done | rfl | (simp only [List.length_drop, List.length_take]; rfl)) ?_; (with_reducible refine (anamnesisref02_plain.calls a0 t249 _ A3.out).mono ?_); rintro e w' ⟨rfl, ⟨nd, rfl⟩⟩; refine ⟨_, rfl, ?_⟩))
    go_ret
    exact ⟨by first | rfl | (simp; done) | (simp [*]; done), by repeat (first | exact Drawn0.refl _ | apply Drawn0.step)⟩
   ·rw [if_neg c7] at H
    have c7b0 : decide (0 < (Int.tmod t249 4503599627370496)) = false := decide_eq_false c7
    clear c7
    obtain rfl := Option.some.inj H
    go_enter Try.func70, Try.ntmps70
    go_wp2_with (first | ((with_reducible refine gate_callee (f := 79) rfl ?_); refine goesL_ (some 6) rfl rfl Try.func79 (by kernel_rfl) rfl #[.int .i64 a0] rfl (by (try simp only [List.map_toArray, List.map_cons, List.map_nil]); first | done | rfl | (simp only [List.length_drop, List.length_take]; rfl)) ?_; (with_reducible refine (anamnesisref02_plain.calls a0 t248 _ A2.out).mono ?_); rintro e w' ⟨rfl, ⟨nd, rfl⟩⟩; refine ⟨_, rfl, ?_⟩) | ((with_reducible refine gate_callee (f := 79) rfl ?_); refine goesL_ (some 9) rfl rfl Try.func79 (by kernel_rfl) rfl #[.int .i64 a0] rfl (by (try simp only [List.map_toArray, List.map_cons, List.map_nil]); first | done | rfl | (simp only [List.length_drop, List.length_take]; rfl)) ?_; (with_reducible refine (anamnesisref02_plain.calls a0 t249 _ A3.out).mono ?_); rintro e w' ⟨rfl, ⟨nd, rfl⟩⟩; refine ⟨_, rfl, ?_⟩))
    go_ret
    exact ⟨by first | rfl | (simp; done) | (simp [*]; done), by repeat (first | exact Drawn0.refl _ | apply Drawn0.step)⟩
def anamnesisref02_NaN.f  : Option (Int) := some 9221120237041090561
set_option maxHeartbeats 8000000 in
set_option maxRecDepth 100000 in
theorem anamnesisref02_NaN.calls  (r : Int) (w : World) (h : anamnesisref02_NaN.f  = some r) :
  Calls Try.prog 71 #[] w fun e w' => e = .returned (.int .i64 r) ∧ Drawn0 w w' := by
 have H : (some 9221120237041090561) = some r := h
 clear h
 obtain rfl := Option.some.inj H
 go_enter Try.func71, Try.ntmps71
 go_wp2
 go_ret
 exact ⟨by first | rfl | (simp; done) | (simp [*]; done), by repeat (first | exact Drawn0.refl _ | apply Drawn0.step)⟩
def anamnesisref02_Canon.f (a0 : Int) : Option (Int) := (anamnesisref02_Kind.f a0).bind fun t250 => (if t250 = 0 then ((anamnesisref02_NaN.f).bind fun t251 => (some t251)) else (some a0))
set_option maxHeartbeats 8000000 in
set_option maxRecDepth 100000 in
theorem anamnesisref02_Canon.calls (a0 : Int) (r : Int) (w : World) (h : anamnesisref02_Canon.f a0 = some r) :
  Calls Try.prog 58 #[.int .i64 a0] w fun e w' => e = .returned (.int .i64 r) ∧ Drawn0 w w' := by
 have H : ((anamnesisref02_Kind.f a0).bind fun t250 => (if t250 = 0 then ((anamnesisref02_NaN.f).bind fun t251 => (some t251)) else (some a0))) = some r := h
 clear h
 replace H := Option.bind_eq_some_iff.mp H
 obtain ⟨t250, A20, H⟩ := H
 replace H : (if t250 = 0 then ((anamnesisref02_NaN.f).bind fun t251 => (some t251)) else (some a0)) = some r := H
 have A2 := Aside0.mk A20
 clear A20
 by_cases c3 : t250 = 0
 ·rw [if_pos c3] at H
  have c3b0 : (t250 == 0) = true := beq_iff_eq.mpr c3
  have c3b1 : (t250 != 0) = false := bne_eq_false_iff_eq.mpr c3
  clear c3
  replace H := Option.bind_eq_some_iff.mp H
  obtain ⟨t251, A40, H⟩ := H
  replace H : (some t251) = some r := H
  have A4 := Aside0.mk A40
  clear A40
  obtain rfl := Option.some.inj H
  go_enter Try.func58, Try.ntmps58
  go_wp2_with (first | ((with_reducible refine gate_callee (f := 70) rfl ?_); refine goesL_ (some 4) rfl rfl Try.func70 (by kernel_rfl) rfl #[.int .i64 a0] rfl (by (try simp only [List.map_toArray, List.map_cons, List.map_nil]); first | done | rfl | (simp only [List.length_drop, List.length_take]; rfl)) ?_; (with_reducible refine (anamnesisref02_Kind.calls a0 t250 _ A2.out).mono ?_); rintro e w' ⟨rfl, ⟨nd, rfl⟩⟩; refine ⟨_, rfl, ?_⟩) | ((with_reducible refine gate_callee (f := 71) rfl ?_); refine goesL_ (some 6) rfl rfl Try.func71 (by kernel_rfl) rfl #[] rfl (by (try simp only [List.map_toArray, List.map_cons, List.map_nil]); first | done | rfl | (simp only [List.length_drop, List.length_take]; rfl)) ?_; (with_reducible refine (anamnesisref02_NaN.calls  t251 _ A4.out).mono ?_); rintro e w' ⟨rfl, ⟨nd, rfl⟩⟩; refine ⟨_, rfl, ?_⟩))
  go_ret
  exact ⟨by first | rfl | (simp; done) | (simp [*]; done), by repeat (first | exact Drawn0.refl _ | apply Drawn0.step)⟩
 ·rw [if_neg c3] at H
  have c3b0 : (t250 == 0) = false := beq_eq_false_iff_ne.mpr c3
  have c3b1 : (t250 != 0) = true := bne_iff_ne.mpr c3
  obtain rfl := Option.some.inj H
  go_enter Try.func58, Try.ntmps58
  go_wp2_with (first | ((with_reducible refine gate_callee (f := 70) rfl ?_); refine goesL_ (some 4) rfl rfl Try.func70 (by kernel_rfl) rfl #[.int .i64 a0] rfl (by (try simp only [List.map_toArray, List.map_cons, List.map_nil]); first | done | rfl | (simp only [List.length_drop, List.length_take]; rfl)) ?_; (with_reducible refine (anamnesisref02_Kind.calls a0 t250 _ A2.out).mono ?_); rintro e w' ⟨rfl, ⟨nd, rfl⟩⟩; refine ⟨_, rfl, ?_⟩))
  go_ret
  exact ⟨by first | rfl | (simp; done) | (simp [*]; done), by repeat (first | exact Drawn0.refl _ | apply Drawn0.step)⟩
end Go.Proofs.Ytednpcfhefibdaa.PSnap
