import Derived.Test.YtednpcfhefibdaaPSnapx18
import Derived.Test.YtednpcfhefibdaaPSnapx17
import Derived.Test.YtednpcfhefibdaaPSnapx16
import Derived.Test.YtednpcfhefibdaaPSnapOk
namespace Go.Proofs.Ytednpcfhefibdaa.PSnap
open Go.RowKit Go.Proofs.YtednpcfhefibdaaW.PrintWords Go.Proofs.YtednpcfhefibdaaW.PrintLast Go.Proofs.YtednpcfhefibdaaW.PrintMore
set_option linter.unusedVariables false
set_option linter.unusedSimpArgs false
def isAt (v : Int) : Bool := decide (v % 2 = 0 ∧ 0 ≤ v ∧ v ≤ 2097150)
theorem At_eq (v : Int) : value_At.f v = some (if isAt v then (v / 2, true) else (0, false)) := by
 unfold value_At.f value_object.f isAt
 rw [bits_and_one]
 by_cases h0 : v % 2 = 0
 ·rw [if_pos h0]
  by_cases h1 : v / 2 ≥ 0
  ·rw [if_pos h1]
   simp only [Option.bind_some]
   by_cases h2 : v / 2 < 1048576
   ·rw [if_pos (by simpa using h2), if_pos (by simp only [decide_eq_true_eq]; omega)]
   ·rw [if_neg (by simpa using h2), if_neg (by simp only [decide_eq_true_eq]; omega)]
  ·rw [if_neg h1, if_neg (by simp only [decide_eq_true_eq]; omega)]; rfl
 ·rw [if_neg h0, if_neg (by simp only [decide_eq_true_eq]; omega)]
theorem vMay_eq (v : Int) : value_May.f v = some (isSmall v || isAt v) := by
 unfold value_May.f
 rw [N_eq, At_eq]
 cases isSmall v <;> cases isAt v <;> rfl
theorem w64 {n : Int} (h0 : -9223372036854775808 ≤ n) (h1 : n < 9223372036854775808) : wrap64 n = n := by unfold wrap64; omega
theorem tmod2 (v : Int) : Int.tmod v 2 = 0 ↔ v % 2 = 0 := by rw [← Int.dvd_iff_tmod_eq_zero, Int.dvd_iff_emod_eq_zero]
theorem rAt_eq (v : Int) : anamnesisref01_At.f v = some (if isAt v then (v / 2, true) else (0, false)) := by
 unfold anamnesisref01_At.f isAt
 by_cases h0 : v % 2 = 0
 ·rw [if_pos ((tmod2 v).2 h0)]
  by_cases h1 : v < 0
  ·rw [if_pos h1, if_neg (by simp only [decide_eq_true_eq]; omega)]
  ·rw [if_neg h1]
   by_cases h2 : v > 2097150
   ·rw [if_pos h2, if_neg (by simp only [decide_eq_true_eq]; omega)]
   ·rw [if_neg h2, if_pos (by simp only [decide_eq_true_eq]; omega)]
    have : Int.tdiv v 2 = v / 2 := Int.tdiv_eq_ediv_of_nonneg (by omega)
    rw [this, w64 (by omega) (by omega)]
 ·rw [if_neg (fun h => h0 ((tmod2 v).1 h)), if_neg (by simp only [decide_eq_true_eq]; omega)]
theorem rRef_eq (objs : List S41) (c l v : Int) : anamnesisref03_Ref.f objs c l v = some (refI objs.length v) := by
 unfold anamnesisref03_Ref.f refI isRef
 rw [rAt_eq, isAt]
 by_cases h : v % 2 = 0 ∧ 0 ≤ v ∧ v ≤ 2097150
 ·simp only [h, decide_true, Option.bind_some, if_true, true_and, decide_eq_true_eq]
  by_cases h2 : v / 2 ≥ (objs.length : Int)
  ·rw [if_pos h2, if_neg (by omega)]
  ·rw [if_neg h2, if_pos (by omega)]
 ·rw [if_neg (by simpa using h)]
  simp only [Option.bind_some, Bool.false_eq_true, if_false]
  rw [if_neg (by simp only [decide_eq_true_eq]; omega)]
theorem rN_eq (v : Int) : anamnesisref01_N.f v = some (if isSmall v then (v / 2, true) else (0, false)) := by
 unfold anamnesisref01_N.f isSmall
 by_cases h0 : v % 2 = 0
 ·rw [if_pos ((tmod2 v).2 h0), if_neg (by simp only [decide_eq_true_eq]; omega)]
 ·rw [if_neg (fun h => h0 ((tmod2 v).1 h))]
  by_cases h1 : v < -2147483647
  ·rw [if_pos h1, if_neg (by simp only [decide_eq_true_eq]; omega)]
  ·rw [if_neg h1]
   by_cases h2 : v > 2147483647
   ·rw [if_pos h2, if_neg (by simp only [decide_eq_true_eq]; omega)]
   ·rw [if_neg h2, if_pos (by simp only [decide_eq_true_eq]; omega), w64 (n := v - 1) (by omega) (by omega)]
    have : Int.tdiv (v - 1) 2 = v / 2 := by rw [Int.tdiv_eq_ediv_of_dvd (by omega)]; omega
    rw [this, w64 (by omega) (by omega)]
theorem rHas_eq (objs : List S41) (c l v : Int) : anamnesisref03_Has.f objs c l v = some (hasB objs.length v) := by
 unfold anamnesisref03_Has.f hasB
 rw [rN_eq, rRef_eq]
 have h := refI_nonneg objs.length v
 cases isSmall v <;> simp_all
theorem rhash_eq (v : Int) : anamnesisref03_hash.f v = some (inB v 1073741823) := by
 unfold anamnesisref03_hash.f inB
 by_cases h : v ≥ 0
 ·rw [if_pos h]; congr 1; simp only [decide_eq_decide]; omega
 ·rw [if_neg h]; congr 1; symm; simp only [decide_eq_false_iff_not]; omega
theorem bits_plain (a : Int) : Go.bits .and .i64 a 9223372036854775807 = a % 9223372036854775808 := by
 have h : ((BitVec.ofInt 64 a &&& BitVec.ofInt 64 9223372036854775807).toNat : Int) = a % 9223372036854775808 := by
  rw [BitVec.toNat_and]
  have h1 : (BitVec.ofInt 64 9223372036854775807).toNat = 2 ^ 63 - 1 := by decide
  rw [h1, Nat.and_two_pow_sub_one_eq_mod, BitVec.toNat_ofInt]
  omega
 have h2 : Go.bits .and .i64 a 9223372036854775807 = IntKind.i64.wrap ((BitVec.ofInt 64 a &&& BitVec.ofInt 64 9223372036854775807).toNat : Int) := rfl
 rw [h2, h, IntKind.wrap_i64]
 omega
theorem compare_self_int (x : Int) : compare x x = Ordering.eq := by simp [compare, compareOfLessAndEq]
theorem order_self (d : Ieee.Datum) : (d.order d != some Ordering.eq) = d.isNaN := by
 cases d with
 | number s m i => simp [Ieee.Datum.order, Ieee.Datum.isNaN, compare_self_int]
 | infinity s => cases s <;> rfl
 | nan s t => simp [Ieee.Datum.order, Ieee.Datum.isNaN]
theorem read_nan (b : Nat) : (Ieee.double.read b).isNaN = decide (b % 9223372036854775808 > 9218868437227405312) := by
 have e1 : Ieee.double.signWeight = 9223372036854775808 := by decide
 have e2 : Ieee.double.infRung = 9218868437227405312 := by decide
 have e3 : Ieee.double.binade = 4503599627370496 := by decide
 unfold Ieee.Format.read
 simp only [e1, e2, e3]
 by_cases h1 : b % 9223372036854775808 < 4503599627370496
 ·rw [if_pos h1]; symm; simp only [Ieee.Datum.isNaN, decide_eq_false_iff_not]; omega
 ·rw [if_neg h1]
  by_cases h2 : b % 9223372036854775808 < 9218868437227405312
  ·rw [if_pos h2]; symm; simp only [Ieee.Datum.isNaN, decide_eq_false_iff_not]; omega
  ·rw [if_neg h2]
   by_cases h3 : b % 9223372036854775808 = 9218868437227405312
   ·rw [if_pos h3]; symm; simp only [Ieee.Datum.isNaN, decide_eq_false_iff_not]; omega
   ·rw [if_neg h3]; symm; simp only [Ieee.Datum.isNaN, decide_eq_true_eq]; omega
theorem u64_wrap_mod (a : Int) : IntKind.u64.wrap a = a % 18446744073709551616 := by simp [IntKind.wrap, IntKind.bits, IntKind.signed]
theorem fltNum_eq (a : Int) : fltNum (fltWord a) = decide (a % 9223372036854775808 ≤ 9218868437227405312) := by
 unfold fltNum fltWord
 have : FloatKind.f64.format.order (IntKind.u64.wrap a).toNat (IntKind.u64.wrap a).toNat = (Ieee.double.read (IntKind.u64.wrap a).toNat).order (Ieee.double.read (IntKind.u64.wrap a).toNat) := rfl
 rw [this, order_self, read_nan, u64_wrap_mod]
 rw [← decide_not]
 simp only [decide_eq_decide]
 omega
theorem rKind_eq (a : Int) : anamnesisref02_Kind.f a = some 0 ↔ a % 9223372036854775808 > 9218868437227405312 := by
 unfold anamnesisref02_Kind.f anamnesisref02_plain.f anamnesisref02_most.f
 simp only [Option.bind_some, bits_plain]
 have hy0 : 0 ≤ a % 9223372036854775808 := by omega
 have hy1 : a % 9223372036854775808 < 9223372036854775808 := by omega
 generalize a % 9223372036854775808 = y at hy0 hy1
 rw [Int.tmod_eq_emod_of_nonneg hy0]
 by_cases h1 : y / 4503599627370496 = 2047
 ·rw [if_pos h1]
  by_cases h2 : y % 4503599627370496 = 0
  ·rw [if_pos h2]; simp only [Option.some.injEq]; omega
  ·have h6 : 0 < y % 4503599627370496 := by have := Int.emod_nonneg y (b := 4503599627370496) (by decide); omega
   have h7 : y = 4503599627370496 * (y / 4503599627370496) + y % 4503599627370496 := (Int.mul_ediv_add_emod y 4503599627370496).symm
   rw [h1] at h7
   have h8 : y > 9218868437227405312 := by omega
   rw [if_neg h2]
   exact ⟨fun _ => h8, fun _ => rfl⟩
 ·rw [if_neg h1]
  have h4 : y / 4503599627370496 ≤ 2047 := by omega
  have h3 : y / 4503599627370496 < 2047 := by omega
  have h5 : y < 9218868437227405312 := by omega
  by_cases h2 : y / 4503599627370496 > 0
  ·rw [if_pos h2]; simp only [Option.some.injEq]; omega
  ·rw [if_neg h2]; split <;> (simp only [Option.some.injEq]; omega)
theorem rKind_some (a : Int) : ∃ x, anamnesisref02_Kind.f a = some x := by
 unfold anamnesisref02_Kind.f anamnesisref02_plain.f anamnesisref02_most.f
 simp only [Option.bind_some]
 split <;> split <;> (try split) <;> exact ⟨_, rfl⟩
theorem rCanon_eq (a : Int) (h0 : -9223372036854775808 ≤ a) (h1 : a < 9223372036854775808) : (anamnesisref02_Canon.f a).bind (fun t => some (t == a)) = some (canonB a) := by
 obtain ⟨x, hx⟩ := rKind_some a
 have hk := rKind_eq a
 rw [hx] at hk
 simp only [Option.some.injEq] at hk
 unfold anamnesisref02_Canon.f canonB flt_bits.v anamnesisref02_NaN.f
 rw [hx, fltNum_eq]
 simp only [Option.bind_some]
 by_cases h : x = 0
 ·rw [if_pos h, if_neg (by have := hk.1 h; simp only [decide_eq_true_eq]; omega)]
  rfl
 ·rw [if_neg h, if_pos (by simp only [decide_eq_true_eq]; omega)]
  simp only [Option.bind_some, Option.some.injEq]
  have : wrap64 (fltWord a : Int) = a := by
   unfold fltWord
   rw [u64_wrap_mod]
   unfold wrap64
   omega
  rw [this]
end Go.Proofs.Ytednpcfhefibdaa.PSnap
