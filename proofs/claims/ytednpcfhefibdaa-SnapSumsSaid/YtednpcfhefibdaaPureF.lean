import Derived.Test.YtednpcfhefibdaaPureD
namespace Go.Proofs.Ytednpcfhefibdaa.PSnap
open Go.RowKit Go.Proofs.YtednpcfhefibdaaW.PrintWords Go.Proofs.YtednpcfhefibdaaW.PrintLast Go.Proofs.YtednpcfhefibdaaW.PrintMore
set_option linter.unusedVariables false
set_option linter.unusedSimpArgs false
theorem xor_u32 (a b : Nat) (ha : a < 4294967296) (hb : b < 4294967296) : Go.bits .xor .u32 (a : Int) (b : Int) = ((a ^^^ b : Nat) : Int) := by
 have h : ((BitVec.ofInt 32 (a : Int) ^^^ BitVec.ofInt 32 (b : Int)).toNat : Int) = ((a ^^^ b : Nat) : Int) := by
  rw [BitVec.toNat_xor, BitVec.toNat_ofInt, BitVec.toNat_ofInt]
  congr 2 <;> omega
 have h2 : Go.bits .xor .u32 (a : Int) (b : Int) = IntKind.u32.wrap ((BitVec.ofInt 32 (a : Int) ^^^ BitVec.ofInt 32 (b : Int)).toNat : Int) := rfl
 rw [h2, h]
 have h3 : a ^^^ b < 2 ^ 32 := Nat.xor_lt_two_pow (by omega) (by omega)
 simp [IntKind.wrap, IntKind.bits, IntKind.signed]
 omega
theorem xor_u8 (a b : Nat) (ha : a < 256) (hb : b < 256) : Go.bits .xor .u8 (a : Int) (b : Int) = ((a ^^^ b : Nat) : Int) := by
 have h : ((BitVec.ofInt 8 (a : Int) ^^^ BitVec.ofInt 8 (b : Int)).toNat : Int) = ((a ^^^ b : Nat) : Int) := by
  rw [BitVec.toNat_xor, BitVec.toNat_ofInt, BitVec.toNat_ofInt]
  congr 2 <;> omega
 have h2 : Go.bits .xor .u8 (a : Int) (b : Int) = IntKind.u8.wrap ((BitVec.ofInt 8 (a : Int) ^^^ BitVec.ofInt 8 (b : Int)).toNat : Int) := rfl
 rw [h2, h]
 have h3 : a ^^^ b < 2 ^ 8 := Nat.xor_lt_two_pow (by omega) (by omega)
 simp [IntKind.wrap, IntKind.bits, IntKind.signed]
 omega
theorem xor_i64 (a b : Nat) (ha : a < 4294967296) (hb : b < 4294967296) : Go.bits .xor .i64 (a : Int) (b : Int) = ((a ^^^ b : Nat) : Int) := by
 have h : ((BitVec.ofInt 64 (a : Int) ^^^ BitVec.ofInt 64 (b : Int)).toNat : Int) = ((a ^^^ b : Nat) : Int) := by
  rw [BitVec.toNat_xor, BitVec.toNat_ofInt, BitVec.toNat_ofInt]
  congr 2 <;> omega
 have h2 : Go.bits .xor .i64 (a : Int) (b : Int) = IntKind.i64.wrap ((BitVec.ofInt 64 (a : Int) ^^^ BitVec.ofInt 64 (b : Int)).toNat : Int) := rfl
 have h3 : a ^^^ b < 2 ^ 32 := Nat.xor_lt_two_pow (by omega) (by omega)
 rw [h2, h, IntKind.wrap_i64]
 omega
def sN (x : Nat) : Nat := if x % 2 = 1 then (x / 2) ^^^ 3988292384 else x / 2
def sI (x : Nat) : Nat → Nat
 | 0 => x
 | n + 1 => sI (sN x) n
theorem xor_div2 (a b : Nat) : (a ^^^ b) / 2 = a / 2 ^^^ b / 2 := by
 apply Nat.eq_of_testBit_eq
 intro i
 rw [Nat.testBit_div_two, Nat.testBit_xor, Nat.testBit_xor, Nat.testBit_div_two, Nat.testBit_div_two]
theorem sN_lin (u v : Nat) : sN (u ^^^ 2 * v) = sN u ^^^ v := by
 have h1 : (u ^^^ 2 * v) % 2 = u % 2 := by
  have h3 : (u ^^^ 2 * v).testBit 0 = u.testBit 0 := by
   rw [Nat.testBit_xor, Nat.testBit_zero, Nat.testBit_zero]
   have : (2 * v) % 2 = 0 := by omega
   rw [this]
   simp
  rw [Nat.testBit_zero, Nat.testBit_zero] at h3
  have h4 := decide_eq_decide.1 h3
  omega
 have h2 : (u ^^^ 2 * v) / 2 = u / 2 ^^^ v := by
  rw [xor_div2]
  congr 1
  omega
 unfold sN
 rw [h1, h2]
 split
 ·rw [Nat.xor_assoc, Nat.xor_assoc, Nat.xor_comm v]
 ·rfl
theorem sN_lt {x : Nat} (h : x < 4294967296) : sN x < 4294967296 := by
 unfold sN
 split
 ·exact Nat.xor_lt_two_pow (n := 32) (by omega) (by omega)
 ·omega
theorem sI_lin : ∀ (n u v : Nat), sI (u ^^^ 2 ^ n * v) n = sI u n ^^^ v
 | 0, u, v => by rw [Nat.pow_zero, Nat.one_mul]; rfl
 | n + 1, u, v => by
  rw [sI, sI, show 2 ^ (n + 1) * v = 2 * (2 ^ n * v) by rw [Nat.pow_succ]; ac_rfl, sN_lin]
  exact sI_lin n (sN u) v
def byteN (x b : Nat) : Nat := sI (x ^^^ b) 8
theorem byteN_tab (x b : Nat) (hx : x < 4294967296) (hb : b < 256) : byteN x b = (x / 256) ^^^ sI ((x % 256) ^^^ b) 8 := by
 have h : x ^^^ b = ((x % 256) ^^^ b) ^^^ 2 ^ 8 * (x / 256) := by
  have h1 : x = (x % 256) ^^^ 2 ^ 8 * (x / 256) := by
   apply Nat.eq_of_testBit_eq
   intro i
   rw [Nat.testBit_xor, show (256 : Nat) = 2 ^ 8 from rfl, Nat.testBit_mod_two_pow, Nat.testBit_two_pow_mul, Nat.testBit_div_two_pow]
   by_cases h8 : i < 8
   ·simp [h8, show ¬ 8 ≤ i by omega]
   ·simp [h8, show 8 ≤ i by omega, show 8 + (i - 8) = i by omega]
  conv => lhs; rw [h1]
  rw [Nat.xor_assoc, Nat.xor_assoc, Nat.xor_comm b]
 rw [byteN, h, sI_lin, Nat.xor_comm]
theorem crcStep_N (x : Nat) (hx : x < 4294967296) : crcStep (x : Int) = ((sN x : Nat) : Int) := by
 have h : Go.bits .and .u32 (x : Int) 1 = ((x % 2 : Nat) : Int) := by
  have h1 : ((BitVec.ofInt 32 (x : Int) &&& BitVec.ofInt 32 1).toNat : Int) = ((x % 2 : Nat) : Int) := by
   rw [BitVec.toNat_and]
   have h2 : (BitVec.ofInt 32 1).toNat = 2 ^ 1 - 1 := by decide
   rw [h2, Nat.and_two_pow_sub_one_eq_mod, BitVec.toNat_ofInt]
   congr 1
   omega
  have h2 : Go.bits .and .u32 (x : Int) 1 = IntKind.u32.wrap ((BitVec.ofInt 32 (x : Int) &&& BitVec.ofInt 32 1).toNat : Int) := rfl
  rw [h2, h1]
  simp [IntKind.wrap, IntKind.bits, IntKind.signed]
  omega
 unfold crcStep sN
 rw [h]
 by_cases h2 : x % 2 = 1
 ·rw [if_pos h2, if_pos (by omega), show (x : Int) / 2 = ((x / 2 : Nat) : Int) by omega, show (3988292384 : Int) = ((3988292384 : Nat) : Int) from rfl, xor_u32 _ _ (by omega) (by omega)]
 ·rw [if_neg h2, if_neg (by omega)]; omega
theorem sI_lt : ∀ (n : Nat) {x : Nat}, x < 4294967296 → sI x n < 4294967296
 | 0, x, h => h
 | n + 1, x, h => sI_lt n (sN_lt h)
theorem crcIter_N : ∀ (n x : Nat), x < 4294967296 → crcIter (x : Int) n = ((sI x n : Nat) : Int)
 | 0, x, _ => rfl
 | n + 1, x, h => by rw [crcIter, crcStep_N x h, crcIter_N n _ (sN_lt h), sI]
theorem crcByte_N (x b : Nat) (hx : x < 4294967296) (hb : b < 256) : crcByte (x : Int) (b : Int) = ((byteN x b : Nat) : Int) := by
 have h8 : (x % 256) ^^^ b < 256 := Nat.xor_lt_two_pow (n := 8) (by omega) hb
 unfold crcByte crcT
 rw [show (x : Int) % 256 = ((x % 256 : Nat) : Int) by omega, xor_u8 _ _ (by omega) hb, Int.toNat_natCast, crcIter_N 8 _ (by omega), show (x : Int) / 256 = ((x / 256 : Nat) : Int) by omega, xor_u32 _ _ (by omega) (sI_lt 8 (by omega)), byteN_tab x b hx hb]
theorem byteN_lt {x b : Nat} (hx : x < 4294967296) (hb : b < 256) : byteN x b < 4294967296 := sI_lt 8 (Nat.xor_lt_two_pow (n := 32) (by omega) (by omega))
def foldN (x : Nat) (l : List UInt8) : Nat := l.foldl (fun x b => byteN x b.toNat) x
theorem foldN_lt : ∀ (l : List UInt8) {x : Nat}, x < 4294967296 → foldN x l < 4294967296
 | [], x, h => h
 | b :: l, x, h => foldN_lt l (byteN_lt h (UInt8.toNat_lt b))
theorem crcFold_N : ∀ (l : List UInt8) (x : Nat), x < 4294967296 → crcFold (x : Int) l = ((foldN x l : Nat) : Int)
 | [], x, _ => rfl
 | b :: l, x, h => by
  show crcFold (crcByte (x : Int) (b.toNat : Int)) l = ((foldN (byteN x b.toNat) l : Nat) : Int)
  rw [crcByte_N x _ h (UInt8.toNat_lt b)]
  exact crcFold_N l _ (byteN_lt h (UInt8.toNat_lt b))
theorem xor_ones (x : Nat) (hx : x < 4294967296) : 4294967295 ^^^ x = 4294967295 - x := by
 have h1 : BitVec.allOnes 32 ^^^ BitVec.ofNat 32 x = ~~~ BitVec.ofNat 32 x := BitVec.allOnes_xor
 have h2 := congrArg BitVec.toNat h1
 rw [BitVec.toNat_xor, BitVec.toNat_not, BitVec.toNat_ofNat, BitVec.toNat_allOnes] at h2
 rw [Nat.mod_eq_of_lt (by omega)] at h2
 simpa using h2
theorem crcNot_N (x : Nat) (hx : x < 4294967296) : crcNot (x : Int) = ((4294967295 - x : Nat) : Int) := by
 unfold crcNot
 have : IntKind.u32.max = ((4294967295 : Nat) : Int) := by decide
 rw [this, xor_u32 _ _ (by omega) hx, xor_ones x hx]
def crcN (l : List UInt8) : Nat := 4294967295 - foldN 4294967295 l
theorem crcS_N (s : ByteArray) : crcS 0 s = ((crcN s.data.toList : Nat) : Int) := by
 unfold crcS crcN
 rw [show (0 : Int) = ((0 : Nat) : Int) from rfl, crcNot_N 0 (by omega), crcFold_N _ _ (by omega), crcNot_N _ (foldN_lt _ (by omega)), w64 (by omega) (by omega)]
def r8 (x c : Nat) : Nat → Nat
 | 0 => x
 | n + 1 => r8 (sN (x ^^^ (c % 2))) (c / 2) n
theorem low_bit (c : Nat) : (c % 2) ^^^ 2 * (c / 2) = c := by
 apply Nat.eq_of_testBit_eq
 intro i
 have h := Nat.testBit_two_pow_mul (i := 1) (a := c / 2) (j := i)
 rw [Nat.pow_one] at h
 have h2 := Nat.testBit_mod_two_pow c 1 i
 rw [Nat.pow_one] at h2
 rw [Nat.testBit_xor, h, h2]
 by_cases h8 : i < 1
 ·have : i = 0 := by omega
  subst this
  simp
 ·have h3 := Nat.testBit_div_two c (i - 1)
  rw [show i - 1 + 1 = i by omega] at h3
  simp [h8, show 1 ≤ i by omega, h3]
theorem r8_eq : ∀ (n x c : Nat), c < 2 ^ n → r8 x c n = sI (x ^^^ c) n
 | 0, x, c, h => by
  have : c = 0 := by simpa using h
  subst this
  rw [Nat.xor_zero]; rfl
 | n + 1, x, c, h => by
  rw [r8, r8_eq n _ _ (by rw [Nat.pow_succ] at h; omega), sI]
  congr 1
  rw [← sN_lin, Nat.xor_assoc, low_bit]
theorem xor1_lt {x : Nat} (c : Nat) (hx : x < 4294967296) : x ^^^ (c % 2) < 4294967296 := Nat.xor_lt_two_pow (n := 32) (by omega) (by omega)
theorem bit_eq (x c : Nat) (hx : x < 4294967296) : anamnesisref07_bit.f (x : Int) (Int.tmod (c : Int) 2) = some ((sN (x ^^^ (c % 2)) : Nat) : Int) := by
 have h1 : Int.tmod (x : Int) 2 = ((x % 2 : Nat) : Int) := by rw [Int.tmod_eq_emod_of_nonneg (by omega)]; omega
 have h2 : Int.tmod (c : Int) 2 = ((c % 2 : Nat) : Int) := by rw [Int.tmod_eq_emod_of_nonneg (by omega)]; omega
 have h3 : Int.tdiv (x : Int) 2 = ((x / 2 : Nat) : Int) := by rw [Int.tdiv_eq_ediv_of_nonneg (by omega)]; omega
 have h4 : (x ^^^ (c % 2)) / 2 = x / 2 := by
  rw [xor_div2, show c % 2 / 2 = 0 by omega, Nat.xor_zero]
 have h5 : (x ^^^ (c % 2)).testBit 0 = (x.testBit 0 ^^ (c % 2).testBit 0) := Nat.testBit_xor ..
 rw [Nat.testBit_zero, Nat.testBit_zero, Nat.testBit_zero] at h5
 unfold anamnesisref07_bit.f sN
 rw [h1, h2, h3, h4, w64 (by omega) (by omega)]
 by_cases h : x % 2 = c % 2
 ·rw [if_pos (by omega)]
  have h6 : ¬ (x ^^^ (c % 2)) % 2 = 1 := by
   intro h7
   rw [h7, h, show c % 2 % 2 = c % 2 by omega] at h5
   cases hd : decide (c % 2 = 1) <;> simp [hd] at h5
  rw [if_neg h6]
 ·rw [if_neg (by omega)]
  have h6 : (x ^^^ (c % 2)) % 2 = 1 := by
   rcases (by omega : (x % 2 = 0 ∧ c % 2 = 1) ∨ (x % 2 = 1 ∧ c % 2 = 0)) with ⟨e1, e2⟩ | ⟨e1, e2⟩
   ·simp; omega
   ·simp; omega
  rw [if_pos h6, show (3988292384 : Int) = ((3988292384 : Nat) : Int) from rfl, xor_i64 _ _ (by omega) (by omega)]
theorem l1_ev (s : ByteArray) (i : Nat) (r : Int) : ∀ (d j x c : Nat), j + d = 8 → x < 4294967296 → c < 256 → Ev (fun k => anamnesisref07_More.l0 k ((r8 x c d : Nat) : Int) s (wrap64 ((i : Int) + 1))) r → Ev (fun k => anamnesisref07_More.l1 k (x : Int) s i (c : Int) (j : Int)) r
 | 0, j, x, c, h, hx, hc, hr => by
  apply ev_succ
  simp only [anamnesisref07_More.l1, if_neg (show ¬ (j : Int) < 8 by omega)]
  exact hr
 | d + 1, j, x, c, h, hx, hc, hr => by
  have e1 : wrap64 ((j : Int) + 1) = ((j + 1 : Nat) : Int) := w64_succ (by omega)
  have e2 : wrap64 (Int.tdiv (c : Int) 2) = ((c / 2 : Nat) : Int) := by rw [Int.tdiv_eq_ediv_of_nonneg (by omega), w64 (by omega) (by omega)]; rfl
  apply ev_succ
  simp only [anamnesisref07_More.l1, if_pos (show (j : Int) < 8 by omega), bit_eq x c hx, Option.bind_some, e1, e2]
  exact l1_ev s i r d (j + 1) _ _ (by omega) (sN_lt (xor1_lt c hx)) (by omega) hr
theorem l0_ev (s : ByteArray) (hs : s.size ≤ 4611686018427387904) : ∀ (d i x : Nat), i + d = s.size → x < 4294967296 → Ev (fun k => anamnesisref07_More.l0 k (x : Int) s i) ((4294967295 - foldN x (s.data.toList.drop i) : Nat) : Int)
 | 0, i, x, h, hx => by
  have hd : s.data.toList.length = s.size := by simp
  rw [List.drop_eq_nil_of_le (by omega)]
  apply ev_succ
  simp only [anamnesisref07_More.l0, if_neg (show ¬ (i : Int) < (s.size : Int) by omega), foldN, List.foldl_nil]
  rw [w64 (by omega) (by omega)]
  exact ev_is (Ev.now _) (by omega)
 | d + 1, i, x, h, hx => by
  have hd : s.data.toList.length = s.size := by simp
  have hi : i < s.data.toList.length := by omega
  rw [List.drop_eq_getElem_cons hi]
  have hb : bt s (i : Int) = ((s.data.toList[i].toNat : Nat) : Int) := by
   unfold bt
   rw [dif_pos (by rw [Int.toNat_natCast]; omega)]
   simp [Int.toNat_natCast]
   rfl
  have hlt : s.data.toList[i].toNat < 256 := UInt8.toNat_lt _
  apply ev_succ
  simp only [anamnesisref07_More.l0, if_pos (show (i : Int) < (s.size : Int) by omega), if_pos (show (0 : Int) ≤ (i : Int) by omega), hb]
  rw [w64 (by omega) (by omega)]
  show Ev _ (((4294967295 - foldN (byteN x s.data.toList[i].toNat) (s.data.toList.drop (i + 1)) : Nat)) : Int)
  refine l1_ev s i _ 8 0 x _ (by omega) hx hlt ?_
  rw [r8_eq 8 _ _ (by omega), w64_succ (by omega)]
  exact l0_ev s hs d (i + 1) _ (by omega) (byteN_lt hx hlt)
theorem rOf_ev (s : ByteArray) (hs : s.size ≤ 4611686018427387904) : Ev (fun k => anamnesisref07_Of.f k s) (crcS 0 s) := by
 unfold anamnesisref07_Of.f anamnesisref07_More.f anamnesisref07_May.f
 rw [crcS_N, crcN]
 simp only [ge_iff_le, Int.le_refl, if_true, show decide ((0 : Int) < 4294967296) = true from rfl, Option.bind_some]
 have h := l0_ev s hs s.size 0 4294967295 (by omega) (by omega)
 rw [List.drop_zero] at h
 have e : wrap64 (4294967295 - 0) = ((4294967295 : Nat) : Int) := w64 (by omega) (by omega)
 rw [e]
 exact Ev.bind h (Ev.now _)
end Go.Proofs.Ytednpcfhefibdaa.PSnap
