import Derived.Test.YtednpcfhefibdaaPureE
namespace Go.Proofs.Ytednpcfhefibdaa.PSnap
open Go.RowKit Go.Proofs.YtednpcfhefibdaaW.PrintWords Go.Proofs.YtednpcfhefibdaaW.PrintLast Go.Proofs.YtednpcfhefibdaaW.PrintMore
set_option linter.unusedVariables false
set_option linter.unusedSimpArgs false
def ofL (l : List UInt8) : ByteArray := ⟨l.toArray⟩
theorem ofL_size (l : List UInt8) : (ofL l).size = l.length := by show l.toArray.size = _; simp
theorem ofL_ext (l : List UInt8) (a b : Nat) : (ofL l).extract a b = ofL ((l.drop a).take (b - a)) := by
 apply BA_ext
 rw [ByteArray.data_extract, Array.toList_extract]
 show (l.toArray.toList).extract a b = ((l.drop a).take (b - a)).toArray.toList
 rw [List.extract_eq_take_drop]
theorem ofL_left (a b : List UInt8) {n : Nat} (h : n = a.length) : (ofL (a ++ b)).extract 0 n = ofL a := by
 subst h; rw [ofL_ext, List.drop_zero, Nat.sub_zero, List.take_left]
theorem ofL_right (a b : List UInt8) {n : Nat} (h : n = a.length) : (ofL (a ++ b)).extract n (ofL (a ++ b)).size = ofL b := by
 subst h; rw [ofL_ext, List.drop_left, ofL_size, List.length_append, List.take_of_length_le (by omega)]
theorem ofL_app (a b : List UInt8) : ofL (a ++ b) = ofL a ++ ofL b := by
 apply BA_ext
 rw [ByteArray.data_append]
 simp [ofL]
theorem or_nat (x b i : Nat) (hx : x < 2 ^ i) : x ||| (b * 2 ^ i) = x + b * 2 ^ i := by
 have h := Nat.two_pow_add_eq_or_of_lt hx b
 rw [Nat.mul_comm b, Nat.or_comm, ← h, Nat.add_comm]
theorem or_u32 (x b i : Nat) (hx : x < 2 ^ i) (hi : i ≤ 24) (hb : b < 256) : Go.bits .or .u32 (x : Int) (shl .u32 ((b : Int) % 4294967296) (i : Int)) = ((x + b * 2 ^ i : Nat) : Int) := by
 have hp : 2 ^ i ≤ 2 ^ 24 := Nat.pow_le_pow_right (by decide) hi
 have hm : b * 2 ^ i ≤ 255 * 2 ^ 24 := Nat.mul_le_mul (by omega) hp
 have h1 : shl .u32 ((b : Int) % 4294967296) (i : Int) = ((b * 2 ^ i : Nat) : Int) := by
  unfold shl
  rw [show (b : Int) % 4294967296 = (b : Int) by omega, Int.toNat_natCast, show min i IntKind.u32.bits = i from Nat.min_eq_left (by show i ≤ 32; omega)]
  simp only [IntKind.wrap, IntKind.bits, IntKind.signed, Bool.false_and, Bool.false_eq_true, if_false]
  rw [show (b : Int) * 2 ^ i = ((b * 2 ^ i : Nat) : Int) by simp, show ((2 : Int) ^ 32) = 4294967296 from rfl]
  omega
 rw [h1]
 have h : ((BitVec.ofInt 32 (x : Int) ||| BitVec.ofInt 32 ((b * 2 ^ i : Nat) : Int)).toNat : Int) = ((x + b * 2 ^ i : Nat) : Int) := by
  rw [BitVec.toNat_or, BitVec.toNat_ofInt, BitVec.toNat_ofInt, ← or_nat x b i hx]
  congr 2 <;> omega
 have h2 : Go.bits .or .u32 (x : Int) ((b * 2 ^ i : Nat) : Int) = IntKind.u32.wrap ((BitVec.ofInt 32 (x : Int) ||| BitVec.ofInt 32 ((b * 2 ^ i : Nat) : Int)).toNat : Int) := rfl
 rw [h2, h]
 simp only [IntKind.wrap, IntKind.bits, IntKind.signed, Bool.false_and, Bool.false_eq_true, if_false]
 rw [show ((2 : Int) ^ 32) = 4294967296 from rfl]
 omega
theorem or_u64 (x b i : Nat) (hx : x < 2 ^ i) (hi : i ≤ 56) (hb : b < 256) : Go.bits .or .u64 (x : Int) (shl .u64 (IntKind.u64.wrap (b : Int)) (i : Int)) = ((x + b * 2 ^ i : Nat) : Int) := by
 have hp : 2 ^ i ≤ 2 ^ 56 := Nat.pow_le_pow_right (by decide) hi
 have hm : b * 2 ^ i ≤ 255 * 2 ^ 56 := Nat.mul_le_mul (by omega) hp
 have h1 : shl .u64 (IntKind.u64.wrap (b : Int)) (i : Int) = ((b * 2 ^ i : Nat) : Int) := by
  unfold shl
  rw [u64_wrap_mod (b : Int), show (b : Int) % 18446744073709551616 = (b : Int) by omega, Int.toNat_natCast, show min i IntKind.u64.bits = i from Nat.min_eq_left (by show i ≤ 64; omega), u64_wrap_mod]
  rw [show (b : Int) * 2 ^ i = ((b * 2 ^ i : Nat) : Int) by simp]
  omega
 rw [h1]
 have h : ((BitVec.ofInt 64 (x : Int) ||| BitVec.ofInt 64 ((b * 2 ^ i : Nat) : Int)).toNat : Int) = ((x + b * 2 ^ i : Nat) : Int) := by
  rw [BitVec.toNat_or, BitVec.toNat_ofInt, BitVec.toNat_ofInt, ← or_nat x b i hx]
  congr 2 <;> omega
 have h2 : Go.bits .or .u64 (x : Int) ((b * 2 ^ i : Nat) : Int) = IntKind.u64.wrap ((BitVec.ofInt 64 (x : Int) ||| BitVec.ofInt 64 ((b * 2 ^ i : Nat) : Int)).toNat : Int) := rfl
 rw [h2, h, u64_wrap_mod]
 omega
theorem byte_nat (n : Int) : (UInt8.ofNat (n % 256).toNat).toNat = (n % 256).toNat := by
 rw [UInt8.toNat_ofNat']
 omega
theorem w8_0 : wrap64 (8 * 0) = ((0 : Nat) : Int) := by rw [w64 (by decide) (by decide)]; rfl
theorem w8_1 : wrap64 (8 * 1) = ((8 : Nat) : Int) := by rw [w64 (by decide) (by decide)]; rfl
theorem w8_2 : wrap64 (8 * 2) = ((16 : Nat) : Int) := by rw [w64 (by decide) (by decide)]; rfl
theorem w8_3 : wrap64 (8 * 3) = ((24 : Nat) : Int) := by rw [w64 (by decide) (by decide)]; rfl
theorem w8_4 : wrap64 (8 * 4) = ((32 : Nat) : Int) := by rw [w64 (by decide) (by decide)]; rfl
theorem w8_5 : wrap64 (8 * 5) = ((40 : Nat) : Int) := by rw [w64 (by decide) (by decide)]; rfl
theorem w8_6 : wrap64 (8 * 6) = ((48 : Nat) : Int) := by rw [w64 (by decide) (by decide)]; rfl
theorem w8_7 : wrap64 (8 * 7) = ((56 : Nat) : Int) := by rw [w64 (by decide) (by decide)]; rfl
theorem join4 (n : Int) (h0 : -2147483648 ≤ n) (h1 : n < 2147483648) (a b c d : Nat) (ha : (a : Int) = n % 256) (hb : (b : Int) = n / 256 % 256) (hc : (c : Int) = n / 256 / 256 % 256) (hd : (d : Int) = n / 256 / 256 / 256 % 256) : wrap64 (wrap32 ((a + b * 256 + c * 65536 + d * 16777216 : Nat) : Int)) = n := by
 have h : ((a + b * 256 + c * 65536 + d * 16777216 : Nat) : Int) = n % 4294967296 := by omega
 rw [h]
 have h2 : wrap32 (n % 4294967296) = n := by unfold wrap32; omega
 rw [h2, w64 (by omega) (by omega)]
theorem join8 (n : Int) (h : I64 n) (a b c d e f g k : Nat) (ha : (a : Int) = n % 256) (hb : (b : Int) = n / 256 % 256) (hc : (c : Int) = n / 256 / 256 % 256) (hd : (d : Int) = n / 256 / 256 / 256 % 256) (he : (e : Int) = n / 256 / 256 / 256 / 256 % 256) (hf : (f : Int) = n / 256 / 256 / 256 / 256 / 256 % 256) (hg : (g : Int) = n / 256 / 256 / 256 / 256 / 256 / 256 % 256) (hk : (k : Int) = n / 256 / 256 / 256 / 256 / 256 / 256 / 256 % 256) :
  wrap64 ((a + b * 256 + c * 65536 + d * 16777216 + e * 4294967296 + f * 1099511627776 + g * 281474976710656 + k * 72057594037927936 : Nat) : Int) = n := by
 obtain ⟨h0, h1⟩ := h
 have hs : ((a + b * 256 + c * 65536 + d * 16777216 + e * 4294967296 + f * 1099511627776 + g * 281474976710656 + k * 72057594037927936 : Nat) : Int) = n % 18446744073709551616 := by omega
 rw [hs]
 unfold wrap64
 omega
theorem numV_eq (n : Int) (h0 : -2147483648 ≤ n) (h1 : n < 2147483648) : numV (ofL (numB n 4)) = n := by
 have e0 : bt (ofL (numB n 4)) 0 = (((n % 256).toNat : Nat) : Int) := congrArg Int.ofNat (byte_nat n)
 have e1 : bt (ofL (numB n 4)) 1 = (((n / 256 % 256).toNat : Nat) : Int) := congrArg Int.ofNat (byte_nat _)
 have e2 : bt (ofL (numB n 4)) 2 = (((n / 256 / 256 % 256).toNat : Nat) : Int) := congrArg Int.ofNat (byte_nat _)
 have e3 : bt (ofL (numB n 4)) 3 = (((n / 256 / 256 / 256 % 256).toNat : Nat) : Int) := congrArg Int.ofNat (byte_nat _)
 unfold numV or32
 rw [e0, e1, e2, e3, w8_0, w8_1, w8_2, w8_3, show (0 : Int) = ((0 : Nat) : Int) from rfl]
 rw [or_u32 0 _ 0 (by omega) (by omega) (by omega), or_u32 _ _ 8 (by omega) (by omega) (by omega), or_u32 _ _ 16 (by omega) (by omega) (by omega), or_u32 _ _ 24 (by omega) (by omega) (by omega)]
 refine Eq.trans ?_ (join4 n h0 h1 _ _ _ _ (Int.toNat_of_nonneg (by omega)) (Int.toNat_of_nonneg (by omega)) (Int.toNat_of_nonneg (by omega)) (Int.toNat_of_nonneg (by omega)))
 simp only [Nat.reducePow, Nat.mul_one, Nat.zero_add]
theorem lt8 (n : Int) : (n % 256).toNat < 256 := by omega
theorem nn8 (n : Int) : (((n % 256).toNat : Nat) : Int) = n % 256 := Int.toNat_of_nonneg (by omega)
abbrev orB (x : Int) (b i : Nat) : Int := Go.bits .or .u64 x (shl .u64 (IntKind.u64.wrap (b : Int)) (i : Int))
theorem chain8 (a b c d e f g k : Nat) (ha : a < 256) (hb : b < 256) (hc : c < 256) (hd : d < 256) (he : e < 256) (hf : f < 256) (hg : g < 256) (hk : k < 256) :
  orB (orB (orB (orB (orB (orB (orB (orB ((0 : Nat) : Int) a 0) b 8) c 16) d 24) e 32) f 40) g 48) k 56 = ((a + b * 256 + c * 65536 + d * 16777216 + e * 4294967296 + f * 1099511627776 + g * 281474976710656 + k * 72057594037927936 : Nat) : Int) := by
 rw [orB, orB, orB, orB, orB, orB, orB, orB]
 rw [or_u64 0 a 0 (by omega) (by omega) ha, or_u64 _ b 8 (by omega) (by omega) hb, or_u64 _ c 16 (by omega) (by omega) hc, or_u64 _ d 24 (by omega) (by omega) hd, or_u64 _ e 32 (by omega) (by omega) he, or_u64 _ f 40 (by omega) (by omega) hf, or_u64 _ g 48 (by omega) (by omega) hg, or_u64 _ k 56 (by omega) (by omega) hk]
 simp only [Nat.reducePow, Nat.mul_one, Nat.zero_add]
theorem bitsV_eq (n : Int) (h : I64 n) : bitsV (ofL (numB n 8)) = n := by
 obtain ⟨h0, h1⟩ := h
 have e0 : bt (ofL (numB n 8)) 0 = (((n % 256).toNat : Nat) : Int) := congrArg Int.ofNat (byte_nat n)
 have e1 : bt (ofL (numB n 8)) 1 = (((n / 256 % 256).toNat : Nat) : Int) := congrArg Int.ofNat (byte_nat _)
 have e2 : bt (ofL (numB n 8)) 2 = (((n / 256 / 256 % 256).toNat : Nat) : Int) := congrArg Int.ofNat (byte_nat _)
 have e3 : bt (ofL (numB n 8)) 3 = (((n / 256 / 256 / 256 % 256).toNat : Nat) : Int) := congrArg Int.ofNat (byte_nat _)
 have e4 : bt (ofL (numB n 8)) 4 = (((n / 256 / 256 / 256 / 256 % 256).toNat : Nat) : Int) := congrArg Int.ofNat (byte_nat _)
 have e5 : bt (ofL (numB n 8)) 5 = (((n / 256 / 256 / 256 / 256 / 256 % 256).toNat : Nat) : Int) := congrArg Int.ofNat (byte_nat _)
 have e6 : bt (ofL (numB n 8)) 6 = (((n / 256 / 256 / 256 / 256 / 256 / 256 % 256).toNat : Nat) : Int) := congrArg Int.ofNat (byte_nat _)
 have e7 : bt (ofL (numB n 8)) 7 = (((n / 256 / 256 / 256 / 256 / 256 / 256 / 256 % 256).toNat : Nat) : Int) := congrArg Int.ofNat (byte_nat _)
 unfold bitsV or64
 rw [e0, e1, e2, e3, e4, e5, e6, e7, w8_0, w8_1, w8_2, w8_3, w8_4, w8_5, w8_6, w8_7, show (0 : Int) = ((0 : Nat) : Int) from rfl]
 refine (congrArg wrap64 (chain8 _ _ _ _ _ _ _ _ (lt8 _) (lt8 _) (lt8 _) (lt8 _) (lt8 _) (lt8 _) (lt8 _) (lt8 _))).trans ?_
 exact join8 n ⟨h0, h1⟩ _ _ _ _ _ _ _ _ (nn8 _) (nn8 _) (nn8 _) (nn8 _) (nn8 _) (nn8 _) (nn8 _) (nn8 _)
theorem numR_app (n : Int) (b : List UInt8) (h0 : -2147483648 ≤ n) (h1 : n < 2147483648) : numR (ofL (numB n 4 ++ b)) = some (n, ofL b) := by
 unfold numR
 rw [ofL_left _ _ (numB_len n 4).symm, ofL_right _ _ (numB_len n 4).symm, numV_eq n h0 h1, if_neg]
 rw [ofL_size, List.length_append, numB_len]; omega
theorem bitsR_app (n : Int) (b : List UInt8) (h : I64 n) : bitsR (ofL (numB n 8 ++ b)) = some (n, ofL b) := by
 unfold bitsR
 rw [ofL_left _ _ (numB_len n 8).symm, ofL_right _ _ (numB_len n 8).symm, bitsV_eq n h, if_neg]
 rw [ofL_size, List.length_append, numB_len]; omega
theorem takeR_app (a b : List UInt8) : takeR (ofL (a ++ b)) a.length = some (ofL a, ofL b) := by
 unfold takeR
 rw [Int.toNat_natCast, ofL_left _ _ rfl, ofL_right _ _ rfl, if_neg]
 rw [ofL_size, List.length_append]; omega
theorem countR_app (n : Nat) (b : List UInt8) (d : Nat) (hd : 0 < d) (h : n * d ≤ b.length) (h1 : n < 2147483648) : countR (ofL (numB n 4 ++ b)) d = some ((n : Int), ofL b) := by
 unfold countR
 rw [numR_app _ _ (by omega) (by omega), Option.bind_some, if_neg]
 have h2 : n ≤ b.length / d := (Nat.le_div_iff_mul_le hd).2 h
 have h3 : ((ofL b).size : Int) / (d : Int) = ((b.length / d : Nat) : Int) := by rw [ofL_size]; rfl
 show ¬ ((n : Int) < 0 ∨ (n : Int) > ((ofL b).size : Int) / (d : Int))
 rw [h3]; omega
def In32 (v : Int) : Prop := -2147483648 ≤ v ∧ v < 2147483648
theorem has_in {n v : Int} (h : hasB n v = true) : In32 v := by
 simp only [hasB, isSmall, isRef, Bool.or_eq_true, decide_eq_true_eq] at h
 unfold In32; omega
theorem numsR_app : ∀ (l : List Int) (b : List UInt8), (∀ v ∈ l, In32 v) → numsR l.length (ofL (listT l ++ b)) = some (l, ofL b)
 | [], b, _ => rfl
 | v :: l, b, h => by
  obtain ⟨h0, h1⟩ := h v List.mem_cons_self
  have e : listT (v :: l) ++ b = numB v 4 ++ (listT l ++ b) := by simp [listT]
  rw [e, List.length_cons, numsR, numR_app v _ h0 h1, Option.bind_some, numsR_app l b (fun x hx => h x (List.mem_cons_of_mem _ hx))]
  rfl
theorem listR_app (l : List Int) (b : List UInt8) (hl : l.length ≤ 1000000) (h : ∀ v ∈ l, In32 v) : listR (ofL (listB l ++ b)) = some (l, ofL b) := by
 unfold listR
 have e : listB l ++ b = numB l.length 4 ++ (listT l ++ b) := by simp [listB]
 rw [e, show (4 : Int) = ((4 : Nat) : Int) from rfl, countR_app l.length _ 4 (by decide) (by rw [List.length_append, listT_len]; omega) (by omega), Option.bind_some]
 exact numsR_app l b h
theorem BA_nil {s : ByteArray} (h : s.toList = []) : s = ⟨#[]⟩ := BA_ext (by rw [BA_toList] at h; exact h)
theorem objR_app {n : Int} {x : S41} (h : mayObj n x = true) (h4 : I64 x.f4) (b : List UInt8) : objR (ofL (objB x ++ b)) = some (x, ofL b) := by
 have hv := (mayObj_has h).2
 simp only [mayObj, inB, isRef, Bool.and_eq_true, decide_eq_true_eq] at h
 obtain ⟨⟨⟨⟨h0, hk⟩, h5⟩, hkind⟩, ⟨⟨hs, ht⟩, _⟩, _⟩ := h
 have e : objB x ++ b = numB x.f0 4 ++ (numB x.f1 4 ++ (numB x.f5 4 ++ (objT x ++ b))) := by simp [objB]
 unfold objR
 rw [e, numR_app _ _ (by omega) (by omega), Option.bind_some, numR_app _ _ (by omega) (by omega), Option.bind_some, numR_app _ _ (by omega) (by omega), Option.bind_some]
 show bodyR x.f0 x.f1 x.f5 (ofL (objT x ++ b)) = _
 unfold kindB at hkind
 obtain ⟨a0, a1, a2, a3, a4, a5⟩ := x
 dsimp only at *
 unfold bodyR objT
 rcases (by omega : a1 = 0 ∨ a1 = 1 ∨ a1 = 2) with e1 | e1 | e1
 ·subst e1
  simp at hkind
  obtain ⟨e3, e4⟩ := hkind
  rw [if_pos rfl, if_pos rfl, listR_app a2 b (by omega) (fun v hm => has_in (hv v hm)), Option.bind_some, BA_nil e3, e4]
 ·subst e1
  simp at hkind
  obtain ⟨e2, e4⟩ := hkind
  have e6 : numB (a3.size : Int) 4 ++ a3.data.toList ++ b = numB (a3.size : Int) 4 ++ (a3.data.toList ++ b) := by simp
  have e7 : (a3.size : Int) = (a3.data.toList.length : Int) := by simp
  rw [if_neg (show ¬ (1 : Int) = 0 by decide), if_pos rfl, if_neg (show ¬ (1 : Int) = 0 by decide), if_pos rfl, e6, numR_app _ _ (by omega) (by omega), Option.bind_some]
  show (takeR (ofL (a3.data.toList ++ b)) (a3.size : Int)).bind _ = _
  rw [e7, takeR_app, Option.bind_some, e2, e4]
  rfl
 ·subst e1
  simp at hkind
  obtain ⟨e2, e3⟩ := hkind
  rw [if_neg (show ¬ (2 : Int) = 0 by decide), if_neg (show ¬ (2 : Int) = 1 by decide), if_pos rfl, if_neg (show ¬ (2 : Int) = 0 by decide), if_neg (show ¬ (2 : Int) = 1 by decide), if_pos rfl, bitsR_app _ _ h4, Option.bind_some, BA_nil e3, e2]
theorem objsR_app (n : Int) : ∀ (l : List S41) (b : List UInt8), (∀ x ∈ l, mayObj n x = true ∧ I64 x.f4) → objsR l.length (ofL (encT l ++ b)) = some (l, ofL b)
 | [], b, _ => rfl
 | x :: l, b, h => by
  obtain ⟨h0, h1⟩ := h x List.mem_cons_self
  have e : encT (x :: l) ++ b = objB x ++ (encT l ++ b) := by simp [encT]
  rw [e, List.length_cons, objsR, objR_app h0 h1, Option.bind_some, objsR_app n l b (fun y hy => h y (List.mem_cons_of_mem _ hy))]
  rfl
theorem sizesO_ge : ∀ (l : List S41), 16 * l.length ≤ sizesO l
 | [] => Nat.le_refl _
 | x :: l => by
  have h := sizesO_ge l
  have e : sizesO (x :: l) = sizeO x + sizesO l := by simp [sizesO]
  rw [e, List.length_cons]
  unfold sizeO
  omega
theorem read_enc {objs : List S41} {c q : Int} {roots : List Int} (h : mayR objs c q roots = true) (hx : ∀ x ∈ objs, I64 x.f4) : readR (encA objs c q roots) = some (objs, c, q, roots) := by
 obtain ⟨h1, h2, h3⟩ := mayR_B h
 have hn := mayB_len h1
 have h4 : ∀ x ∈ objs, (objB x).length = sizeO x := fun x hx => (objB_len (mayB_obj h1 hx)).1
 have h5 : 12 * objs.length ≤ (encT objs).length := by
  rw [encT_size objs h4]
  have := sizesO_ge objs
  omega
 have hc : 1 ≤ c ∧ c ≤ 256 ∧ 0 ≤ q ∧ q ≤ 1073741823 := by
  simp only [mayB, inB, Bool.and_eq_true, decide_eq_true_eq] at h1
  omega
 have e : encA objs c q roots = ofL ([65, 78, 49] ++ (numB c 4 ++ (numB q 4 ++ (numB objs.length 4 ++ (encT objs ++ (listB roots ++ [])))))) := by
  show ofL (encB objs c q roots) = _
  unfold encB encH
  simp
 rw [e]
 unfold readR headR
 have h6 := takeR_app [65, 78, 49] (numB c 4 ++ (numB q 4 ++ (numB objs.length 4 ++ (encT objs ++ (listB roots ++ [])))))
 rw [show (3 : Int) = (([65, 78, 49] : List UInt8).length : Int) from rfl, h6, Option.bind_some, BA_toList, if_pos (show (ofL [65, 78, 49]).data.toList = [65, 78, 49] from rfl), Option.bind_some]
 unfold restR
 rw [numR_app _ _ (by omega) (by omega), Option.bind_some, numR_app _ _ (by omega) (by omega), Option.bind_some, show (12 : Int) = ((12 : Nat) : Int) from rfl, countR_app objs.length _ 12 (by decide) (by rw [List.length_append]; omega) (by omega), Option.bind_some]
 show (objsR objs.length (ofL (encT objs ++ (listB roots ++ [])))).bind _ = _
 rw [objsR_app objs.length objs _ (fun x hm => ⟨mayB_obj h1 hm, hx x hm⟩), Option.bind_some]
 show (listR (ofL (listB roots ++ []))).bind _ = _
 rw [listR_app roots [] (by omega) (fun v hm => has_in (h3 v hm)), Option.bind_some]
 rfl
theorem decS_enc {objs : List S41} {c q : Int} {roots : List Int} (h : mayR objs c q roots = true) (hx : ∀ x ∈ objs, I64 x.f4) : decS (encS objs c q roots) = (objs, c, q, roots, 0) := by
 have e1 : encS objs c q roots = ofL ((encA objs c q roots).data.toList ++ sumL (encA objs c q roots)) := by
  unfold encS
  rw [if_pos h, ofL_app]
  rfl
 have h1 : (encS objs c q roots).size = (encA objs c q roots).data.toList.length + 4 := by
  rw [e1, ofL_size, List.length_append]; rfl
 have h2 : textOf (encS objs c q roots) = encA objs c q roots := by
  unfold textOf
  rw [h1, e1, ofL_left _ _ (by omega)]
  apply BA_ext
  simp [ofL]
 have h3 : (tailOf (encS objs c q roots)).data.toList = sumL (encA objs c q roots) := by
  unfold tailOf
  have h4 : (encS objs c q roots).size - 4 = (encA objs c q roots).data.toList.length := by omega
  rw [h4, e1, ofL_right _ _ rfl]
  simp [ofL]
 have h5 : ¬ (encS objs c q roots).size < 23 := by
  obtain ⟨h6, _⟩ := encB_len (roots := roots) (mayR_B h).1
  have h7 : (encA objs c q roots).data.toList.length = (encB objs c q roots).length := by simp [encA]
  omega
 unfold decS
 rw [if_neg h5, h2, h3, if_pos (by simp [sumB]), read_enc h hx]
 simp only [if_true]
theorem encS_size {objs : List S41} {cap last : Int} {roots : List Int} (h : mayR objs cap last roots = true) : (encS objs cap last roots).size = 23 + sizesO objs + 4 * roots.length ∧ sizesO objs ≤ 102400 ∧ roots.length ≤ 64 := by
 obtain ⟨h1, h2, _⟩ := mayR_B h
 obtain ⟨h3, h4⟩ := encB_len (roots := roots) h1
 refine ⟨?_, h4, h2⟩
 unfold encS
 rw [if_pos h, ByteArray.size_append, sumB_size]
 show (encB objs cap last roots).toArray.size + 4 = _
 rw [List.size_toArray, h3]
 omega
theorem bitsV_in (a : ByteArray) : I64 (bitsV a) := by unfold bitsV; generalize or64 _ _ _ = n; unfold I64 wrap64; omega
theorem objR_in {s : ByteArray} {x : S41 × ByteArray} (h : objR s = some x) : I64 x.1.f4 := by
 have hz : I64 0 := by unfold I64; omega
 unfold objR at h
 obtain ⟨y, _, h⟩ := Option.bind_eq_some_iff.mp h
 obtain ⟨z, _, h⟩ := Option.bind_eq_some_iff.mp h
 obtain ⟨t, _, h⟩ := Option.bind_eq_some_iff.mp h
 unfold bodyR at h
 split at h
 ·obtain ⟨u, _, h⟩ := Option.bind_eq_some_iff.mp h
  cases h; exact hz
 ·split at h
  ·obtain ⟨u, _, h⟩ := Option.bind_eq_some_iff.mp h
   obtain ⟨u2, _, h⟩ := Option.bind_eq_some_iff.mp h
   cases h; exact hz
  ·split at h
   ·obtain ⟨u, hu, h⟩ := Option.bind_eq_some_iff.mp h
    cases h
    unfold bitsR at hu
    split at hu
    ·cases hu
    ·cases hu; exact bitsV_in _
   ·cases h; exact hz
theorem objsR_in : ∀ (n : Nat) {s : ByteArray} {x : List S41 × ByteArray}, objsR n s = some x → ∀ y ∈ x.1, I64 y.f4
 | 0, s, x, h => by cases h; intro y hy; cases hy
 | n + 1, s, x, h => by
  rw [objsR] at h
  obtain ⟨y, hy, h⟩ := Option.bind_eq_some_iff.mp h
  obtain ⟨z, hz, h⟩ := Option.bind_eq_some_iff.mp h
  cases h
  intro u hu
  rcases List.mem_cons.1 hu with e | e
  ·rw [e]; exact objR_in hy
  ·exact objsR_in n hz u e
theorem readR_in {s : ByteArray} {r : List S41 × Int × Int × List Int} (h : readR s = some r) : ∀ y ∈ r.1, I64 y.f4 := by
 unfold readR restR at h
 obtain ⟨t, _, h⟩ := Option.bind_eq_some_iff.mp h
 obtain ⟨c, _, h⟩ := Option.bind_eq_some_iff.mp h
 obtain ⟨l, _, h⟩ := Option.bind_eq_some_iff.mp h
 obtain ⟨n, _, h⟩ := Option.bind_eq_some_iff.mp h
 obtain ⟨o, ho, h⟩ := Option.bind_eq_some_iff.mp h
 obtain ⟨u, _, h⟩ := Option.bind_eq_some_iff.mp h
 split at h
 ·cases h; exact objsR_in _ ho
 ·cases h
theorem decS_cases (s : ByteArray) : (∃ objs c q roots, decS s = (objs, c, q, roots, 0) ∧ mayR objs c q roots = true ∧ (∀ x ∈ objs, I64 x.f4) ∧ encS objs c q roots = s) ∨ ∃ e : Int, e ≠ 0 ∧ decS s = ([], 0, 0, [], e) := by
 unfold decS
 by_cases h0 : s.size < 23
 ·rw [if_pos h0]; exact .inr ⟨80, by decide, rfl⟩
 ·rw [if_neg h0]
  split
  ·split
   ·rename_i r hr
    split
    ·rename_i he
     left
     refine ⟨r.1, r.2.1, r.2.2.1, r.2.2.2, rfl, ?_, readR_in hr, BA_ext he⟩
     cases hm : mayR r.1 r.2.1 r.2.2.1 r.2.2.2
     ·exfalso
      have h2 := congrArg List.length he
      unfold encS at h2
      rw [hm, if_neg Bool.false_ne_true] at h2
      simp at h2
      omega
     ·rfl
    ·exact .inr ⟨82, by decide, rfl⟩
   ·exact .inr ⟨82, by decide, rfl⟩
  ·exact .inr ⟨81, by decide, rfl⟩
theorem fine_of {objs : List S41} {c q : Int} {roots : List Int} (h : mayR objs c q roots = true) (hx : ∀ x ∈ objs, I64 x.f4) : objs.length ≤ 256 ∧ roots.length ≤ 64 ∧ ∀ x ∈ objs, FineObj x ∧ x.f2.length ≤ 64 := by
 obtain ⟨h1, h2, h3⟩ := mayR_B h
 refine ⟨mayB_len h1, h2, fun x hm => ?_⟩
 obtain ⟨_, h6, h7⟩ := objB_len (mayB_obj h1 hm)
 exact ⟨⟨hx x hm, by omega, by omega⟩, h6⟩
end Go.Proofs.Ytednpcfhefibdaa.PSnap
