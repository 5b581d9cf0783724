import Derived.Test.YtednpcfhefibdaaPSnapx0
import Derived.Test.YtednpcfhefibdaaPSnapx1
import Derived.Test.YtednpcfhefibdaaPSnapx3
namespace Go.Proofs.Ytednpcfhefibdaa.PSnap
open Go.RowKit Go.Proofs.YtednpcfhefibdaaW.PrintWords Go.Proofs.YtednpcfhefibdaaW.PrintLast Go.Proofs.YtednpcfhefibdaaW.PrintMore
attribute [local go_sem] max2_int min2_int max_two min_two max_three min_three max_four min_four
set_option linter.unusedVariables false
set_option linter.unusedSimpArgs false
attribute [local go_sem] setCell_drewN
set_option maxHeartbeats 1000000 in
set_option maxRecDepth 100000 in
theorem copyCheck_used (b : Nat) (w : World) (h0 : w.cell? ⟨b, 0, none⟩ = some (.pointer (some ⟨b, 0, none⟩))) :
  Calls Try.prog 54 #[.pointer (some ⟨b, 0, none⟩)] w fun e w' => e = .returned (.tuple #[]) ∧ w' = w := by
 have hsz : (Try.prog.info? 55).map (·.size) = some 2 := by kernel_rfl
 obtain ⟨j, hj, _⟩ := Option.map_eq_some_iff.1 hsz
 go_enter Try.func54, Try.ntmps54
 go_wp2
 rw [Lib.run_neq_ptr_same w _ Try.underlying53 hj]
 go_wp2
 go_end0
 exact ⟨rfl, rfl⟩
set_option maxHeartbeats 1000000 in
set_option maxRecDepth 100000 in
theorem copyCheck_fresh (b : Nat) (w : World) (h0 : w.cell? ⟨b, 0, none⟩ = some (.pointer none)) (hsh : w.shape? b = some (57, 2)) (hfz : w.frozen? ⟨b, 0, none⟩ = false) :
  Calls Try.prog 54 #[.pointer (some ⟨b, 0, none⟩)] w fun e w' => e = .returned (.tuple #[]) ∧ w' = w.setCell ⟨b, 0, none⟩ (.pointer (some ⟨b, 0, none⟩)) := by
 have hsz : (Try.prog.info? 55).map (·.size) = some 2 := by kernel_rfl
 have hlies : liesAt Try.prog Try.prog.depth 57 (2 / Try.prog.cellsOf 57) 0 55 1 = true := by kernel_rfl
 obtain ⟨j, hj, hjs⟩ := Option.map_eq_some_iff.1 hsz
 go_enter Try.func54, Try.ntmps54
 go_wp2
 rw [Lib.run_to_unsafe w ⟨b, 0, none⟩ Try.underlying53 Try.underlying94 hj (by rw [hjs]; decide) hsh (Nat.zero_lt_succ 1)]
 simp only [Result.andThen]
 rw [Oper.upon_value]
 go_wp2
 rw [run_callFunc_extern Try.func68 (by kernel_rfl) (by kernel_rfl) (by kernel_rfl) (e := Extern.AbiNoEscape.same) (by kernel_rfl)]
 rw [Lib.run_noEscape]
 simp only [Result.andThen]
 rw [Oper.upon_value]
 go_wp2
 rw [Lib.run_from_unsafe w ⟨b, 0, none⟩ Try.underlying94 Try.underlying53 hj hsh hlies]
 simp only [Result.andThen]
 rw [Oper.upon_value]
 go_wp2
 go_end0
 exact ⟨rfl, rfl⟩
theorem copyCheck_at (B b : Nat) (bs : List Value) (w : World) (h : Lib.IsBuilderF 57 5 B b bs w) :
  Calls Try.prog 54 #[.pointer (some ⟨b, 0, none⟩)] w fun e w' => e = .returned (.tuple #[]) ∧ Lib.BuilderAtF 57 5 B b (.pointer (some ⟨b, 0, none⟩)) bs w' ∧ Below B w w' ∧ Lib.OthersKept 5 (some b) w w' := by
 rcases h with h | h
 ·refine (copyCheck_fresh b w h.cell0 h.shape h.frozen0).mono ?_
  rintro e w' ⟨rfl, rfl⟩
  exact ⟨rfl, h.used _, (Below.refl B w).setCell (p := ⟨b, 0, none⟩) h.1 _, (Lib.OthersKept.refl _ _ w).setCell ⟨b, 0, none⟩ rfl _⟩
 ·refine (copyCheck_used b w h.cell0).mono ?_
  rintro e w' ⟨rfl, rfl⟩
  exact ⟨rfl, h, Below.refl B _, Lib.OthersKept.refl _ _ _⟩
set_option maxHeartbeats 2000000 in
set_option maxRecDepth 100000 in
theorem writeByte_at (B b : Nat) (bs : List Value) (c : Int) (w : World) (h : Lib.IsBuilderF 57 5 B b bs w) (hlen : bs.length + 1 ≤ 140737488355328) (hBw : B ≤ w.heap.size) :
  Calls Try.prog 55 #[.pointer (some ⟨b, 0, none⟩), .int .u8 c] w fun e w' => e = .returned .nilIface ∧ (Lib.BuilderAtF 57 5 B b (.pointer (some ⟨b, 0, none⟩)) (bs ++ [.int .u8 c]) w' ∧ Below B w w' ∧ Lib.OthersKept 5 (some b) w w') := by
 have hinf : (Try.prog.info? 5).map (fun i => (i.zero, i.size, i.bytes)) = some (some (.int .u8 0), 1, 1) := by kernel_rfl
 obtain ⟨i0, hi, hz0, hz1, hz2⟩ := info_parts hinf
 have e54 : ∀ args w, (callFunc 54 args).run Try.prog w = .ok (.enter 54 args) w := enters_of Try.func54 (by kernel_rfl) rfl
 go_enter Try.func55, Try.ntmps55
 go_wp2_with (go_at_fn 54; refine (copyCheck_at B b bs _ h).mono ?_)
 rintro e w1 ⟨rfl, h1, hb1, hk1⟩
 obtain ⟨hB, v, hbk, hown, hne⟩ := h1
 have c0 : w1.cell? ⟨b, 0, none⟩ = some (.pointer (some ⟨b, 0, none⟩)) := by rw [Lib.cell_of_heap hbk]; rfl
 have c1 : w1.cell? ⟨b, 1, none⟩ = some v := by rw [Lib.cell_of_heap hbk]; rfl
 go_wp2_with (at_builtin; refine wpList_append_ownF _ rfl _ _ 36 rfl B 5 i0 (.int .u8 0) 1 1 Try.underlying36 hi hz0 hz1 hz2 rfl (by decide) _ _ _ rfl (hown.alloc _) ⟨w1.heap.size, 0, none⟩ 1 1 [.int .u8 c] rfl rfl ?c1 ?c2 ?c3 ?c4 ?c5 ?_)
 case c1 =>
  intro j u hj
  match j, hj with
  | 0, hj => simp at hj; subst hj; simp [Addr.add]
 case c2 => intro u hu; simp at hu; subst hu; rfl
 case c3 => unfold maxLen; omega
 case c4 => omega
 case c5 => have := hb1.size; simp; omega
 intro v' w2 hown' hgrow _
 have hlt : b < w1.heap.size := by
  rcases Nat.lt_or_ge b w1.heap.size with h' | h'
  ·exact h'
  ·simp [Array.getElem?_eq_none h'] at hbk
 have hb2 : w2.heap[b]? = some (.cells #[.pointer (some ⟨b, 0, none⟩), v] 57 (0, 0)) := by
  rw [hgrow.block b (by simp; omega) (fun e => hne e.symm), Lib.alloc_old w1 _ b hlt]
  exact hbk
 have d0 : w2.cell? ⟨b, 0, none⟩ = some (.pointer (some ⟨b, 0, none⟩)) := by rw [Lib.cell_of_heap hb2]; rfl
 have d1 : w2.cell? ⟨b, 1, none⟩ = some v := by rw [Lib.cell_of_heap hb2]; rfl
 have f1 : w2.frozen? ⟨b, 1, none⟩ = false := Lib.frozen_of_heap hb2 1
 obtain ⟨g, cap, rfl⟩ : ∃ g cap, v' = .slice (some ⟨g, 0, none⟩) (bs.length + 1) cap := by
  rcases hown'.2 with ⟨_, h0⟩ | ⟨g, cap, cur, fz, hv, _⟩
  ·omega
  ·exact ⟨g, cap, hv⟩
 go_wp2
 go_ret
 refine ⟨rfl, ?_, ?_, ((hk1.alloc _).grown hgrow (Lib.ownsRowF_kind (hown.alloc _))).setCell ⟨b, 1, none⟩ rfl _⟩
 ·exact Lib.BuilderAtF.put (T := 57) (e := 5) hB hb2 (bs' := bs ++ [.int .u8 c]) (by simpa using hown') (by decide)
 ·exact ((hb1.alloc (by have := hb1.size; omega) _).grown hgrow (by have := hb1.size; simp; omega) (fun k hk => (hown.lt k hk).1)).setCell (p := ⟨b, 1, none⟩) hB _
set_option maxHeartbeats 2000000 in
set_option maxRecDepth 100000 in
theorem writeString_at (B b : Nat) (bs : List Value) (s : ByteArray) (w : World) (h : Lib.IsBuilderF 57 5 B b bs w) (hlen : bs.length + s.size ≤ 140737488355328) (hBw : B ≤ w.heap.size) :
  Calls Try.prog 28 #[.pointer (some ⟨b, 0, none⟩), .string s] w fun e w' => e = .returned (.tuple #[.int .i64 s.size, .nilIface]) ∧ (Lib.BuilderAtF 57 5 B b (.pointer (some ⟨b, 0, none⟩)) (bs ++ Lib.strCells s) w' ∧ Below B w w' ∧ Lib.OthersKept 5 (some b) w w') := by
 have hinf : (Try.prog.info? 5).map (fun i => (i.zero, i.size, i.bytes)) = some (some (.int .u8 0), 1, 1) := by kernel_rfl
 obtain ⟨i0, hi, hz0, hz1, hz2⟩ := info_parts hinf
 have e54 : ∀ args w, (callFunc 54 args).run Try.prog w = .ok (.enter 54 args) w := enters_of Try.func54 (by kernel_rfl) rfl
 go_enter Try.func28, Try.ntmps28
 go_wp2_with (go_at_fn 54; refine (copyCheck_at B b bs _ h).mono ?_)
 rintro e w1 ⟨rfl, h1, hb1, hk1⟩
 obtain ⟨hB, v, hbk, hown, hne⟩ := h1
 have c0 : w1.cell? ⟨b, 0, none⟩ = some (.pointer (some ⟨b, 0, none⟩)) := by rw [Lib.cell_of_heap hbk]; rfl
 have c1 : w1.cell? ⟨b, 1, none⟩ = some v := by rw [Lib.cell_of_heap hbk]; rfl
 go_wp2_with (at_builtin; refine Lib.wpList_append_own_stringF _ rfl _ _ 36 9 rfl B 5 i0 Try.underlying36 Try.underlying9 hi hz0 hz1 hz2 _ _ _ rfl hown s rfl ?c3 ?c4 ?c5 ?_)
 case c3 => unfold maxLen; omega
 case c4 => omega
 case c5 => have := hb1.size; omega
 intro v' w2 hown' hgrow _
 have hlt : b < w1.heap.size := by
  rcases Nat.lt_or_ge b w1.heap.size with h' | h'
  ·exact h'
  ·simp [Array.getElem?_eq_none h'] at hbk
 have hb2 : w2.heap[b]? = some (.cells #[.pointer (some ⟨b, 0, none⟩), v] 57 (0, 0)) := by
  rw [hgrow.block b hlt (fun e => hne e.symm)]
  exact hbk
 have d0 : w2.cell? ⟨b, 0, none⟩ = some (.pointer (some ⟨b, 0, none⟩)) := by rw [Lib.cell_of_heap hb2]; rfl
 have d1 : w2.cell? ⟨b, 1, none⟩ = some v := by rw [Lib.cell_of_heap hb2]; rfl
 have f1 : w2.frozen? ⟨b, 1, none⟩ = false := Lib.frozen_of_heap hb2 1
 obtain ⟨ao, n', cap, rfl⟩ : ∃ ao n' cap, v' = .slice ao n' cap := by
  rcases hown'.2 with ⟨hv, _⟩ | ⟨g, cap, cur, fz, hv, _⟩
  ·exact ⟨_, _, _, hv⟩
  ·exact ⟨_, _, _, hv⟩
 go_wp2
 go_ret2
 refine ⟨rfl, ?_, ?_, (hk1.grown hgrow (Lib.ownsRowF_kind hown)).setCell ⟨b, 1, none⟩ rfl _⟩
 ·exact Lib.BuilderAtF.put (T := 57) (e := 5) hB hb2 (bs' := bs ++ Lib.strCells s) (by simpa [Lib.strCells_length] using hown') (by decide)
 ·exact (hb1.grown hgrow (by have := hb1.size; omega) (fun k hk => (hown.lt k hk).1)).setCell (p := ⟨b, 1, none⟩) hB _
set_option maxHeartbeats 1000000 in
set_option maxRecDepth 100000 in
theorem string_at (B b : Nat) (l : List UInt8) (w : World) (h : Lib.IsBuilderF 57 5 B b (Lib.byteCells l) w) (h0 : l ≠ []) :
  Calls Try.prog 32 #[.pointer (some ⟨b, 0, none⟩)] w fun e w' => e = .returned (.string ⟨l.toArray⟩) ∧ (Lib.IsBuilderF 57 5 B b (Lib.byteCells l) w' ∧ Below B w w' ∧ Lib.OthersKept 5 (some b) w w') := by
 have hc5 : Try.prog.cellsOf 5 = 1 := by kernel_rfl
 obtain ⟨p, hp, hAt⟩ : ∃ p, (p = .pointer none ∨ p = .pointer (some ⟨b, 0, none⟩)) ∧ Lib.BuilderAtF 57 5 B b p (Lib.byteCells l) w := by
  rcases h with h | h
  ·exact ⟨_, .inl rfl, h⟩
  ·exact ⟨_, .inr rfl, h⟩
 obtain ⟨hB, v, hbk, hown, hne⟩ := hAt
 have hl0 : l.length ≠ 0 := by simpa using h0
 rw [Lib.byteCells_length] at hown
 obtain ⟨g, cap, cur, fz, rfl, hbg, hg, hfz, hnc, hcm, hcs, htake⟩ : ∃ g cap cur fz, v = .slice (some ⟨g, 0, none⟩) l.length cap ∧ B ≤ g ∧ w.heap[g]? = some (.cells cur 5 fz) ∧ fz.2 ≤ l.length * 1 ∧ l.length ≤ cap ∧ cap ≤ maxLen ∧ cur.size = cap * 1 ∧ cur.toList.take (l.length * 1) = Lib.byteCells l := by
  rcases hown.2 with ⟨_, hz⟩ | ⟨g, cap, cur, fz, hv, r⟩
  ·exact absurd hz hl0
  ·exact ⟨g, cap, cur, fz, hv, r⟩
 have c1 : w.drew.cell? ⟨b, 1, none⟩ = some (.slice (some ⟨g, 0, none⟩) l.length cap) := by
  have : w.drew.heap[b]? = some (.cells #[p, .slice (some ⟨g, 0, none⟩) l.length cap] 57 (0, 0)) := hbk
  rw [Lib.cell_of_heap this]; rfl
 have hSD : (Builtin.unsafeSliceData_ #[36] 84 #[.slice (some ⟨g, 0, none⟩) l.length cap]).run Try.prog w.drew = .ok (.pointer (some ⟨g, 0, none⟩)) w.drew :=
  Lib.run_unsafeSliceData_row _ _ _ _ _ _ (by omega)
 have hUS : (Builtin.unsafeString_ #[84, 3] 9 #[.pointer (some ⟨g, 0, none⟩), .int .i64 l.length]).run Try.prog w.drew = .ok (.string ⟨l.toArray⟩) (w.drew.freeze ⟨g, 0, none⟩ l.length) := by
  refine Lib.run_unsafeString_row w.drew 84 3 9 5 Try.underlying84 hc5 g cur.size (by have hg' : w.drew.heap[g]? = some (.cells cur 5 fz) := hg; simp [World.shape?, hg']) l h0 (by omega) (by unfold maxLen at hcm; omega) ?_
  intro j x hx
  have := hown.cells (g := g) rfl j (.int .u8 x.toNat) (by simp [Lib.byteCells, hx])
  exact this
 have hkeep : Lib.IsBuilderF 57 5 B b (Lib.byteCells l) (w.drew.freeze ⟨g, 0, none⟩ l.length) := by
  have hA : Lib.BuilderAtF 57 5 B b p (Lib.byteCells l) w.drew := ⟨hB, _, hbk, by rw [Lib.byteCells_length]; exact hown, hne⟩
  have hF := hA.froze (g := g) (cap := cap) (by rw [Lib.byteCells_length]; exact c1)
  rw [Lib.byteCells_length] at hF
  rcases hp with rfl | rfl
  ·exact .inl hF
  ·exact .inr hF
 have mixed : Try.prog.follows Departure.mixedOrders = true := by kernel_rfl
 go_enter Try.func32, Try.ntmps32
 go_wp2
 go_region_o
 all_goals (go_wp2; go_ret; exact ⟨rfl, hkeep, Lib.below_freeze (Below.drew (Below.refl B w)) (p := ⟨g, 0, none⟩) hbg _, ((Lib.OthersKept.refl _ _ w).drew).freeze ⟨g, 0, none⟩ _ ⟨cur, fz, hg⟩⟩)
def numB (n : Int) : Nat → List UInt8
 | 0 => []
 | k + 1 => UInt8.ofNat (n % 256).toNat :: numB (n / 256) k
theorem numB_len (n : Int) (k : Nat) : (numB n k).length = k := by
 induction k generalizing n with
 | zero => rfl
 | succ k ih => simp [numB, ih]
def WS (w0 : World) (b : Nat) (l : List UInt8) (W : World) : Prop := Lib.IsBuilderF 57 5 w0.heap.size b (Lib.byteCells l) W ∧ Below w0.heap.size w0 W
theorem byte_cell (n : Int) : (.int .u8 (n % 256) : Value) = .int .u8 ((UInt8.ofNat (n % 256).toNat).toNat : Int) := by
 have h : ((UInt8.ofNat (n % 256).toNat).toNat : Int) = n % 256 := by
  rw [UInt8.toNat_ofNat']
  omega
 rw [h]
theorem WS.byte {w0 W w' : World} {b : Nat} {l : List UInt8} {n : Int} (h : WS w0 b l W) (hb : Lib.BuilderAtF 57 5 w0.heap.size b (.pointer (some ⟨b, 0, none⟩)) (Lib.byteCells l ++ [.int .u8 (n % 256)]) w') (hB : Below w0.heap.size W w') : WS w0 b (l ++ [UInt8.ofNat (n % 256).toNat]) w' := by
 refine ⟨.inr ?_, h.2.trans hB⟩
 rw [byte_cell] at hb
 simpa [Lib.byteCells] using hb
set_option maxHeartbeats 4000000 in
set_option maxRecDepth 100000 in
theorem num_calls (w0 : World) (b : Nat) (l : List UInt8) (n : Int) (k : Nat) (w : World) (hS : WS w0 b l w) (hl : l.length + k ≤ 70368744177664) (hk : k ≤ 100) :
  Calls Try.prog 29 #[.pointer (some ⟨b, 0, none⟩), .int .i64 n, .int .i64 k] w fun e w' => e = .returned (.tuple #[]) ∧ WS w0 b (l ++ numB n k) w' ∧ Lib.OthersKept 5 (some b) w w' := by
 have HS := Aside0.mk hS
 clear hS
 go_enter Try.func29, Try.ntmps29
 go_wp2
 go_loopg [1, 7] k (fun gg s1 s7 wr => ∃ (j : Nat) (m : Int) (l' : List UInt8), j ≤ k ∧ k - j ≤ gg ∧ s1 = .int .i64 m ∧ s7 = .int .i64 j ∧ Aside0 (l' ++ numB m (k - j) = l ++ numB n k) ∧ Aside0 (l'.length = l.length + j) ∧ Aside0 (WS w0 b l' wr) ∧ Aside0 (Lib.OthersKept 5 (some b) w wr))
 case atStart => exact ⟨0, n, l, by omega, by omega, rfl, by simp [goInt], ⟨rfl⟩, ⟨by omega⟩, HS, ⟨Lib.OthersKept.refl _ _ _⟩⟩
 case round =>
  clear HS
  obtain ⟨j, m, l', hj, hgg, rfl, rfl, HE, HL, HS, HK⟩ := hrel
  by_cases hlt : j < k
  ·have hltz : decide (j < k) = true := decide_eq_true hlt
   go_wp2_with (go_at_call 55; refine (writeByte_at w0.heap.size b (Lib.byteCells l') (m % 256) _ HS.out.1 ?c1 ?c2).mono ?_)
   case c1 => have := HL.out; rw [Lib.byteCells_length]; omega
   case c2 => exact HS.out.2.size
   rintro e w2 ⟨rfl, hb, hB, hO⟩
   have HS2 := Aside0.mk (HS.out.byte hb hB)
   have HK2 := Aside0.mk (HK.out.trans hO)
   clear hb hB hO HS HK
   go_wp2
   go_roundg (k - (j + 1))
   case measure => omega
   case rel =>
    refine ⟨j + 1, m / 256, _, by omega, by omega, ?_, ?_, ⟨?_⟩, ⟨?_⟩, HS2, HK2⟩
    ·first | rfl | simp [goInt]
    ·first | rfl | (simp [goInt]; done) | (rw [show wrap64 ((j : Int) + 1) = ((j + 1 : Nat) : Int) from by unfold wrap64; omega])
    ·rw [← HE.out, show k - j = k - (j + 1) + 1 by omega, numB, List.append_assoc, List.singleton_append]
    ·have := HL.out; simp; omega
  ·have hltz : decide (j < k) = false := decide_eq_false hlt
   have hjk : j = k := by omega
   subst hjk
   go_wp2
   go_end0
   refine ⟨rfl, ?_, HK.out⟩
   have := HE.out
   rw [Nat.sub_self, numB, List.append_nil] at this
   rw [← this]
   exact HS.out
def listT (vs : List Int) : List UInt8 := vs.flatMap fun v => numB v 4
def listB (vs : List Int) : List UInt8 := numB vs.length 4 ++ listT vs
theorem listT_len (vs : List Int) : (listT vs).length = 4 * vs.length := by
 induction vs with
 | nil => rfl
 | cons v vs ih => simp only [listT, List.flatMap_cons, List.length_append, numB_len, List.length_cons] at *; omega
theorem listB_len (vs : List Int) : (listB vs).length = 4 + 4 * vs.length := by simp [listB, numB_len, listT_len]
theorem listT_take (vs : List Int) {j : Nat} (h : j < vs.length) : listT (vs.take (j + 1)) = listT (vs.take j) ++ numB vs[j] 4 := by
 unfold listT
 rw [List.take_succ_eq_append_getElem h, List.flatMap_append, List.flatMap_cons, List.flatMap_nil, List.append_nil]
theorem rdI_at {l : List Int} {i : Nat} (h : i < l.length) : rd l (i : Int) = l[i] := by simp [rd, List.getD_eq_getElem?_getD, List.getElem?_eq_getElem h]
set_option maxHeartbeats 4000000 in
set_option maxRecDepth 100000 in
theorem list_calls (w0 : World) (b : Nat) (l : List UInt8) (A : Option Addr) (c : Nat) (vs : List Int) (w : World) (hr : Kd.C (Kd.int .i64) w0 A vs.length vs) (hS : WS w0 b l w) (hl : l.length + 4 + 4 * vs.length ≤ 70368744177664) :
  Calls Try.prog 31 #[.pointer (some ⟨b, 0, none⟩), .slice A vs.length c] w fun e w' => e = .returned (.tuple #[]) ∧ WS w0 b (l ++ listB vs) w' ∧ Lib.OthersKept 5 (some b) w w' := by
 have HS := Aside0.mk hS
 have HR := Aside0.mk hr
 clear hS hr
 go_enter Try.func31, Try.ntmps31
 go_wp2_with (go_at_call 29; refine (num_calls w0 b l (vs.length : Int) 4 _ HS.out (by omega) (by omega)).mono ?_)
 rintro e w1 ⟨rfl, hs, hk⟩
 have HS1 := Aside0.mk hs
 have HK1 := Aside0.mk hk
 clear hs hk HS
 go_wp2
 go_loopg [5, 12] vs.length (fun gg _ s12 wr => ∃ j : Nat, j ≤ vs.length ∧ vs.length - j ≤ gg ∧ s12 = .int .i64 j ∧ Aside0 (WS w0 b ((l ++ numB vs.length 4) ++ listT (vs.take j)) wr) ∧ Aside0 (Lib.OthersKept 5 (some b) w wr))
 case atStart => exact ⟨0, by omega, by omega, by simp [goInt], ⟨by simpa [listT] using HS1.out⟩, HK1⟩
 case round =>
  clear HS1 HK1
  obtain ⟨j, hj, hgg, rfl, HS, HK⟩ := hrel
  by_cases hlt : j < vs.length
  ·have hltz : decide (j < vs.length) = true := decide_eq_true hlt
   have p210 : 0 ≤ (j : Int) := by omega
   have q210 : (j : Int) < (vs.length : Int) := by omega
   obtain ⟨ad, e0, hx⟩ := Kd.at_int HR.out (j : Int) p210 q210
   cases e0
   replace hx := (HS.out.2.cell (World.block_lt_of_cell? w0 _ hx)).trans hx
   have hx2 : wr.cell? (ad.add j) = some (.int .i64 vs[j]) := by
    rw [rdI_at hlt] at hx
    simpa using hx
   clear hx
   go_wp2_with (go_at_call 29; refine (num_calls w0 b _ (vs[j]) 4 _ HS.out ?c1 (by omega)).mono ?_)
   case c1 => simp only [List.length_append, numB_len, listT_len, List.length_take]; omega
   rintro e w2 ⟨rfl, hs, hk⟩
   have HS2 : Aside0 (WS w0 b ((l ++ numB vs.length 4) ++ listT (vs.take (j + 1))) w2) := ⟨by rw [listT_take vs hlt, ← List.append_assoc]; exact hs⟩
   have HK2 := Aside0.mk (HK.out.trans hk)
   clear hs hk HS HK
   go_wp2
   go_roundg (vs.length - (j + 1))
   case measure => omega
   case rel =>
    refine ⟨j + 1, by omega, by omega, ?_, HS2, HK2⟩
    first | rfl | (simp [goInt]; done) | (rw [show wrap64 ((j : Int) + 1) = ((j + 1 : Nat) : Int) from by unfold wrap64; omega])
  ·have hltz : decide (j < vs.length) = false := decide_eq_false hlt
   have hjk : j = vs.length := by omega
   go_wp2
   go_end0
   refine ⟨rfl, ?_, HK.out⟩
   have := HS.out
   rw [hjk, List.take_length] at this
   simpa [listB, List.append_assoc] using this
def objT (x : S41) : List UInt8 := if x.f1 = 0 then listB x.f2 else if x.f1 = 1 then numB x.f3.size 4 ++ x.f3.data.toList else if x.f1 = 2 then numB x.f4 8 else []
def objB (x : S41) : List UInt8 := numB x.f0 4 ++ (numB x.f1 4 ++ (numB x.f5 4 ++ objT x))
theorem OthersKept.cell41 {b k : Nat} {w w' : World} {cs : Array Value} (h : Lib.OthersKept 5 (some b) w w') (hk : w.heap[k]? = some (.cells cs 41 (0, 0))) (hb : k ≠ b) : w'.heap[k]? = some (.cells cs 41 (0, 0)) :=
 h k _ hk (fun e => hb (Option.some.inj e)) (fun _ _ e => by cases e)
theorem WS.alloc {w0 W : World} {b : Nat} {l : List UInt8} (h : WS w0 b l W) (o : Obj) : WS w0 b l (W.alloc o) := ⟨h.1.alloc o, h.2.alloc (by have := h.2.size; omega) _⟩
theorem WS.drew {w0 W : World} {b : Nat} {l : List UInt8} (h : WS w0 b l W) : WS w0 b l W.drew := ⟨h.1.elim (fun x => .inl x) (fun x => .inr x), h.2.drew⟩
theorem WS.lt {w0 W : World} {b : Nat} {l : List UInt8} (h : WS w0 b l W) : b < W.heap.size := by rcases h.1 with h | h <;> exact h.lt
theorem OthersKept.alloc_ {b : Nat} (w : World) (o : Obj) : Lib.OthersKept 5 (some b) w (w.alloc o) := (Lib.OthersKept.refl _ _ w).alloc o
set_option maxHeartbeats 8000000 in
set_option maxRecDepth 100000 in
theorem object_calls (w0 : World) (b : Nat) (l : List UInt8) (x : S41) (A : Option Addr) (c : Nat) (w : World) (hr : Kd.C (Kd.int .i64) w0 A x.f2.length x.f2) (hS : WS w0 b l w) (hl : l.length + (objB x).length ≤ 70368744177664) :
  Calls Try.prog 30 #[.pointer (some ⟨b, 0, none⟩), .agg #[.int .i64 x.f0, .int .i64 x.f1, .slice A x.f2.length c, .string x.f3, .int .i64 x.f4, .int .i64 x.f5]] w fun e w' => e = .returned (.tuple #[]) ∧ WS w0 b (l ++ objB x) w' ∧ Lib.OthersKept 5 (some b) w w' := by
 have hl1 : l.length + 12 + (objT x).length ≤ 70368744177664 := by simp only [objB, List.length_append, numB_len] at hl; omega
 clear hl
 have HS := Aside0.mk (hS.alloc (.cells #[.int .i64 x.f0, .int .i64 x.f1, .slice A x.f2.length c, .string x.f3, .int .i64 x.f4, .int .i64 x.f5] 41))
 have HK := Aside0.mk (OthersKept.alloc_ (b := b) w (.cells #[.int .i64 x.f0, .int .i64 x.f1, .slice A x.f2.length c, .string x.f3, .int .i64 x.f4, .int .i64 x.f5] 41))
 have HR := Aside0.mk hr
 have hb : w.heap.size ≠ b := by have := hS.lt; omega
 have HG := Aside0.mk (heap_alloc_new w (.cells #[.int .i64 x.f0, .int .i64 x.f1, .slice A x.f2.length c, .string x.f3, .int .i64 x.f4, .int .i64 x.f5] 41))
 clear hS hr
 go_enter Try.func30, Try.ntmps30
 go_wp2_with (go_at_call 29; refine (num_calls w0 b l x.f0 4 _ ?s1 (by omega) (by omega)).mono ?_)
 case s1 => exact HS.out
 rintro e w1 ⟨rfl, hs, hk⟩
 replace HG := Aside0.mk (OthersKept.cell41 hk HG.out hb)
 replace HK := Aside0.mk (HK.out.trans hk)
 replace HS := Aside0.mk hs
 clear hs hk
 have c1 : w1.cell? ⟨w.heap.size, 1, none⟩ = some (.int .i64 x.f1) := by rw [Lib.cell_of_heap HG.out]; rfl
 go_wp2_with (go_at_call 29; refine (num_calls w0 b _ x.f1 4 _ HS.out ?s1 (by omega)).mono ?_)
 case s1 => simp only [List.length_append, numB_len]; omega
 rintro e w2 ⟨rfl, hs, hk⟩
 replace HG := Aside0.mk (OthersKept.cell41 hk HG.out hb)
 replace HK := Aside0.mk (HK.out.trans hk)
 replace HS := Aside0.mk hs
 clear hs hk c1
 have c5 : w2.cell? ⟨w.heap.size, 5, none⟩ = some (.int .i64 x.f5) := by rw [Lib.cell_of_heap HG.out]; rfl
 go_wp2_with (go_at_call 29; refine (num_calls w0 b _ x.f5 4 _ HS.out ?s1 (by omega)).mono ?_)
 case s1 => simp only [List.length_append, numB_len]; omega
 rintro e w3 ⟨rfl, hs, hk⟩
 replace HG := Aside0.mk (OthersKept.cell41 hk HG.out hb)
 replace HK := Aside0.mk (HK.out.trans hk)
 replace HS := Aside0.mk hs
 clear hs hk c5
 have c1 : w3.cell? ⟨w.heap.size, 1, none⟩ = some (.int .i64 x.f1) := by rw [Lib.cell_of_heap HG.out]; rfl
 have c2 : w3.cell? ⟨w.heap.size, 2, none⟩ = some (.slice A x.f2.length c) := by rw [Lib.cell_of_heap HG.out]; rfl
 have c3 : w3.cell? ⟨w.heap.size, 3, none⟩ = some (.string x.f3) := by rw [Lib.cell_of_heap HG.out]; rfl
 have c4 : w3.cell? ⟨w.heap.size, 4, none⟩ = some (.int .i64 x.f4) := by rw [Lib.cell_of_heap HG.out]; rfl
 by_cases h0 : x.f1 = 0
 ·have h0z : decide (x.f1 = 0) = true := decide_eq_true h0
  have hT : objT x = listB x.f2 := by rw [objT, if_pos h0]
  rw [hT, listB_len] at hl1
  go_wp2_with (go_at_call 31; refine (list_calls w0 b _ A c x.f2 _ HR.out HS.out ?s1).mono ?_)
  case s1 => simp only [List.length_append, numB_len]; omega
  rintro e w4 ⟨rfl, hs, hk⟩
  go_wp2
  go_end0
  exact ⟨rfl, by rw [objB, hT]; simpa [List.append_assoc] using hs, HK.out.trans hk⟩
 ·have h0z : decide (x.f1 = 0) = false := decide_eq_false h0
  by_cases h1 : x.f1 = 1
  ·have h1z : decide (x.f1 = 1) = true := decide_eq_true h1
   have hT : objT x = numB x.f3.size 4 ++ x.f3.data.toList := by rw [objT, if_neg h0, if_pos h1]
   rw [hT, List.length_append, numB_len] at hl1
   replace hl1 : l.length + 12 + (4 + x.f3.size) ≤ 70368744177664 := hl1
   go_wp2_with (go_at_call 29; refine (num_calls w0 b _ (x.f3.size : Int) 4 _ HS.out ?s1 (by omega)).mono ?_)
   case s1 => simp only [List.length_append, numB_len]; omega
   rintro e w4 ⟨rfl, hs, hk⟩
   replace HG := Aside0.mk (OthersKept.cell41 hk HG.out hb)
   replace HK := Aside0.mk (HK.out.trans hk)
   replace HS := Aside0.mk hs
   clear hs hk c1 c2 c3 c4
   go_wp2
   have c3 : w4.cell? ⟨w.heap.size, 3, none⟩ = some (.string x.f3) := by rw [Lib.cell_of_heap HG.out]; rfl
   refine start_ (n := 6) (S := fun w' => w'.cell? ⟨w.heap.size, 3, none⟩ = some (.string x.f3)) (ds := []) #[false, false, false, false, false, false] (by kernel_rfl) rfl rfl (c3) (fun hHeld => ?_)
   replace HS := Aside0.mk HS.out.drew
   replace HK := Aside0.mk HK.out.drew
   replace HG : Aside0 (w4.drew.heap[w.heap.size]? = some (.cells #[.int .i64 x.f0, .int .i64 x.f1, .slice A x.f2.length c, .string x.f3, .int .i64 x.f4, .int .i64 x.f5] 41 (0, 0))) := ⟨HG.out⟩
   generalize w4.drew = w6 at HS HK HG hHeld ⊢
   refine pure_ (i := 0) (N := some 31) (v := ?_) (a' := ?_) #[true, false, false, false, false, false] rfl rfl (by kernel_rfl) (fun _ _ _ h => h) (Or.inl ⟨by rfl, ?_⟩) ?_ ?_
   rotate_left
   ·intro w'
    go_simp
    with_reducible rfl
   rotate_left
   ·simp only [Act.put, List.setIfInBounds_toArray, List.set_cons_zero, List.set_cons_succ, i64_w, i32_w]
    rfl
   refine pure_ (i := 1) (N := some 32) (v := ?_) (a' := ?_) #[true, true, false, false, false, false] rfl rfl (by kernel_rfl) (fun _ _ _ h => h) (Or.inl ⟨by rfl, ?_⟩) ?_ ?_
   rotate_left
   ·intro w'
    go_simp
    with_reducible rfl
   rotate_left
   ·simp only [Act.put, List.setIfInBounds_toArray, List.set_cons_zero, List.set_cons_succ, i64_w, i32_w]
    rfl
   refine pure_ (i := 2) (N := some 33) (v := ?_) (a' := ?_) #[true, true, true, false, false, false] rfl rfl (by kernel_rfl) (fun _ _ _ h => h) (Or.inl ⟨by rfl, ?_⟩) ?_ ?_
   rotate_left
   ·intro w'
    go_simp
    with_reducible rfl
   rotate_left
   ·simp only [Act.put, List.setIfInBounds_toArray, List.set_cons_zero, List.set_cons_succ, i64_w, i32_w]
    rfl
   refine pure_ (i := 3) (N := some 34) (v := ?_) (a' := ?_) #[true, true, true, true, false, false] rfl rfl (by kernel_rfl) (fun _ _ _ h => h) (Or.inl ⟨by rfl, ?_⟩) ?_ ?_
   rotate_left
   ·intro w'
    go_simp
    with_reducible rfl
   rotate_left
   ·simp only [Act.put, List.setIfInBounds_toArray, List.set_cons_zero, List.set_cons_succ, i64_w, i32_w]
    rfl
   refine take_ (i := 4) (N := some 35) (v := ?_) (a' := ?_) #[true, true, true, true, true, false] rfl rfl (by kernel_rfl) (fun _ _ _ h => h) (Or.inl ⟨by rfl, ?_⟩) hHeld ?_ ?_
   rotate_left
   ·intro w' s0
    go_simp
    with_reducible rfl
   rotate_left
   ·simp only [Act.put, List.setIfInBounds_toArray, List.set_cons_zero, List.set_cons_succ, i64_w, i32_w]
    rfl
   refine one_ (i := 5) (N := some 36) #[true, true, true, true, true, true] rfl rfl (by kernel_rfl) (by decide) (fun K hK => ?_)
   refine goes_ Try.func28 (by kernel_rfl) rfl #[.pointer (some ⟨b, 0, none⟩), .string x.f3] (by rfl) rfl rfl (by (try simp only [List.map_toArray, List.map_cons, List.map_nil]); first | done | rfl) ?_
   refine (writeString_at w0.heap.size b _ x.f3 _ HS.out.1 ?c1 ?c2).mono ?_
   case c1 => rw [Lib.byteCells_length]; simp only [List.length_append, numB_len]; omega
   case c2 => exact HS.out.2.size
   rintro e w5 ⟨rfl, hb5, hB5, hO5⟩
   refine ⟨_, rfl, ?_⟩
   refine hK.out _ _ ((by rw [Lib.cell_of_heap (OthersKept.cell41 hO5 HG.out hb)]; rfl)) (fun hHeld => ?_)
   clear hK K
   refine norm_ (a' := ?_) ?_ ?_
   rotate_left
   ·show Act.put _ (some 36) _ = _
    simp only [Act.put, List.setIfInBounds_toArray, List.set_cons_zero, List.set_cons_succ, i64_w, i32_w]
    rfl
   refine done_ (by kernel_rfl) ?_
   go_wp2
   go_end0
   refine ⟨rfl, ⟨?_, HS.out.2.trans hB5⟩, HK.out.trans hO5⟩
   refine .inr ?_
   rw [objB, hT]
   rw [Lib.strCells_eq] at hb5
   simpa [Lib.byteCells, List.append_assoc] using hb5
  ·have h1z : decide (x.f1 = 1) = false := decide_eq_false h1
   by_cases h2 : x.f1 = 2
   ·have h2z : decide (x.f1 = 2) = true := decide_eq_true h2
    have hT : objT x = numB x.f4 8 := by rw [objT, if_neg h0, if_neg h1, if_pos h2]
    rw [hT, numB_len] at hl1
    go_wp2_with (go_at_call 29; refine (num_calls w0 b _ x.f4 8 _ HS.out ?s1 (by omega)).mono ?_)
    case s1 => simp only [List.length_append, numB_len]; omega
    rintro e w4 ⟨rfl, hs, hk⟩
    go_wp2
    go_end0
    exact ⟨rfl, by rw [objB, hT]; simpa [List.append_assoc] using hs, HK.out.trans hk⟩
   ·have h2z : decide (x.f1 = 2) = false := decide_eq_false h2
    have hT : objT x = [] := by rw [objT, if_neg h0, if_neg h1, if_neg h2]
    go_wp2
    go_end0
    exact ⟨rfl, by rw [objB, hT]; simpa [List.append_assoc] using HS.out, HK.out⟩
def encT (objs : List S41) : List UInt8 := objs.flatMap objB
def encH (objs : List S41) (cap last : Int) : List UInt8 := [65, 78, 49] ++ numB cap 4 ++ numB last 4 ++ numB objs.length 4
def encB (objs : List S41) (cap last : Int) (roots : List Int) : List UInt8 := encH objs cap last ++ encT objs ++ listB roots
theorem encT_take (objs : List S41) {j : Nat} (h : j < objs.length) : encT (objs.take (j + 1)) = encT (objs.take j) ++ objB objs[j] := by
 unfold encT
 rw [List.take_succ_eq_append_getElem h, List.flatMap_append, List.flatMap_cons, List.flatMap_nil, List.append_nil]
theorem encT_part (objs : List S41) {j : Nat} (h : j < objs.length) : (encT (objs.take j)).length + (objB objs[j]).length ≤ (encT objs).length := by
 have h1 : encT objs = encT (objs.take (j + 1)) ++ encT (objs.drop (j + 1)) := by
  unfold encT
  rw [← List.flatMap_append, List.take_append_drop]
 rw [h1, encT_take objs h, List.length_append, List.length_append]
 omega
theorem encT_ge (objs : List S41) : objs.length ≤ (encT objs).length := by
 induction objs with
 | nil => exact Nat.le_refl _
 | cons x xs ih =>
  have h1 : encT (x :: xs) = objB x ++ encT xs := rfl
  have h2 : 12 ≤ (objB x).length := by simp only [objB, List.length_append, numB_len]; omega
  rw [h1, List.length_append, List.length_cons]
  omega
theorem rdT41_at {l : List S41} {i : Nat} (h : i < l.length) : rd_T41 l (i : Int) = l[i] := by simp [rd_T41, List.getD_eq_getElem?_getD, List.getElem?_eq_getElem h]
theorem BuilderAtF.below_ {T e : TypeId} {B b : Nat} {p : Value} {bs : List Value} {w w' : World} (h : Lib.BuilderAtF T e B b p bs w) (hb : Below w.heap.size w w') : Lib.BuilderAtF T e B b p bs w' := by
 obtain ⟨hB, v, hk, hown, hne⟩ := h
 have hlt : b < w.heap.size := (Array.getElem?_eq_some_iff.1 hk).1
 refine ⟨hB, v, (hb.block b hlt).trans hk, ⟨hown.1, ?_⟩, hne⟩
 rcases hown.2 with h | ⟨g, cap, cur, fz, h1, h2, h3, h4⟩
 ·exact .inl h
 ·exact .inr ⟨g, cap, cur, fz, h1, h2, (hb.block g (Array.getElem?_eq_some_iff.1 h3).1).trans h3, h4⟩
theorem WS.below {w0 W W' : World} {b : Nat} {l : List UInt8} (h : WS w0 b l W) (hb : Below W.heap.size W W') : WS w0 b l W' :=
 ⟨h.1.elim (fun x => .inl (BuilderAtF.below_ x hb)) (fun x => .inr (BuilderAtF.below_ x hb)), below_step h.2 hb⟩
theorem OthersKept.cellT {b k : Nat} {w w' : World} {t : TypeId} {cs : Array Value} (h : Lib.OthersKept 5 (some b) w w') (hk : w.heap[k]? = some (.cells cs t (0, 0))) (hb : k ≠ b) (ht : t ≠ 5) : w'.heap[k]? = some (.cells cs t (0, 0)) :=
 h k _ hk (fun e => hb (Option.some.inj e)) (fun _ _ e => by injection e with _ e2 _; exact ht e2)
set_option maxHeartbeats 8000000 in
set_option maxRecDepth 100000 in
theorem Encode_yes (k : Nat) (A : Option Addr) (c : Nat) (objs : List S41) (cap last : Int) (A1 : Option Addr) (c1 : Nat) (roots : List Int) (cs : ByteArray) (w : World) (hr : Kd.C k41 w A objs.length objs) (hc : objs.length ≤ c) (hr1 : Kd.C (Kd.int .i64) w A1 roots.length roots) (hc1 : roots.length ≤ c1)
  (sum : Int) (hm : snap_may.f k objs cap last roots = some true) (hof : crc_Of.f ⟨(encB objs cap last roots).toArray⟩ = some sum) (hby : crc_Bytes.f sum = some cs) (hsz : cs.size ≤ 35184372088832) (hl : (encB objs cap last roots).length ≤ 35184372088832) :
  Calls Try.prog 12 #[.agg #[.slice A objs.length c, .int .i64 cap, .int .i64 last], .slice A1 roots.length c1] w fun e w' => e = .returned (.string (⟨(encB objs cap last roots).toArray⟩ ++ cs)) ∧ Below w.heap.size w w' := by
 have HM := Aside0.mk hm
 have HOF := Aside0.mk hof
 have HBY := Aside0.mk hby
 clear hof hby
 have HR := Aside0.mk hr
 have HR1 := Aside0.mk hr1
 have HC := Aside0.mk hc
 have HC1 := Aside0.mk hc1
 clear hr hr1 hm hc hc1
 have hl1 : (encH objs cap last).length + (encT objs).length + (listB roots).length ≤ 35184372088832 := by simp only [encB, List.length_append] at hl; exact hl
 have hge := encT_ge objs
 have hlH : (encH objs cap last).length = 15 := by simp [encH, numB_len]
 go_enter Try.func12, Try.ntmps12
 go_wp2_with (go_at_call 27; refine (snap_may.calls k A c objs cap last A1 c1 roots true _ ?s1 HC.out ?s2 HC1.out HM.out).mono ?_)
 case s1 => exact Kd.C_alloc HR.out _
 case s2 => exact Kd.C_alloc HR1.out _
 rintro e w1 ⟨rfl, hb⟩
 have HG0 := Aside0.mk ((hb.block w.heap.size (by simp)).trans (heap_alloc_new w (.cells #[.slice A objs.length c, .int .i64 cap, .int .i64 last] 24)))
 have HB1 := Aside0.mk (below_step (below_alloc (Below.refl w.heap.size w) _) hb)
 clear hb
 have hne : w.heap.size ≠ w1.heap.size := by have := (Array.getElem?_eq_some_iff.1 HG0.out).1; omega
 have HS : Aside0 (WS w w1.heap.size [] (w1.alloc (.cells #[.pointer none, .slice none 0 0] 57))) := ⟨⟨.inl ⟨HB1.out.size, .slice none 0 0, heap_alloc_new w1 _, World.ownsRowF_nil _ _ _ _, by simp [Value.ownBlock]⟩, HB1.out.alloc HB1.out.size _⟩⟩
 go_wp2_with (go_at_call 28; refine (writeString_at w.heap.size w1.heap.size (Lib.byteCells []) ⟨#[65, 78, 49]⟩ _ HS.out.1 ?s1 ?s2).mono ?_)
 case s1 => decide
 case s2 => exact HS.out.2.size
 rintro e w2 ⟨rfl, hb2, hB2, hO2⟩
 replace HS : Aside0 (WS w w1.heap.size [65, 78, 49] w2) := ⟨⟨.inr hb2, HS.out.2.trans hB2⟩⟩
 replace HG0 := Aside0.mk (OthersKept.cellT hO2 ((Lib.alloc_old w1 (.cells #[.pointer none, .slice none 0 0] 57) _ (Array.getElem?_eq_some_iff.1 HG0.out).1).trans HG0.out) hne (by decide))
 clear hb2 hB2 hO2 HB1
 generalize w1.heap.size = b at HS HG0 hne ⊢
 have c1 : w2.cell? ⟨w.heap.size, 1, none⟩ = some (.int .i64 cap) := by rw [Lib.cell_of_heap HG0.out]; rfl
 go_wp2_with (go_at_call 29; refine (num_calls w b _ cap 4 _ HS.out (by decide) (by omega)).mono ?_)
 rintro e w3 ⟨rfl, hs, hk⟩
 replace HG0 := Aside0.mk (OthersKept.cellT hk HG0.out hne (by decide))
 replace HS := Aside0.mk hs
 clear hs hk c1
 have c2 : w3.cell? ⟨w.heap.size, 2, none⟩ = some (.int .i64 last) := by rw [Lib.cell_of_heap HG0.out]; rfl
 go_wp2_with (go_at_call 29; refine (num_calls w b _ last 4 _ HS.out (by simp [numB_len]) (by omega)).mono ?_)
 rintro e w4 ⟨rfl, hs, hk⟩
 replace HG0 := Aside0.mk (OthersKept.cellT hk HG0.out hne (by decide))
 replace HS := Aside0.mk hs
 clear hs hk c2
 have c0 : w4.cell? ⟨w.heap.size, 0, none⟩ = some (.slice A objs.length c) := by rw [Lib.cell_of_heap HG0.out]; rfl
 go_wp2_with (go_at_call 29; refine (num_calls w b _ (objs.length : Int) 4 _ HS.out (by simp [numB_len]) (by omega)).mono ?_)
 rintro e w5 ⟨rfl, hs, hk⟩
 replace HG0 := Aside0.mk (OthersKept.cellT hk HG0.out hne (by decide))
 replace HS : Aside0 (WS w b (encH objs cap last) w5) := ⟨hs⟩
 clear hs hk c0
 have c0 : w5.cell? ⟨w.heap.size, 0, none⟩ = some (.slice A objs.length c) := by rw [Lib.cell_of_heap HG0.out]; rfl
 go_wp2
 clear c0 HG0 hne HC HC1 HM
 go_loopg [7, 34] objs.length (fun gg _ s34 wr => ∃ j : Nat, j ≤ objs.length ∧ objs.length - j ≤ gg ∧ s34 = .int .i64 j ∧ Aside0 (WS w b (encH objs cap last ++ encT (objs.take j)) wr))
 case atStart => exact ⟨0, by omega, by omega, by simp [goInt], ⟨by simpa [encT] using HS.out⟩⟩
 case round =>
  clear HS
  obtain ⟨j, hj, hgg, rfl, HS⟩ := hrel
  by_cases hlt : j < objs.length
  ·have hltz : decide (j < objs.length) = true := decide_eq_true hlt
   have p210 : 0 ≤ (j : Int) := by omega
   have q210 : (j : Int) < (objs.length : Int) := by omega
   obtain ⟨ad, A2, c2, e0, x0, x1, x2, x3, x4, x5, l2, g2⟩ := at_T41 HR.out (j : Int) p210 q210
   cases e0
   have hpart := encT_part objs hlt
   have hx := encT_take objs hlt
   rw [rdT41_at hlt] at x0 x1 x2 x3 x4 x5 l2 g2
   simp only [Int.toNat_natCast] at x0 x1 x2 x3 x4 x5
   generalize objs[j] = x at *
   replace x0 := (HS.out.2.cell (World.block_lt_of_cell? w _ x0)).trans x0
   replace x1 := (HS.out.2.cell (World.block_lt_of_cell? w _ x1)).trans x1
   replace x2 := (HS.out.2.cell (World.block_lt_of_cell? w _ x2)).trans x2
   replace x3 := (HS.out.2.cell (World.block_lt_of_cell? w _ x3)).trans x3
   replace x4 := (HS.out.2.cell (World.block_lt_of_cell? w _ x4)).trans x4
   replace x5 := (HS.out.2.cell (World.block_lt_of_cell? w _ x5)).trans x5
   go_wp2_with (go_at_call 30; refine (object_calls w b (encH objs cap last ++ encT (objs.take j)) x A2 c2 _ g2 ?s1 ?s2).mono ?_)
   case s1 => exact HS.out.alloc _
   case s2 => simp only [List.length_append]; omega
   rintro e w6 ⟨rfl, hs, hk⟩
   have HS2 : Aside0 (WS w b (encH objs cap last ++ encT (objs.take (j + 1))) w6) := ⟨by rw [hx, ← List.append_assoc]; exact hs⟩
   clear hs hk HS
   go_wp2
   go_roundg (objs.length - (j + 1))
   case measure => omega
   case rel =>
    refine ⟨j + 1, by omega, by omega, ?_, HS2⟩
    first | rfl | (simp [goInt]; done) | (rw [show wrap64 ((j : Int) + 1) = ((j + 1 : Nat) : Int) from by unfold wrap64; omega])
  ·have hltz : decide (j < objs.length) = false := decide_eq_false hlt
   have hjk : j = objs.length := by omega
   subst hjk
   rw [List.take_length] at HS
   go_wp2_with (go_at_call 31; refine (list_calls w b _ A1 c1 roots _ HR1.out HS.out ?s1).mono ?_)
   case s1 => simp only [List.length_append, encH, numB_len] at hl1 ⊢; rw [listB_len] at hl1; simp only [List.length_cons, List.length_nil] at hl1 ⊢; omega
   rintro e w6 ⟨rfl, hs, hk⟩
   replace HS : Aside0 (WS w b (encB objs cap last roots) w6) := ⟨hs⟩
   clear hs hk
   have hnil : encB objs cap last roots ≠ [] := by simp [encB, encH]
   have c7b0 : (9223372036854775807 < (encB objs cap last roots).length + cs.size) = False := eq_false (by omega)
   go_wp2
   refine start_ (n := 12) (S := fun w' => True) (ds := []) #[false, false, false, false, false, false, false, false, false, false, false, false] (by kernel_rfl) rfl rfl (trivial) (fun hHeld => ?_)
   replace HS := Aside0.mk HS.out.drew
   generalize w6.drew = w6d at HS ⊢
   refine pure_ (i := 0) (N := some 45) (v := ?_) (a' := ?_) #[true, false, false, false, false, false, false, false, false, false, false, false] rfl rfl (by kernel_rfl) (fun _ _ _ h => h) (Or.inl ⟨by rfl, ?_⟩) ?_ ?_
   rotate_left
   ·intro w'
    go_simp
    with_reducible rfl
   rotate_left
   ·simp only [Act.put, List.setIfInBounds_toArray, List.set_cons_zero, List.set_cons_succ, i64_w, i32_w]
    rfl
   refine pure_ (i := 1) (N := some 46) (v := ?_) (a' := ?_) #[true, true, false, false, false, false, false, false, false, false, false, false] rfl rfl (by kernel_rfl) (fun _ _ _ h => h) (Or.inl ⟨by rfl, ?_⟩) ?_ ?_
   rotate_left
   ·intro w'
    go_simp
    with_reducible rfl
   rotate_left
   ·simp only [Act.put, List.setIfInBounds_toArray, List.set_cons_zero, List.set_cons_succ, i64_w, i32_w]
    rfl
   refine pure_ (i := 2) (N := some 47) (v := ?_) (a' := ?_) #[true, true, true, false, false, false, false, false, false, false, false, false] rfl rfl (by kernel_rfl) (fun _ _ _ h => h) (Or.inl ⟨by rfl, ?_⟩) ?_ ?_
   rotate_left
   ·intro w'
    go_simp
    with_reducible rfl
   rotate_left
   ·simp only [Act.put, List.setIfInBounds_toArray, List.set_cons_zero, List.set_cons_succ, i64_w, i32_w]
    rfl
   refine pure_ (i := 4) (N := some 49) (v := ?_) (a' := ?_) #[true, true, true, false, true, false, false, false, false, false, false, false] rfl rfl (by kernel_rfl) (fun _ _ _ h => h) (Or.inl ⟨by rfl, ?_⟩) ?_ ?_
   rotate_left
   ·intro w'
    go_simp
    with_reducible rfl
   rotate_left
   ·simp only [Act.put, List.setIfInBounds_toArray, List.set_cons_zero, List.set_cons_succ, i64_w, i32_w]
    rfl
   refine pure_ (i := 5) (N := some 50) (v := ?_) (a' := ?_) #[true, true, true, false, true, true, false, false, false, false, false, false] rfl rfl (by kernel_rfl) (fun _ _ _ h => h) (Or.inl ⟨by rfl, ?_⟩) ?_ ?_
   rotate_left
   ·intro w'
    go_simp
    with_reducible rfl
   rotate_left
   ·simp only [Act.put, List.setIfInBounds_toArray, List.set_cons_zero, List.set_cons_succ, i64_w, i32_w]
    rfl
   refine pure_ (i := 6) (N := some 51) (v := ?_) (a' := ?_) #[true, true, true, false, true, true, true, false, false, false, false, false] rfl rfl (by kernel_rfl) (fun _ _ _ h => h) (Or.inl ⟨by rfl, ?_⟩) ?_ ?_
   rotate_left
   ·intro w'
    go_simp
    with_reducible rfl
   rotate_left
   ·simp only [Act.put, List.setIfInBounds_toArray, List.set_cons_zero, List.set_cons_succ, i64_w, i32_w]
    rfl
   refine one_ (i := 3) (N := some 48) #[true, true, true, true, true, true, true, false, false, false, false, false] rfl rfl (by kernel_rfl) (by decide) (fun K hK => ?_)
   refine goes_ Try.func32 (by kernel_rfl) rfl #[.pointer (some ⟨b, 0, none⟩)] (by rfl) rfl rfl (by (try simp only [List.map_toArray, List.map_cons, List.map_nil]); first | done | rfl) ?_
   refine (string_at w.heap.size b (encB objs cap last roots) _ HS.out.1 hnil).mono ?_
   rintro e w7 ⟨rfl, hb7, hB7, _⟩
   refine ⟨_, rfl, ?_⟩
   replace HS : Aside0 (WS w b (encB objs cap last roots) w7) := ⟨⟨hb7, HS.out.2.trans hB7⟩⟩
   refine hK.out _ _ (trivial) (fun hHeld => ?_)
   clear hK K
   refine norm_ (a' := ?_) ?_ ?_
   rotate_left
   ·show Act.put _ (some 48) _ = _
    simp only [Act.put, List.setIfInBounds_toArray, List.set_cons_zero, List.set_cons_succ, i64_w, i32_w]
    rfl
   refine one_ (i := 7) (N := some 52) #[true, true, true, true, true, true, true, true, false, false, false, false] rfl rfl (by kernel_rfl) (by decide) (fun K hK => ?_)
   refine goes_ Try.func32 (by kernel_rfl) rfl #[.pointer (some ⟨b, 0, none⟩)] (by rfl) rfl rfl (by (try simp only [List.map_toArray, List.map_cons, List.map_nil]); first | done | rfl) ?_
   refine (string_at w.heap.size b (encB objs cap last roots) _ HS.out.1 hnil).mono ?_
   rintro e w8 ⟨rfl, hb8, hB8, _⟩
   refine ⟨_, rfl, ?_⟩
   replace HS : Aside0 (WS w b (encB objs cap last roots) w8) := ⟨⟨hb8, HS.out.2.trans hB8⟩⟩
   refine hK.out _ _ (trivial) (fun hHeld => ?_)
   clear hK K
   refine norm_ (a' := ?_) ?_ ?_
   rotate_left
   ·show Act.put _ (some 52) _ = _
    simp only [Act.put, List.setIfInBounds_toArray, List.set_cons_zero, List.set_cons_succ, i64_w, i32_w]
    rfl
   refine one_ (i := 8) (N := some 53) #[true, true, true, true, true, true, true, true, true, false, false, false] rfl rfl (by kernel_rfl) (by decide) (fun K hK => ?_)
   refine goes_ Try.func21 (by kernel_rfl) rfl #[.string ⟨(encB objs cap last roots).toArray⟩] (by rfl) rfl rfl (by (try simp only [List.map_toArray, List.map_cons, List.map_nil]); first | done | rfl) ?_
   refine (crc_Of.calls ⟨(encB objs cap last roots).toArray⟩ sum _ HOF.out).mono ?_
   rintro e w9 ⟨rfl, hb9⟩
   refine ⟨_, rfl, ?_⟩
   have HB9 := Aside0.mk (below_step HS.out.2 hb9)
   refine hK.out _ _ (trivial) (fun hHeld => ?_)
   clear hK K
   refine norm_ (a' := ?_) ?_ ?_
   rotate_left
   ·show Act.put _ (some 53) _ = _
    simp only [Act.put, List.setIfInBounds_toArray, List.set_cons_zero, List.set_cons_succ, i64_w, i32_w]
    rfl
   refine one_ (i := 9) (N := some 54) #[true, true, true, true, true, true, true, true, true, true, false, false] rfl rfl (by kernel_rfl) (by decide) (fun K hK => ?_)
   refine goes_ Try.func20 (by kernel_rfl) rfl #[.int .i64 sum] (by rfl) rfl rfl (by (try simp only [List.map_toArray, List.map_cons, List.map_nil]); first | done | rfl) ?_
   refine (crc_Bytes.calls sum cs _ HBY.out).mono ?_
   rintro e w10 ⟨rfl, hb10⟩
   refine ⟨_, rfl, ?_⟩
   replace HB9 := Aside0.mk (below_step HB9.out hb10)
   refine hK.out _ _ (trivial) (fun hHeld => ?_)
   clear hK K
   refine norm_ (a' := ?_) ?_ ?_
   rotate_left
   ·show Act.put _ (some 54) _ = _
    simp only [Act.put, List.setIfInBounds_toArray, List.set_cons_zero, List.set_cons_succ, i64_w, i32_w]
    rfl
   refine pure_ (i := 10) (N := some 55) (v := ?_) (a' := ?_) #[true, true, true, true, true, true, true, true, true, true, true, false] rfl rfl (by kernel_rfl) (fun _ _ _ h => h) (Or.inl ⟨by rfl, ?_⟩) ?_ ?_
   rotate_left
   ·intro w'
    go_simp
    with_reducible rfl
   rotate_left
   ·simp only [Act.put, List.setIfInBounds_toArray, List.set_cons_zero, List.set_cons_succ, i64_w, i32_w]
    rfl
   refine pure_ (i := 11) (N := some 4) (v := ?_) (a' := ?_) #[true, true, true, true, true, true, true, true, true, true, true, true] rfl rfl (by kernel_rfl) (fun _ _ _ h => h) (Or.inl ⟨by rfl, ?_⟩) ?_ ?_
   rotate_left
   ·intro w'
    go_simp
    with_reducible rfl
   rotate_left
   ·simp only [Act.put, List.setIfInBounds_toArray, List.set_cons_zero, List.set_cons_succ, i64_w, i32_w]
    rfl
   refine done_ (by kernel_rfl) ?_
   go_wp2
   go_ret
   exact ⟨rfl, HB9.out⟩
set_option maxHeartbeats 8000000 in
set_option maxRecDepth 100000 in
theorem Encode_no (k : Nat) (A : Option Addr) (c : Nat) (objs : List S41) (cap last : Int) (A1 : Option Addr) (c1 : Nat) (roots : List Int) (w : World) (hr : Kd.C k41 w A objs.length objs) (hc : objs.length ≤ c) (hr1 : Kd.C (Kd.int .i64) w A1 roots.length roots) (hc1 : roots.length ≤ c1)
  (hm : snap_may.f k objs cap last roots = some false) :
  Calls Try.prog 12 #[.agg #[.slice A objs.length c, .int .i64 cap, .int .i64 last], .slice A1 roots.length c1] w fun e w' => e = .returned (.string ⟨#[]⟩) ∧ Below w.heap.size w w' := by
 have HM := Aside0.mk hm
 have HR := Aside0.mk hr
 have HR1 := Aside0.mk hr1
 have HC := Aside0.mk hc
 have HC1 := Aside0.mk hc1
 clear hr hr1 hm hc hc1
 go_enter Try.func12, Try.ntmps12
 go_wp2_with (go_at_call 27; refine (snap_may.calls k A c objs cap last A1 c1 roots false _ ?s1 HC.out ?s2 HC1.out HM.out).mono ?_)
 case s1 => exact Kd.C_alloc HR.out _
 case s2 => exact Kd.C_alloc HR1.out _
 rintro e w1 ⟨rfl, hb⟩
 have HB1 := Aside0.mk (below_step (below_alloc (Below.refl w.heap.size w) _) hb)
 clear hb
 go_wp2
 go_ret
 exact ⟨rfl, HB1.out⟩
def snap_Encode.f (k : Nat) (l0_0 : List (S41)) (a0_1 : Int) (a0_2 : Int) (l1 : List Int) : Option ByteArray :=
 (snap_may.f k l0_0 a0_1 a0_2 l1).bind fun t => if t = true then (if (encB l0_0 a0_1 a0_2 l1).length ≤ 35184372088832 then ((crc_Of.f ⟨(encB l0_0 a0_1 a0_2 l1).toArray⟩).bind fun s => (crc_Bytes.f s).bind fun cs => if cs.size ≤ 35184372088832 then some (⟨(encB l0_0 a0_1 a0_2 l1).toArray⟩ ++ cs) else none) else none) else some ⟨#[]⟩
theorem snap_Encode.mono : ∀ a0 a1 a2 a3 k, LeO (snap_Encode.f k a0 a1 a2 a3) (snap_Encode.f (k + 1) a0 a1 a2 a3) := by
 intro a0 a1 a2 a3 k
 unfold snap_Encode.f
 exact LeO.bind (snap_may.mono _ _ _ _ _) (fun _ => LeO.refl _)
theorem snap_Encode.calls (k : Nat) (A0_0 : Option Addr) (c0_0 : Nat) (l0_0 : List (S41)) (a0_1 : Int) (a0_2 : Int) (A1 : Option Addr) (c1 : Nat) (l1 : List Int) (r : ByteArray) (w : World) (hr0_0 : Kd.C k41 w A0_0 l0_0.length l0_0) (hc0_0 : l0_0.length ≤ c0_0) (hr1 : Kd.C (Kd.int .i64) w A1 l1.length l1) (hc1 : l1.length ≤ c1) (h : snap_Encode.f k l0_0 a0_1 a0_2 l1 = some r) :
  Calls Try.prog 12 #[.agg #[.slice A0_0 l0_0.length c0_0, .int .i64 a0_1, .int .i64 a0_2], .slice A1 l1.length c1] w fun e w' => e = .returned (.string r) ∧ Below w.heap.size w w' := by
 unfold snap_Encode.f at h
 obtain ⟨t, h1, h2⟩ := Option.bind_eq_some_iff.mp h
 cases t
 ·simp only [Bool.false_eq_true, if_false, Option.some.injEq] at h2
  subst h2
  exact Encode_no k A0_0 c0_0 l0_0 a0_1 a0_2 A1 c1 l1 w hr0_0 hc0_0 hr1 hc1 h1
 ·simp only [if_true] at h2
  split at h2
  case isFalse => cases h2
  rename_i h3
  obtain ⟨s, h4, h5⟩ := Option.bind_eq_some_iff.mp h2
  obtain ⟨cs, h6, h7⟩ := Option.bind_eq_some_iff.mp h5
  split at h7
  case isFalse => cases h7
  rename_i h8
  obtain rfl := Option.some.inj h7
  exact Encode_yes k A0_0 c0_0 l0_0 a0_1 a0_2 A1 c1 l1 cs w hr0_0 hc0_0 hr1 hc1 s h1 h4 h6 h8 h3
def IsS79 (w0 W : World) (g : Nat) (f0 : ByteArray) : Prop := W.heap[g]? = some (.cells #[.string f0] 79 (0, 0)) ∧ w0.heap.size ≤ g
theorem IsS79.grown {w0 W : World} {g : Nat} {f0 : ByteArray} {W1 : World} {row : Option Nat} (h : IsS79 w0 W g f0) (hw : W.grownBy W1 row) (hne : some g ≠ row) : IsS79 w0 W1 g f0 := by
 obtain ⟨hb, hg⟩ := h
 exact ⟨blk_grown hb hw hne, hg⟩
theorem IsS79.kept {w0 W : World} {g : Nat} {f0 : ByteArray} {W1 : World} {S : Nat → Prop} (h : IsS79 w0 W g f0) (hk : Kept W W1 S) (hne : ¬ S g) : IsS79 w0 W1 g f0 := by
 obtain ⟨hb, hg⟩ := h
 exact ⟨blk_kept hb hk hne, hg⟩
theorem IsS79.below {w0 W : World} {g : Nat} {f0 : ByteArray} {W1 : World} (h : IsS79 w0 W g f0) (hw : Below W.heap.size W W1) : IsS79 w0 W1 g f0 := h.grown (grown_of_below hw none) (by simp)
theorem IsS79.alloc {w0 W : World} {g : Nat} {f0 : ByteArray} (h : IsS79 w0 W g f0) (o : Obj) : IsS79 w0 (W.alloc o) g f0 := h.below (below_alloc (Below.refl _ _) o)
theorem IsS79.drewN {w0 W : World} {g : Nat} {f0 : ByteArray} (h : IsS79 w0 W g f0) (m : Nat) : IsS79 w0 (W.drewN m) g f0 := h
theorem IsS79.drew {w0 W : World} {g : Nat} {f0 : ByteArray} (h : IsS79 w0 W g f0) : IsS79 w0 W.drew g f0 := h
theorem IsS79.at_ {w0 W : World} {g : Nat} {f0 : ByteArray} {w' : World} {m : Nat} (hq : W.drewN m = w') (h : IsS79 w0 W g f0) : IsS79 w0 w' g f0 := by subst hq; exact IsS79.drewN h m
theorem IsS79.apart {w0 W : World} {g : Nat} {f0 : ByteArray} {α : Type} {d : Kd α} {e : Nat} {base : Nat} {ok : Nat → Prop} {v : Value} {xs : List α} (h : IsS79 w0 W g f0) (ho : d.R e W base ok v xs) (ht : ∀ q, q ∈ e :: d.E → q ≠ 79) : d.R e W base (fun k => ok k ∧ k ≠ g) v xs := by
 obtain ⟨hb, hg⟩ := h
 exact Kd.R_types ho hb ht
theorem IsS79.own_ne {w0 W : World} {g : Nat} {f0 : ByteArray} {α : Type} {d : Kd α} {e : Nat} {base : Nat} {ok : Nat → Prop} {v : Value} {xs : List α} (h : IsS79 w0 W g f0) (ho : d.R e W base ok v xs) (ht : e ≠ 79) : some g ≠ v.ownBlock := by
 obtain ⟨hb, hg⟩ := h
 exact Kd.R_ne ho hb ht
theorem IsS79.lt {w0 W : World} {g : Nat} {f0 : ByteArray} (h : IsS79 w0 W g f0) : g < W.heap.size := by
 obtain ⟨hb, hg⟩ := h
 exact blk_lt hb
theorem IsS79.ge {w0 W : World} {g : Nat} {f0 : ByteArray} (h : IsS79 w0 W g f0) : w0.heap.size ≤ g := by
 obtain ⟨hb, hg⟩ := h
 exact hg
theorem IsS79.far {w0 W : World} {g : Nat} {f0 : ByteArray} {p : Addr} (h : IsS79 w0 W g f0) (hne : g ≠ p.block) (u : Value) : IsS79 w0 (W.setCell p u) g f0 := by
 obtain ⟨hb, hg⟩ := h
 exact ⟨blk_far hb hne u, hg⟩
theorem cellS79_0 {W : World} {g : Nat} {f0 : ByteArray} (h : W.heap[g]? = some (.cells #[.string f0] 79 (0, 0))) : W.cell? ⟨g, 0, none⟩ = some (.string f0) := (blk_cell h 0).trans rfl
theorem IsS79.set_0 {w0 W : World} {g : Nat} {f0 : ByteArray} (h : IsS79 w0 W g f0) (x : ByteArray) : IsS79 w0 (W.setCell ⟨g, 0, none⟩ (.string x)) g x := by
 obtain ⟨hb, hg⟩ := h
 exact ⟨by simpa using blk_set hb 0 (.string x), hg⟩
theorem IsS79.new (w0 W : World) (f0 : ByteArray) (hB : Below w0.heap.size w0 W) : IsS79 w0 (W.alloc (.cells #[.string f0] 79)) W.heap.size f0 := ⟨by simpa using heap_alloc_new W _, hB.size⟩
def snap_reader_take.f (s0_0 : ByteArray) (a1 : Int) : Option (ByteArray × ByteArray) := if a1 < 0 then (none) else (if a1 > (s0_0.size : Int) then (none) else (if 0 ≤ a1 then (if a1 ≤ (s0_0.size : Int) then (some (s0_0.extract 0 (a1 : Int).toNat, s0_0.extract (a1 : Int).toNat s0_0.size)) else (none)) else (none)))
set_option maxHeartbeats 8000000 in
set_option maxRecDepth 100000 in
theorem snap_reader_take.calls (g : Nat) (s0_0 : ByteArray) (a1 : Int) (r1 : ByteArray) (r2 : ByteArray) (w0 w : World) (hI : IsS79 w0 w g s0_0) (hB : Below w0.heap.size w0 w) (h : snap_reader_take.f s0_0 a1 = some (r1, r2)) :
  Calls Try.prog 45 #[.pointer (some ⟨g, 0, none⟩), .int .i64 a1] w fun e w' => e = .returned (.string r1) ∧ IsS79 w0 w' g r2 ∧ Below w0.heap.size w0 w' ∧ KeepBut w w' g none := by
 have HI0 := Aside0.mk hI
 have HK := Aside0.mk (KeepBut.refl w g none)
 have HL := Aside0.mk hB.size
 clear hI
 have HW0 := Aside0.mk hB.size
 have HB := Aside0.mk hB
 clear hB
 have H : (if a1 < 0 then (none) else (if a1 > (s0_0.size : Int) then (none) else (if 0 ≤ a1 then (if a1 ≤ (s0_0.size : Int) then (some (s0_0.extract 0 (a1 : Int).toNat, s0_0.extract (a1 : Int).toNat s0_0.size)) else (none)) else (none)))) = some (r1, r2) := h
 clear h
 by_cases c3 : a1 < 0
 ·rw [if_pos c3] at H
  exact absurd H (by simp)
 ·rw [if_neg c3] at H
  have c3b0 : decide (a1 < 0) = false := decide_eq_false c3
  clear c3
  by_cases c4 : a1 > (s0_0.size : Int)
  ·rw [if_pos c4] at H
   exact absurd H (by simp)
  ·rw [if_neg c4] at H
   have c4b0 : decide ((s0_0.size : Int) < a1) = false := decide_eq_false c4
   clear c4
   by_cases c5 : 0 ≤ a1
   ·rw [if_pos c5] at H
    have c5b0 := eq_true c5
    have c5b1 : decide (0 ≤ a1) = true := decide_eq_true c5
    clear c5
    by_cases c6 : a1 ≤ (s0_0.size : Int)
    ·rw [if_pos c6] at H
     have c6b0 := eq_true c6
     have c6b1 : decide (a1 ≤ (s0_0.size : Int)) = true := decide_eq_true c6
     clear c6
     have c7b0 := eq_true (of_decide_eq_true (by first | (with_reducible assumption) | assumption) : 0 ≤ a1)
     have c8b0 := eq_true (of_decide_eq_true (by first | (with_reducible assumption) | assumption) : a1 ≤ (s0_0.size : Int))
     simp only [Option.some.injEq, Prod.mk.injEq] at H
     obtain ⟨rfl, rfl⟩ := H
     obtain ⟨HGz9, hgz9⟩ := HI0.out
     have hcz9_0 := cellS79_0 HGz9
     have hfz9_0 := blk_frozen HGz9 0
     clear HGz9 hgz9
     go_enter Try.func45, Try.ntmps45
     go_wp2
     go_ret
     exact ⟨by first | rfl | (simp [errW_none, errW_some] <;> rfl) | (simp [*, errW_none, errW_some] <;> rfl), by repeat (first | (with_reducible first | exact HI0.out | apply IsS79.alloc | apply IsS79.drewN | apply IsS79.drew | apply IsS79.set_0) | exact HI0.out), by repeat (first | (with_reducible first | exact HB.out | apply below_alloc | apply pw_below_drewN | apply below_drew1 | refine below_set ?_ (IsS79.ge HI0.out)) | exact HB.out), by repeat (first | (with_reducible first | exact HK.out | apply KeepBut.set_ | apply keep_drewN | apply keep_drew | apply keep_alloc) | exact HK.out)⟩
    ·rw [if_neg c6] at H
     exact absurd H (by simp)
   ·rw [if_neg c5] at H
    exact absurd H (by simp)
end Go.Proofs.Ytednpcfhefibdaa.PSnap
