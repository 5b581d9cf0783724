import Derived.Test.YtednpcfhefibdaaPSnapx0
import Derived.Test.YtednpcfhefibdaaPSnapx1
import Derived.Test.YtednpcfhefibdaaPSnapx4
import Derived.Test.YtednpcfhefibdaaPSnapx7
import Derived.Test.YtednpcfhefibdaaPSnapx9
import Derived.Test.YtednpcfhefibdaaPSnapx10
import Derived.Test.YtednpcfhefibdaaPSnapx12
namespace Go.Proofs.Ytednpcfhefibdaa.PSnap
open Go.RowKit Go.Proofs.YtednpcfhefibdaaW.PrintWords Go.Proofs.YtednpcfhefibdaaW.PrintLast Go.Proofs.YtednpcfhefibdaaW.PrintMore
attribute [local go_sem] max2_int min2_int max_two min_two max_three min_three max_four min_four
set_option linter.unusedVariables false
set_option linter.unusedSimpArgs false
attribute [local go_sem] setCell_drewN
mutual
def anamnesislaw08_SnapSums.j0 : Nat → Int → Int → Bool → List (S41) → Int → Int → Option (Bool)
 | 0, _, _, _, _, _, _ => none
 | k + 1, x1, x2, x35, x414000, x414001, x414002 => if x35 = true then ((anamnesislaw08_fixed.f k).bind fun t417 => (some t417)) else ((snap_Encode.f k x414000 x414001 x414002 ([] : List Int)).bind fun t418 => (if x1 < 0 then (anamnesislaw08_SnapSums.j1 k x1 x2 t418 true x414000 x414001 x414002) else (anamnesislaw08_SnapSums.j1 k x1 x2 t418 (decide (x1 ≥ (wrap64 ((t418.size : Int) - 4)))) x414000 x414001 x414002)))
def anamnesislaw08_SnapSums.j1 : Nat → Int → Int → ByteArray → Bool → List (S41) → Int → Int → Option (Bool)
 | 0, _, _, _, _, _, _, _ => none
 | k + 1, x1, x2, x7, x47, x414000, x414001, x414002 => if x47 = true then (some true) else (if 0 ≤ x1 then (if x1 ≤ (x7.size : Int) then (if x1 < (x7.size : Int) then ((some (([Go.bits .xor .u8 (bt x7 x1) ((x2) % 256)] : List Int) : List Int)).bind fun y419 => (if (x7.extract 0 (x1 : Int).toNat).size + (strOfNums y419).size ≤ 9223372036854775807 then (if 0 ≤ (wrap64 (x1 + 1)) then (if (wrap64 (x1 + 1)) ≤ (x7.size : Int) then (if ((x7.extract 0 (x1 : Int).toNat) ++ (strOfNums y419)).size + (x7.extract ((wrap64 (x1 + 1)) : Int).toNat x7.size).size ≤ 9223372036854775807 then ((snap_Decode.f k (((x7.extract 0 (x1 : Int).toNat) ++ (strOfNums y419)) ++ (x7.extract ((wrap64 (x1 + 1)) : Int).toNat x7.size))).bind fun bt422 => (if 0 ≤ (wrap64 (((((x7.extract 0 (x1 : Int).toNat) ++ (strOfNums y419)) ++ (x7.extract ((wrap64 (x1 + 1)) : Int).toNat x7.size)).size : Int) - 4)) then (if (wrap64 (((((x7.extract 0 (x1 : Int).toNat) ++ (strOfNums y419)) ++ (x7.extract ((wrap64 (x1 + 1)) : Int).toNat x7.size)).size : Int) - 4)) ≤ ((((x7.extract 0 (x1 : Int).toNat) ++ (strOfNums y419)) ++ (x7.extract ((wrap64 (x1 + 1)) : Int).toNat x7.size)).size : Int) then ((anamnesisref07_Of.f k ((((x7.extract 0 (x1 : Int).toNat) ++ (strOfNums y419)) ++ (x7.extract ((wrap64 (x1 + 1)) : Int).toNat x7.size)).extract 0 ((wrap64 (((((x7.extract 0 (x1 : Int).toNat) ++ (strOfNums y419)) ++ (x7.extract ((wrap64 (x1 + 1)) : Int).toNat x7.size)).size : Int) - 4)) : Int).toNat)).bind fun t432 => ((anamnesisref07_Bytes.f t432).bind fun t433 => (if ((((x7.extract 0 (x1 : Int).toNat) ++ (strOfNums y419)) ++ (x7.extract ((wrap64 (x1 + 1)) : Int).toNat x7.size)).extract 0 ((wrap64 (((((x7.extract 0 (x1 : Int).toNat) ++ (strOfNums y419)) ++ (x7.extract ((wrap64 (x1 + 1)) : Int).toNat x7.size)).size : Int) - 4)) : Int).toNat).size + t433.size ≤ 9223372036854775807 then ((snap_Decode.f k (((((x7.extract 0 (x1 : Int).toNat) ++ (strOfNums y419)) ++ (x7.extract ((wrap64 (x1 + 1)) : Int).toNat x7.size)).extract 0 ((wrap64 (((((x7.extract 0 (x1 : Int).toNat) ++ (strOfNums y419)) ++ (x7.extract ((wrap64 (x1 + 1)) : Int).toNat x7.size)).size : Int) - 4)) : Int).toNat) ++ t433)).bind fun bt434 => (if bt422.2.2.2.2 = 81 then (if bt434.2.2.2.2 = 82 then (some true) else (if bt434.2.2.2.2 = 0 then (if (bt434.2.2.2.1.length : Int) > 0 then (some true) else ((anamnesisref03_Same.f k bt434.1 bt434.2.1 bt434.2.2.1 x414000 x414001 x414002).bind fun t444 => (some (!t444)))) else (none))) else (none))) else (none)))) else (none)) else (none))) else (none)) else (none)) else (none)) else (none))) else (none)) else (none)) else (none))
end
def anamnesislaw08_SnapSums.f (k : Nat) (l0_0 : List (S41)) (a0_1 : Int) (a0_2 : Int) (a1 : Int) (a2 : Int) : Option (Bool) := (anamnesislaw08_fixed.f k).bind fun t414 => (if t414 = true then ((anamnesisref03_Small.f k l0_0 a0_1 a0_2).bind fun t415 => (if t415 = true then ((anamnesisref03_May.f k l0_0 a0_1 a0_2).bind fun t416 => (if t416 = true then (if a2 < 1 then (anamnesislaw08_SnapSums.j0 k a1 a2 true l0_0 a0_1 a0_2) else (anamnesislaw08_SnapSums.j0 k a1 a2 (decide (a2 > 255)) l0_0 a0_1 a0_2)) else (anamnesislaw08_SnapSums.j0 k a1 a2 true l0_0 a0_1 a0_2))) else (anamnesislaw08_SnapSums.j0 k a1 a2 true l0_0 a0_1 a0_2))) else (anamnesislaw08_SnapSums.j0 k a1 a2 true l0_0 a0_1 a0_2))
theorem anamnesislaw08_SnapSums.mono_l : ∀ k, (∀ y0 y1 y2 y3 y4 y5, LeO (anamnesislaw08_SnapSums.j0 k y0 y1 y2 y3 y4 y5) (anamnesislaw08_SnapSums.j0 (k + 1) y0 y1 y2 y3 y4 y5)) ∧ (∀ y0 y1 y2 y3 y4 y5 y6, LeO (anamnesislaw08_SnapSums.j1 k y0 y1 y2 y3 y4 y5 y6) (anamnesislaw08_SnapSums.j1 (k + 1) y0 y1 y2 y3 y4 y5 y6))
 | 0 => ⟨fun _ _ _ _ _ _ r h => by simp [anamnesislaw08_SnapSums.j0] at h, fun _ _ _ _ _ _ _ r h => by simp [anamnesislaw08_SnapSums.j1] at h⟩
 | k + 1 => by
  obtain ⟨ih0, ih1⟩ := anamnesislaw08_SnapSums.mono_l k
  refine ⟨?_, ?_⟩
  ·intro y0 y1 y2 y3 y4 y5
   unfold anamnesislaw08_SnapSums.j0
   repeat' first
   | (with_reducible exact ih0 _ _ _ _ _ _)
   | (with_reducible exact ih1 _ _ _ _ _ _ _)
   | (with_reducible exact anamnesislaw08_fixed.mono _)
   | (with_reducible exact anamnesisref03_May.mono _ _ _ _)
   | (with_reducible exact anamnesisref03_Same.mono _ _ _ _ _ _ _)
   | (with_reducible exact anamnesisref03_Small.mono _ _ _ _)
   | (with_reducible exact anamnesisref07_Of.mono _ _)
   | (with_reducible exact snap_Decode.mono _ _)
   | (with_reducible exact snap_Encode.mono _ _ _ _ _)
   | (with_reducible exact LeO.refl _)
   | (with_reducible exact LeO.none _)
   | (with_reducible refine LeO.ite ?_ ?_)
   | (with_reducible refine LeO.bind ?_ (fun _ => ?_))
   | exact ih0 _ _ _ _ _ _
   | exact ih1 _ _ _ _ _ _ _
   | exact anamnesislaw08_fixed.mono _
   | exact anamnesisref03_May.mono _ _ _ _
   | exact anamnesisref03_Same.mono _ _ _ _ _ _ _
   | exact anamnesisref03_Small.mono _ _ _ _
   | exact anamnesisref07_Of.mono _ _
   | exact snap_Decode.mono _ _
   | exact snap_Encode.mono _ _ _ _ _
   | exact LeO.none _
   | refine LeO.ite ?_ ?_
   | refine LeO.bind ?_ (fun _ => ?_)
  ·intro y0 y1 y2 y3 y4 y5 y6
   unfold anamnesislaw08_SnapSums.j1
   repeat' first
   | (with_reducible exact ih0 _ _ _ _ _ _)
   | (with_reducible exact ih1 _ _ _ _ _ _ _)
   | (with_reducible exact anamnesislaw08_fixed.mono _)
   | (with_reducible exact anamnesisref03_May.mono _ _ _ _)
   | (with_reducible exact anamnesisref03_Same.mono _ _ _ _ _ _ _)
   | (with_reducible exact anamnesisref03_Small.mono _ _ _ _)
   | (with_reducible exact anamnesisref07_Of.mono _ _)
   | (with_reducible exact snap_Decode.mono _ _)
   | (with_reducible exact snap_Encode.mono _ _ _ _ _)
   | (with_reducible exact LeO.refl _)
   | (with_reducible exact LeO.none _)
   | (with_reducible refine LeO.ite ?_ ?_)
   | (with_reducible refine LeO.bind ?_ (fun _ => ?_))
   | exact ih0 _ _ _ _ _ _
   | exact ih1 _ _ _ _ _ _ _
   | exact anamnesislaw08_fixed.mono _
   | exact anamnesisref03_May.mono _ _ _ _
   | exact anamnesisref03_Same.mono _ _ _ _ _ _ _
   | exact anamnesisref03_Small.mono _ _ _ _
   | exact anamnesisref07_Of.mono _ _
   | exact snap_Decode.mono _ _
   | exact snap_Encode.mono _ _ _ _ _
   | exact LeO.none _
   | refine LeO.ite ?_ ?_
   | refine LeO.bind ?_ (fun _ => ?_)
theorem anamnesislaw08_SnapSums.mono : ∀ a0 a1 a2 a3 a4 k, LeO (anamnesislaw08_SnapSums.f k a0 a1 a2 a3 a4) (anamnesislaw08_SnapSums.f (k + 1) a0 a1 a2 a3 a4) := by
 intro a0 a1 a2 a3 a4 k
 obtain ⟨ih0, ih1⟩ := anamnesislaw08_SnapSums.mono_l k
 unfold anamnesislaw08_SnapSums.f
 repeat' first
   | (with_reducible exact ih0 _ _ _ _ _ _)
   | (with_reducible exact ih1 _ _ _ _ _ _ _)
   | (with_reducible exact anamnesislaw08_fixed.mono _)
   | (with_reducible exact anamnesisref03_May.mono _ _ _ _)
   | (with_reducible exact anamnesisref03_Same.mono _ _ _ _ _ _ _)
   | (with_reducible exact anamnesisref03_Small.mono _ _ _ _)
   | (with_reducible exact anamnesisref07_Of.mono _ _)
   | (with_reducible exact snap_Decode.mono _ _)
   | (with_reducible exact snap_Encode.mono _ _ _ _ _)
   | (with_reducible exact LeO.refl _)
   | (with_reducible exact LeO.none _)
   | (with_reducible refine LeO.ite ?_ ?_)
   | (with_reducible refine LeO.bind ?_ (fun _ => ?_))
   | exact ih0 _ _ _ _ _ _
   | exact ih1 _ _ _ _ _ _ _
   | exact anamnesislaw08_fixed.mono _
   | exact anamnesisref03_May.mono _ _ _ _
   | exact anamnesisref03_Same.mono _ _ _ _ _ _ _
   | exact anamnesisref03_Small.mono _ _ _ _
   | exact anamnesisref07_Of.mono _ _
   | exact snap_Decode.mono _ _
   | exact snap_Encode.mono _ _ _ _ _
   | exact LeO.none _
   | refine LeO.ite ?_ ?_
   | refine LeO.bind ?_ (fun _ => ?_)
def anamnesislaw08_SnapSums.T6 : Bool × List (List Nat × List Nat) := (true, [([], []), ([], []), ([0, 1], [0, 1]), ([], []), ([], []), ([3, 4], [3, 4]), ([], []), ([6], [6]), ([5, 7], [5, 7]), ([8], [8]), ([9], [9]), ([2, 10], [2, 10]), ([], []), ([], []), ([13], [13]), ([12, 14], [12, 14]), ([11, 15], [11, 15]), ([16, 0, 1, 2, 3, 4, 5, 6, 7, 8, 9, 10, 11, 12, 13, 14, 15, 16], [16])])
def anamnesislaw08_SnapSums.B6 : List Nat := [0, 0, 3, 0, 0, 24, 0, 64, 248, 504, 1016, 2047, 0, 0, 8192, 28672, 65535, 131071]
theorem anamnesislaw08_SnapSums.tab6 : rtab .any (opsOf Try.f5 6) = anamnesislaw08_SnapSums.T6 := by kernel_rfl
theorem anamnesislaw08_SnapSums.bits6 : waitsOk anamnesislaw08_SnapSums.T6.2 anamnesislaw08_SnapSums.B6 = true := by kernel_rfl
set_option maxHeartbeats 8000000 in
set_option maxRecDepth 100000 in
theorem anamnesislaw08_SnapSums.calls (k : Nat) (A0_0 : Option Addr) (c0_0 : Nat) (l0_0 : List (S41)) (a0_1 : Int) (a0_2 : Int) (a1 : Int) (a2 : Int) (r : Bool) (w : World) (hr0_0 : Kd.C k41 w A0_0 l0_0.length l0_0) (hc0_0 : l0_0.length ≤ c0_0) (h : anamnesislaw08_SnapSums.f k l0_0 a0_1 a0_2 a1 a2 = some r) :
  Calls Try.prog 5 #[.agg #[.slice A0_0 l0_0.length c0_0, .int .i64 a0_1, .int .i64 a0_2], .int .i64 a1, .int .i64 a2] w fun e w' => e = .returned (.bool r) ∧ Below w.heap.size w w' := by
 have hu24 := Try.underlying24
 have HR0_0 := Aside0.mk hr0_0
 have HC0_0 := Aside0.mk hc0_0
 clear hr0_0 hc0_0
 have HB := Aside0.mk (Below.refl w.heap.size w)
 have H : ((anamnesislaw08_fixed.f k).bind fun t414 => (if t414 = true then ((anamnesisref03_Small.f k l0_0 a0_1 a0_2).bind fun t415 => (if t415 = true then ((anamnesisref03_May.f k l0_0 a0_1 a0_2).bind fun t416 => (if t416 = true then (if a2 < 1 then (anamnesislaw08_SnapSums.j0 k a1 a2 true l0_0 a0_1 a0_2) else (anamnesislaw08_SnapSums.j0 k a1 a2 (decide (a2 > 255)) l0_0 a0_1 a0_2)) else (anamnesislaw08_SnapSums.j0 k a1 a2 true l0_0 a0_1 a0_2))) else (anamnesislaw08_SnapSums.j0 k a1 a2 true l0_0 a0_1 a0_2))) else (anamnesislaw08_SnapSums.j0 k a1 a2 true l0_0 a0_1 a0_2))) = some r := h
 clear h
 have HC4 := Aside0.mk H
 clear H
 go_enter Try.func5, Try.ntmps5
 go_upto_region 1 with (first | ((with_reducible refine gate_dst (N := 3) rfl ?_); (try (refine gate_guard (by rfl) ?_; dsimp only)); refine box_event ?hg (N := 3) ?hd (cs := #[.slice A0_0 l0_0.length c0_0, .int .i64 a0_1, .int .i64 a0_2]) (t := 24) ?hr ?_; (case hd => rfl); (case hg => rfl); (case hr => first | (go_simp; done) | (go_simp; rfl)); intro gb413 hg w5 hbox hb; have n0_ := Aside0.mk (below_step (by repeat (first | (with_reducible first | exact HB.out | apply below_alloc | apply pw_below_drewN | apply below_drew1) | exact HB.out)) hb); have n1_ := Aside0.mk (hbox); have n2_ := Aside0.mk ((by rw [hg]; exact (below_size (by repeat (first | (with_reducible first | exact HB.out | apply below_alloc | apply pw_below_drewN | apply below_drew1) | exact HB.out))) : w.heap.size ≤ gb413)); have n3_ := Aside0.mk ((by rw [hg]; exact (below_size (by repeat (first | (with_reducible first | exact HB.out | apply below_alloc | apply pw_below_drewN | apply below_drew1) | exact HB.out))) : w.heap.size ≤ gb413)); clear HB; have HB := n0_; have BK413 := n1_; have GW413 := n2_; have GE413 := n3_; clear n0_ n1_ n2_ n3_; clear hb hbox hg))
 (try simp only [Act.put, List.setIfInBounds_toArray, List.set_cons_zero, List.set_cons_succ])
 go_cut [35] (fun v35 wc => ∃ (kq : Nat) (x35_3 : Bool), v35 = .bool x35_3 ∧ Aside0 (anamnesislaw08_SnapSums.j0 kq a1 a2 x35_3 l0_0 a0_1 a0_2 = some r) ∧ Aside0 (kq ≤ k) ∧ Aside0 (wc.heap[gb413]? = some (.cells #[(.slice A0_0 l0_0.length c0_0), .int .i64 a0_1, .int .i64 a0_2] 24 (0, 0))) ∧ Aside0 (Below w.heap.size w wc))
 case first =>
  have H := HC4.out
  clear HC4
  replace H := Option.bind_eq_some_iff.mp H
  obtain ⟨t414, A60, H⟩ := H
  replace H : (if t414 = true then ((anamnesisref03_Small.f k l0_0 a0_1 a0_2).bind fun t415 => (if t415 = true then ((anamnesisref03_May.f k l0_0 a0_1 a0_2).bind fun t416 => (if t416 = true then (if a2 < 1 then (anamnesislaw08_SnapSums.j0 k a1 a2 true l0_0 a0_1 a0_2) else (anamnesislaw08_SnapSums.j0 k a1 a2 (decide (a2 > 255)) l0_0 a0_1 a0_2)) else (anamnesislaw08_SnapSums.j0 k a1 a2 true l0_0 a0_1 a0_2))) else (anamnesislaw08_SnapSums.j0 k a1 a2 true l0_0 a0_1 a0_2))) else (anamnesislaw08_SnapSums.j0 k a1 a2 true l0_0 a0_1 a0_2)) = some r := H
  have A6 := Aside0.mk A60
  clear A60
  by_cases c7 : t414 = true
  ·subst c7
   have H1 : ((anamnesisref03_Small.f k l0_0 a0_1 a0_2).bind fun t415 => (if t415 = true then ((anamnesisref03_May.f k l0_0 a0_1 a0_2).bind fun t416 => (if t416 = true then (if a2 < 1 then (anamnesislaw08_SnapSums.j0 k a1 a2 true l0_0 a0_1 a0_2) else (anamnesislaw08_SnapSums.j0 k a1 a2 (decide (a2 > 255)) l0_0 a0_1 a0_2)) else (anamnesislaw08_SnapSums.j0 k a1 a2 true l0_0 a0_1 a0_2))) else (anamnesislaw08_SnapSums.j0 k a1 a2 true l0_0 a0_1 a0_2))) = some r := by rw [if_pos rfl] at H; exact H
   clear H
   have H := H1
   clear H1
   replace H := Option.bind_eq_some_iff.mp H
   obtain ⟨t415, A80, H⟩ := H
   replace H : (if t415 = true then ((anamnesisref03_May.f k l0_0 a0_1 a0_2).bind fun t416 => (if t416 = true then (if a2 < 1 then (anamnesislaw08_SnapSums.j0 k a1 a2 true l0_0 a0_1 a0_2) else (anamnesislaw08_SnapSums.j0 k a1 a2 (decide (a2 > 255)) l0_0 a0_1 a0_2)) else (anamnesislaw08_SnapSums.j0 k a1 a2 true l0_0 a0_1 a0_2))) else (anamnesislaw08_SnapSums.j0 k a1 a2 true l0_0 a0_1 a0_2)) = some r := H
   have A8 := Aside0.mk A80
   clear A80
   by_cases c9 : t415 = true
   ·subst c9
    have H1 : ((anamnesisref03_May.f k l0_0 a0_1 a0_2).bind fun t416 => (if t416 = true then (if a2 < 1 then (anamnesislaw08_SnapSums.j0 k a1 a2 true l0_0 a0_1 a0_2) else (anamnesislaw08_SnapSums.j0 k a1 a2 (decide (a2 > 255)) l0_0 a0_1 a0_2)) else (anamnesislaw08_SnapSums.j0 k a1 a2 true l0_0 a0_1 a0_2))) = some r := by rw [if_pos rfl] at H; exact H
    clear H
    have H := H1
    clear H1
    replace H := Option.bind_eq_some_iff.mp H
    obtain ⟨t416, A100, H⟩ := H
    replace H : (if t416 = true then (if a2 < 1 then (anamnesislaw08_SnapSums.j0 k a1 a2 true l0_0 a0_1 a0_2) else (anamnesislaw08_SnapSums.j0 k a1 a2 (decide (a2 > 255)) l0_0 a0_1 a0_2)) else (anamnesislaw08_SnapSums.j0 k a1 a2 true l0_0 a0_1 a0_2)) = some r := H
    have A10 := Aside0.mk A100
    clear A100
    by_cases c11 : t416 = true
    ·subst c11
     have H1 : (if a2 < 1 then (anamnesislaw08_SnapSums.j0 k a1 a2 true l0_0 a0_1 a0_2) else (anamnesislaw08_SnapSums.j0 k a1 a2 (decide (a2 > 255)) l0_0 a0_1 a0_2)) = some r := by rw [if_pos rfl] at H; exact H
     clear H
     have H := H1
     clear H1
     by_cases c12 : a2 < 1
     ·rw [if_pos c12] at H
      have c12b0 : decide (a2 < 1) = true := decide_eq_true c12
      clear c12
      (first | rw [c12b0] | (simp only [i64_w, i32_w]; rw [c12b0]) | skip)
      have H' := Aside0.mk H
      clear H
      go_wp2_with (first | ((with_reducible refine gate_callee (f := 9) rfl ?_); refine goesL_ (some 16) rfl rfl Try.func9 (by kernel_rfl) rfl #[] rfl (by (try simp only [List.map_toArray, List.map_cons, List.map_nil]); first | done | rfl | (simp only [List.length_drop, List.length_take]; rfl)) ?_; (with_reducible refine (anamnesislaw08_fixed.calls k  true _ A6.out).mono ?_); rintro e w13 ⟨rfl, hb⟩; refine ⟨_, rfl, ?_⟩; have n0_ := Aside0.mk (blk_below (g := gb413) (o := .cells #[.slice A0_0 l0_0.length c0_0, .int .i64 a0_1, .int .i64 a0_2] 24 (0, 0)) (by (with_reducible repeat (first | refine blk_drewN ?_ _ | refine blk_drew ?_ | refine blk_alloc ?_ _)); exact BK413.out) hb); have n1_ := Aside0.mk (below_step (by repeat (first | (with_reducible first | exact HB.out | apply below_alloc | apply pw_below_drewN | apply below_drew1 | refine below_set ?_ GE413.out) | exact HB.out)) hb); clear BK413; clear HB; have BK413 := n0_; have HB := n1_; clear n0_ n1_; (try clear hb); (try clear hb2); (try clear hk); (try clear hi); have hcz14_0 : w13.cell? ⟨gb413, 0, none⟩ = some (.slice A0_0 l0_0.length c0_0) := (blk_cell BK413.out 0).trans rfl; have hcz14_1 : w13.cell? ⟨gb413, 1, none⟩ = some (.int .i64 a0_1) := (blk_cell BK413.out 1).trans rfl; have hcz14_2 : w13.cell? ⟨gb413, 2, none⟩ = some (.int .i64 a0_2) := (blk_cell BK413.out 2).trans rfl; have hfz14_0 := blk_frozen BK413.out 0; have hfz14_1 := blk_frozen BK413.out 1; have hfz14_2 := blk_frozen BK413.out 2) | (go_at_call 8; (with_reducible refine (anamnesisref03_Small.calls k _ _ l0_0 a0_1 a0_2 true _ ?side1 ?side2 A8.out).mono ?_); (case side1 => repeat (first | exact (Kd.C_below HR0_0.out HB.out) | (with_reducible refine Kd.C_alloc ?_ _) | (with_reducible refine Kd.C_drewN ?_ _) | (with_reducible refine Kd.C_drew ?_))); (case side2 => exact HC0_0.out); rintro e w15 ⟨rfl, hb⟩; have n0_ := Aside0.mk (blk_below (g := gb413) (o := .cells #[.slice A0_0 l0_0.length c0_0, .int .i64 a0_1, .int .i64 a0_2] 24 (0, 0)) (by (with_reducible repeat (first | refine blk_drewN ?_ _ | refine blk_drew ?_ | refine blk_alloc ?_ _)); exact BK413.out) hb); have n1_ := Aside0.mk (below_step (by repeat (first | (with_reducible first | exact HB.out | apply below_alloc | apply pw_below_drewN | apply below_drew1 | refine below_set ?_ GE413.out) | exact HB.out)) hb); clear BK413; clear HB; have BK413 := n0_; have HB := n1_; clear n0_ n1_; (try clear hb); (try clear hb2); (try clear hk); (try clear hi); have hcz16_0 : w15.cell? ⟨gb413, 0, none⟩ = some (.slice A0_0 l0_0.length c0_0) := (blk_cell BK413.out 0).trans rfl; have hcz16_1 : w15.cell? ⟨gb413, 1, none⟩ = some (.int .i64 a0_1) := (blk_cell BK413.out 1).trans rfl; have hcz16_2 : w15.cell? ⟨gb413, 2, none⟩ = some (.int .i64 a0_2) := (blk_cell BK413.out 2).trans rfl; have hfz16_0 := blk_frozen BK413.out 0; have hfz16_1 := blk_frozen BK413.out 1; have hfz16_2 := blk_frozen BK413.out 2) | (go_at_call 17; (with_reducible refine (anamnesisref03_May.calls k _ _ l0_0 a0_1 a0_2 true _ ?side1 ?side2 A10.out).mono ?_); (case side1 => repeat (first | exact (Kd.C_below HR0_0.out HB.out) | (with_reducible refine Kd.C_alloc ?_ _) | (with_reducible refine Kd.C_drewN ?_ _) | (with_reducible refine Kd.C_drew ?_))); (case side2 => exact HC0_0.out); rintro e w17 ⟨rfl, hb⟩; have n0_ := Aside0.mk (blk_below (g := gb413) (o := .cells #[.slice A0_0 l0_0.length c0_0, .int .i64 a0_1, .int .i64 a0_2] 24 (0, 0)) (by (with_reducible repeat (first | refine blk_drewN ?_ _ | refine blk_drew ?_ | refine blk_alloc ?_ _)); exact BK413.out) hb); have n1_ := Aside0.mk (below_step (by repeat (first | (with_reducible first | exact HB.out | apply below_alloc | apply pw_below_drewN | apply below_drew1 | refine below_set ?_ GE413.out) | exact HB.out)) hb); clear BK413; clear HB; have BK413 := n0_; have HB := n1_; clear n0_ n1_; (try clear hb); (try clear hb2); (try clear hk); (try clear hi)))
      go_meet
      case rel => exact ⟨_, (true), (by first | rfl | (simp; done) | (simp [*]; done)), H', ⟨by first | omega | exact Nat.le_refl _⟩, ⟨by (with_reducible repeat (first | refine blk_drewN ?_ _ | refine blk_drew ?_ | refine blk_alloc ?_ _)); exact BK413.out⟩, ⟨by repeat (first | (with_reducible first | exact HB.out | apply below_alloc | apply pw_below_drewN | apply below_drew1 | refine below_set ?_ GE413.out) | exact HB.out)⟩⟩
     ·rw [if_neg c12] at H
      have c12b0 : decide (a2 < 1) = false := decide_eq_false c12
      clear c12
      (first | rw [c12b0] | (simp only [i64_w, i32_w]; rw [c12b0]) | skip)
      have H' := Aside0.mk H
      clear H
      go_wp2_with (first | ((with_reducible refine gate_callee (f := 9) rfl ?_); refine goesL_ (some 16) rfl rfl Try.func9 (by kernel_rfl) rfl #[] rfl (by (try simp only [List.map_toArray, List.map_cons, List.map_nil]); first | done | rfl | (simp only [List.length_drop, List.length_take]; rfl)) ?_; (with_reducible refine (anamnesislaw08_fixed.calls k  true _ A6.out).mono ?_); rintro e w18 ⟨rfl, hb⟩; refine ⟨_, rfl, ?_⟩; have n0_ := Aside0.mk (blk_below (g := gb413) (o := .cells #[.slice A0_0 l0_0.length c0_0, .int .i64 a0_1, .int .i64 a0_2] 24 (0, 0)) (by (with_reducible repeat (first | refine blk_drewN ?_ _ | refine blk_drew ?_ | refine blk_alloc ?_ _)); exact BK413.out) hb); have n1_ := Aside0.mk (below_step (by repeat (first | (with_reducible first | exact HB.out | apply below_alloc | apply pw_below_drewN | apply below_drew1 | refine below_set ?_ GE413.out) | exact HB.out)) hb); clear BK413; clear HB; have BK413 := n0_; have HB := n1_; clear n0_ n1_; (try clear hb); (try clear hb2); (try clear hk); (try clear hi); have hcz19_0 : w18.cell? ⟨gb413, 0, none⟩ = some (.slice A0_0 l0_0.length c0_0) := (blk_cell BK413.out 0).trans rfl; have hcz19_1 : w18.cell? ⟨gb413, 1, none⟩ = some (.int .i64 a0_1) := (blk_cell BK413.out 1).trans rfl; have hcz19_2 : w18.cell? ⟨gb413, 2, none⟩ = some (.int .i64 a0_2) := (blk_cell BK413.out 2).trans rfl; have hfz19_0 := blk_frozen BK413.out 0; have hfz19_1 := blk_frozen BK413.out 1; have hfz19_2 := blk_frozen BK413.out 2) | (go_at_call 8; (with_reducible refine (anamnesisref03_Small.calls k _ _ l0_0 a0_1 a0_2 true _ ?side1 ?side2 A8.out).mono ?_); (case side1 => repeat (first | exact (Kd.C_below HR0_0.out HB.out) | (with_reducible refine Kd.C_alloc ?_ _) | (with_reducible refine Kd.C_drewN ?_ _) | (with_reducible refine Kd.C_drew ?_))); (case side2 => exact HC0_0.out); rintro e w20 ⟨rfl, hb⟩; have n0_ := Aside0.mk (blk_below (g := gb413) (o := .cells #[.slice A0_0 l0_0.length c0_0, .int .i64 a0_1, .int .i64 a0_2] 24 (0, 0)) (by (with_reducible repeat (first | refine blk_drewN ?_ _ | refine blk_drew ?_ | refine blk_alloc ?_ _)); exact BK413.out) hb); have n1_ := Aside0.mk (below_step (by repeat (first | (with_reducible first | exact HB.out | apply below_alloc | apply pw_below_drewN | apply below_drew1 | refine below_set ?_ GE413.out) | exact HB.out)) hb); clear BK413; clear HB; have BK413 := n0_; have HB := n1_; clear n0_ n1_; (try clear hb); (try clear hb2); (try clear hk); (try clear hi); have hcz21_0 : w20.cell? ⟨gb413, 0, none⟩ = some (.slice A0_0 l0_0.length c0_0) := (blk_cell BK413.out 0).trans rfl; have hcz21_1 : w20.cell? ⟨gb413, 1, none⟩ = some (.int .i64 a0_1) := (blk_cell BK413.out 1).trans rfl; have hcz21_2 : w20.cell? ⟨gb413, 2, none⟩ = some (.int .i64 a0_2) := (blk_cell BK413.out 2).trans rfl; have hfz21_0 := blk_frozen BK413.out 0; have hfz21_1 := blk_frozen BK413.out 1; have hfz21_2 := blk_frozen BK413.out 2) | (go_at_call 17; (with_reducible refine (anamnesisref03_May.calls k _ _ l0_0 a0_1 a0_2 true _ ?side1 ?side2 A10.out).mono ?_); (case side1 => repeat (first | exact (Kd.C_below HR0_0.out HB.out) | (with_reducible refine Kd.C_alloc ?_ _) | (with_reducible refine Kd.C_drewN ?_ _) | (with_reducible refine Kd.C_drew ?_))); (case side2 => exact HC0_0.out); rintro e w22 ⟨rfl, hb⟩; have n0_ := Aside0.mk (blk_below (g := gb413) (o := .cells #[.slice A0_0 l0_0.length c0_0, .int .i64 a0_1, .int .i64 a0_2] 24 (0, 0)) (by (with_reducible repeat (first | refine blk_drewN ?_ _ | refine blk_drew ?_ | refine blk_alloc ?_ _)); exact BK413.out) hb); have n1_ := Aside0.mk (below_step (by repeat (first | (with_reducible first | exact HB.out | apply below_alloc | apply pw_below_drewN | apply below_drew1 | refine below_set ?_ GE413.out) | exact HB.out)) hb); clear BK413; clear HB; have BK413 := n0_; have HB := n1_; clear n0_ n1_; (try clear hb); (try clear hb2); (try clear hk); (try clear hi)))
      go_meet
      case rel => exact ⟨_, (decide (a2 > 255)), (by first | rfl | (simp; done) | (simp [*]; done)), H', ⟨by first | omega | exact Nat.le_refl _⟩, ⟨by (with_reducible repeat (first | refine blk_drewN ?_ _ | refine blk_drew ?_ | refine blk_alloc ?_ _)); exact BK413.out⟩, ⟨by repeat (first | (with_reducible first | exact HB.out | apply below_alloc | apply pw_below_drewN | apply below_drew1 | refine below_set ?_ GE413.out) | exact HB.out)⟩⟩
    ·replace c11 := Bool.eq_false_iff.mpr c11
     subst c11
     have H1 : (anamnesislaw08_SnapSums.j0 k a1 a2 true l0_0 a0_1 a0_2) = some r := by rw [if_neg (show ¬ (false = true) by decide)] at H; exact H
     clear H
     have H := H1
     clear H1
     have H' := Aside0.mk H
     clear H
     go_wp2_with (first | ((with_reducible refine gate_callee (f := 9) rfl ?_); refine goesL_ (some 16) rfl rfl Try.func9 (by kernel_rfl) rfl #[] rfl (by (try simp only [List.map_toArray, List.map_cons, List.map_nil]); first | done | rfl | (simp only [List.length_drop, List.length_take]; rfl)) ?_; (with_reducible refine (anamnesislaw08_fixed.calls k  true _ A6.out).mono ?_); rintro e w23 ⟨rfl, hb⟩; refine ⟨_, rfl, ?_⟩; have n0_ := Aside0.mk (blk_below (g := gb413) (o := .cells #[.slice A0_0 l0_0.length c0_0, .int .i64 a0_1, .int .i64 a0_2] 24 (0, 0)) (by (with_reducible repeat (first | refine blk_drewN ?_ _ | refine blk_drew ?_ | refine blk_alloc ?_ _)); exact BK413.out) hb); have n1_ := Aside0.mk (below_step (by repeat (first | (with_reducible first | exact HB.out | apply below_alloc | apply pw_below_drewN | apply below_drew1 | refine below_set ?_ GE413.out) | exact HB.out)) hb); clear BK413; clear HB; have BK413 := n0_; have HB := n1_; clear n0_ n1_; (try clear hb); (try clear hb2); (try clear hk); (try clear hi); have hcz24_0 : w23.cell? ⟨gb413, 0, none⟩ = some (.slice A0_0 l0_0.length c0_0) := (blk_cell BK413.out 0).trans rfl; have hcz24_1 : w23.cell? ⟨gb413, 1, none⟩ = some (.int .i64 a0_1) := (blk_cell BK413.out 1).trans rfl; have hcz24_2 : w23.cell? ⟨gb413, 2, none⟩ = some (.int .i64 a0_2) := (blk_cell BK413.out 2).trans rfl; have hfz24_0 := blk_frozen BK413.out 0; have hfz24_1 := blk_frozen BK413.out 1; have hfz24_2 := blk_frozen BK413.out 2) | (go_at_call 8; (with_reducible refine (anamnesisref03_Small.calls k _ _ l0_0 a0_1 a0_2 true _ ?side1 ?side2 A8.out).mono ?_); (case side1 => repeat (first | exact (Kd.C_below HR0_0.out HB.out) | (with_reducible refine Kd.C_alloc ?_ _) | (with_reducible refine Kd.C_drewN ?_ _) | (with_reducible refine Kd.C_drew ?_))); (case side2 => exact HC0_0.out); rintro e w25 ⟨rfl, hb⟩; have n0_ := Aside0.mk (blk_below (g := gb413) (o := .cells #[.slice A0_0 l0_0.length c0_0, .int .i64 a0_1, .int .i64 a0_2] 24 (0, 0)) (by (with_reducible repeat (first | refine blk_drewN ?_ _ | refine blk_drew ?_ | refine blk_alloc ?_ _)); exact BK413.out) hb); have n1_ := Aside0.mk (below_step (by repeat (first | (with_reducible first | exact HB.out | apply below_alloc | apply pw_below_drewN | apply below_drew1 | refine below_set ?_ GE413.out) | exact HB.out)) hb); clear BK413; clear HB; have BK413 := n0_; have HB := n1_; clear n0_ n1_; (try clear hb); (try clear hb2); (try clear hk); (try clear hi); have hcz26_0 : w25.cell? ⟨gb413, 0, none⟩ = some (.slice A0_0 l0_0.length c0_0) := (blk_cell BK413.out 0).trans rfl; have hcz26_1 : w25.cell? ⟨gb413, 1, none⟩ = some (.int .i64 a0_1) := (blk_cell BK413.out 1).trans rfl; have hcz26_2 : w25.cell? ⟨gb413, 2, none⟩ = some (.int .i64 a0_2) := (blk_cell BK413.out 2).trans rfl; have hfz26_0 := blk_frozen BK413.out 0; have hfz26_1 := blk_frozen BK413.out 1; have hfz26_2 := blk_frozen BK413.out 2) | (go_at_call 17; (with_reducible refine (anamnesisref03_May.calls k _ _ l0_0 a0_1 a0_2 false _ ?side1 ?side2 A10.out).mono ?_); (case side1 => repeat (first | exact (Kd.C_below HR0_0.out HB.out) | (with_reducible refine Kd.C_alloc ?_ _) | (with_reducible refine Kd.C_drewN ?_ _) | (with_reducible refine Kd.C_drew ?_))); (case side2 => exact HC0_0.out); rintro e w27 ⟨rfl, hb⟩; have n0_ := Aside0.mk (blk_below (g := gb413) (o := .cells #[.slice A0_0 l0_0.length c0_0, .int .i64 a0_1, .int .i64 a0_2] 24 (0, 0)) (by (with_reducible repeat (first | refine blk_drewN ?_ _ | refine blk_drew ?_ | refine blk_alloc ?_ _)); exact BK413.out) hb); have n1_ := Aside0.mk (below_step (by repeat (first | (with_reducible first | exact HB.out | apply below_alloc | apply pw_below_drewN | apply below_drew1 | refine below_set ?_ GE413.out) | exact HB.out)) hb); clear BK413; clear HB; have BK413 := n0_; have HB := n1_; clear n0_ n1_; (try clear hb); (try clear hb2); (try clear hk); (try clear hi)))
     go_meet
     case rel => exact ⟨_, (true), (by first | rfl | (simp; done) | (simp [*]; done)), H', ⟨by first | omega | exact Nat.le_refl _⟩, ⟨by (with_reducible repeat (first | refine blk_drewN ?_ _ | refine blk_drew ?_ | refine blk_alloc ?_ _)); exact BK413.out⟩, ⟨by repeat (first | (with_reducible first | exact HB.out | apply below_alloc | apply pw_below_drewN | apply below_drew1 | refine below_set ?_ GE413.out) | exact HB.out)⟩⟩
   ·replace c9 := Bool.eq_false_iff.mpr c9
    subst c9
    have H1 : (anamnesislaw08_SnapSums.j0 k a1 a2 true l0_0 a0_1 a0_2) = some r := by rw [if_neg (show ¬ (false = true) by decide)] at H; exact H
    clear H
    have H := H1
    clear H1
    have H' := Aside0.mk H
    clear H
    go_wp2_with (first | ((with_reducible refine gate_callee (f := 9) rfl ?_); refine goesL_ (some 16) rfl rfl Try.func9 (by kernel_rfl) rfl #[] rfl (by (try simp only [List.map_toArray, List.map_cons, List.map_nil]); first | done | rfl | (simp only [List.length_drop, List.length_take]; rfl)) ?_; (with_reducible refine (anamnesislaw08_fixed.calls k  true _ A6.out).mono ?_); rintro e w28 ⟨rfl, hb⟩; refine ⟨_, rfl, ?_⟩; have n0_ := Aside0.mk (blk_below (g := gb413) (o := .cells #[.slice A0_0 l0_0.length c0_0, .int .i64 a0_1, .int .i64 a0_2] 24 (0, 0)) (by (with_reducible repeat (first | refine blk_drewN ?_ _ | refine blk_drew ?_ | refine blk_alloc ?_ _)); exact BK413.out) hb); have n1_ := Aside0.mk (below_step (by repeat (first | (with_reducible first | exact HB.out | apply below_alloc | apply pw_below_drewN | apply below_drew1 | refine below_set ?_ GE413.out) | exact HB.out)) hb); clear BK413; clear HB; have BK413 := n0_; have HB := n1_; clear n0_ n1_; (try clear hb); (try clear hb2); (try clear hk); (try clear hi); have hcz29_0 : w28.cell? ⟨gb413, 0, none⟩ = some (.slice A0_0 l0_0.length c0_0) := (blk_cell BK413.out 0).trans rfl; have hcz29_1 : w28.cell? ⟨gb413, 1, none⟩ = some (.int .i64 a0_1) := (blk_cell BK413.out 1).trans rfl; have hcz29_2 : w28.cell? ⟨gb413, 2, none⟩ = some (.int .i64 a0_2) := (blk_cell BK413.out 2).trans rfl; have hfz29_0 := blk_frozen BK413.out 0; have hfz29_1 := blk_frozen BK413.out 1; have hfz29_2 := blk_frozen BK413.out 2) | (go_at_call 8; (with_reducible refine (anamnesisref03_Small.calls k _ _ l0_0 a0_1 a0_2 false _ ?side1 ?side2 A8.out).mono ?_); (case side1 => repeat (first | exact (Kd.C_below HR0_0.out HB.out) | (with_reducible refine Kd.C_alloc ?_ _) | (with_reducible refine Kd.C_drewN ?_ _) | (with_reducible refine Kd.C_drew ?_))); (case side2 => exact HC0_0.out); rintro e w30 ⟨rfl, hb⟩; have n0_ := Aside0.mk (blk_below (g := gb413) (o := .cells #[.slice A0_0 l0_0.length c0_0, .int .i64 a0_1, .int .i64 a0_2] 24 (0, 0)) (by (with_reducible repeat (first | refine blk_drewN ?_ _ | refine blk_drew ?_ | refine blk_alloc ?_ _)); exact BK413.out) hb); have n1_ := Aside0.mk (below_step (by repeat (first | (with_reducible first | exact HB.out | apply below_alloc | apply pw_below_drewN | apply below_drew1 | refine below_set ?_ GE413.out) | exact HB.out)) hb); clear BK413; clear HB; have BK413 := n0_; have HB := n1_; clear n0_ n1_; (try clear hb); (try clear hb2); (try clear hk); (try clear hi)))
    go_meet
    case rel => exact ⟨_, (true), (by first | rfl | (simp; done) | (simp [*]; done)), H', ⟨by first | omega | exact Nat.le_refl _⟩, ⟨by (with_reducible repeat (first | refine blk_drewN ?_ _ | refine blk_drew ?_ | refine blk_alloc ?_ _)); exact BK413.out⟩, ⟨by repeat (first | (with_reducible first | exact HB.out | apply below_alloc | apply pw_below_drewN | apply below_drew1 | refine below_set ?_ GE413.out) | exact HB.out)⟩⟩
  ·replace c7 := Bool.eq_false_iff.mpr c7
   subst c7
   have H1 : (anamnesislaw08_SnapSums.j0 k a1 a2 true l0_0 a0_1 a0_2) = some r := by rw [if_neg (show ¬ (false = true) by decide)] at H; exact H
   clear H
   have H := H1
   clear H1
   have H' := Aside0.mk H
   clear H
   go_wp2_with (first | ((with_reducible refine gate_callee (f := 9) rfl ?_); refine goesL_ (some 16) rfl rfl Try.func9 (by kernel_rfl) rfl #[] rfl (by (try simp only [List.map_toArray, List.map_cons, List.map_nil]); first | done | rfl | (simp only [List.length_drop, List.length_take]; rfl)) ?_; (with_reducible refine (anamnesislaw08_fixed.calls k  false _ A6.out).mono ?_); rintro e w31 ⟨rfl, hb⟩; refine ⟨_, rfl, ?_⟩; have n0_ := Aside0.mk (blk_below (g := gb413) (o := .cells #[.slice A0_0 l0_0.length c0_0, .int .i64 a0_1, .int .i64 a0_2] 24 (0, 0)) (by (with_reducible repeat (first | refine blk_drewN ?_ _ | refine blk_drew ?_ | refine blk_alloc ?_ _)); exact BK413.out) hb); have n1_ := Aside0.mk (below_step (by repeat (first | (with_reducible first | exact HB.out | apply below_alloc | apply pw_below_drewN | apply below_drew1 | refine below_set ?_ GE413.out) | exact HB.out)) hb); clear BK413; clear HB; have BK413 := n0_; have HB := n1_; clear n0_ n1_; (try clear hb); (try clear hb2); (try clear hk); (try clear hi)))
   go_meet
   case rel => exact ⟨_, (true), (by first | rfl | (simp; done) | (simp [*]; done)), H', ⟨by first | omega | exact Nat.le_refl _⟩, ⟨by (with_reducible repeat (first | refine blk_drewN ?_ _ | refine blk_drew ?_ | refine blk_alloc ?_ _)); exact BK413.out⟩, ⟨by repeat (first | (with_reducible first | exact HB.out | apply below_alloc | apply pw_below_drewN | apply below_drew1 | refine below_set ?_ GE413.out) | exact HB.out)⟩⟩
 case rest =>
  clear HC4
  try clear c1
  try clear p2
  try clear c5
  try clear c7
  try clear c9
  try clear c11
  try clear c12
  try clear c12b0
  try clear hcz14_0
  try clear hcz14_1
  try clear hcz14_2
  try clear hcz16_0
  try clear hcz16_1
  try clear hcz16_2
  try clear hcz19_0
  try clear hcz19_1
  try clear hcz19_2
  try clear hcz21_0
  try clear hcz21_1
  try clear hcz21_2
  try clear hcz24_0
  try clear hcz24_1
  try clear hcz24_2
  try clear hcz26_0
  try clear hcz26_1
  try clear hcz26_2
  try clear hcz29_0
  try clear hcz29_1
  try clear hcz29_2
  try clear hfz14_0
  try clear hfz14_1
  try clear hfz14_2
  try clear hfz16_0
  try clear hfz16_1
  try clear hfz16_2
  try clear hfz19_0
  try clear hfz19_1
  try clear hfz19_2
  try clear hfz21_0
  try clear hfz21_1
  try clear hfz21_2
  try clear hfz24_0
  try clear hfz24_1
  try clear hfz24_2
  try clear hfz26_0
  try clear hfz26_1
  try clear hfz26_2
  try clear hfz29_0
  try clear hfz29_1
  try clear hfz29_2
  obtain ⟨kq, x35_3, rfl, HA, HJ3, BK413, HB⟩ := hcut
  cases kq with
  | zero => exact absurd HA.out (by simp [anamnesislaw08_SnapSums.j0])
  | succ kj3 =>
   have H := HA.out
   clear HA
   simp only [anamnesislaw08_SnapSums.j0] at H
   by_cases c32 : x35_3 = true
   ·subst c32
    have H1 : ((anamnesislaw08_fixed.f kj3).bind fun t417 => (some t417)) = some r := by rw [if_pos rfl] at H; exact H
    clear H
    have H := H1
    clear H1
    replace H := Option.bind_eq_some_iff.mp H
    obtain ⟨t417, A330, H⟩ := H
    replace H : (some t417) = some r := H
    have A33 := Aside0.mk A330
    clear A330
    obtain rfl := Option.some.inj H
    go_wp2_with (first | ((with_reducible refine gate_callee (f := 9) rfl ?_); refine goesL_ (some 36) rfl rfl Try.func9 (by kernel_rfl) rfl #[] rfl (by (try simp only [List.map_toArray, List.map_cons, List.map_nil]); first | done | rfl | (simp only [List.length_drop, List.length_take]; rfl)) ?_; (with_reducible refine (anamnesislaw08_fixed.calls kj3  t417 _ A33.out).mono ?_); rintro e w34 ⟨rfl, hb⟩; refine ⟨_, rfl, ?_⟩; have n0_ := Aside0.mk (blk_below (g := gb413) (o := .cells #[.slice A0_0 l0_0.length c0_0, .int .i64 a0_1, .int .i64 a0_2] 24 (0, 0)) (by (with_reducible repeat (first | refine blk_drewN ?_ _ | refine blk_drew ?_ | refine blk_alloc ?_ _)); exact BK413.out) hb); have n1_ := Aside0.mk (below_step (by repeat (first | (with_reducible first | exact HB.out | apply below_alloc | apply pw_below_drewN | apply below_drew1 | refine below_set ?_ GE413.out) | exact HB.out)) hb); clear BK413; clear HB; have BK413 := n0_; have HB := n1_; clear n0_ n1_; (try clear hb); (try clear hb2); (try clear hk); (try clear hi)))
    go_ret
    exact ⟨by first | rfl | (simp [errW_none, errW_some] <;> rfl) | (simp [*, errW_none, errW_some] <;> rfl), by repeat (first | (with_reducible first | exact HB.out | apply below_alloc | apply pw_below_drewN | apply below_drew1 | refine below_set ?_ GE413.out) | exact HB.out)⟩
   ·replace c32 := Bool.eq_false_iff.mpr c32
    subst c32
    have H1 : ((snap_Encode.f kj3 l0_0 a0_1 a0_2 ([] : List Int)).bind fun t418 => (if a1 < 0 then (anamnesislaw08_SnapSums.j1 kj3 a1 a2 t418 true l0_0 a0_1 a0_2) else (anamnesislaw08_SnapSums.j1 kj3 a1 a2 t418 (decide (a1 ≥ (wrap64 ((t418.size : Int) - 4)))) l0_0 a0_1 a0_2))) = some r := by rw [if_neg (show ¬ (false = true) by decide)] at H; exact H
    clear H
    have H := H1
    clear H1
    replace H := Option.bind_eq_some_iff.mp H
    obtain ⟨t418, A350, H⟩ := H
    replace H : (if a1 < 0 then (anamnesislaw08_SnapSums.j1 kj3 a1 a2 t418 true l0_0 a0_1 a0_2) else (anamnesislaw08_SnapSums.j1 kj3 a1 a2 t418 (decide (a1 ≥ (wrap64 ((t418.size : Int) - 4)))) l0_0 a0_1 a0_2)) = some r := H
    have A35 := Aside0.mk A350
    clear A350
    have HC36 := Aside0.mk H
    clear H
    have hcz37_0 : wc.cell? ⟨gb413, 0, none⟩ = some (.slice A0_0 l0_0.length c0_0) := (blk_cell BK413.out 0).trans rfl
    have hcz37_1 : wc.cell? ⟨gb413, 1, none⟩ = some (.int .i64 a0_1) := (blk_cell BK413.out 1).trans rfl
    have hcz37_2 : wc.cell? ⟨gb413, 2, none⟩ = some (.int .i64 a0_2) := (blk_cell BK413.out 2).trans rfl
    have hfz37_0 := blk_frozen BK413.out 0
    have hfz37_1 := blk_frozen BK413.out 1
    have hfz37_2 := blk_frozen BK413.out 2
    go_upto_region 4 with (first | ((with_reducible refine gate_callee (f := 12) rfl ?_); refine goesL_ (some 38) rfl rfl Try.func12 (by kernel_rfl) rfl #[.agg #[.slice A0_0 l0_0.length c0_0, .int .i64 a0_1, .int .i64 a0_2], .slice none 0 0] rfl (by (try simp only [List.map_toArray, List.map_cons, List.map_nil]); first | done | rfl | (simp only [List.length_drop, List.length_take]; rfl)) ?_; (refine (snap_Encode.calls kj3 _ _ l0_0 a0_1 a0_2 _ _ ([] : List Int) t418 _ ?side1 ?side2 ?side3 ?side4 A35.out).mono ?_); (case side1 => repeat (first | exact (Kd.C_below HR0_0.out HB.out) | (with_reducible refine Kd.C_alloc ?_ _) | (with_reducible refine Kd.C_drewN ?_ _) | (with_reducible refine Kd.C_drew ?_))); (case side2 => exact HC0_0.out); (case side3 => exact Kd.C_nil _ _); (case side4 => exact Nat.le_refl _); rintro e w38 ⟨rfl, hb⟩; refine ⟨_, rfl, ?_⟩; have n0_ := Aside0.mk (blk_below (g := gb413) (o := .cells #[.slice A0_0 l0_0.length c0_0, .int .i64 a0_1, .int .i64 a0_2] 24 (0, 0)) (by (with_reducible repeat (first | refine blk_drewN ?_ _ | refine blk_drew ?_ | refine blk_alloc ?_ _)); exact BK413.out) hb); have n1_ := Aside0.mk (below_step (by repeat (first | (with_reducible first | exact HB.out | apply below_alloc | apply pw_below_drewN | apply below_drew1 | refine below_set ?_ GE413.out) | exact HB.out)) hb); clear BK413; clear HB; have BK413 := n0_; have HB := n1_; clear n0_ n1_; (try clear hb); (try clear hb2); (try clear hk); (try clear hi)))
    (try simp only [Act.put, List.setIfInBounds_toArray, List.set_cons_zero, List.set_cons_succ])
    go_cut [47] (fun v47 wc => ∃ (kq : Nat) (x47_35 : Bool), v47 = .bool x47_35 ∧ Aside0 (anamnesislaw08_SnapSums.j1 kq a1 a2 t418 x47_35 l0_0 a0_1 a0_2 = some r) ∧ Aside0 (kq ≤ kj3) ∧ Aside0 (wc.heap[gb413]? = some (.cells #[(.slice A0_0 l0_0.length c0_0), .int .i64 a0_1, .int .i64 a0_2] 24 (0, 0))) ∧ Aside0 (Below w.heap.size w wc))
    case first =>
     have H := HC36.out
     clear HC36
     by_cases c39 : a1 < 0
     ·rw [if_pos c39] at H
      have c39b0 : decide (a1 < 0) = true := decide_eq_true c39
      clear c39
      (first | rw [c39b0] | (simp only [i64_w, i32_w]; rw [c39b0]) | skip)
      have H' := Aside0.mk H
      clear H
      go_wp2
      go_meet
      case rel => exact ⟨_, (true), (by first | rfl | (simp; done) | (simp [*]; done)), H', ⟨by have := HJ3.out; first | omega | exact Nat.le_refl _⟩, ⟨by (with_reducible repeat (first | refine blk_drewN ?_ _ | refine blk_drew ?_ | refine blk_alloc ?_ _)); exact BK413.out⟩, ⟨by repeat (first | (with_reducible first | exact HB.out | apply below_alloc | apply pw_below_drewN | apply below_drew1 | refine below_set ?_ GE413.out) | exact HB.out)⟩⟩
     ·rw [if_neg c39] at H
      have c39b0 : decide (a1 < 0) = false := decide_eq_false c39
      clear c39
      (first | rw [c39b0] | (simp only [i64_w, i32_w]; rw [c39b0]) | skip)
      have H' := Aside0.mk H
      clear H
      go_wp2
      go_meet
      case rel => exact ⟨_, (decide (a1 ≥ (wrap64 ((t418.size : Int) - 4)))), (by first | rfl | (simp; done) | (simp [*]; done)), H', ⟨by have := HJ3.out; first | omega | exact Nat.le_refl _⟩, ⟨by (with_reducible repeat (first | refine blk_drewN ?_ _ | refine blk_drew ?_ | refine blk_alloc ?_ _)); exact BK413.out⟩, ⟨by repeat (first | (with_reducible first | exact HB.out | apply below_alloc | apply pw_below_drewN | apply below_drew1 | refine below_set ?_ GE413.out) | exact HB.out)⟩⟩
    case rest =>
     clear HC36
     try clear c1
     try clear p2
     try clear c3
     try clear c5
     try clear p6
     try clear c7
     try clear c9
     try clear c11
     try clear c12
     try clear c12b0
     try clear c32
     try clear c39
     try clear c39b0
     try clear hcz14_0
     try clear hcz14_1
     try clear hcz14_2
     try clear hcz16_0
     try clear hcz16_1
     try clear hcz16_2
     try clear hcz19_0
     try clear hcz19_1
     try clear hcz19_2
     try clear hcz21_0
     try clear hcz21_1
     try clear hcz21_2
     try clear hcz24_0
     try clear hcz24_1
     try clear hcz24_2
     try clear hcz26_0
     try clear hcz26_1
     try clear hcz26_2
     try clear hcz29_0
     try clear hcz29_1
     try clear hcz29_2
     try clear hcz37_0
     try clear hcz37_1
     try clear hcz37_2
     try clear hfz14_0
     try clear hfz14_1
     try clear hfz14_2
     try clear hfz16_0
     try clear hfz16_1
     try clear hfz16_2
     try clear hfz19_0
     try clear hfz19_1
     try clear hfz19_2
     try clear hfz21_0
     try clear hfz21_1
     try clear hfz21_2
     try clear hfz24_0
     try clear hfz24_1
     try clear hfz24_2
     try clear hfz26_0
     try clear hfz26_1
     try clear hfz26_2
     try clear hfz29_0
     try clear hfz29_1
     try clear hfz29_2
     try clear hfz37_0
     try clear hfz37_1
     try clear hfz37_2
     try clear p2
     obtain ⟨kq, x47_35, rfl, HA, HJ35, BK413, HB⟩ := hcut
     cases kq with
     | zero => exact absurd HA.out (by simp [anamnesislaw08_SnapSums.j1])
     | succ kj35 =>
      have H := HA.out
      clear HA
      simp only [anamnesislaw08_SnapSums.j1] at H
      by_cases c40 : x47_35 = true
      ·subst c40
       have H1 : (some true) = some r := by rw [if_pos rfl] at H; exact H
       clear H
       have H := H1
       clear H1
       obtain rfl := Option.some.inj H
       go_wp2
       go_ret
       exact ⟨by first | rfl | (simp [errW_none, errW_some] <;> rfl) | (simp [*, errW_none, errW_some] <;> rfl), by repeat (first | (with_reducible first | exact HB.out | apply below_alloc | apply pw_below_drewN | apply below_drew1 | refine below_set ?_ GE413.out) | exact HB.out)⟩
      ·replace c40 := Bool.eq_false_iff.mpr c40
       subst c40
       have H1 : (if 0 ≤ a1 then (if a1 ≤ (t418.size : Int) then (if a1 < (t418.size : Int) then ((some (([Go.bits .xor .u8 (bt t418 a1) ((a2) % 256)] : List Int) : List Int)).bind fun y419 => (if (t418.extract 0 (a1 : Int).toNat).size + (strOfNums y419).size ≤ 9223372036854775807 then (if 0 ≤ (wrap64 (a1 + 1)) then (if (wrap64 (a1 + 1)) ≤ (t418.size : Int) then (if ((t418.extract 0 (a1 : Int).toNat) ++ (strOfNums y419)).size + (t418.extract ((wrap64 (a1 + 1)) : Int).toNat t418.size).size ≤ 9223372036854775807 then ((snap_Decode.f kj35 (((t418.extract 0 (a1 : Int).toNat) ++ (strOfNums y419)) ++ (t418.extract ((wrap64 (a1 + 1)) : Int).toNat t418.size))).bind fun bt422 => (if 0 ≤ (wrap64 (((((t418.extract 0 (a1 : Int).toNat) ++ (strOfNums y419)) ++ (t418.extract ((wrap64 (a1 + 1)) : Int).toNat t418.size)).size : Int) - 4)) then (if (wrap64 (((((t418.extract 0 (a1 : Int).toNat) ++ (strOfNums y419)) ++ (t418.extract ((wrap64 (a1 + 1)) : Int).toNat t418.size)).size : Int) - 4)) ≤ ((((t418.extract 0 (a1 : Int).toNat) ++ (strOfNums y419)) ++ (t418.extract ((wrap64 (a1 + 1)) : Int).toNat t418.size)).size : Int) then ((anamnesisref07_Of.f kj35 ((((t418.extract 0 (a1 : Int).toNat) ++ (strOfNums y419)) ++ (t418.extract ((wrap64 (a1 + 1)) : Int).toNat t418.size)).extract 0 ((wrap64 (((((t418.extract 0 (a1 : Int).toNat) ++ (strOfNums y419)) ++ (t418.extract ((wrap64 (a1 + 1)) : Int).toNat t418.size)).size : Int) - 4)) : Int).toNat)).bind fun t432 => ((anamnesisref07_Bytes.f t432).bind fun t433 => (if ((((t418.extract 0 (a1 : Int).toNat) ++ (strOfNums y419)) ++ (t418.extract ((wrap64 (a1 + 1)) : Int).toNat t418.size)).extract 0 ((wrap64 (((((t418.extract 0 (a1 : Int).toNat) ++ (strOfNums y419)) ++ (t418.extract ((wrap64 (a1 + 1)) : Int).toNat t418.size)).size : Int) - 4)) : Int).toNat).size + t433.size ≤ 9223372036854775807 then ((snap_Decode.f kj35 (((((t418.extract 0 (a1 : Int).toNat) ++ (strOfNums y419)) ++ (t418.extract ((wrap64 (a1 + 1)) : Int).toNat t418.size)).extract 0 ((wrap64 (((((t418.extract 0 (a1 : Int).toNat) ++ (strOfNums y419)) ++ (t418.extract ((wrap64 (a1 + 1)) : Int).toNat t418.size)).size : Int) - 4)) : Int).toNat) ++ t433)).bind fun bt434 => (if bt422.2.2.2.2 = 81 then (if bt434.2.2.2.2 = 82 then (some true) else (if bt434.2.2.2.2 = 0 then (if (bt434.2.2.2.1.length : Int) > 0 then (some true) else ((anamnesisref03_Same.f kj35 bt434.1 bt434.2.1 bt434.2.2.1 l0_0 a0_1 a0_2).bind fun t444 => (some (!t444)))) else (none))) else (none))) else (none)))) else (none)) else (none))) else (none)) else (none)) else (none)) else (none))) else (none)) else (none)) else (none)) = some r := by rw [if_neg (show ¬ (false = true) by decide)] at H; exact H
       clear H
       have H := H1
       clear H1
       by_cases c41 : 0 ≤ a1
       ·rw [if_pos c41] at H
        have c41b0 := eq_true c41
        have c41b1 : decide (0 ≤ a1) = true := decide_eq_true c41
        clear c41
        by_cases c42 : a1 ≤ (t418.size : Int)
        ·rw [if_pos c42] at H
         have c42b0 := eq_true c42
         have c42b1 : decide (a1 ≤ (t418.size : Int)) = true := decide_eq_true c42
         clear c42
         by_cases c43 : a1 < (t418.size : Int)
         ·rw [if_pos c43] at H
          have c43b0 : decide (a1 < (t418.size : Int)) = true := decide_eq_true c43
          clear c43
          obtain ⟨y419, hy419⟩ : ∃ y_ : List Int, y_ = (([Go.bits .xor .u8 (bt t418 a1) ((a2) % 256)] : List Int)) := ⟨_, rfl⟩
          replace H : (if (t418.extract 0 (a1 : Int).toNat).size + (strOfNums y419).size ≤ 9223372036854775807 then (if 0 ≤ (wrap64 (a1 + 1)) then (if (wrap64 (a1 + 1)) ≤ (t418.size : Int) then (if ((t418.extract 0 (a1 : Int).toNat) ++ (strOfNums y419)).size + (t418.extract ((wrap64 (a1 + 1)) : Int).toNat t418.size).size ≤ 9223372036854775807 then ((snap_Decode.f kj35 (((t418.extract 0 (a1 : Int).toNat) ++ (strOfNums y419)) ++ (t418.extract ((wrap64 (a1 + 1)) : Int).toNat t418.size))).bind fun bt422 => (if 0 ≤ (wrap64 (((((t418.extract 0 (a1 : Int).toNat) ++ (strOfNums y419)) ++ (t418.extract ((wrap64 (a1 + 1)) : Int).toNat t418.size)).size : Int) - 4)) then (if (wrap64 (((((t418.extract 0 (a1 : Int).toNat) ++ (strOfNums y419)) ++ (t418.extract ((wrap64 (a1 + 1)) : Int).toNat t418.size)).size : Int) - 4)) ≤ ((((t418.extract 0 (a1 : Int).toNat) ++ (strOfNums y419)) ++ (t418.extract ((wrap64 (a1 + 1)) : Int).toNat t418.size)).size : Int) then ((anamnesisref07_Of.f kj35 ((((t418.extract 0 (a1 : Int).toNat) ++ (strOfNums y419)) ++ (t418.extract ((wrap64 (a1 + 1)) : Int).toNat t418.size)).extract 0 ((wrap64 (((((t418.extract 0 (a1 : Int).toNat) ++ (strOfNums y419)) ++ (t418.extract ((wrap64 (a1 + 1)) : Int).toNat t418.size)).size : Int) - 4)) : Int).toNat)).bind fun t432 => ((anamnesisref07_Bytes.f t432).bind fun t433 => (if ((((t418.extract 0 (a1 : Int).toNat) ++ (strOfNums y419)) ++ (t418.extract ((wrap64 (a1 + 1)) : Int).toNat t418.size)).extract 0 ((wrap64 (((((t418.extract 0 (a1 : Int).toNat) ++ (strOfNums y419)) ++ (t418.extract ((wrap64 (a1 + 1)) : Int).toNat t418.size)).size : Int) - 4)) : Int).toNat).size + t433.size ≤ 9223372036854775807 then ((snap_Decode.f kj35 (((((t418.extract 0 (a1 : Int).toNat) ++ (strOfNums y419)) ++ (t418.extract ((wrap64 (a1 + 1)) : Int).toNat t418.size)).extract 0 ((wrap64 (((((t418.extract 0 (a1 : Int).toNat) ++ (strOfNums y419)) ++ (t418.extract ((wrap64 (a1 + 1)) : Int).toNat t418.size)).size : Int) - 4)) : Int).toNat) ++ t433)).bind fun bt434 => (if bt422.2.2.2.2 = 81 then (if bt434.2.2.2.2 = 82 then (some true) else (if bt434.2.2.2.2 = 0 then (if (bt434.2.2.2.1.length : Int) > 0 then (some true) else ((anamnesisref03_Same.f kj35 bt434.1 bt434.2.1 bt434.2.2.1 l0_0 a0_1 a0_2).bind fun t444 => (some (!t444)))) else (none))) else (none))) else (none)))) else (none)) else (none))) else (none)) else (none)) else (none)) else (none)) = some r := by first | (rw [hy419]; with_reducible exact H) | (have H2_ := (Option.bind_some _ _).symm.trans H; rw [hy419]; with_reducible exact H2_) | (have H2_ := (Option.bind_some _ _).symm.trans H; with_reducible exact H2_) | with_reducible exact H | (rw [hy419]; exact H) | exact H
          have Ny419 := Aside0.mk hy419
          clear hy419
          by_cases c45 : (t418.extract 0 (a1 : Int).toNat).size + (strOfNums y419).size ≤ 9223372036854775807
          ·rw [if_pos c45] at H
           have c45b0 := eq_true c45
           have c45b1 : decide ((t418.extract 0 (a1 : Int).toNat).size + (strOfNums y419).size ≤ 9223372036854775807) = true := decide_eq_true c45
           try have c45b2 : (9223372036854775807 < (t418.extract 0 (a1 : Int).toNat).size + (strOfNums y419).size) = False := eq_false (Nat.not_lt.2 c45)
           try (have c45n := c45; simp at c45n; have c45m := eq_false (Nat.not_lt.2 c45n))
           try (have c45p := c45; simp [c43b0, c42b0, c41b0] at c45p; have c45q := eq_false (Nat.not_lt.2 c45p))
           obtain ⟨ji46, hji46⟩ : ∃ j_ : Int, (wrap64 (a1 + 1)) = j_ := ⟨_, rfl⟩
           replace H : (if 0 ≤ (ji46) then (if (ji46) ≤ (t418.size : Int) then (if ((t418.extract 0 (a1 : Int).toNat) ++ (strOfNums y419)).size + (t418.extract ((ji46) : Int).toNat t418.size).size ≤ 9223372036854775807 then ((snap_Decode.f kj35 (((t418.extract 0 (a1 : Int).toNat) ++ (strOfNums y419)) ++ (t418.extract ((ji46) : Int).toNat t418.size))).bind fun bt422 => (if 0 ≤ (wrap64 (((((t418.extract 0 (a1 : Int).toNat) ++ (strOfNums y419)) ++ (t418.extract ((ji46) : Int).toNat t418.size)).size : Int) - 4)) then (if (wrap64 (((((t418.extract 0 (a1 : Int).toNat) ++ (strOfNums y419)) ++ (t418.extract ((ji46) : Int).toNat t418.size)).size : Int) - 4)) ≤ ((((t418.extract 0 (a1 : Int).toNat) ++ (strOfNums y419)) ++ (t418.extract ((ji46) : Int).toNat t418.size)).size : Int) then ((anamnesisref07_Of.f kj35 ((((t418.extract 0 (a1 : Int).toNat) ++ (strOfNums y419)) ++ (t418.extract ((ji46) : Int).toNat t418.size)).extract 0 ((wrap64 (((((t418.extract 0 (a1 : Int).toNat) ++ (strOfNums y419)) ++ (t418.extract ((ji46) : Int).toNat t418.size)).size : Int) - 4)) : Int).toNat)).bind fun t432 => ((anamnesisref07_Bytes.f t432).bind fun t433 => (if ((((t418.extract 0 (a1 : Int).toNat) ++ (strOfNums y419)) ++ (t418.extract ((ji46) : Int).toNat t418.size)).extract 0 ((wrap64 (((((t418.extract 0 (a1 : Int).toNat) ++ (strOfNums y419)) ++ (t418.extract ((ji46) : Int).toNat t418.size)).size : Int) - 4)) : Int).toNat).size + t433.size ≤ 9223372036854775807 then ((snap_Decode.f kj35 (((((t418.extract 0 (a1 : Int).toNat) ++ (strOfNums y419)) ++ (t418.extract ((ji46) : Int).toNat t418.size)).extract 0 ((wrap64 (((((t418.extract 0 (a1 : Int).toNat) ++ (strOfNums y419)) ++ (t418.extract ((ji46) : Int).toNat t418.size)).size : Int) - 4)) : Int).toNat) ++ t433)).bind fun bt434 => (if bt422.2.2.2.2 = 81 then (if bt434.2.2.2.2 = 82 then (some true) else (if bt434.2.2.2.2 = 0 then (if (bt434.2.2.2.1.length : Int) > 0 then (some true) else ((anamnesisref03_Same.f kj35 bt434.1 bt434.2.1 bt434.2.2.1 l0_0 a0_1 a0_2).bind fun t444 => (some (!t444)))) else (none))) else (none))) else (none)))) else (none)) else (none))) else (none)) else (none)) else (none)) = some r := by first | (rw [hji46] at H; exact H) | (simp only [hji46] at H ⊢; exact H)
           have hji46w : (IntKind.i64.wrap (a1 + 1)) = ji46 := (i64_w _).trans hji46
           by_cases c47 : 0 ≤ (ji46)
           ·rw [if_pos c47] at H
            have c47b0 := eq_true c47
            have c47b1 : decide (0 ≤ (ji46)) = true := decide_eq_true c47
            clear c47
            by_cases c48 : (ji46) ≤ (t418.size : Int)
            ·rw [if_pos c48] at H
             have c48b0 := eq_true c48
             have c48b1 : decide ((ji46) ≤ (t418.size : Int)) = true := decide_eq_true c48
             clear c48
             by_cases c49 : ((t418.extract 0 (a1 : Int).toNat) ++ (strOfNums y419)).size + (t418.extract ((ji46) : Int).toNat t418.size).size ≤ 9223372036854775807
             ·rw [if_pos c49] at H
              have c49b0 := eq_true c49
              have c49b1 : decide (((t418.extract 0 (a1 : Int).toNat) ++ (strOfNums y419)).size + (t418.extract ((ji46) : Int).toNat t418.size).size ≤ 9223372036854775807) = true := decide_eq_true c49
              try have c49b2 : (9223372036854775807 < ((t418.extract 0 (a1 : Int).toNat) ++ (strOfNums y419)).size + (t418.extract ((ji46) : Int).toNat t418.size).size) = False := eq_false (Nat.not_lt.2 c49)
              try (have c49n := c49; simp at c49n; have c49m := eq_false (Nat.not_lt.2 c49n))
              try (have c49p := c49; simp [c48b0, c47b0, c45b0, c43b0, c42b0, c41b0] at c49p; have c49q := eq_false (Nat.not_lt.2 c49p))
              generalize hjs49 : (((t418.extract 0 (a1 : Int).toNat) ++ (strOfNums y419)) ++ (t418.extract ((ji46) : Int).toNat t418.size)) = js49 at H
              replace H := Option.bind_eq_some_iff.mp H
              obtain ⟨⟨t422, t425, t426, t427, t430⟩, A500, H⟩ := H
              replace H : (if 0 ≤ (wrap64 ((js49.size : Int) - 4)) then (if (wrap64 ((js49.size : Int) - 4)) ≤ (js49.size : Int) then ((anamnesisref07_Of.f kj35 (js49.extract 0 ((wrap64 ((js49.size : Int) - 4)) : Int).toNat)).bind fun t432 => ((anamnesisref07_Bytes.f t432).bind fun t433 => (if (js49.extract 0 ((wrap64 ((js49.size : Int) - 4)) : Int).toNat).size + t433.size ≤ 9223372036854775807 then ((snap_Decode.f kj35 ((js49.extract 0 ((wrap64 ((js49.size : Int) - 4)) : Int).toNat) ++ t433)).bind fun bt434 => (if t430 = 81 then (if bt434.2.2.2.2 = 82 then (some true) else (if bt434.2.2.2.2 = 0 then (if (bt434.2.2.2.1.length : Int) > 0 then (some true) else ((anamnesisref03_Same.f kj35 bt434.1 bt434.2.1 bt434.2.2.1 l0_0 a0_1 a0_2).bind fun t444 => (some (!t444)))) else (none))) else (none))) else (none)))) else (none)) else (none)) = some r := H
              have A50 := Aside0.mk A500
              clear A500
              obtain ⟨ji51, hji51⟩ : ∃ j_ : Int, (wrap64 ((js49.size : Int) - 4)) = j_ := ⟨_, rfl⟩
              replace H : (if 0 ≤ (ji51) then (if (ji51) ≤ (js49.size : Int) then ((anamnesisref07_Of.f kj35 (js49.extract 0 ((ji51) : Int).toNat)).bind fun t432 => ((anamnesisref07_Bytes.f t432).bind fun t433 => (if (js49.extract 0 ((ji51) : Int).toNat).size + t433.size ≤ 9223372036854775807 then ((snap_Decode.f kj35 ((js49.extract 0 ((ji51) : Int).toNat) ++ t433)).bind fun bt434 => (if t430 = 81 then (if bt434.2.2.2.2 = 82 then (some true) else (if bt434.2.2.2.2 = 0 then (if (bt434.2.2.2.1.length : Int) > 0 then (some true) else ((anamnesisref03_Same.f kj35 bt434.1 bt434.2.1 bt434.2.2.1 l0_0 a0_1 a0_2).bind fun t444 => (some (!t444)))) else (none))) else (none))) else (none)))) else (none)) else (none)) = some r := by first | (rw [hji51] at H; exact H) | (simp only [hji51] at H ⊢; exact H)
              (try rw [hji51] at A50)
              have hji51w : (IntKind.i64.wrap ((js49.size : Int) - 4)) = ji51 := (i64_w _).trans hji51
              by_cases c52 : 0 ≤ (ji51)
              ·rw [if_pos c52] at H
               have c52b0 := eq_true c52
               have c52b1 : decide (0 ≤ (ji51)) = true := decide_eq_true c52
               clear c52
               by_cases c53 : (ji51) ≤ (js49.size : Int)
               ·rw [if_pos c53] at H
                have c53b0 := eq_true c53
                have c53b1 : decide ((ji51) ≤ (js49.size : Int)) = true := decide_eq_true c53
                replace H := Option.bind_eq_some_iff.mp H
                obtain ⟨t432, A540, H⟩ := H
                replace H : ((anamnesisref07_Bytes.f t432).bind fun t433 => (if (js49.extract 0 ((ji51) : Int).toNat).size + t433.size ≤ 9223372036854775807 then ((snap_Decode.f kj35 ((js49.extract 0 ((ji51) : Int).toNat) ++ t433)).bind fun bt434 => (if t430 = 81 then (if bt434.2.2.2.2 = 82 then (some true) else (if bt434.2.2.2.2 = 0 then (if (bt434.2.2.2.1.length : Int) > 0 then (some true) else ((anamnesisref03_Same.f kj35 bt434.1 bt434.2.1 bt434.2.2.1 l0_0 a0_1 a0_2).bind fun t444 => (some (!t444)))) else (none))) else (none))) else (none))) = some r := H
                have A54 := Aside0.mk A540
                clear A540
                replace H := Option.bind_eq_some_iff.mp H
                obtain ⟨t433, A550, H⟩ := H
                replace H : (if (js49.extract 0 ((ji51) : Int).toNat).size + t433.size ≤ 9223372036854775807 then ((snap_Decode.f kj35 ((js49.extract 0 ((ji51) : Int).toNat) ++ t433)).bind fun bt434 => (if t430 = 81 then (if bt434.2.2.2.2 = 82 then (some true) else (if bt434.2.2.2.2 = 0 then (if (bt434.2.2.2.1.length : Int) > 0 then (some true) else ((anamnesisref03_Same.f kj35 bt434.1 bt434.2.1 bt434.2.2.1 l0_0 a0_1 a0_2).bind fun t444 => (some (!t444)))) else (none))) else (none))) else (none)) = some r := H
                have A55 := Aside0.mk A550
                clear A550
                by_cases c56 : (js49.extract 0 ((ji51) : Int).toNat).size + t433.size ≤ 9223372036854775807
                ·rw [if_pos c56] at H
                 have c56b0 := eq_true c56
                 have c56b1 : decide ((js49.extract 0 ((ji51) : Int).toNat).size + t433.size ≤ 9223372036854775807) = true := decide_eq_true c56
                 try have c56b2 : (9223372036854775807 < (js49.extract 0 ((ji51) : Int).toNat).size + t433.size) = False := eq_false (Nat.not_lt.2 c56)
                 try (have c56n := c56; simp at c56n; have c56m := eq_false (Nat.not_lt.2 c56n))
                 try (have c56p := c56; simp [c53b0, c52b0, c49b0, c48b0, c47b0, c45b0, c43b0, c42b0, c41b0] at c56p; have c56q := eq_false (Nat.not_lt.2 c56p))
                 replace H := Option.bind_eq_some_iff.mp H
                 obtain ⟨⟨t434, t437, t438, t439, t442⟩, A570, H⟩ := H
                 replace H : (if t430 = 81 then (if t442 = 82 then (some true) else (if t442 = 0 then (if (t439.length : Int) > 0 then (some true) else ((anamnesisref03_Same.f kj35 t434 t437 t438 l0_0 a0_1 a0_2).bind fun t444 => (some (!t444)))) else (none))) else (none)) = some r := H
                 have A57 := Aside0.mk A570
                 clear A570
                 by_cases c58 : t430 = 81
                 ·rw [if_pos c58] at H
                  have c58b0 : (t430 == 81) = true := beq_iff_eq.mpr c58
                  have c58b1 : (t430 != 81) = false := bne_eq_false_iff_eq.mpr c58
                  clear c58
                  by_cases c59 : t442 = 82
                  ·rw [if_pos c59] at H
                   have c59b0 : (t442 == 82) = true := beq_iff_eq.mpr c59
                   have c59b1 : (t442 != 82) = false := bne_eq_false_iff_eq.mpr c59
                   clear c59
                   obtain rfl := Option.some.inj H
                   try go_wp2
                   have n0_ := Aside0.mk (blk_drew BK413.out)
                   have n1_ := Aside0.mk (below_drew1 HB.out)
                   clear BK413
                   clear HB
                   have BK413 := n0_
                   have HB := n1_
                   clear n0_ n1_
                   have p44 : 0 ≤ (a1 : Int) := of_decide_eq_true (by first | (with_reducible assumption) | assumption)
                   have q44 : a1 < (t418.size : Int) := of_decide_eq_true (by first | (with_reducible assumption) | assumption)
                   have hx44 := bt_at t418 a1
                   replace p44 := eq_true p44
                   replace q44 := eq_true q44
                   refine start_ (n := 18) (S := fun w' => True) (ds := []) #[false, false, false, false, false, false, false, false, false, false, false, false, false, false, false, false, false, false] (by kernel_rfl) rfl rfl trivial (fun hHeld => ?_); refine with_tabW anamnesislaw08_SnapSums.tab6 anamnesislaw08_SnapSums.bits6 (fun HT_ HW_ => ?_)
                   generalize wc.drew = w60 at BK413 HB hHeld ⊢
                   refine pure1 (i := 0) (N := some 48) #[true, false, false, false, false, false, false, false, false, false, false, false, false, false, false, false, false, false] HT_.out ?_
                   refine pure1 (i := 1) (N := some 49) #[true, true, false, false, false, false, false, false, false, false, false, false, false, false, false, false, false, false] HT_.out ?_
                   refine pure1 (i := 2) (N := some 50) #[true, true, true, false, false, false, false, false, false, false, false, false, false, false, false, false, false, false] HT_.out ?_
                   refine pure1 (i := 3) (N := some 51) #[true, true, true, true, false, false, false, false, false, false, false, false, false, false, false, false, false, false] HT_.out ?_
                   refine pure1 (i := 4) (N := some 52) #[true, true, true, true, true, false, false, false, false, false, false, false, false, false, false, false, false, false] HT_.out ?_
                   refine pure1 (i := 6) (N := some 54) #[true, true, true, true, true, false, true, false, false, false, false, false, false, false, false, false, false, false] HT_.out ?_
                   refine pure1 (i := 7) (N := some 55) #[true, true, true, true, true, false, true, true, false, false, false, false, false, false, false, false, false, false] HT_.out ?_
                   refine pure1 (i := 12) (N := some 60) #[true, true, true, true, true, false, true, true, false, false, false, false, true, false, false, false, false, false] HT_.out ?_
                   refine pure1 (i := 13) (N := some 61) #[true, true, true, true, true, false, true, true, false, false, false, false, true, true, false, false, false, false] HT_.out ?_
                   refine pure1 (i := 14) (N := some 62) #[true, true, true, true, true, false, true, true, false, false, false, false, true, true, true, false, false, false] HT_.out ?_
                   refine pure1 (i := 15) (N := some 63) #[true, true, true, true, true, false, true, true, false, false, false, false, true, true, true, true, false, false] HT_.out ?_
                   refine take_ (i := 5) (N := some 53) (v := ?_) (a' := ?_) #[true, true, true, true, true, true, true, true, false, false, false, false, true, true, true, true, false, false] rfl rfl (take_ofW HT_.out HW_.out (by kernel_rfl)) (fun _ _ _ h => h) (Or.inl ⟨by rfl, ?_⟩) hHeld ?_ ?_
                   rotate_left
                   ·intro w' _
                    go_simp
                    with_reducible rfl
                   rotate_left
                   ·simp only [Act.put, List.setIfInBounds_toArray, List.set_cons_zero, List.set_cons_succ, i64_w, i32_w]
                    rfl
                   refine pure1 (i := 8) (N := some 56) #[true, true, true, true, true, true, true, true, true, false, false, false, true, true, true, true, false, false] HT_.out ?_
                   refine one_ (i := 9) (N := some 57) #[true, true, true, true, true, true, true, true, true, true, false, false, true, true, true, true, false, false] rfl rfl (one_of HT_.out (by kernel_rfl)) (by decide) (fun K hK => ?_)
                   refine Kd.R_lit_step (Kd.int .u8) _ 5 ?hg (N := 57) ?hd (xs := ([Go.bits .xor .u8 (bt t418 a1) ((a2) % 256)] : List Int)) (inner := [.int .u8 (Go.bits .xor .u8 (bt t418 a1) ((a2) % 256))]) (ok := fun _ => True) (okp := fun _ => True) ?hr ?hp (fun _ hk => hk) trivial (Below.refl _ _) (Nat.le_refl _) (by simp) ?_; (case hd => rfl); (case hg => rfl); (case hr => first | (go_simp; done) | (go_simp; rfl)); (case hp => exact (Reps.one (show Kd.M (Kd.int .u8) _ _ _ (Go.bits .xor .u8 (bt t418 a1) ((a2) % 256)) [.int .u8 (Go.bits .xor .u8 (bt t418 a1) ((a2) % 256))] from rfl) (Reps.none _ _)))
                   intro v420 w61 ho62 hb hg_ hnew_
                   clear hg_ hnew_
                   (first | rw [← Ny419.out] at ho62 | (simp only [Int.reduceToNat] at ho62; rw [← Ny419.out] at ho62))
                   have n0_ := Aside0.mk (Kd.R_lower ho62 (below_size (by repeat (first | (with_reducible first | exact HB.out | apply below_alloc | apply pw_below_drewN | apply below_drew1 | refine below_set ?_ GE413.out) | exact HB.out))))
                   have n1_ := Aside0.mk (blk_below (g := gb413) (o := .cells #[.slice A0_0 l0_0.length c0_0, .int .i64 a0_1, .int .i64 a0_2] 24 (0, 0)) (by (with_reducible repeat (first | refine blk_drewN ?_ _ | refine blk_drew ?_ | refine blk_alloc ?_ _)); exact BK413.out) hb)
                   have n2_ := Aside0.mk (below_step (by repeat (first | (with_reducible first | exact HB.out | apply below_alloc | apply pw_below_drewN | apply below_drew1 | refine below_set ?_ GE413.out) | exact HB.out)) hb)
                   clear BK413
                   clear HB
                   have HO421 := n0_
                   have BK413 := n1_
                   have HB := n2_
                   clear n0_ n1_ n2_
                   clear hb ho62
                   refine hK.out _ _ trivial (fun hHeld => ?_)
                   clear hK K
                   refine norm_ (a' := ?_) ?_ ?_
                   rotate_left
                   ·show Act.put _ (some 57) _ = _
                    simp only [Act.put, List.setIfInBounds_toArray, List.set_cons_zero, List.set_cons_succ, i64_w, i32_w]
                    rfl
                   refine one_ (i := 10) (N := some 58) #[true, true, true, true, true, true, true, true, true, true, true, false, true, true, true, true, false, false] rfl rfl (one_of HT_.out (by kernel_rfl)) (by decide) (fun K hK => ?_)
                   have hcv63 := own_string (P := Try.prog) Try.underlying36 Try.underlying5 Try.underlying9 (Kd.own_of_R HO421.out)
                   refine value_ (w1 := ?_) (v := ?_) (by rfl) rfl ?_ ?_
                   rotate_left 2
                   ·go_simp
                    constructor
                    ·rfl
                    ·rfl
                   clear hcv63
                   refine hK.out _ _ trivial (fun hHeld => ?_)
                   clear hK K
                   refine norm_ (a' := ?_) ?_ ?_
                   rotate_left
                   ·show Act.put _ (some 58) _ = _
                    simp only [Act.put, List.setIfInBounds_toArray, List.set_cons_zero, List.set_cons_succ, i64_w, i32_w]
                    rfl
                   refine pure1 (i := 11) (N := some 59) #[true, true, true, true, true, true, true, true, true, true, true, true, true, true, true, true, false, false] HT_.out ?_
                   refine pure1 (i := 16) (N := some 64) #[true, true, true, true, true, true, true, true, true, true, true, true, true, true, true, true, true, false] HT_.out ?_
                   refine pure1 (i := 17) (N := some 8) #[true, true, true, true, true, true, true, true, true, true, true, true, true, true, true, true, true, true] HT_.out ?_
                   refine done_ (done_of HT_.out (by kernel_rfl)) ?_
                   try simp only [hjs49]
                   try go_wp2_with (first | ((with_reducible refine gate_callee (f := 10) rfl ?_); refine goesL_ (some 67) rfl rfl Try.func10 (by kernel_rfl) rfl #[.string js49] rfl (by (try simp only [List.map_toArray, List.map_cons, List.map_nil]); first | done | (simp only [hji46]; rfl) | rfl | (simp only [List.length_drop, List.length_take]; rfl)) ?_; (with_reducible refine (snap_Decode.calls kj35 js49 t422 t425 t426 t427 t430 _ A50.out).mono ?_); rintro e w64 ⟨v423, v428, rfl, ho0, ho1, hb⟩; refine ⟨_, rfl, ?_⟩; have n0_ := Aside0.mk (Kd.R_below (by (with_reducible repeat (first | apply Kd.R_alloc | apply Kd.R_drewN | apply Kd.R_drew)); exact HO421.out) hb); have n1_ := Aside0.mk (Kd.S_lower ho0 (below_size (by repeat (first | (with_reducible first | exact HB.out | apply below_alloc | apply pw_below_drewN | apply below_drew1 | refine below_set ?_ GE413.out) | exact HB.out)))); have n2_ := Aside0.mk (Kd.R_lower ho1 (below_size (by repeat (first | (with_reducible first | exact HB.out | apply below_alloc | apply pw_below_drewN | apply below_drew1 | refine below_set ?_ GE413.out) | exact HB.out)))); have n3_ := Aside0.mk (blk_below (g := gb413) (o := .cells #[.slice A0_0 l0_0.length c0_0, .int .i64 a0_1, .int .i64 a0_2] 24 (0, 0)) (by (with_reducible repeat (first | refine blk_drewN ?_ _ | refine blk_drew ?_ | refine blk_alloc ?_ _)); exact BK413.out) hb); have n4_ := Aside0.mk (below_step (by repeat (first | (with_reducible first | exact HB.out | apply below_alloc | apply pw_below_drewN | apply below_drew1 | refine below_set ?_ GE413.out) | exact HB.out)) hb); clear HO421; clear BK413; clear HB; have HO421 := n0_; have HO424 := n1_; have HO429 := n2_; have BK413 := n3_; have HB := n4_; clear n0_ n1_ n2_ n3_ n4_; (try clear hb); (try clear hb2); (try clear hk); (try clear hi); (try clear ho0); (try clear ho1)) | ((with_reducible refine gate_dst (N := 9) rfl ?_); (try (refine gate_guard (by rfl) ?_; dsimp only)); refine box_event ?hg (N := 9) ?hd (cs := #[.slice none 0 0, .int .i64 0, .int .i64 0]) (t := 24) ?hr ?_; (case hd => rfl); (case hg => rfl); (case hr => first | (go_simp; done) | (go_simp; rfl)); intro gb431 hg w65 hbox hb; have n0_ := Aside0.mk (Kd.S_below (by (with_reducible repeat (first | apply Kd.S_alloc | apply Kd.S_drewN | apply Kd.S_drew)); exact HO424.out) hb); have n1_ := Aside0.mk (Kd.R_below (by (with_reducible repeat (first | apply Kd.R_alloc | apply Kd.R_drewN | apply Kd.R_drew)); exact HO429.out) hb); have n2_ := Aside0.mk (blk_below (g := gb413) (o := .cells #[.slice A0_0 l0_0.length c0_0, .int .i64 a0_1, .int .i64 a0_2] 24 (0, 0)) (by (with_reducible repeat (first | refine blk_drewN ?_ _ | refine blk_drew ?_ | refine blk_alloc ?_ _)); exact BK413.out) hb); have n3_ := Aside0.mk (below_step (by repeat (first | (with_reducible first | exact HB.out | apply below_alloc | apply pw_below_drewN | apply below_drew1 | refine below_set ?_ GE413.out) | exact HB.out)) hb); have n4_ := Aside0.mk (hbox); have n5_ := Aside0.mk ((by rw [hg]; exact (below_size (by repeat (first | (with_reducible first | exact HB.out | apply below_alloc | apply pw_below_drewN | apply below_drew1 | refine below_set ?_ GE413.out) | exact HB.out))) : w.heap.size ≤ gb431)); have n6_ := Aside0.mk ((by rw [hg]; exact (below_size (by repeat (first | (with_reducible first | exact HB.out | apply below_alloc | apply pw_below_drewN | apply below_drew1 | refine below_set ?_ GE413.out) | exact HB.out))) : w.heap.size ≤ gb431)); have n7_ := Aside0.mk ((by rw [hg]; exact Nat.ne_of_lt (blk_lt (g := gb413) (o := .cells #[.slice A0_0 l0_0.length c0_0, .int .i64 a0_1, .int .i64 a0_2] 24 (0, 0)) (by (with_reducible repeat (first | refine blk_drewN ?_ _ | refine blk_drew ?_ | refine blk_alloc ?_ _)); exact BK413.out)) : gb413 ≠ gb431)); have n8_ := Aside0.mk ((by rw [hg]; exact Nat.ne_of_gt (blk_lt (g := gb413) (o := .cells #[.slice A0_0 l0_0.length c0_0, .int .i64 a0_1, .int .i64 a0_2] 24 (0, 0)) (by (with_reducible repeat (first | refine blk_drewN ?_ _ | refine blk_drew ?_ | refine blk_alloc ?_ _)); exact BK413.out)) : gb431 ≠ gb413)); clear HO424; clear HO429; clear BK413; clear HB; have HO424 := n0_; have HO429 := n1_; have BK413 := n2_; have HB := n3_; have BK431 := n4_; have GW431 := n5_; have GE431 := n6_; have NB413_431 := n7_; have NB431_413 := n8_; clear n0_ n1_ n2_ n3_ n4_ n5_ n6_ n7_ n8_; clear hb hbox hg; obtain ⟨Ao66, co66, eo66⟩ := Kd.S_slice HO424.out; subst eo66; have hnb67 := NB431_413.out; have hnc67 := NB413_431.out; have hcz68_0 : w65.cell? ⟨gb431, 0, none⟩ = some (.slice none 0 0) := (blk_cell BK431.out 0).trans rfl; have hcz68_1 : w65.cell? ⟨gb431, 1, none⟩ = some (.int .i64 0) := (blk_cell BK431.out 1).trans rfl; have hcz68_2 : w65.cell? ⟨gb431, 2, none⟩ = some (.int .i64 0) := (blk_cell BK431.out 2).trans rfl; have hfz68_0 := blk_frozen BK431.out 0; have hfz68_1 := blk_frozen BK431.out 1; have hfz68_2 := blk_frozen BK431.out 2) | ((with_reducible refine gate_callee (f := 19) rfl ?_); refine goesL_ (some 79) rfl rfl Try.func19 (by kernel_rfl) rfl #[.string (js49.extract 0 ((ji51) : Int).toNat)] rfl (by (try simp only [List.map_toArray, List.map_cons, List.map_nil]); first | done | (simp only [hji46, hji51]; rfl) | rfl | (simp only [List.length_drop, List.length_take]; rfl)) ?_; (with_reducible refine (anamnesisref07_Of.calls kj35 (js49.extract 0 ((ji51) : Int).toNat) t432 _ A54.out).mono ?_); rintro e w' ⟨rfl, ⟨nd, rfl⟩⟩; refine ⟨_, rfl, ?_⟩) | ((with_reducible refine gate_callee (f := 18) rfl ?_); refine goesL_ (some 80) rfl rfl Try.func18 (by kernel_rfl) rfl #[.int .i64 t432] rfl (by (try simp only [List.map_toArray, List.map_cons, List.map_nil]); first | done | rfl | (simp only [List.length_drop, List.length_take]; rfl)) ?_; (with_reducible refine (anamnesisref07_Bytes.calls t432 t433 _ A55.out).mono ?_); rintro e w69 ⟨rfl, hb⟩; refine ⟨_, rfl, ?_⟩; have n0_ := Aside0.mk (Kd.S_below (by (with_reducible repeat (first | apply Kd.S_alloc | apply Kd.S_drewN | apply Kd.S_drew)); exact (Kd.S_mono (Kd.S_far (p := ⟨gb431, 2, none⟩) (Kd.S_far (p := ⟨gb431, 1, none⟩) (Kd.S_far (p := ⟨gb431, 0, none⟩) (Kd.S_types HO424.out BK431.out (by decide)) (fun _ hk => hk.2) (.slice Ao66 t422.length co66)) (fun _ hk => hk.2) (.int .i64 t425)) (fun _ hk => hk.2) (.int .i64 t426)) (fun _ h_ => h_.1))) hb); have n1_ := Aside0.mk (blk_below (g := gb413) (o := .cells #[.slice A0_0 l0_0.length c0_0, .int .i64 a0_1, .int .i64 a0_2] 24 (0, 0)) (by (with_reducible repeat (first | refine blk_drewN ?_ _ | refine blk_drew ?_ | refine blk_alloc ?_ _)); refine blk_far ?_ NB413_431.out _; (with_reducible repeat (first | refine blk_drewN ?_ _ | refine blk_drew ?_ | refine blk_alloc ?_ _)); refine blk_far ?_ NB413_431.out _; (with_reducible repeat (first | refine blk_drewN ?_ _ | refine blk_drew ?_ | refine blk_alloc ?_ _)); refine blk_far ?_ NB413_431.out _; (with_reducible repeat (first | refine blk_drewN ?_ _ | refine blk_drew ?_ | refine blk_alloc ?_ _)); exact BK413.out) hb); have n2_ := Aside0.mk (blk_below (g := gb431) (o := .cells #[.slice Ao66 t422.length co66, .int .i64 t425, .int .i64 t426] 24 (0, 0)) (by (with_reducible repeat (first | refine blk_drewN ?_ _ | refine blk_drew ?_ | refine blk_alloc ?_ _)); refine blk_put (cs := #[.slice Ao66 t422.length co66, .int .i64 t425, .int .i64 0]) ?_ 2 _ rfl; (with_reducible repeat (first | refine blk_drewN ?_ _ | refine blk_drew ?_ | refine blk_alloc ?_ _)); refine blk_put (cs := #[.slice Ao66 t422.length co66, .int .i64 0, .int .i64 0]) ?_ 1 _ rfl; (with_reducible repeat (first | refine blk_drewN ?_ _ | refine blk_drew ?_ | refine blk_alloc ?_ _)); refine blk_put (cs := #[.slice none 0 0, .int .i64 0, .int .i64 0]) ?_ 0 _ rfl; (with_reducible repeat (first | refine blk_drewN ?_ _ | refine blk_drew ?_ | refine blk_alloc ?_ _)); exact BK431.out) hb); have n3_ := Aside0.mk (below_step (by repeat (first | (with_reducible first | exact HB.out | apply below_alloc | apply pw_below_drewN | apply below_drew1 | refine below_set ?_ GE413.out | refine below_set ?_ GE431.out) | exact HB.out)) hb); clear HO424; clear BK413; clear BK431; clear HB; have HO424 := n0_; have BK413 := n1_; have BK431 := n2_; have HB := n3_; clear n0_ n1_ n2_ n3_; (try clear hb); (try clear hb2); (try clear hk); (try clear hi)) | ((with_reducible refine gate_callee (f := 10) rfl ?_); refine goesL_ (some 82) rfl rfl Try.func10 (by kernel_rfl) rfl #[.string ((js49.extract 0 ((ji51) : Int).toNat) ++ t433)] rfl (by (try simp only [List.map_toArray, List.map_cons, List.map_nil]); first | done | (simp only [hji46, hji51]; rfl) | rfl | (simp only [List.length_drop, List.length_take]; rfl)) ?_; (with_reducible refine (snap_Decode.calls kj35 ((js49.extract 0 ((ji51) : Int).toNat) ++ t433) t434 t437 t438 t439 t442 _ A57.out).mono ?_); rintro e w70 ⟨v435, v440, rfl, ho0, ho1, hb⟩; refine ⟨_, rfl, ?_⟩; have n0_ := Aside0.mk (Kd.S_mono (Kd.S_told (Kd.S_told (Kd.S_old (by (with_reducible repeat (first | apply Kd.S_alloc | apply Kd.S_drewN | apply Kd.S_drew)); exact HO424.out) hb) (Kd.S_base ho0)) (Kd.R_base ho1)) (fun _ h_ => h_.1)); have n1_ := Aside0.mk (Kd.S_lower (Kd.S_new' ho0 (Kd.S_lt (by (with_reducible repeat (first | apply Kd.S_alloc | apply Kd.S_drewN | apply Kd.S_drew)); exact HO424.out))) (below_size (by repeat (first | (with_reducible first | exact HB.out | apply below_alloc | apply pw_below_drewN | apply below_drew1 | refine below_set ?_ GE413.out | refine below_set ?_ GE431.out) | exact HB.out)))); have n2_ := Aside0.mk (Kd.R_lower ho1 (below_size (by repeat (first | (with_reducible first | exact HB.out | apply below_alloc | apply pw_below_drewN | apply below_drew1 | refine below_set ?_ GE413.out | refine below_set ?_ GE431.out) | exact HB.out)))); have n3_ := Aside0.mk (blk_below (g := gb413) (o := .cells #[.slice A0_0 l0_0.length c0_0, .int .i64 a0_1, .int .i64 a0_2] 24 (0, 0)) (by (with_reducible repeat (first | refine blk_drewN ?_ _ | refine blk_drew ?_ | refine blk_alloc ?_ _)); exact BK413.out) hb); have n4_ := Aside0.mk (blk_below (g := gb431) (o := .cells #[.slice Ao66 t422.length co66, .int .i64 t425, .int .i64 t426] 24 (0, 0)) (by (with_reducible repeat (first | refine blk_drewN ?_ _ | refine blk_drew ?_ | refine blk_alloc ?_ _)); exact BK431.out) hb); have n5_ := Aside0.mk (below_step (by repeat (first | (with_reducible first | exact HB.out | apply below_alloc | apply pw_below_drewN | apply below_drew1 | refine below_set ?_ GE413.out | refine below_set ?_ GE431.out) | exact HB.out)) hb); clear HO424; clear BK413; clear BK431; clear HB; have HO424 := n0_; have HO436 := n1_; have HO441 := n2_; have BK413 := n3_; have BK431 := n4_; have HB := n5_; clear n0_ n1_ n2_ n3_ n4_ n5_; (try clear hb); (try clear hb2); (try clear hk); (try clear hi); (try clear ho0); (try clear ho1)) | ((with_reducible refine gate_dst (N := 13) rfl ?_); (try (refine gate_guard (by rfl) ?_; dsimp only)); refine box_event ?hg (N := 13) ?hd (cs := #[.slice none 0 0, .int .i64 0, .int .i64 0]) (t := 24) ?hr ?_; (case hd => rfl); (case hg => rfl); (case hr => first | (go_simp; done) | (go_simp; rfl)); intro gb443 hg w71 hbox hb; have n0_ := Aside0.mk (Kd.S_below (by (with_reducible repeat (first | apply Kd.S_alloc | apply Kd.S_drewN | apply Kd.S_drew)); exact HO424.out) hb); have n1_ := Aside0.mk (Kd.S_below (by (with_reducible repeat (first | apply Kd.S_alloc | apply Kd.S_drewN | apply Kd.S_drew)); exact HO436.out) hb); have n2_ := Aside0.mk (Kd.R_below (by (with_reducible repeat (first | apply Kd.R_alloc | apply Kd.R_drewN | apply Kd.R_drew)); exact HO441.out) hb); have n3_ := Aside0.mk (blk_below (g := gb413) (o := .cells #[.slice A0_0 l0_0.length c0_0, .int .i64 a0_1, .int .i64 a0_2] 24 (0, 0)) (by (with_reducible repeat (first | refine blk_drewN ?_ _ | refine blk_drew ?_ | refine blk_alloc ?_ _)); exact BK413.out) hb); have n4_ := Aside0.mk (blk_below (g := gb431) (o := .cells #[.slice Ao66 t422.length co66, .int .i64 t425, .int .i64 t426] 24 (0, 0)) (by (with_reducible repeat (first | refine blk_drewN ?_ _ | refine blk_drew ?_ | refine blk_alloc ?_ _)); exact BK431.out) hb); have n5_ := Aside0.mk (below_step (by repeat (first | (with_reducible first | exact HB.out | apply below_alloc | apply pw_below_drewN | apply below_drew1 | refine below_set ?_ GE413.out | refine below_set ?_ GE431.out) | exact HB.out)) hb); have n6_ := Aside0.mk (hbox); have n7_ := Aside0.mk ((by rw [hg]; exact (below_size (by repeat (first | (with_reducible first | exact HB.out | apply below_alloc | apply pw_below_drewN | apply below_drew1 | refine below_set ?_ GE413.out | refine below_set ?_ GE431.out) | exact HB.out))) : w.heap.size ≤ gb443)); have n8_ := Aside0.mk ((by rw [hg]; exact (below_size (by repeat (first | (with_reducible first | exact HB.out | apply below_alloc | apply pw_below_drewN | apply below_drew1 | refine below_set ?_ GE413.out | refine below_set ?_ GE431.out) | exact HB.out))) : w.heap.size ≤ gb443)); have n9_ := Aside0.mk ((by rw [hg]; exact Nat.ne_of_lt (blk_lt (g := gb413) (o := .cells #[.slice A0_0 l0_0.length c0_0, .int .i64 a0_1, .int .i64 a0_2] 24 (0, 0)) (by (with_reducible repeat (first | refine blk_drewN ?_ _ | refine blk_drew ?_ | refine blk_alloc ?_ _)); exact BK413.out)) : gb413 ≠ gb443)); have n10_ := Aside0.mk ((by rw [hg]; exact Nat.ne_of_gt (blk_lt (g := gb413) (o := .cells #[.slice A0_0 l0_0.length c0_0, .int .i64 a0_1, .int .i64 a0_2] 24 (0, 0)) (by (with_reducible repeat (first | refine blk_drewN ?_ _ | refine blk_drew ?_ | refine blk_alloc ?_ _)); exact BK413.out)) : gb443 ≠ gb413)); have n11_ := Aside0.mk ((by rw [hg]; exact Nat.ne_of_lt (blk_lt (g := gb431) (o := .cells #[.slice Ao66 t422.length co66, .int .i64 t425, .int .i64 t426] 24 (0, 0)) (by (with_reducible repeat (first | refine blk_drewN ?_ _ | refine blk_drew ?_ | refine blk_alloc ?_ _)); exact BK431.out)) : gb431 ≠ gb443)); have n12_ := Aside0.mk ((by rw [hg]; exact Nat.ne_of_gt (blk_lt (g := gb431) (o := .cells #[.slice Ao66 t422.length co66, .int .i64 t425, .int .i64 t426] 24 (0, 0)) (by (with_reducible repeat (first | refine blk_drewN ?_ _ | refine blk_drew ?_ | refine blk_alloc ?_ _)); exact BK431.out)) : gb443 ≠ gb431)); clear HO424; clear HO436; clear HO441; clear BK413; clear BK431; clear HB; have HO424 := n0_; have HO436 := n1_; have HO441 := n2_; have BK413 := n3_; have BK431 := n4_; have HB := n5_; have BK443 := n6_; have GW443 := n7_; have GE443 := n8_; have NB413_443 := n9_; have NB443_413 := n10_; have NB431_443 := n11_; have NB443_431 := n12_; clear n0_ n1_ n2_ n3_ n4_ n5_ n6_ n7_ n8_ n9_ n10_ n11_ n12_; clear hb hbox hg; obtain ⟨Ao72, co72, eo72⟩ := Kd.S_slice HO436.out; subst eo72; have hnb73 := NB443_413.out; have hnc73 := NB413_443.out; have hnb74 := NB443_431.out; have hnc74 := NB431_443.out; have hcz75_0 : w71.cell? ⟨gb443, 0, none⟩ = some (.slice none 0 0) := (blk_cell BK443.out 0).trans rfl; have hcz75_1 : w71.cell? ⟨gb443, 1, none⟩ = some (.int .i64 0) := (blk_cell BK443.out 1).trans rfl; have hcz75_2 : w71.cell? ⟨gb443, 2, none⟩ = some (.int .i64 0) := (blk_cell BK443.out 2).trans rfl; have hfz75_0 := blk_frozen BK443.out 0; have hfz75_1 := blk_frozen BK443.out 1; have hfz75_2 := blk_frozen BK443.out 2))
                   go_ret
                   exact ⟨by first | rfl | (simp [errW_none, errW_some] <;> rfl) | (simp only [← hji46, ← hji51]; first | rfl | (simp [errW_none, errW_some] <;> rfl)) | (simp [*, errW_none, errW_some] <;> rfl), by repeat (first | (with_reducible first | exact HB.out | apply below_alloc | apply pw_below_drewN | apply below_drew1 | refine below_set ?_ GE413.out | refine below_set ?_ GE431.out | refine below_set ?_ GE443.out) | exact HB.out)⟩
                  ·rw [if_neg c59] at H
                   have c59b0 : (t442 == 82) = false := beq_eq_false_iff_ne.mpr c59
                   have c59b1 : (t442 != 82) = true := bne_iff_ne.mpr c59
                   by_cases c76 : t442 = 0
                   ·rw [if_pos c76] at H
                    have c76b0 : (t442 == 0) = true := beq_iff_eq.mpr c76
                    have c76b1 : (t442 != 0) = false := bne_eq_false_iff_eq.mpr c76
                    clear c76
                    by_cases c77 : (t439.length : Int) > 0
                    ·rw [if_pos c77] at H
                     have c77b0 : decide (0 < (t439.length : Int)) = true := decide_eq_true c77
                     have c77b1 : decide (0 < t439.length) = true := decide_eq_true (by omega)
                     clear c77
                     obtain rfl := Option.some.inj H
                     try go_wp2
                     have n0_ := Aside0.mk (blk_drew BK413.out)
                     have n1_ := Aside0.mk (below_drew1 HB.out)
                     clear BK413
                     clear HB
                     have BK413 := n0_
                     have HB := n1_
                     clear n0_ n1_
                     have p44 : 0 ≤ (a1 : Int) := of_decide_eq_true (by first | (with_reducible assumption) | assumption)
                     have q44 : a1 < (t418.size : Int) := of_decide_eq_true (by first | (with_reducible assumption) | assumption)
                     have hx44 := bt_at t418 a1
                     replace p44 := eq_true p44
                     replace q44 := eq_true q44
                     refine start_ (n := 18) (S := fun w' => True) (ds := []) #[false, false, false, false, false, false, false, false, false, false, false, false, false, false, false, false, false, false] (by kernel_rfl) rfl rfl trivial (fun hHeld => ?_); refine with_tabW anamnesislaw08_SnapSums.tab6 anamnesislaw08_SnapSums.bits6 (fun HT_ HW_ => ?_)
                     generalize wc.drew = w78 at BK413 HB hHeld ⊢
                     refine pure1 (i := 0) (N := some 48) #[true, false, false, false, false, false, false, false, false, false, false, false, false, false, false, false, false, false] HT_.out ?_
                     refine pure1 (i := 1) (N := some 49) #[true, true, false, false, false, false, false, false, false, false, false, false, false, false, false, false, false, false] HT_.out ?_
                     refine pure1 (i := 2) (N := some 50) #[true, true, true, false, false, false, false, false, false, false, false, false, false, false, false, false, false, false] HT_.out ?_
                     refine pure1 (i := 3) (N := some 51) #[true, true, true, true, false, false, false, false, false, false, false, false, false, false, false, false, false, false] HT_.out ?_
                     refine pure1 (i := 4) (N := some 52) #[true, true, true, true, true, false, false, false, false, false, false, false, false, false, false, false, false, false] HT_.out ?_
                     refine pure1 (i := 6) (N := some 54) #[true, true, true, true, true, false, true, false, false, false, false, false, false, false, false, false, false, false] HT_.out ?_
                     refine pure1 (i := 7) (N := some 55) #[true, true, true, true, true, false, true, true, false, false, false, false, false, false, false, false, false, false] HT_.out ?_
                     refine pure1 (i := 12) (N := some 60) #[true, true, true, true, true, false, true, true, false, false, false, false, true, false, false, false, false, false] HT_.out ?_
                     refine pure1 (i := 13) (N := some 61) #[true, true, true, true, true, false, true, true, false, false, false, false, true, true, false, false, false, false] HT_.out ?_
                     refine pure1 (i := 14) (N := some 62) #[true, true, true, true, true, false, true, true, false, false, false, false, true, true, true, false, false, false] HT_.out ?_
                     refine pure1 (i := 15) (N := some 63) #[true, true, true, true, true, false, true, true, false, false, false, false, true, true, true, true, false, false] HT_.out ?_
                     refine take_ (i := 5) (N := some 53) (v := ?_) (a' := ?_) #[true, true, true, true, true, true, true, true, false, false, false, false, true, true, true, true, false, false] rfl rfl (take_ofW HT_.out HW_.out (by kernel_rfl)) (fun _ _ _ h => h) (Or.inl ⟨by rfl, ?_⟩) hHeld ?_ ?_
                     rotate_left
                     ·intro w' _
                      go_simp
                      with_reducible rfl
                     rotate_left
                     ·simp only [Act.put, List.setIfInBounds_toArray, List.set_cons_zero, List.set_cons_succ, i64_w, i32_w]
                      rfl
                     refine pure1 (i := 8) (N := some 56) #[true, true, true, true, true, true, true, true, true, false, false, false, true, true, true, true, false, false] HT_.out ?_
                     refine one_ (i := 9) (N := some 57) #[true, true, true, true, true, true, true, true, true, true, false, false, true, true, true, true, false, false] rfl rfl (one_of HT_.out (by kernel_rfl)) (by decide) (fun K hK => ?_)
                     refine Kd.R_lit_step (Kd.int .u8) _ 5 ?hg (N := 57) ?hd (xs := ([Go.bits .xor .u8 (bt t418 a1) ((a2) % 256)] : List Int)) (inner := [.int .u8 (Go.bits .xor .u8 (bt t418 a1) ((a2) % 256))]) (ok := fun _ => True) (okp := fun _ => True) ?hr ?hp (fun _ hk => hk) trivial (Below.refl _ _) (Nat.le_refl _) (by simp) ?_; (case hd => rfl); (case hg => rfl); (case hr => first | (go_simp; done) | (go_simp; rfl)); (case hp => exact (Reps.one (show Kd.M (Kd.int .u8) _ _ _ (Go.bits .xor .u8 (bt t418 a1) ((a2) % 256)) [.int .u8 (Go.bits .xor .u8 (bt t418 a1) ((a2) % 256))] from rfl) (Reps.none _ _)))
                     intro v420 w79 ho80 hb hg_ hnew_
                     clear hg_ hnew_
                     (first | rw [← Ny419.out] at ho80 | (simp only [Int.reduceToNat] at ho80; rw [← Ny419.out] at ho80))
                     have n0_ := Aside0.mk (Kd.R_lower ho80 (below_size (by repeat (first | (with_reducible first | exact HB.out | apply below_alloc | apply pw_below_drewN | apply below_drew1 | refine below_set ?_ GE413.out) | exact HB.out))))
                     have n1_ := Aside0.mk (blk_below (g := gb413) (o := .cells #[.slice A0_0 l0_0.length c0_0, .int .i64 a0_1, .int .i64 a0_2] 24 (0, 0)) (by (with_reducible repeat (first | refine blk_drewN ?_ _ | refine blk_drew ?_ | refine blk_alloc ?_ _)); exact BK413.out) hb)
                     have n2_ := Aside0.mk (below_step (by repeat (first | (with_reducible first | exact HB.out | apply below_alloc | apply pw_below_drewN | apply below_drew1 | refine below_set ?_ GE413.out) | exact HB.out)) hb)
                     clear BK413
                     clear HB
                     have HO421 := n0_
                     have BK413 := n1_
                     have HB := n2_
                     clear n0_ n1_ n2_
                     clear hb ho80
                     refine hK.out _ _ trivial (fun hHeld => ?_)
                     clear hK K
                     refine norm_ (a' := ?_) ?_ ?_
                     rotate_left
                     ·show Act.put _ (some 57) _ = _
                      simp only [Act.put, List.setIfInBounds_toArray, List.set_cons_zero, List.set_cons_succ, i64_w, i32_w]
                      rfl
                     refine one_ (i := 10) (N := some 58) #[true, true, true, true, true, true, true, true, true, true, true, false, true, true, true, true, false, false] rfl rfl (one_of HT_.out (by kernel_rfl)) (by decide) (fun K hK => ?_)
                     have hcv81 := own_string (P := Try.prog) Try.underlying36 Try.underlying5 Try.underlying9 (Kd.own_of_R HO421.out)
                     refine value_ (w1 := ?_) (v := ?_) (by rfl) rfl ?_ ?_
                     rotate_left 2
                     ·go_simp
                      constructor
                      ·rfl
                      ·rfl
                     clear hcv81
                     refine hK.out _ _ trivial (fun hHeld => ?_)
                     clear hK K
                     refine norm_ (a' := ?_) ?_ ?_
                     rotate_left
                     ·show Act.put _ (some 58) _ = _
                      simp only [Act.put, List.setIfInBounds_toArray, List.set_cons_zero, List.set_cons_succ, i64_w, i32_w]
                      rfl
                     refine pure1 (i := 11) (N := some 59) #[true, true, true, true, true, true, true, true, true, true, true, true, true, true, true, true, false, false] HT_.out ?_
                     refine pure1 (i := 16) (N := some 64) #[true, true, true, true, true, true, true, true, true, true, true, true, true, true, true, true, true, false] HT_.out ?_
                     refine pure1 (i := 17) (N := some 8) #[true, true, true, true, true, true, true, true, true, true, true, true, true, true, true, true, true, true] HT_.out ?_
                     refine done_ (done_of HT_.out (by kernel_rfl)) ?_
                     try simp only [hjs49]
                     try go_wp2_with (first | ((with_reducible refine gate_callee (f := 10) rfl ?_); refine goesL_ (some 67) rfl rfl Try.func10 (by kernel_rfl) rfl #[.string js49] rfl (by (try simp only [List.map_toArray, List.map_cons, List.map_nil]); first | done | (simp only [hji46]; rfl) | rfl | (simp only [List.length_drop, List.length_take]; rfl)) ?_; (with_reducible refine (snap_Decode.calls kj35 js49 t422 t425 t426 t427 t430 _ A50.out).mono ?_); rintro e w82 ⟨v423, v428, rfl, ho0, ho1, hb⟩; refine ⟨_, rfl, ?_⟩; have n0_ := Aside0.mk (Kd.R_below (by (with_reducible repeat (first | apply Kd.R_alloc | apply Kd.R_drewN | apply Kd.R_drew)); exact HO421.out) hb); have n1_ := Aside0.mk (Kd.S_lower ho0 (below_size (by repeat (first | (with_reducible first | exact HB.out | apply below_alloc | apply pw_below_drewN | apply below_drew1 | refine below_set ?_ GE413.out) | exact HB.out)))); have n2_ := Aside0.mk (Kd.R_lower ho1 (below_size (by repeat (first | (with_reducible first | exact HB.out | apply below_alloc | apply pw_below_drewN | apply below_drew1 | refine below_set ?_ GE413.out) | exact HB.out)))); have n3_ := Aside0.mk (blk_below (g := gb413) (o := .cells #[.slice A0_0 l0_0.length c0_0, .int .i64 a0_1, .int .i64 a0_2] 24 (0, 0)) (by (with_reducible repeat (first | refine blk_drewN ?_ _ | refine blk_drew ?_ | refine blk_alloc ?_ _)); exact BK413.out) hb); have n4_ := Aside0.mk (below_step (by repeat (first | (with_reducible first | exact HB.out | apply below_alloc | apply pw_below_drewN | apply below_drew1 | refine below_set ?_ GE413.out) | exact HB.out)) hb); clear HO421; clear BK413; clear HB; have HO421 := n0_; have HO424 := n1_; have HO429 := n2_; have BK413 := n3_; have HB := n4_; clear n0_ n1_ n2_ n3_ n4_; (try clear hb); (try clear hb2); (try clear hk); (try clear hi); (try clear ho0); (try clear ho1)) | ((with_reducible refine gate_dst (N := 9) rfl ?_); (try (refine gate_guard (by rfl) ?_; dsimp only)); refine box_event ?hg (N := 9) ?hd (cs := #[.slice none 0 0, .int .i64 0, .int .i64 0]) (t := 24) ?hr ?_; (case hd => rfl); (case hg => rfl); (case hr => first | (go_simp; done) | (go_simp; rfl)); intro gb431 hg w83 hbox hb; have n0_ := Aside0.mk (Kd.S_below (by (with_reducible repeat (first | apply Kd.S_alloc | apply Kd.S_drewN | apply Kd.S_drew)); exact HO424.out) hb); have n1_ := Aside0.mk (Kd.R_below (by (with_reducible repeat (first | apply Kd.R_alloc | apply Kd.R_drewN | apply Kd.R_drew)); exact HO429.out) hb); have n2_ := Aside0.mk (blk_below (g := gb413) (o := .cells #[.slice A0_0 l0_0.length c0_0, .int .i64 a0_1, .int .i64 a0_2] 24 (0, 0)) (by (with_reducible repeat (first | refine blk_drewN ?_ _ | refine blk_drew ?_ | refine blk_alloc ?_ _)); exact BK413.out) hb); have n3_ := Aside0.mk (below_step (by repeat (first | (with_reducible first | exact HB.out | apply below_alloc | apply pw_below_drewN | apply below_drew1 | refine below_set ?_ GE413.out) | exact HB.out)) hb); have n4_ := Aside0.mk (hbox); have n5_ := Aside0.mk ((by rw [hg]; exact (below_size (by repeat (first | (with_reducible first | exact HB.out | apply below_alloc | apply pw_below_drewN | apply below_drew1 | refine below_set ?_ GE413.out) | exact HB.out))) : w.heap.size ≤ gb431)); have n6_ := Aside0.mk ((by rw [hg]; exact (below_size (by repeat (first | (with_reducible first | exact HB.out | apply below_alloc | apply pw_below_drewN | apply below_drew1 | refine below_set ?_ GE413.out) | exact HB.out))) : w.heap.size ≤ gb431)); have n7_ := Aside0.mk ((by rw [hg]; exact Nat.ne_of_lt (blk_lt (g := gb413) (o := .cells #[.slice A0_0 l0_0.length c0_0, .int .i64 a0_1, .int .i64 a0_2] 24 (0, 0)) (by (with_reducible repeat (first | refine blk_drewN ?_ _ | refine blk_drew ?_ | refine blk_alloc ?_ _)); exact BK413.out)) : gb413 ≠ gb431)); have n8_ := Aside0.mk ((by rw [hg]; exact Nat.ne_of_gt (blk_lt (g := gb413) (o := .cells #[.slice A0_0 l0_0.length c0_0, .int .i64 a0_1, .int .i64 a0_2] 24 (0, 0)) (by (with_reducible repeat (first | refine blk_drewN ?_ _ | refine blk_drew ?_ | refine blk_alloc ?_ _)); exact BK413.out)) : gb431 ≠ gb413)); clear HO424; clear HO429; clear BK413; clear HB; have HO424 := n0_; have HO429 := n1_; have BK413 := n2_; have HB := n3_; have BK431 := n4_; have GW431 := n5_; have GE431 := n6_; have NB413_431 := n7_; have NB431_413 := n8_; clear n0_ n1_ n2_ n3_ n4_ n5_ n6_ n7_ n8_; clear hb hbox hg; obtain ⟨Ao84, co84, eo84⟩ := Kd.S_slice HO424.out; subst eo84; have hnb85 := NB431_413.out; have hnc85 := NB413_431.out; have hcz86_0 : w83.cell? ⟨gb431, 0, none⟩ = some (.slice none 0 0) := (blk_cell BK431.out 0).trans rfl; have hcz86_1 : w83.cell? ⟨gb431, 1, none⟩ = some (.int .i64 0) := (blk_cell BK431.out 1).trans rfl; have hcz86_2 : w83.cell? ⟨gb431, 2, none⟩ = some (.int .i64 0) := (blk_cell BK431.out 2).trans rfl; have hfz86_0 := blk_frozen BK431.out 0; have hfz86_1 := blk_frozen BK431.out 1; have hfz86_2 := blk_frozen BK431.out 2) | ((with_reducible refine gate_callee (f := 19) rfl ?_); refine goesL_ (some 79) rfl rfl Try.func19 (by kernel_rfl) rfl #[.string (js49.extract 0 ((ji51) : Int).toNat)] rfl (by (try simp only [List.map_toArray, List.map_cons, List.map_nil]); first | done | (simp only [hji46, hji51]; rfl) | rfl | (simp only [List.length_drop, List.length_take]; rfl)) ?_; (with_reducible refine (anamnesisref07_Of.calls kj35 (js49.extract 0 ((ji51) : Int).toNat) t432 _ A54.out).mono ?_); rintro e w' ⟨rfl, ⟨nd, rfl⟩⟩; refine ⟨_, rfl, ?_⟩) | ((with_reducible refine gate_callee (f := 18) rfl ?_); refine goesL_ (some 80) rfl rfl Try.func18 (by kernel_rfl) rfl #[.int .i64 t432] rfl (by (try simp only [List.map_toArray, List.map_cons, List.map_nil]); first | done | rfl | (simp only [List.length_drop, List.length_take]; rfl)) ?_; (with_reducible refine (anamnesisref07_Bytes.calls t432 t433 _ A55.out).mono ?_); rintro e w87 ⟨rfl, hb⟩; refine ⟨_, rfl, ?_⟩; have n0_ := Aside0.mk (Kd.S_below (by (with_reducible repeat (first | apply Kd.S_alloc | apply Kd.S_drewN | apply Kd.S_drew)); exact (Kd.S_mono (Kd.S_far (p := ⟨gb431, 2, none⟩) (Kd.S_far (p := ⟨gb431, 1, none⟩) (Kd.S_far (p := ⟨gb431, 0, none⟩) (Kd.S_types HO424.out BK431.out (by decide)) (fun _ hk => hk.2) (.slice Ao84 t422.length co84)) (fun _ hk => hk.2) (.int .i64 t425)) (fun _ hk => hk.2) (.int .i64 t426)) (fun _ h_ => h_.1))) hb); have n1_ := Aside0.mk (blk_below (g := gb413) (o := .cells #[.slice A0_0 l0_0.length c0_0, .int .i64 a0_1, .int .i64 a0_2] 24 (0, 0)) (by (with_reducible repeat (first | refine blk_drewN ?_ _ | refine blk_drew ?_ | refine blk_alloc ?_ _)); refine blk_far ?_ NB413_431.out _; (with_reducible repeat (first | refine blk_drewN ?_ _ | refine blk_drew ?_ | refine blk_alloc ?_ _)); refine blk_far ?_ NB413_431.out _; (with_reducible repeat (first | refine blk_drewN ?_ _ | refine blk_drew ?_ | refine blk_alloc ?_ _)); refine blk_far ?_ NB413_431.out _; (with_reducible repeat (first | refine blk_drewN ?_ _ | refine blk_drew ?_ | refine blk_alloc ?_ _)); exact BK413.out) hb); have n2_ := Aside0.mk (blk_below (g := gb431) (o := .cells #[.slice Ao84 t422.length co84, .int .i64 t425, .int .i64 t426] 24 (0, 0)) (by (with_reducible repeat (first | refine blk_drewN ?_ _ | refine blk_drew ?_ | refine blk_alloc ?_ _)); refine blk_put (cs := #[.slice Ao84 t422.length co84, .int .i64 t425, .int .i64 0]) ?_ 2 _ rfl; (with_reducible repeat (first | refine blk_drewN ?_ _ | refine blk_drew ?_ | refine blk_alloc ?_ _)); refine blk_put (cs := #[.slice Ao84 t422.length co84, .int .i64 0, .int .i64 0]) ?_ 1 _ rfl; (with_reducible repeat (first | refine blk_drewN ?_ _ | refine blk_drew ?_ | refine blk_alloc ?_ _)); refine blk_put (cs := #[.slice none 0 0, .int .i64 0, .int .i64 0]) ?_ 0 _ rfl; (with_reducible repeat (first | refine blk_drewN ?_ _ | refine blk_drew ?_ | refine blk_alloc ?_ _)); exact BK431.out) hb); have n3_ := Aside0.mk (below_step (by repeat (first | (with_reducible first | exact HB.out | apply below_alloc | apply pw_below_drewN | apply below_drew1 | refine below_set ?_ GE413.out | refine below_set ?_ GE431.out) | exact HB.out)) hb); clear HO424; clear BK413; clear BK431; clear HB; have HO424 := n0_; have BK413 := n1_; have BK431 := n2_; have HB := n3_; clear n0_ n1_ n2_ n3_; (try clear hb); (try clear hb2); (try clear hk); (try clear hi)) | ((with_reducible refine gate_callee (f := 10) rfl ?_); refine goesL_ (some 82) rfl rfl Try.func10 (by kernel_rfl) rfl #[.string ((js49.extract 0 ((ji51) : Int).toNat) ++ t433)] rfl (by (try simp only [List.map_toArray, List.map_cons, List.map_nil]); first | done | (simp only [hji46, hji51]; rfl) | rfl | (simp only [List.length_drop, List.length_take]; rfl)) ?_; (with_reducible refine (snap_Decode.calls kj35 ((js49.extract 0 ((ji51) : Int).toNat) ++ t433) t434 t437 t438 t439 t442 _ A57.out).mono ?_); rintro e w88 ⟨v435, v440, rfl, ho0, ho1, hb⟩; refine ⟨_, rfl, ?_⟩; have n0_ := Aside0.mk (Kd.S_mono (Kd.S_told (Kd.S_told (Kd.S_old (by (with_reducible repeat (first | apply Kd.S_alloc | apply Kd.S_drewN | apply Kd.S_drew)); exact HO424.out) hb) (Kd.S_base ho0)) (Kd.R_base ho1)) (fun _ h_ => h_.1)); have n1_ := Aside0.mk (Kd.S_lower (Kd.S_new' ho0 (Kd.S_lt (by (with_reducible repeat (first | apply Kd.S_alloc | apply Kd.S_drewN | apply Kd.S_drew)); exact HO424.out))) (below_size (by repeat (first | (with_reducible first | exact HB.out | apply below_alloc | apply pw_below_drewN | apply below_drew1 | refine below_set ?_ GE413.out | refine below_set ?_ GE431.out) | exact HB.out)))); have n2_ := Aside0.mk (Kd.R_lower ho1 (below_size (by repeat (first | (with_reducible first | exact HB.out | apply below_alloc | apply pw_below_drewN | apply below_drew1 | refine below_set ?_ GE413.out | refine below_set ?_ GE431.out) | exact HB.out)))); have n3_ := Aside0.mk (blk_below (g := gb413) (o := .cells #[.slice A0_0 l0_0.length c0_0, .int .i64 a0_1, .int .i64 a0_2] 24 (0, 0)) (by (with_reducible repeat (first | refine blk_drewN ?_ _ | refine blk_drew ?_ | refine blk_alloc ?_ _)); exact BK413.out) hb); have n4_ := Aside0.mk (blk_below (g := gb431) (o := .cells #[.slice Ao84 t422.length co84, .int .i64 t425, .int .i64 t426] 24 (0, 0)) (by (with_reducible repeat (first | refine blk_drewN ?_ _ | refine blk_drew ?_ | refine blk_alloc ?_ _)); exact BK431.out) hb); have n5_ := Aside0.mk (below_step (by repeat (first | (with_reducible first | exact HB.out | apply below_alloc | apply pw_below_drewN | apply below_drew1 | refine below_set ?_ GE413.out | refine below_set ?_ GE431.out) | exact HB.out)) hb); clear HO424; clear BK413; clear BK431; clear HB; have HO424 := n0_; have HO436 := n1_; have HO441 := n2_; have BK413 := n3_; have BK431 := n4_; have HB := n5_; clear n0_ n1_ n2_ n3_ n4_ n5_; (try clear hb); (try clear hb2); (try clear hk); (try clear hi); (try clear ho0); (try clear ho1)) | ((with_reducible refine gate_dst (N := 13) rfl ?_); (try (refine gate_guard (by rfl) ?_; dsimp only)); refine box_event ?hg (N := 13) ?hd (cs := #[.slice none 0 0, .int .i64 0, .int .i64 0]) (t := 24) ?hr ?_; (case hd => rfl); (case hg => rfl); (case hr => first | (go_simp; done) | (go_simp; rfl)); intro gb443 hg w89 hbox hb; have n0_ := Aside0.mk (Kd.S_below (by (with_reducible repeat (first | apply Kd.S_alloc | apply Kd.S_drewN | apply Kd.S_drew)); exact HO424.out) hb); have n1_ := Aside0.mk (Kd.S_below (by (with_reducible repeat (first | apply Kd.S_alloc | apply Kd.S_drewN | apply Kd.S_drew)); exact HO436.out) hb); have n2_ := Aside0.mk (Kd.R_below (by (with_reducible repeat (first | apply Kd.R_alloc | apply Kd.R_drewN | apply Kd.R_drew)); exact HO441.out) hb); have n3_ := Aside0.mk (blk_below (g := gb413) (o := .cells #[.slice A0_0 l0_0.length c0_0, .int .i64 a0_1, .int .i64 a0_2] 24 (0, 0)) (by (with_reducible repeat (first | refine blk_drewN ?_ _ | refine blk_drew ?_ | refine blk_alloc ?_ _)); exact BK413.out) hb); have n4_ := Aside0.mk (blk_below (g := gb431) (o := .cells #[.slice Ao84 t422.length co84, .int .i64 t425, .int .i64 t426] 24 (0, 0)) (by (with_reducible repeat (first | refine blk_drewN ?_ _ | refine blk_drew ?_ | refine blk_alloc ?_ _)); exact BK431.out) hb); have n5_ := Aside0.mk (below_step (by repeat (first | (with_reducible first | exact HB.out | apply below_alloc | apply pw_below_drewN | apply below_drew1 | refine below_set ?_ GE413.out | refine below_set ?_ GE431.out) | exact HB.out)) hb); have n6_ := Aside0.mk (hbox); have n7_ := Aside0.mk ((by rw [hg]; exact (below_size (by repeat (first | (with_reducible first | exact HB.out | apply below_alloc | apply pw_below_drewN | apply below_drew1 | refine below_set ?_ GE413.out | refine below_set ?_ GE431.out) | exact HB.out))) : w.heap.size ≤ gb443)); have n8_ := Aside0.mk ((by rw [hg]; exact (below_size (by repeat (first | (with_reducible first | exact HB.out | apply below_alloc | apply pw_below_drewN | apply below_drew1 | refine below_set ?_ GE413.out | refine below_set ?_ GE431.out) | exact HB.out))) : w.heap.size ≤ gb443)); have n9_ := Aside0.mk ((by rw [hg]; exact Nat.ne_of_lt (blk_lt (g := gb413) (o := .cells #[.slice A0_0 l0_0.length c0_0, .int .i64 a0_1, .int .i64 a0_2] 24 (0, 0)) (by (with_reducible repeat (first | refine blk_drewN ?_ _ | refine blk_drew ?_ | refine blk_alloc ?_ _)); exact BK413.out)) : gb413 ≠ gb443)); have n10_ := Aside0.mk ((by rw [hg]; exact Nat.ne_of_gt (blk_lt (g := gb413) (o := .cells #[.slice A0_0 l0_0.length c0_0, .int .i64 a0_1, .int .i64 a0_2] 24 (0, 0)) (by (with_reducible repeat (first | refine blk_drewN ?_ _ | refine blk_drew ?_ | refine blk_alloc ?_ _)); exact BK413.out)) : gb443 ≠ gb413)); have n11_ := Aside0.mk ((by rw [hg]; exact Nat.ne_of_lt (blk_lt (g := gb431) (o := .cells #[.slice Ao84 t422.length co84, .int .i64 t425, .int .i64 t426] 24 (0, 0)) (by (with_reducible repeat (first | refine blk_drewN ?_ _ | refine blk_drew ?_ | refine blk_alloc ?_ _)); exact BK431.out)) : gb431 ≠ gb443)); have n12_ := Aside0.mk ((by rw [hg]; exact Nat.ne_of_gt (blk_lt (g := gb431) (o := .cells #[.slice Ao84 t422.length co84, .int .i64 t425, .int .i64 t426] 24 (0, 0)) (by (with_reducible repeat (first | refine blk_drewN ?_ _ | refine blk_drew ?_ | refine blk_alloc ?_ _)); exact BK431.out)) : gb443 ≠ gb431)); clear HO424; clear HO436; clear HO441; clear BK413; clear BK431; clear HB; have HO424 := n0_; have HO436 := n1_; have HO441 := n2_; have BK413 := n3_; have BK431 := n4_; have HB := n5_; have BK443 := n6_; have GW443 := n7_; have GE443 := n8_; have NB413_443 := n9_; have NB443_413 := n10_; have NB431_443 := n11_; have NB443_431 := n12_; clear n0_ n1_ n2_ n3_ n4_ n5_ n6_ n7_ n8_ n9_ n10_ n11_ n12_; clear hb hbox hg; obtain ⟨Ao90, co90, eo90⟩ := Kd.S_slice HO436.out; subst eo90; have hnb91 := NB443_413.out; have hnc91 := NB413_443.out; have hnb92 := NB443_431.out; have hnc92 := NB431_443.out; have hcz93_0 : w89.cell? ⟨gb443, 0, none⟩ = some (.slice none 0 0) := (blk_cell BK443.out 0).trans rfl; have hcz93_1 : w89.cell? ⟨gb443, 1, none⟩ = some (.int .i64 0) := (blk_cell BK443.out 1).trans rfl; have hcz93_2 : w89.cell? ⟨gb443, 2, none⟩ = some (.int .i64 0) := (blk_cell BK443.out 2).trans rfl; have hfz93_0 := blk_frozen BK443.out 0; have hfz93_1 := blk_frozen BK443.out 1; have hfz93_2 := blk_frozen BK443.out 2; obtain ⟨Ao94, co94, eo94⟩ := Kd.R_slice HO441.out; subst eo94))
                     go_ret
                     exact ⟨by first | rfl | (simp [errW_none, errW_some] <;> rfl) | (simp only [← hji46, ← hji51]; first | rfl | (simp [errW_none, errW_some] <;> rfl)) | (simp [*, errW_none, errW_some] <;> rfl), by repeat (first | (with_reducible first | exact HB.out | apply below_alloc | apply pw_below_drewN | apply below_drew1 | refine below_set ?_ GE413.out | refine below_set ?_ GE431.out | refine below_set ?_ GE443.out) | exact HB.out)⟩
                    ·rw [if_neg c77] at H
                     have c77b0 : decide (0 < (t439.length : Int)) = false := decide_eq_false c77
                     have c77b1 : decide (0 < t439.length) = false := decide_eq_false (by omega)
                     clear c77
                     replace H := Option.bind_eq_some_iff.mp H
                     obtain ⟨t444, A950, H⟩ := H
                     replace H : (some (!t444)) = some r := H
                     have A95 := Aside0.mk A950
                     clear A950
                     obtain rfl := Option.some.inj H
                     try go_wp2
                     have n0_ := Aside0.mk (blk_drew BK413.out)
                     have n1_ := Aside0.mk (below_drew1 HB.out)
                     clear BK413
                     clear HB
                     have BK413 := n0_
                     have HB := n1_
                     clear n0_ n1_
                     have p44 : 0 ≤ (a1 : Int) := of_decide_eq_true (by first | (with_reducible assumption) | assumption)
                     have q44 : a1 < (t418.size : Int) := of_decide_eq_true (by first | (with_reducible assumption) | assumption)
                     have hx44 := bt_at t418 a1
                     replace p44 := eq_true p44
                     replace q44 := eq_true q44
                     refine start_ (n := 18) (S := fun w' => True) (ds := []) #[false, false, false, false, false, false, false, false, false, false, false, false, false, false, false, false, false, false] (by kernel_rfl) rfl rfl trivial (fun hHeld => ?_); refine with_tabW anamnesislaw08_SnapSums.tab6 anamnesislaw08_SnapSums.bits6 (fun HT_ HW_ => ?_)
                     generalize wc.drew = w96 at BK413 HB hHeld ⊢
                     refine pure1 (i := 0) (N := some 48) #[true, false, false, false, false, false, false, false, false, false, false, false, false, false, false, false, false, false] HT_.out ?_
                     refine pure1 (i := 1) (N := some 49) #[true, true, false, false, false, false, false, false, false, false, false, false, false, false, false, false, false, false] HT_.out ?_
                     refine pure1 (i := 2) (N := some 50) #[true, true, true, false, false, false, false, false, false, false, false, false, false, false, false, false, false, false] HT_.out ?_
                     refine pure1 (i := 3) (N := some 51) #[true, true, true, true, false, false, false, false, false, false, false, false, false, false, false, false, false, false] HT_.out ?_
                     refine pure1 (i := 4) (N := some 52) #[true, true, true, true, true, false, false, false, false, false, false, false, false, false, false, false, false, false] HT_.out ?_
                     refine pure1 (i := 6) (N := some 54) #[true, true, true, true, true, false, true, false, false, false, false, false, false, false, false, false, false, false] HT_.out ?_
                     refine pure1 (i := 7) (N := some 55) #[true, true, true, true, true, false, true, true, false, false, false, false, false, false, false, false, false, false] HT_.out ?_
                     refine pure1 (i := 12) (N := some 60) #[true, true, true, true, true, false, true, true, false, false, false, false, true, false, false, false, false, false] HT_.out ?_
                     refine pure1 (i := 13) (N := some 61) #[true, true, true, true, true, false, true, true, false, false, false, false, true, true, false, false, false, false] HT_.out ?_
                     refine pure1 (i := 14) (N := some 62) #[true, true, true, true, true, false, true, true, false, false, false, false, true, true, true, false, false, false] HT_.out ?_
                     refine pure1 (i := 15) (N := some 63) #[true, true, true, true, true, false, true, true, false, false, false, false, true, true, true, true, false, false] HT_.out ?_
                     refine take_ (i := 5) (N := some 53) (v := ?_) (a' := ?_) #[true, true, true, true, true, true, true, true, false, false, false, false, true, true, true, true, false, false] rfl rfl (take_ofW HT_.out HW_.out (by kernel_rfl)) (fun _ _ _ h => h) (Or.inl ⟨by rfl, ?_⟩) hHeld ?_ ?_
                     rotate_left
                     ·intro w' _
                      go_simp
                      with_reducible rfl
                     rotate_left
                     ·simp only [Act.put, List.setIfInBounds_toArray, List.set_cons_zero, List.set_cons_succ, i64_w, i32_w]
                      rfl
                     refine pure1 (i := 8) (N := some 56) #[true, true, true, true, true, true, true, true, true, false, false, false, true, true, true, true, false, false] HT_.out ?_
                     refine one_ (i := 9) (N := some 57) #[true, true, true, true, true, true, true, true, true, true, false, false, true, true, true, true, false, false] rfl rfl (one_of HT_.out (by kernel_rfl)) (by decide) (fun K hK => ?_)
                     refine Kd.R_lit_step (Kd.int .u8) _ 5 ?hg (N := 57) ?hd (xs := ([Go.bits .xor .u8 (bt t418 a1) ((a2) % 256)] : List Int)) (inner := [.int .u8 (Go.bits .xor .u8 (bt t418 a1) ((a2) % 256))]) (ok := fun _ => True) (okp := fun _ => True) ?hr ?hp (fun _ hk => hk) trivial (Below.refl _ _) (Nat.le_refl _) (by simp) ?_; (case hd => rfl); (case hg => rfl); (case hr => first | (go_simp; done) | (go_simp; rfl)); (case hp => exact (Reps.one (show Kd.M (Kd.int .u8) _ _ _ (Go.bits .xor .u8 (bt t418 a1) ((a2) % 256)) [.int .u8 (Go.bits .xor .u8 (bt t418 a1) ((a2) % 256))] from rfl) (Reps.none _ _)))
                     intro v420 w97 ho98 hb hg_ hnew_
                     clear hg_ hnew_
                     (first | rw [← Ny419.out] at ho98 | (simp only [Int.reduceToNat] at ho98; rw [← Ny419.out] at ho98))
                     have n0_ := Aside0.mk (Kd.R_lower ho98 (below_size (by repeat (first | (with_reducible first | exact HB.out | apply below_alloc | apply pw_below_drewN | apply below_drew1 | refine below_set ?_ GE413.out) | exact HB.out))))
                     have n1_ := Aside0.mk (blk_below (g := gb413) (o := .cells #[.slice A0_0 l0_0.length c0_0, .int .i64 a0_1, .int .i64 a0_2] 24 (0, 0)) (by (with_reducible repeat (first | refine blk_drewN ?_ _ | refine blk_drew ?_ | refine blk_alloc ?_ _)); exact BK413.out) hb)
                     have n2_ := Aside0.mk (below_step (by repeat (first | (with_reducible first | exact HB.out | apply below_alloc | apply pw_below_drewN | apply below_drew1 | refine below_set ?_ GE413.out) | exact HB.out)) hb)
                     clear BK413
                     clear HB
                     have HO421 := n0_
                     have BK413 := n1_
                     have HB := n2_
                     clear n0_ n1_ n2_
                     clear hb ho98
                     refine hK.out _ _ trivial (fun hHeld => ?_)
                     clear hK K
                     refine norm_ (a' := ?_) ?_ ?_
                     rotate_left
                     ·show Act.put _ (some 57) _ = _
                      simp only [Act.put, List.setIfInBounds_toArray, List.set_cons_zero, List.set_cons_succ, i64_w, i32_w]
                      rfl
                     refine one_ (i := 10) (N := some 58) #[true, true, true, true, true, true, true, true, true, true, true, false, true, true, true, true, false, false] rfl rfl (one_of HT_.out (by kernel_rfl)) (by decide) (fun K hK => ?_)
                     have hcv99 := own_string (P := Try.prog) Try.underlying36 Try.underlying5 Try.underlying9 (Kd.own_of_R HO421.out)
                     refine value_ (w1 := ?_) (v := ?_) (by rfl) rfl ?_ ?_
                     rotate_left 2
                     ·go_simp
                      constructor
                      ·rfl
                      ·rfl
                     clear hcv99
                     refine hK.out _ _ trivial (fun hHeld => ?_)
                     clear hK K
                     refine norm_ (a' := ?_) ?_ ?_
                     rotate_left
                     ·show Act.put _ (some 58) _ = _
                      simp only [Act.put, List.setIfInBounds_toArray, List.set_cons_zero, List.set_cons_succ, i64_w, i32_w]
                      rfl
                     refine pure1 (i := 11) (N := some 59) #[true, true, true, true, true, true, true, true, true, true, true, true, true, true, true, true, false, false] HT_.out ?_
                     refine pure1 (i := 16) (N := some 64) #[true, true, true, true, true, true, true, true, true, true, true, true, true, true, true, true, true, false] HT_.out ?_
                     refine pure1 (i := 17) (N := some 8) #[true, true, true, true, true, true, true, true, true, true, true, true, true, true, true, true, true, true] HT_.out ?_
                     refine done_ (done_of HT_.out (by kernel_rfl)) ?_
                     try simp only [hjs49]
                     try go_wp2_with (first | ((with_reducible refine gate_callee (f := 10) rfl ?_); refine goesL_ (some 67) rfl rfl Try.func10 (by kernel_rfl) rfl #[.string js49] rfl (by (try simp only [List.map_toArray, List.map_cons, List.map_nil]); first | done | (simp only [hji46]; rfl) | rfl | (simp only [List.length_drop, List.length_take]; rfl)) ?_; (with_reducible refine (snap_Decode.calls kj35 js49 t422 t425 t426 t427 t430 _ A50.out).mono ?_); rintro e w100 ⟨v423, v428, rfl, ho0, ho1, hb⟩; refine ⟨_, rfl, ?_⟩; have n0_ := Aside0.mk (Kd.R_below (by (with_reducible repeat (first | apply Kd.R_alloc | apply Kd.R_drewN | apply Kd.R_drew)); exact HO421.out) hb); have n1_ := Aside0.mk (Kd.S_lower ho0 (below_size (by repeat (first | (with_reducible first | exact HB.out | apply below_alloc | apply pw_below_drewN | apply below_drew1 | refine below_set ?_ GE413.out) | exact HB.out)))); have n2_ := Aside0.mk (Kd.R_lower ho1 (below_size (by repeat (first | (with_reducible first | exact HB.out | apply below_alloc | apply pw_below_drewN | apply below_drew1 | refine below_set ?_ GE413.out) | exact HB.out)))); have n3_ := Aside0.mk (blk_below (g := gb413) (o := .cells #[.slice A0_0 l0_0.length c0_0, .int .i64 a0_1, .int .i64 a0_2] 24 (0, 0)) (by (with_reducible repeat (first | refine blk_drewN ?_ _ | refine blk_drew ?_ | refine blk_alloc ?_ _)); exact BK413.out) hb); have n4_ := Aside0.mk (below_step (by repeat (first | (with_reducible first | exact HB.out | apply below_alloc | apply pw_below_drewN | apply below_drew1 | refine below_set ?_ GE413.out) | exact HB.out)) hb); clear HO421; clear BK413; clear HB; have HO421 := n0_; have HO424 := n1_; have HO429 := n2_; have BK413 := n3_; have HB := n4_; clear n0_ n1_ n2_ n3_ n4_; (try clear hb); (try clear hb2); (try clear hk); (try clear hi); (try clear ho0); (try clear ho1)) | ((with_reducible refine gate_dst (N := 9) rfl ?_); (try (refine gate_guard (by rfl) ?_; dsimp only)); refine box_event ?hg (N := 9) ?hd (cs := #[.slice none 0 0, .int .i64 0, .int .i64 0]) (t := 24) ?hr ?_; (case hd => rfl); (case hg => rfl); (case hr => first | (go_simp; done) | (go_simp; rfl)); intro gb431 hg w101 hbox hb; have n0_ := Aside0.mk (Kd.S_below (by (with_reducible repeat (first | apply Kd.S_alloc | apply Kd.S_drewN | apply Kd.S_drew)); exact HO424.out) hb); have n1_ := Aside0.mk (Kd.R_below (by (with_reducible repeat (first | apply Kd.R_alloc | apply Kd.R_drewN | apply Kd.R_drew)); exact HO429.out) hb); have n2_ := Aside0.mk (blk_below (g := gb413) (o := .cells #[.slice A0_0 l0_0.length c0_0, .int .i64 a0_1, .int .i64 a0_2] 24 (0, 0)) (by (with_reducible repeat (first | refine blk_drewN ?_ _ | refine blk_drew ?_ | refine blk_alloc ?_ _)); exact BK413.out) hb); have n3_ := Aside0.mk (below_step (by repeat (first | (with_reducible first | exact HB.out | apply below_alloc | apply pw_below_drewN | apply below_drew1 | refine below_set ?_ GE413.out) | exact HB.out)) hb); have n4_ := Aside0.mk (hbox); have n5_ := Aside0.mk ((by rw [hg]; exact (below_size (by repeat (first | (with_reducible first | exact HB.out | apply below_alloc | apply pw_below_drewN | apply below_drew1 | refine below_set ?_ GE413.out) | exact HB.out))) : w.heap.size ≤ gb431)); have n6_ := Aside0.mk ((by rw [hg]; exact (below_size (by repeat (first | (with_reducible first | exact HB.out | apply below_alloc | apply pw_below_drewN | apply below_drew1 | refine below_set ?_ GE413.out) | exact HB.out))) : w.heap.size ≤ gb431)); have n7_ := Aside0.mk ((by rw [hg]; exact Nat.ne_of_lt (blk_lt (g := gb413) (o := .cells #[.slice A0_0 l0_0.length c0_0, .int .i64 a0_1, .int .i64 a0_2] 24 (0, 0)) (by (with_reducible repeat (first | refine blk_drewN ?_ _ | refine blk_drew ?_ | refine blk_alloc ?_ _)); exact BK413.out)) : gb413 ≠ gb431)); have n8_ := Aside0.mk ((by rw [hg]; exact Nat.ne_of_gt (blk_lt (g := gb413) (o := .cells #[.slice A0_0 l0_0.length c0_0, .int .i64 a0_1, .int .i64 a0_2] 24 (0, 0)) (by (with_reducible repeat (first | refine blk_drewN ?_ _ | refine blk_drew ?_ | refine blk_alloc ?_ _)); exact BK413.out)) : gb431 ≠ gb413)); clear HO424; clear HO429; clear BK413; clear HB; have HO424 := n0_; have HO429 := n1_; have BK413 := n2_; have HB := n3_; have BK431 := n4_; have GW431 := n5_; have GE431 := n6_; have NB413_431 := n7_; have NB431_413 := n8_; clear n0_ n1_ n2_ n3_ n4_ n5_ n6_ n7_ n8_; clear hb hbox hg; obtain ⟨Ao102, co102, eo102⟩ := Kd.S_slice HO424.out; subst eo102; have hnb103 := NB431_413.out; have hnc103 := NB413_431.out; have hcz104_0 : w101.cell? ⟨gb431, 0, none⟩ = some (.slice none 0 0) := (blk_cell BK431.out 0).trans rfl; have hcz104_1 : w101.cell? ⟨gb431, 1, none⟩ = some (.int .i64 0) := (blk_cell BK431.out 1).trans rfl; have hcz104_2 : w101.cell? ⟨gb431, 2, none⟩ = some (.int .i64 0) := (blk_cell BK431.out 2).trans rfl; have hfz104_0 := blk_frozen BK431.out 0; have hfz104_1 := blk_frozen BK431.out 1; have hfz104_2 := blk_frozen BK431.out 2) | ((with_reducible refine gate_callee (f := 19) rfl ?_); refine goesL_ (some 79) rfl rfl Try.func19 (by kernel_rfl) rfl #[.string (js49.extract 0 ((ji51) : Int).toNat)] rfl (by (try simp only [List.map_toArray, List.map_cons, List.map_nil]); first | done | (simp only [hji46, hji51]; rfl) | rfl | (simp only [List.length_drop, List.length_take]; rfl)) ?_; (with_reducible refine (anamnesisref07_Of.calls kj35 (js49.extract 0 ((ji51) : Int).toNat) t432 _ A54.out).mono ?_); rintro e w' ⟨rfl, ⟨nd, rfl⟩⟩; refine ⟨_, rfl, ?_⟩) | ((with_reducible refine gate_callee (f := 18) rfl ?_); refine goesL_ (some 80) rfl rfl Try.func18 (by kernel_rfl) rfl #[.int .i64 t432] rfl (by (try simp only [List.map_toArray, List.map_cons, List.map_nil]); first | done | rfl | (simp only [List.length_drop, List.length_take]; rfl)) ?_; (with_reducible refine (anamnesisref07_Bytes.calls t432 t433 _ A55.out).mono ?_); rintro e w105 ⟨rfl, hb⟩; refine ⟨_, rfl, ?_⟩; have n0_ := Aside0.mk (Kd.S_below (by (with_reducible repeat (first | apply Kd.S_alloc | apply Kd.S_drewN | apply Kd.S_drew)); exact (Kd.S_mono (Kd.S_far (p := ⟨gb431, 2, none⟩) (Kd.S_far (p := ⟨gb431, 1, none⟩) (Kd.S_far (p := ⟨gb431, 0, none⟩) (Kd.S_types HO424.out BK431.out (by decide)) (fun _ hk => hk.2) (.slice Ao102 t422.length co102)) (fun _ hk => hk.2) (.int .i64 t425)) (fun _ hk => hk.2) (.int .i64 t426)) (fun _ h_ => h_.1))) hb); have n1_ := Aside0.mk (blk_below (g := gb413) (o := .cells #[.slice A0_0 l0_0.length c0_0, .int .i64 a0_1, .int .i64 a0_2] 24 (0, 0)) (by (with_reducible repeat (first | refine blk_drewN ?_ _ | refine blk_drew ?_ | refine blk_alloc ?_ _)); refine blk_far ?_ NB413_431.out _; (with_reducible repeat (first | refine blk_drewN ?_ _ | refine blk_drew ?_ | refine blk_alloc ?_ _)); refine blk_far ?_ NB413_431.out _; (with_reducible repeat (first | refine blk_drewN ?_ _ | refine blk_drew ?_ | refine blk_alloc ?_ _)); refine blk_far ?_ NB413_431.out _; (with_reducible repeat (first | refine blk_drewN ?_ _ | refine blk_drew ?_ | refine blk_alloc ?_ _)); exact BK413.out) hb); have n2_ := Aside0.mk (blk_below (g := gb431) (o := .cells #[.slice Ao102 t422.length co102, .int .i64 t425, .int .i64 t426] 24 (0, 0)) (by (with_reducible repeat (first | refine blk_drewN ?_ _ | refine blk_drew ?_ | refine blk_alloc ?_ _)); refine blk_put (cs := #[.slice Ao102 t422.length co102, .int .i64 t425, .int .i64 0]) ?_ 2 _ rfl; (with_reducible repeat (first | refine blk_drewN ?_ _ | refine blk_drew ?_ | refine blk_alloc ?_ _)); refine blk_put (cs := #[.slice Ao102 t422.length co102, .int .i64 0, .int .i64 0]) ?_ 1 _ rfl; (with_reducible repeat (first | refine blk_drewN ?_ _ | refine blk_drew ?_ | refine blk_alloc ?_ _)); refine blk_put (cs := #[.slice none 0 0, .int .i64 0, .int .i64 0]) ?_ 0 _ rfl; (with_reducible repeat (first | refine blk_drewN ?_ _ | refine blk_drew ?_ | refine blk_alloc ?_ _)); exact BK431.out) hb); have n3_ := Aside0.mk (below_step (by repeat (first | (with_reducible first | exact HB.out | apply below_alloc | apply pw_below_drewN | apply below_drew1 | refine below_set ?_ GE413.out | refine below_set ?_ GE431.out) | exact HB.out)) hb); clear HO424; clear BK413; clear BK431; clear HB; have HO424 := n0_; have BK413 := n1_; have BK431 := n2_; have HB := n3_; clear n0_ n1_ n2_ n3_; (try clear hb); (try clear hb2); (try clear hk); (try clear hi)) | ((with_reducible refine gate_callee (f := 10) rfl ?_); refine goesL_ (some 82) rfl rfl Try.func10 (by kernel_rfl) rfl #[.string ((js49.extract 0 ((ji51) : Int).toNat) ++ t433)] rfl (by (try simp only [List.map_toArray, List.map_cons, List.map_nil]); first | done | (simp only [hji46, hji51]; rfl) | rfl | (simp only [List.length_drop, List.length_take]; rfl)) ?_; (with_reducible refine (snap_Decode.calls kj35 ((js49.extract 0 ((ji51) : Int).toNat) ++ t433) t434 t437 t438 t439 t442 _ A57.out).mono ?_); rintro e w106 ⟨v435, v440, rfl, ho0, ho1, hb⟩; refine ⟨_, rfl, ?_⟩; have n0_ := Aside0.mk (Kd.S_mono (Kd.S_told (Kd.S_told (Kd.S_old (by (with_reducible repeat (first | apply Kd.S_alloc | apply Kd.S_drewN | apply Kd.S_drew)); exact HO424.out) hb) (Kd.S_base ho0)) (Kd.R_base ho1)) (fun _ h_ => h_.1)); have n1_ := Aside0.mk (Kd.S_lower (Kd.S_new' ho0 (Kd.S_lt (by (with_reducible repeat (first | apply Kd.S_alloc | apply Kd.S_drewN | apply Kd.S_drew)); exact HO424.out))) (below_size (by repeat (first | (with_reducible first | exact HB.out | apply below_alloc | apply pw_below_drewN | apply below_drew1 | refine below_set ?_ GE413.out | refine below_set ?_ GE431.out) | exact HB.out)))); have n2_ := Aside0.mk (Kd.R_lower ho1 (below_size (by repeat (first | (with_reducible first | exact HB.out | apply below_alloc | apply pw_below_drewN | apply below_drew1 | refine below_set ?_ GE413.out | refine below_set ?_ GE431.out) | exact HB.out)))); have n3_ := Aside0.mk (blk_below (g := gb413) (o := .cells #[.slice A0_0 l0_0.length c0_0, .int .i64 a0_1, .int .i64 a0_2] 24 (0, 0)) (by (with_reducible repeat (first | refine blk_drewN ?_ _ | refine blk_drew ?_ | refine blk_alloc ?_ _)); exact BK413.out) hb); have n4_ := Aside0.mk (blk_below (g := gb431) (o := .cells #[.slice Ao102 t422.length co102, .int .i64 t425, .int .i64 t426] 24 (0, 0)) (by (with_reducible repeat (first | refine blk_drewN ?_ _ | refine blk_drew ?_ | refine blk_alloc ?_ _)); exact BK431.out) hb); have n5_ := Aside0.mk (below_step (by repeat (first | (with_reducible first | exact HB.out | apply below_alloc | apply pw_below_drewN | apply below_drew1 | refine below_set ?_ GE413.out | refine below_set ?_ GE431.out) | exact HB.out)) hb); clear HO424; clear BK413; clear BK431; clear HB; have HO424 := n0_; have HO436 := n1_; have HO441 := n2_; have BK413 := n3_; have BK431 := n4_; have HB := n5_; clear n0_ n1_ n2_ n3_ n4_ n5_; (try clear hb); (try clear hb2); (try clear hk); (try clear hi); (try clear ho0); (try clear ho1)) | ((with_reducible refine gate_dst (N := 13) rfl ?_); (try (refine gate_guard (by rfl) ?_; dsimp only)); refine box_event ?hg (N := 13) ?hd (cs := #[.slice none 0 0, .int .i64 0, .int .i64 0]) (t := 24) ?hr ?_; (case hd => rfl); (case hg => rfl); (case hr => first | (go_simp; done) | (go_simp; rfl)); intro gb443 hg w107 hbox hb; have n0_ := Aside0.mk (Kd.S_below (by (with_reducible repeat (first | apply Kd.S_alloc | apply Kd.S_drewN | apply Kd.S_drew)); exact HO424.out) hb); have n1_ := Aside0.mk (Kd.S_below (by (with_reducible repeat (first | apply Kd.S_alloc | apply Kd.S_drewN | apply Kd.S_drew)); exact HO436.out) hb); have n2_ := Aside0.mk (Kd.R_below (by (with_reducible repeat (first | apply Kd.R_alloc | apply Kd.R_drewN | apply Kd.R_drew)); exact HO441.out) hb); have n3_ := Aside0.mk (blk_below (g := gb413) (o := .cells #[.slice A0_0 l0_0.length c0_0, .int .i64 a0_1, .int .i64 a0_2] 24 (0, 0)) (by (with_reducible repeat (first | refine blk_drewN ?_ _ | refine blk_drew ?_ | refine blk_alloc ?_ _)); exact BK413.out) hb); have n4_ := Aside0.mk (blk_below (g := gb431) (o := .cells #[.slice Ao102 t422.length co102, .int .i64 t425, .int .i64 t426] 24 (0, 0)) (by (with_reducible repeat (first | refine blk_drewN ?_ _ | refine blk_drew ?_ | refine blk_alloc ?_ _)); exact BK431.out) hb); have n5_ := Aside0.mk (below_step (by repeat (first | (with_reducible first | exact HB.out | apply below_alloc | apply pw_below_drewN | apply below_drew1 | refine below_set ?_ GE413.out | refine below_set ?_ GE431.out) | exact HB.out)) hb); have n6_ := Aside0.mk (hbox); have n7_ := Aside0.mk ((by rw [hg]; exact (below_size (by repeat (first | (with_reducible first | exact HB.out | apply below_alloc | apply pw_below_drewN | apply below_drew1 | refine below_set ?_ GE413.out | refine below_set ?_ GE431.out) | exact HB.out))) : w.heap.size ≤ gb443)); have n8_ := Aside0.mk ((by rw [hg]; exact (below_size (by repeat (first | (with_reducible first | exact HB.out | apply below_alloc | apply pw_below_drewN | apply below_drew1 | refine below_set ?_ GE413.out | refine below_set ?_ GE431.out) | exact HB.out))) : w.heap.size ≤ gb443)); have n9_ := Aside0.mk ((by rw [hg]; exact Nat.ne_of_lt (blk_lt (g := gb413) (o := .cells #[.slice A0_0 l0_0.length c0_0, .int .i64 a0_1, .int .i64 a0_2] 24 (0, 0)) (by (with_reducible repeat (first | refine blk_drewN ?_ _ | refine blk_drew ?_ | refine blk_alloc ?_ _)); exact BK413.out)) : gb413 ≠ gb443)); have n10_ := Aside0.mk ((by rw [hg]; exact Nat.ne_of_gt (blk_lt (g := gb413) (o := .cells #[.slice A0_0 l0_0.length c0_0, .int .i64 a0_1, .int .i64 a0_2] 24 (0, 0)) (by (with_reducible repeat (first | refine blk_drewN ?_ _ | refine blk_drew ?_ | refine blk_alloc ?_ _)); exact BK413.out)) : gb443 ≠ gb413)); have n11_ := Aside0.mk ((by rw [hg]; exact Nat.ne_of_lt (blk_lt (g := gb431) (o := .cells #[.slice Ao102 t422.length co102, .int .i64 t425, .int .i64 t426] 24 (0, 0)) (by (with_reducible repeat (first | refine blk_drewN ?_ _ | refine blk_drew ?_ | refine blk_alloc ?_ _)); exact BK431.out)) : gb431 ≠ gb443)); have n12_ := Aside0.mk ((by rw [hg]; exact Nat.ne_of_gt (blk_lt (g := gb431) (o := .cells #[.slice Ao102 t422.length co102, .int .i64 t425, .int .i64 t426] 24 (0, 0)) (by (with_reducible repeat (first | refine blk_drewN ?_ _ | refine blk_drew ?_ | refine blk_alloc ?_ _)); exact BK431.out)) : gb443 ≠ gb431)); clear HO424; clear HO436; clear HO441; clear BK413; clear BK431; clear HB; have HO424 := n0_; have HO436 := n1_; have HO441 := n2_; have BK413 := n3_; have BK431 := n4_; have HB := n5_; have BK443 := n6_; have GW443 := n7_; have GE443 := n8_; have NB413_443 := n9_; have NB443_413 := n10_; have NB431_443 := n11_; have NB443_431 := n12_; clear n0_ n1_ n2_ n3_ n4_ n5_ n6_ n7_ n8_ n9_ n10_ n11_ n12_; clear hb hbox hg; obtain ⟨Ao108, co108, eo108⟩ := Kd.S_slice HO436.out; subst eo108; have hnb109 := NB443_413.out; have hnc109 := NB413_443.out; have hnb110 := NB443_431.out; have hnc110 := NB431_443.out; have hcz111_0 : w107.cell? ⟨gb443, 0, none⟩ = some (.slice none 0 0) := (blk_cell BK443.out 0).trans rfl; have hcz111_1 : w107.cell? ⟨gb443, 1, none⟩ = some (.int .i64 0) := (blk_cell BK443.out 1).trans rfl; have hcz111_2 : w107.cell? ⟨gb443, 2, none⟩ = some (.int .i64 0) := (blk_cell BK443.out 2).trans rfl; have hfz111_0 := blk_frozen BK443.out 0; have hfz111_1 := blk_frozen BK443.out 1; have hfz111_2 := blk_frozen BK443.out 2; obtain ⟨Ao112, co112, eo112⟩ := Kd.R_slice HO441.out; subst eo112; have hcz113_0 : w107.cell? ⟨gb413, 0, none⟩ = some (.slice A0_0 l0_0.length c0_0) := (blk_cell BK413.out 0).trans rfl; have hcz113_1 : w107.cell? ⟨gb413, 1, none⟩ = some (.int .i64 a0_1) := (blk_cell BK413.out 1).trans rfl; have hcz113_2 : w107.cell? ⟨gb413, 2, none⟩ = some (.int .i64 a0_2) := (blk_cell BK413.out 2).trans rfl; have hfz113_0 := blk_frozen BK413.out 0; have hfz113_1 := blk_frozen BK413.out 1; have hfz113_2 := blk_frozen BK413.out 2) | (go_at_call 14; (with_reducible refine (anamnesisref03_Same.calls kj35 _ _ t434 t437 t438 _ _ l0_0 a0_1 a0_2 t444 _ ?side1 ?side2 ?side3 ?side4 A95.out).mono ?_); (case side1 => refine (Kd.S_reads' (e := 41) (base := w.heap.size) (ok := fun k_ => (some k_ ≠ (.slice Ao112 t439.length co112 : Value).ownBlock ∧ some k_ ≠ (.slice Ao102 t422.length co102 : Value).ownBlock)) (n := t434.length) (c := co108) ?_).2.2; exact (by (with_reducible repeat (first | apply Kd.S_alloc | apply Kd.S_drewN | apply Kd.S_drew)); exact (Kd.S_mono (Kd.S_far (p := ⟨gb443, 2, none⟩) (Kd.S_far (p := ⟨gb443, 1, none⟩) (Kd.S_far (p := ⟨gb443, 0, none⟩) (Kd.S_types HO436.out BK443.out (by decide)) (fun _ hk => hk.2) (.slice Ao108 t434.length co108)) (fun _ hk => hk.2) (.int .i64 t437)) (fun _ hk => hk.2) (.int .i64 t438)) (fun _ h_ => h_.1)))); (case side2 => exact (Kd.S_reads' HO436.out).2.1); (case side3 => exact Kd.C_below HR0_0.out (by repeat (first | (with_reducible first | exact HB.out | apply below_alloc | apply pw_below_drewN | apply below_drew1 | refine below_set ?_ GE413.out | refine below_set ?_ GE431.out | refine below_set ?_ GE443.out) | exact HB.out))); (case side4 => exact HC0_0.out); rintro e w114 ⟨rfl, hb⟩; have n0_ := Aside0.mk (Kd.S_below (by (with_reducible repeat (first | apply Kd.S_alloc | apply Kd.S_drewN | apply Kd.S_drew)); exact (Kd.S_mono (Kd.S_far (p := ⟨gb443, 2, none⟩) (Kd.S_far (p := ⟨gb443, 1, none⟩) (Kd.S_far (p := ⟨gb443, 0, none⟩) (Kd.S_types HO424.out BK443.out (by decide)) (fun _ hk => hk.2) (.slice Ao108 t434.length co108)) (fun _ hk => hk.2) (.int .i64 t437)) (fun _ hk => hk.2) (.int .i64 t438)) (fun _ h_ => h_.1))) hb); have n1_ := Aside0.mk (Kd.S_below (by (with_reducible repeat (first | apply Kd.S_alloc | apply Kd.S_drewN | apply Kd.S_drew)); exact (Kd.S_mono (Kd.S_far (p := ⟨gb443, 2, none⟩) (Kd.S_far (p := ⟨gb443, 1, none⟩) (Kd.S_far (p := ⟨gb443, 0, none⟩) (Kd.S_types HO436.out BK443.out (by decide)) (fun _ hk => hk.2) (.slice Ao108 t434.length co108)) (fun _ hk => hk.2) (.int .i64 t437)) (fun _ hk => hk.2) (.int .i64 t438)) (fun _ h_ => h_.1))) hb); have n2_ := Aside0.mk (Kd.R_below (by (with_reducible repeat (first | apply Kd.R_alloc | apply Kd.R_drewN | apply Kd.R_drew)); exact (Kd.R_mono (Kd.R_far (p := ⟨gb443, 2, none⟩) (Kd.R_far (p := ⟨gb443, 1, none⟩) (Kd.R_far (p := ⟨gb443, 0, none⟩) (Kd.R_types HO441.out BK443.out (by decide)) (fun _ hk => hk.2) (.slice Ao108 t434.length co108)) (fun _ hk => hk.2) (.int .i64 t437)) (fun _ hk => hk.2) (.int .i64 t438)) (fun _ h_ => h_.1))) hb); have n3_ := Aside0.mk (blk_below (g := gb413) (o := .cells #[.slice A0_0 l0_0.length c0_0, .int .i64 a0_1, .int .i64 a0_2] 24 (0, 0)) (by (with_reducible repeat (first | refine blk_drewN ?_ _ | refine blk_drew ?_ | refine blk_alloc ?_ _)); refine blk_far ?_ NB413_443.out _; (with_reducible repeat (first | refine blk_drewN ?_ _ | refine blk_drew ?_ | refine blk_alloc ?_ _)); refine blk_far ?_ NB413_443.out _; (with_reducible repeat (first | refine blk_drewN ?_ _ | refine blk_drew ?_ | refine blk_alloc ?_ _)); refine blk_far ?_ NB413_443.out _; (with_reducible repeat (first | refine blk_drewN ?_ _ | refine blk_drew ?_ | refine blk_alloc ?_ _)); exact BK413.out) hb); have n4_ := Aside0.mk (blk_below (g := gb431) (o := .cells #[.slice Ao102 t422.length co102, .int .i64 t425, .int .i64 t426] 24 (0, 0)) (by (with_reducible repeat (first | refine blk_drewN ?_ _ | refine blk_drew ?_ | refine blk_alloc ?_ _)); refine blk_far ?_ NB431_443.out _; (with_reducible repeat (first | refine blk_drewN ?_ _ | refine blk_drew ?_ | refine blk_alloc ?_ _)); refine blk_far ?_ NB431_443.out _; (with_reducible repeat (first | refine blk_drewN ?_ _ | refine blk_drew ?_ | refine blk_alloc ?_ _)); refine blk_far ?_ NB431_443.out _; (with_reducible repeat (first | refine blk_drewN ?_ _ | refine blk_drew ?_ | refine blk_alloc ?_ _)); exact BK431.out) hb); have n5_ := Aside0.mk (blk_below (g := gb443) (o := .cells #[.slice Ao108 t434.length co108, .int .i64 t437, .int .i64 t438] 24 (0, 0)) (by (with_reducible repeat (first | refine blk_drewN ?_ _ | refine blk_drew ?_ | refine blk_alloc ?_ _)); refine blk_put (cs := #[.slice Ao108 t434.length co108, .int .i64 t437, .int .i64 0]) ?_ 2 _ rfl; (with_reducible repeat (first | refine blk_drewN ?_ _ | refine blk_drew ?_ | refine blk_alloc ?_ _)); refine blk_put (cs := #[.slice Ao108 t434.length co108, .int .i64 0, .int .i64 0]) ?_ 1 _ rfl; (with_reducible repeat (first | refine blk_drewN ?_ _ | refine blk_drew ?_ | refine blk_alloc ?_ _)); refine blk_put (cs := #[.slice none 0 0, .int .i64 0, .int .i64 0]) ?_ 0 _ rfl; (with_reducible repeat (first | refine blk_drewN ?_ _ | refine blk_drew ?_ | refine blk_alloc ?_ _)); exact BK443.out) hb); have n6_ := Aside0.mk (below_step (by repeat (first | (with_reducible first | exact HB.out | apply below_alloc | apply pw_below_drewN | apply below_drew1 | refine below_set ?_ GE413.out | refine below_set ?_ GE431.out | refine below_set ?_ GE443.out) | exact HB.out)) hb); clear HO424; clear HO436; clear HO441; clear BK413; clear BK431; clear BK443; clear HB; have HO424 := n0_; have HO436 := n1_; have HO441 := n2_; have BK413 := n3_; have BK431 := n4_; have BK443 := n5_; have HB := n6_; clear n0_ n1_ n2_ n3_ n4_ n5_ n6_; (try clear hb); (try clear hb2); (try clear hk); (try clear hi)))
                     go_ret
                     exact ⟨by first | rfl | (simp [errW_none, errW_some] <;> rfl) | (simp only [← hji46, ← hji51]; first | rfl | (simp [errW_none, errW_some] <;> rfl)) | (simp [*, errW_none, errW_some] <;> rfl), by repeat (first | (with_reducible first | exact HB.out | apply below_alloc | apply pw_below_drewN | apply below_drew1 | refine below_set ?_ GE413.out | refine below_set ?_ GE431.out | refine below_set ?_ GE443.out) | exact HB.out)⟩
                   ·rw [if_neg c76] at H
                    exact absurd H (by simp)
                 ·rw [if_neg c58] at H
                  exact absurd H (by simp)
                ·rw [if_neg c56] at H
                 exact absurd H (by simp)
               ·rw [if_neg c53] at H
                exact absurd H (by simp)
              ·rw [if_neg c52] at H
               exact absurd H (by simp)
             ·rw [if_neg c49] at H
              exact absurd H (by simp)
            ·rw [if_neg c48] at H
             exact absurd H (by simp)
           ·rw [if_neg c47] at H
            exact absurd H (by simp)
          ·rw [if_neg c45] at H
           exact absurd H (by simp)
         ·rw [if_neg c43] at H
          exact absurd H (by simp)
        ·rw [if_neg c42] at H
         exact absurd H (by simp)
       ·rw [if_neg c41] at H
        exact absurd H (by simp)
end Go.Proofs.Ytednpcfhefibdaa.PSnap
