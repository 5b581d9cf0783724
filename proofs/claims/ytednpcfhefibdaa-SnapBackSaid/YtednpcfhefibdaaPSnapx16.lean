import Derived.Test.YtednpcfhefibdaaPSnapx0
import Derived.Test.YtednpcfhefibdaaPSnapx1
import Derived.Test.YtednpcfhefibdaaPSnapx4
import Derived.Test.YtednpcfhefibdaaPSnapx7
import Derived.Test.YtednpcfhefibdaaPSnapx9
import Derived.Test.YtednpcfhefibdaaPSnapx10
import Derived.Test.YtednpcfhefibdaaPSnapx12
import Derived.Test.YtednpcfhefibdaaPSnapx15
namespace Go.Proofs.Ytednpcfhefibdaa.PSnap
open Go.RowKit Go.Proofs.YtednpcfhefibdaaW.PrintWords Go.Proofs.YtednpcfhefibdaaW.PrintLast Go.Proofs.YtednpcfhefibdaaW.PrintMore
attribute [local go_sem] max2_int min2_int max_two min_two max_three min_three max_four min_four
set_option linter.unusedVariables false
set_option linter.unusedSimpArgs false
attribute [local go_sem] setCell_drewN
mutual
def anamnesislaw08_SnapBack.j0 : Nat → List Int → ByteArray → Bool → List (S41) → Int → Int → Option (Bool)
 | 0, _, _, _, _, _, _ => none
 | k + 1, x1, x2, x30, x383000, x383001, x383002 => if x30 = true then ((anamnesislaw08_fixed.f k).bind fun t385 => (some t385)) else ((snap_Decode.f k x2).bind fun bt386 => (if bt386.2.2.2.2 = 0 then ((anamnesisref08_May.f k bt386.1 bt386.2.1 bt386.2.2.1 bt386.2.2.2.1).bind fun t396 => (if t396 = true then ((snap_Encode.f k bt386.1 bt386.2.1 bt386.2.2.1 bt386.2.2.2.1).bind fun t397 => (anamnesislaw08_SnapBack.j1 k x1 bt386.2.2.2.1 bt386.2.2.2.2 (t397.toList != x2.toList) x383000 x383001 x383002 bt386.1 bt386.2.1 bt386.2.2.1)) else (none))) else (anamnesislaw08_SnapBack.j1 k x1 bt386.2.2.2.1 bt386.2.2.2.2 false x383000 x383001 x383002 bt386.1 bt386.2.1 bt386.2.2.1)))
def anamnesislaw08_SnapBack.j1 : Nat → List Int → List Int → Int → Bool → List (S41) → Int → Int → List (S41) → Int → Int → Option (Bool)
 | 0, _, _, _, _, _, _, _, _, _, _ => none
 | k + 1, x1, x8, x9, x52, x383000, x383001, x383002, x396000, x396001, x396002 => if x52 = true then (none) else (if x9 = 0 then (anamnesislaw08_SnapBack.j2 k x1 false x383000 x383001 x383002) else (if (x8.length : Int) > 0 then (none) else ((anamnesisref03_Same.f k x396000 x396001 x396002 ([] : List (S41)) 0 0).bind fun t398 => (anamnesislaw08_SnapBack.j2 k x1 (!t398) x383000 x383001 x383002))))
def anamnesislaw08_SnapBack.j2 : Nat → List Int → Bool → List (S41) → Int → Int → Option (Bool)
 | 0, _, _, _, _, _ => none
 | k + 1, x1, x65, x383000, x383001, x383002 => if x65 = true then (none) else ((snap_Encode.f k x383000 x383001 x383002 x1).bind fun t399 => (if t399.toList = ([] : List UInt8) then ((anamnesisref08_May.f k x383000 x383001 x383002 x1).bind fun t400 => (some (!t400))) else ((snap_Decode.f k t399).bind fun bt401 => (if bt401.2.2.2.2 = 0 then ((anamnesisref03_Same.f k bt401.1 bt401.2.1 bt401.2.2.1 x383000 x383001 x383002).bind fun t411 => (if t411 = true then ((anamnesisref03_Ints.f k bt401.2.2.2.1 x1).bind fun t412 => (some t412)) else (none))) else (none)))))
end
def anamnesislaw08_SnapBack.f (k : Nat) (l0_0 : List (S41)) (a0_1 : Int) (a0_2 : Int) (l1 : List Int) (a2 : ByteArray) : Option (Bool) := (anamnesislaw08_fixed.f k).bind fun t383 => (if t383 = true then ((anamnesisref03_Small.f k l0_0 a0_1 a0_2).bind fun t384 => (if t384 = true then (if (l1.length : Int) > 100 then (anamnesislaw08_SnapBack.j0 k l1 a2 true l0_0 a0_1 a0_2) else (anamnesislaw08_SnapBack.j0 k l1 a2 (decide ((a2.size : Int) > 3000)) l0_0 a0_1 a0_2)) else (anamnesislaw08_SnapBack.j0 k l1 a2 true l0_0 a0_1 a0_2))) else (anamnesislaw08_SnapBack.j0 k l1 a2 true l0_0 a0_1 a0_2))
theorem anamnesislaw08_SnapBack.mono_l : ∀ k, (∀ y0 y1 y2 y3 y4 y5, LeO (anamnesislaw08_SnapBack.j0 k y0 y1 y2 y3 y4 y5) (anamnesislaw08_SnapBack.j0 (k + 1) y0 y1 y2 y3 y4 y5)) ∧ (∀ y0 y1 y2 y3 y4 y5 y6 y7 y8 y9, LeO (anamnesislaw08_SnapBack.j1 k y0 y1 y2 y3 y4 y5 y6 y7 y8 y9) (anamnesislaw08_SnapBack.j1 (k + 1) y0 y1 y2 y3 y4 y5 y6 y7 y8 y9)) ∧ (∀ y0 y1 y2 y3 y4, LeO (anamnesislaw08_SnapBack.j2 k y0 y1 y2 y3 y4) (anamnesislaw08_SnapBack.j2 (k + 1) y0 y1 y2 y3 y4))
 | 0 => ⟨fun _ _ _ _ _ _ r h => by simp [anamnesislaw08_SnapBack.j0] at h, fun _ _ _ _ _ _ _ _ _ _ r h => by simp [anamnesislaw08_SnapBack.j1] at h, fun _ _ _ _ _ r h => by simp [anamnesislaw08_SnapBack.j2] at h⟩
 | k + 1 => by
  obtain ⟨ih0, ih1, ih2⟩ := anamnesislaw08_SnapBack.mono_l k
  refine ⟨?_, ?_, ?_⟩
  ·intro y0 y1 y2 y3 y4 y5
   unfold anamnesislaw08_SnapBack.j0
   repeat' first
   | (with_reducible exact ih0 _ _ _ _ _ _)
   | (with_reducible exact ih1 _ _ _ _ _ _ _ _ _ _)
   | (with_reducible exact ih2 _ _ _ _ _)
   | (with_reducible exact anamnesislaw08_fixed.mono _)
   | (with_reducible exact anamnesisref03_Ints.mono _ _ _)
   | (with_reducible exact anamnesisref03_Same.mono _ _ _ _ _ _ _)
   | (with_reducible exact anamnesisref03_Small.mono _ _ _ _)
   | (with_reducible exact anamnesisref08_May.mono _ _ _ _ _)
   | (with_reducible exact snap_Decode.mono _ _)
   | (with_reducible exact snap_Encode.mono _ _ _ _ _)
   | (with_reducible exact LeO.refl _)
   | (with_reducible exact LeO.none _)
   | (with_reducible refine LeO.ite ?_ ?_)
   | (with_reducible refine LeO.bind ?_ (fun _ => ?_))
   | exact ih0 _ _ _ _ _ _
   | exact ih1 _ _ _ _ _ _ _ _ _ _
   | exact ih2 _ _ _ _ _
   | exact anamnesislaw08_fixed.mono _
   | exact anamnesisref03_Ints.mono _ _ _
   | exact anamnesisref03_Same.mono _ _ _ _ _ _ _
   | exact anamnesisref03_Small.mono _ _ _ _
   | exact anamnesisref08_May.mono _ _ _ _ _
   | exact snap_Decode.mono _ _
   | exact snap_Encode.mono _ _ _ _ _
   | exact LeO.none _
   | refine LeO.ite ?_ ?_
   | refine LeO.bind ?_ (fun _ => ?_)
  ·intro y0 y1 y2 y3 y4 y5 y6 y7 y8 y9
   unfold anamnesislaw08_SnapBack.j1
   repeat' first
   | (with_reducible exact ih0 _ _ _ _ _ _)
   | (with_reducible exact ih1 _ _ _ _ _ _ _ _ _ _)
   | (with_reducible exact ih2 _ _ _ _ _)
   | (with_reducible exact anamnesislaw08_fixed.mono _)
   | (with_reducible exact anamnesisref03_Ints.mono _ _ _)
   | (with_reducible exact anamnesisref03_Same.mono _ _ _ _ _ _ _)
   | (with_reducible exact anamnesisref03_Small.mono _ _ _ _)
   | (with_reducible exact anamnesisref08_May.mono _ _ _ _ _)
   | (with_reducible exact snap_Decode.mono _ _)
   | (with_reducible exact snap_Encode.mono _ _ _ _ _)
   | (with_reducible exact LeO.refl _)
   | (with_reducible exact LeO.none _)
   | (with_reducible refine LeO.ite ?_ ?_)
   | (with_reducible refine LeO.bind ?_ (fun _ => ?_))
   | exact ih0 _ _ _ _ _ _
   | exact ih1 _ _ _ _ _ _ _ _ _ _
   | exact ih2 _ _ _ _ _
   | exact anamnesislaw08_fixed.mono _
   | exact anamnesisref03_Ints.mono _ _ _
   | exact anamnesisref03_Same.mono _ _ _ _ _ _ _
   | exact anamnesisref03_Small.mono _ _ _ _
   | exact anamnesisref08_May.mono _ _ _ _ _
   | exact snap_Decode.mono _ _
   | exact snap_Encode.mono _ _ _ _ _
   | exact LeO.none _
   | refine LeO.ite ?_ ?_
   | refine LeO.bind ?_ (fun _ => ?_)
  ·intro y0 y1 y2 y3 y4
   unfold anamnesislaw08_SnapBack.j2
   repeat' first
   | (with_reducible exact ih0 _ _ _ _ _ _)
   | (with_reducible exact ih1 _ _ _ _ _ _ _ _ _ _)
   | (with_reducible exact ih2 _ _ _ _ _)
   | (with_reducible exact anamnesislaw08_fixed.mono _)
   | (with_reducible exact anamnesisref03_Ints.mono _ _ _)
   | (with_reducible exact anamnesisref03_Same.mono _ _ _ _ _ _ _)
   | (with_reducible exact anamnesisref03_Small.mono _ _ _ _)
   | (with_reducible exact anamnesisref08_May.mono _ _ _ _ _)
   | (with_reducible exact snap_Decode.mono _ _)
   | (with_reducible exact snap_Encode.mono _ _ _ _ _)
   | (with_reducible exact LeO.refl _)
   | (with_reducible exact LeO.none _)
   | (with_reducible refine LeO.ite ?_ ?_)
   | (with_reducible refine LeO.bind ?_ (fun _ => ?_))
   | exact ih0 _ _ _ _ _ _
   | exact ih1 _ _ _ _ _ _ _ _ _ _
   | exact ih2 _ _ _ _ _
   | exact anamnesislaw08_fixed.mono _
   | exact anamnesisref03_Ints.mono _ _ _
   | exact anamnesisref03_Same.mono _ _ _ _ _ _ _
   | exact anamnesisref03_Small.mono _ _ _ _
   | exact anamnesisref08_May.mono _ _ _ _ _
   | exact snap_Decode.mono _ _
   | exact snap_Encode.mono _ _ _ _ _
   | exact LeO.none _
   | refine LeO.ite ?_ ?_
   | refine LeO.bind ?_ (fun _ => ?_)
theorem anamnesislaw08_SnapBack.mono : ∀ a0 a1 a2 a3 a4 k, LeO (anamnesislaw08_SnapBack.f k a0 a1 a2 a3 a4) (anamnesislaw08_SnapBack.f (k + 1) a0 a1 a2 a3 a4) := by
 intro a0 a1 a2 a3 a4 k
 obtain ⟨ih0, ih1, ih2⟩ := anamnesislaw08_SnapBack.mono_l k
 unfold anamnesislaw08_SnapBack.f
 repeat' first
   | (with_reducible exact ih0 _ _ _ _ _ _)
   | (with_reducible exact ih1 _ _ _ _ _ _ _ _ _ _)
   | (with_reducible exact ih2 _ _ _ _ _)
   | (with_reducible exact anamnesislaw08_fixed.mono _)
   | (with_reducible exact anamnesisref03_Ints.mono _ _ _)
   | (with_reducible exact anamnesisref03_Same.mono _ _ _ _ _ _ _)
   | (with_reducible exact anamnesisref03_Small.mono _ _ _ _)
   | (with_reducible exact anamnesisref08_May.mono _ _ _ _ _)
   | (with_reducible exact snap_Decode.mono _ _)
   | (with_reducible exact snap_Encode.mono _ _ _ _ _)
   | (with_reducible exact LeO.refl _)
   | (with_reducible exact LeO.none _)
   | (with_reducible refine LeO.ite ?_ ?_)
   | (with_reducible refine LeO.bind ?_ (fun _ => ?_))
   | exact ih0 _ _ _ _ _ _
   | exact ih1 _ _ _ _ _ _ _ _ _ _
   | exact ih2 _ _ _ _ _
   | exact anamnesislaw08_fixed.mono _
   | exact anamnesisref03_Ints.mono _ _ _
   | exact anamnesisref03_Same.mono _ _ _ _ _ _ _
   | exact anamnesisref03_Small.mono _ _ _ _
   | exact anamnesisref08_May.mono _ _ _ _ _
   | exact snap_Decode.mono _ _
   | exact snap_Encode.mono _ _ _ _ _
   | exact LeO.none _
   | refine LeO.ite ?_ ?_
   | refine LeO.bind ?_ (fun _ => ?_)
set_option maxHeartbeats 8000000 in
set_option maxRecDepth 100000 in
theorem anamnesislaw08_SnapBack.calls (k : Nat) (A0_0 : Option Addr) (c0_0 : Nat) (l0_0 : List (S41)) (a0_1 : Int) (a0_2 : Int) (A1 : Option Addr) (c1 : Nat) (l1 : List Int) (a2 : ByteArray) (r : Bool) (w : World) (hr0_0 : Kd.C k41 w A0_0 l0_0.length l0_0) (hc0_0 : l0_0.length ≤ c0_0) (hr1 : Kd.C (Kd.int .i64) w A1 l1.length l1) (hc1 : l1.length ≤ c1) (h : anamnesislaw08_SnapBack.f k l0_0 a0_1 a0_2 l1 a2 = some r) :
  Calls Try.prog 4 #[.agg #[.slice A0_0 l0_0.length c0_0, .int .i64 a0_1, .int .i64 a0_2], .slice A1 l1.length c1, .string a2] w fun e w' => e = .returned (.bool r) ∧ Below w.heap.size w w' := by
 have hu24 := Try.underlying24
 have HR0_0 := Aside0.mk hr0_0
 have HC0_0 := Aside0.mk hc0_0
 clear hr0_0 hc0_0
 have HR1 := Aside0.mk hr1
 have HC1 := Aside0.mk hc1
 clear hr1 hc1
 have HB := Aside0.mk (Below.refl w.heap.size w)
 have H : ((anamnesislaw08_fixed.f k).bind fun t383 => (if t383 = true then ((anamnesisref03_Small.f k l0_0 a0_1 a0_2).bind fun t384 => (if t384 = true then (if (l1.length : Int) > 100 then (anamnesislaw08_SnapBack.j0 k l1 a2 true l0_0 a0_1 a0_2) else (anamnesislaw08_SnapBack.j0 k l1 a2 (decide ((a2.size : Int) > 3000)) l0_0 a0_1 a0_2)) else (anamnesislaw08_SnapBack.j0 k l1 a2 true l0_0 a0_1 a0_2))) else (anamnesislaw08_SnapBack.j0 k l1 a2 true l0_0 a0_1 a0_2))) = some r := h
 clear h
 have HC4 := Aside0.mk H
 clear H
 go_enter Try.func4, Try.ntmps4
 go_upto_region 1 with (first | ((with_reducible refine gate_dst (N := 3) rfl ?_); (try (refine gate_guard (by rfl) ?_; dsimp only)); refine box_event ?hg (N := 3) ?hd (cs := #[.slice A0_0 l0_0.length c0_0, .int .i64 a0_1, .int .i64 a0_2]) (t := 24) ?hr ?_; (case hd => rfl); (case hg => rfl); (case hr => first | (go_simp; done) | (go_simp; rfl)); intro gb382 hg w5 hbox hb; have n0_ := Aside0.mk (below_step (by repeat (first | (with_reducible first | exact HB.out | apply below_alloc | apply pw_below_drewN | apply below_drew1) | exact HB.out)) hb); have n1_ := Aside0.mk (hbox); have n2_ := Aside0.mk ((by rw [hg]; exact (below_size (by repeat (first | (with_reducible first | exact HB.out | apply below_alloc | apply pw_below_drewN | apply below_drew1) | exact HB.out))) : w.heap.size ≤ gb382)); have n3_ := Aside0.mk ((by rw [hg]; exact (below_size (by repeat (first | (with_reducible first | exact HB.out | apply below_alloc | apply pw_below_drewN | apply below_drew1) | exact HB.out))) : w.heap.size ≤ gb382)); clear HB; have HB := n0_; have BK382 := n1_; have GW382 := n2_; have GE382 := n3_; clear n0_ n1_ n2_ n3_; clear hb hbox hg))
 (try simp only [Act.put, List.setIfInBounds_toArray, List.set_cons_zero, List.set_cons_succ])
 go_cut [30] (fun v30 wc => ∃ (kq : Nat) (x30_3 : Bool), v30 = .bool x30_3 ∧ Aside0 (anamnesislaw08_SnapBack.j0 kq l1 a2 x30_3 l0_0 a0_1 a0_2 = some r) ∧ Aside0 (kq ≤ k) ∧ Aside0 (wc.heap[gb382]? = some (.cells #[(.slice A0_0 l0_0.length c0_0), .int .i64 a0_1, .int .i64 a0_2] 24 (0, 0))) ∧ Aside0 (Below w.heap.size w wc))
 case first =>
  have H := HC4.out
  clear HC4
  replace H := Option.bind_eq_some_iff.mp H
  obtain ⟨t383, A60, H⟩ := H
  replace H : (if t383 = true then ((anamnesisref03_Small.f k l0_0 a0_1 a0_2).bind fun t384 => (if t384 = true then (if (l1.length : Int) > 100 then (anamnesislaw08_SnapBack.j0 k l1 a2 true l0_0 a0_1 a0_2) else (anamnesislaw08_SnapBack.j0 k l1 a2 (decide ((a2.size : Int) > 3000)) l0_0 a0_1 a0_2)) else (anamnesislaw08_SnapBack.j0 k l1 a2 true l0_0 a0_1 a0_2))) else (anamnesislaw08_SnapBack.j0 k l1 a2 true l0_0 a0_1 a0_2)) = some r := H
  have A6 := Aside0.mk A60
  clear A60
  by_cases c7 : t383 = true
  ·subst c7
   have H1 : ((anamnesisref03_Small.f k l0_0 a0_1 a0_2).bind fun t384 => (if t384 = true then (if (l1.length : Int) > 100 then (anamnesislaw08_SnapBack.j0 k l1 a2 true l0_0 a0_1 a0_2) else (anamnesislaw08_SnapBack.j0 k l1 a2 (decide ((a2.size : Int) > 3000)) l0_0 a0_1 a0_2)) else (anamnesislaw08_SnapBack.j0 k l1 a2 true l0_0 a0_1 a0_2))) = some r := by rw [if_pos rfl] at H; exact H
   clear H
   have H := H1
   clear H1
   replace H := Option.bind_eq_some_iff.mp H
   obtain ⟨t384, A80, H⟩ := H
   replace H : (if t384 = true then (if (l1.length : Int) > 100 then (anamnesislaw08_SnapBack.j0 k l1 a2 true l0_0 a0_1 a0_2) else (anamnesislaw08_SnapBack.j0 k l1 a2 (decide ((a2.size : Int) > 3000)) l0_0 a0_1 a0_2)) else (anamnesislaw08_SnapBack.j0 k l1 a2 true l0_0 a0_1 a0_2)) = some r := H
   have A8 := Aside0.mk A80
   clear A80
   by_cases c9 : t384 = true
   ·subst c9
    have H1 : (if (l1.length : Int) > 100 then (anamnesislaw08_SnapBack.j0 k l1 a2 true l0_0 a0_1 a0_2) else (anamnesislaw08_SnapBack.j0 k l1 a2 (decide ((a2.size : Int) > 3000)) l0_0 a0_1 a0_2)) = some r := by rw [if_pos rfl] at H; exact H
    clear H
    have H := H1
    clear H1
    by_cases c10 : (l1.length : Int) > 100
    ·rw [if_pos c10] at H
     have c10b0 : decide (100 < (l1.length : Int)) = true := decide_eq_true c10
     have c10b1 : decide (100 < l1.length) = true := decide_eq_true (by omega)
     clear c10
     (first | rw [c10b0] | (simp only [i64_w, i32_w]; rw [c10b0]) | skip)
     have H' := Aside0.mk H
     clear H
     go_wp2_with (first | ((with_reducible refine gate_callee (f := 9) rfl ?_); refine goesL_ (some 14) rfl rfl Try.func9 (by kernel_rfl) rfl #[] rfl (by (try simp only [List.map_toArray, List.map_cons, List.map_nil]); first | done | rfl | (simp only [List.length_drop, List.length_take]; rfl)) ?_; (with_reducible refine (anamnesislaw08_fixed.calls k  true _ A6.out).mono ?_); rintro e w11 ⟨rfl, hb⟩; refine ⟨_, rfl, ?_⟩; have n0_ := Aside0.mk (blk_below (g := gb382) (o := .cells #[.slice A0_0 l0_0.length c0_0, .int .i64 a0_1, .int .i64 a0_2] 24 (0, 0)) (by (with_reducible repeat (first | refine blk_drewN ?_ _ | refine blk_drew ?_ | refine blk_alloc ?_ _)); exact BK382.out) hb); have n1_ := Aside0.mk (below_step (by repeat (first | (with_reducible first | exact HB.out | apply below_alloc | apply pw_below_drewN | apply below_drew1 | refine below_set ?_ GE382.out) | exact HB.out)) hb); clear BK382; clear HB; have BK382 := n0_; have HB := n1_; clear n0_ n1_; (try clear hb); (try clear hb2); (try clear hk); (try clear hi); have hcz12_0 : w11.cell? ⟨gb382, 0, none⟩ = some (.slice A0_0 l0_0.length c0_0) := (blk_cell BK382.out 0).trans rfl; have hcz12_1 : w11.cell? ⟨gb382, 1, none⟩ = some (.int .i64 a0_1) := (blk_cell BK382.out 1).trans rfl; have hcz12_2 : w11.cell? ⟨gb382, 2, none⟩ = some (.int .i64 a0_2) := (blk_cell BK382.out 2).trans rfl; have hfz12_0 := blk_frozen BK382.out 0; have hfz12_1 := blk_frozen BK382.out 1; have hfz12_2 := blk_frozen BK382.out 2) | (go_at_call 8; (with_reducible refine (anamnesisref03_Small.calls k _ _ l0_0 a0_1 a0_2 true _ ?side1 ?side2 A8.out).mono ?_); (case side1 => repeat (first | exact (Kd.C_below HR0_0.out HB.out) | (with_reducible refine Kd.C_alloc ?_ _) | (with_reducible refine Kd.C_drewN ?_ _) | (with_reducible refine Kd.C_drew ?_))); (case side2 => exact HC0_0.out); rintro e w13 ⟨rfl, hb⟩; have n0_ := Aside0.mk (blk_below (g := gb382) (o := .cells #[.slice A0_0 l0_0.length c0_0, .int .i64 a0_1, .int .i64 a0_2] 24 (0, 0)) (by (with_reducible repeat (first | refine blk_drewN ?_ _ | refine blk_drew ?_ | refine blk_alloc ?_ _)); exact BK382.out) hb); have n1_ := Aside0.mk (below_step (by repeat (first | (with_reducible first | exact HB.out | apply below_alloc | apply pw_below_drewN | apply below_drew1 | refine below_set ?_ GE382.out) | exact HB.out)) hb); clear BK382; clear HB; have BK382 := n0_; have HB := n1_; clear n0_ n1_; (try clear hb); (try clear hb2); (try clear hk); (try clear hi)))
     go_meet
     case rel => exact ⟨_, (true), (by first | rfl | (simp; done) | (simp [*]; done)), H', ⟨by first | omega | exact Nat.le_refl _⟩, ⟨by (with_reducible repeat (first | refine blk_drewN ?_ _ | refine blk_drew ?_ | refine blk_alloc ?_ _)); exact BK382.out⟩, ⟨by repeat (first | (with_reducible first | exact HB.out | apply below_alloc | apply pw_below_drewN | apply below_drew1 | refine below_set ?_ GE382.out) | exact HB.out)⟩⟩
    ·rw [if_neg c10] at H
     have c10b0 : decide (100 < (l1.length : Int)) = false := decide_eq_false c10
     have c10b1 : decide (100 < l1.length) = false := decide_eq_false (by omega)
     clear c10
     (first | rw [c10b0] | (simp only [i64_w, i32_w]; rw [c10b0]) | skip)
     have H' := Aside0.mk H
     clear H
     go_wp2_with (first | ((with_reducible refine gate_callee (f := 9) rfl ?_); refine goesL_ (some 14) rfl rfl Try.func9 (by kernel_rfl) rfl #[] rfl (by (try simp only [List.map_toArray, List.map_cons, List.map_nil]); first | done | rfl | (simp only [List.length_drop, List.length_take]; rfl)) ?_; (with_reducible refine (anamnesislaw08_fixed.calls k  true _ A6.out).mono ?_); rintro e w14 ⟨rfl, hb⟩; refine ⟨_, rfl, ?_⟩; have n0_ := Aside0.mk (blk_below (g := gb382) (o := .cells #[.slice A0_0 l0_0.length c0_0, .int .i64 a0_1, .int .i64 a0_2] 24 (0, 0)) (by (with_reducible repeat (first | refine blk_drewN ?_ _ | refine blk_drew ?_ | refine blk_alloc ?_ _)); exact BK382.out) hb); have n1_ := Aside0.mk (below_step (by repeat (first | (with_reducible first | exact HB.out | apply below_alloc | apply pw_below_drewN | apply below_drew1 | refine below_set ?_ GE382.out) | exact HB.out)) hb); clear BK382; clear HB; have BK382 := n0_; have HB := n1_; clear n0_ n1_; (try clear hb); (try clear hb2); (try clear hk); (try clear hi); have hcz15_0 : w14.cell? ⟨gb382, 0, none⟩ = some (.slice A0_0 l0_0.length c0_0) := (blk_cell BK382.out 0).trans rfl; have hcz15_1 : w14.cell? ⟨gb382, 1, none⟩ = some (.int .i64 a0_1) := (blk_cell BK382.out 1).trans rfl; have hcz15_2 : w14.cell? ⟨gb382, 2, none⟩ = some (.int .i64 a0_2) := (blk_cell BK382.out 2).trans rfl; have hfz15_0 := blk_frozen BK382.out 0; have hfz15_1 := blk_frozen BK382.out 1; have hfz15_2 := blk_frozen BK382.out 2) | (go_at_call 8; (with_reducible refine (anamnesisref03_Small.calls k _ _ l0_0 a0_1 a0_2 true _ ?side1 ?side2 A8.out).mono ?_); (case side1 => repeat (first | exact (Kd.C_below HR0_0.out HB.out) | (with_reducible refine Kd.C_alloc ?_ _) | (with_reducible refine Kd.C_drewN ?_ _) | (with_reducible refine Kd.C_drew ?_))); (case side2 => exact HC0_0.out); rintro e w16 ⟨rfl, hb⟩; have n0_ := Aside0.mk (blk_below (g := gb382) (o := .cells #[.slice A0_0 l0_0.length c0_0, .int .i64 a0_1, .int .i64 a0_2] 24 (0, 0)) (by (with_reducible repeat (first | refine blk_drewN ?_ _ | refine blk_drew ?_ | refine blk_alloc ?_ _)); exact BK382.out) hb); have n1_ := Aside0.mk (below_step (by repeat (first | (with_reducible first | exact HB.out | apply below_alloc | apply pw_below_drewN | apply below_drew1 | refine below_set ?_ GE382.out) | exact HB.out)) hb); clear BK382; clear HB; have BK382 := n0_; have HB := n1_; clear n0_ n1_; (try clear hb); (try clear hb2); (try clear hk); (try clear hi)))
     go_meet
     case rel => exact ⟨_, (decide ((a2.size : Int) > 3000)), (by first | rfl | (simp; done) | (simp [*]; done)), H', ⟨by first | omega | exact Nat.le_refl _⟩, ⟨by (with_reducible repeat (first | refine blk_drewN ?_ _ | refine blk_drew ?_ | refine blk_alloc ?_ _)); exact BK382.out⟩, ⟨by repeat (first | (with_reducible first | exact HB.out | apply below_alloc | apply pw_below_drewN | apply below_drew1 | refine below_set ?_ GE382.out) | exact HB.out)⟩⟩
   ·replace c9 := Bool.eq_false_iff.mpr c9
    subst c9
    have H1 : (anamnesislaw08_SnapBack.j0 k l1 a2 true l0_0 a0_1 a0_2) = some r := by rw [if_neg (show ¬ (false = true) by decide)] at H; exact H
    clear H
    have H := H1
    clear H1
    have H' := Aside0.mk H
    clear H
    go_wp2_with (first | ((with_reducible refine gate_callee (f := 9) rfl ?_); refine goesL_ (some 14) rfl rfl Try.func9 (by kernel_rfl) rfl #[] rfl (by (try simp only [List.map_toArray, List.map_cons, List.map_nil]); first | done | rfl | (simp only [List.length_drop, List.length_take]; rfl)) ?_; (with_reducible refine (anamnesislaw08_fixed.calls k  true _ A6.out).mono ?_); rintro e w17 ⟨rfl, hb⟩; refine ⟨_, rfl, ?_⟩; have n0_ := Aside0.mk (blk_below (g := gb382) (o := .cells #[.slice A0_0 l0_0.length c0_0, .int .i64 a0_1, .int .i64 a0_2] 24 (0, 0)) (by (with_reducible repeat (first | refine blk_drewN ?_ _ | refine blk_drew ?_ | refine blk_alloc ?_ _)); exact BK382.out) hb); have n1_ := Aside0.mk (below_step (by repeat (first | (with_reducible first | exact HB.out | apply below_alloc | apply pw_below_drewN | apply below_drew1 | refine below_set ?_ GE382.out) | exact HB.out)) hb); clear BK382; clear HB; have BK382 := n0_; have HB := n1_; clear n0_ n1_; (try clear hb); (try clear hb2); (try clear hk); (try clear hi); have hcz18_0 : w17.cell? ⟨gb382, 0, none⟩ = some (.slice A0_0 l0_0.length c0_0) := (blk_cell BK382.out 0).trans rfl; have hcz18_1 : w17.cell? ⟨gb382, 1, none⟩ = some (.int .i64 a0_1) := (blk_cell BK382.out 1).trans rfl; have hcz18_2 : w17.cell? ⟨gb382, 2, none⟩ = some (.int .i64 a0_2) := (blk_cell BK382.out 2).trans rfl; have hfz18_0 := blk_frozen BK382.out 0; have hfz18_1 := blk_frozen BK382.out 1; have hfz18_2 := blk_frozen BK382.out 2) | (go_at_call 8; (with_reducible refine (anamnesisref03_Small.calls k _ _ l0_0 a0_1 a0_2 false _ ?side1 ?side2 A8.out).mono ?_); (case side1 => repeat (first | exact (Kd.C_below HR0_0.out HB.out) | (with_reducible refine Kd.C_alloc ?_ _) | (with_reducible refine Kd.C_drewN ?_ _) | (with_reducible refine Kd.C_drew ?_))); (case side2 => exact HC0_0.out); rintro e w19 ⟨rfl, hb⟩; have n0_ := Aside0.mk (blk_below (g := gb382) (o := .cells #[.slice A0_0 l0_0.length c0_0, .int .i64 a0_1, .int .i64 a0_2] 24 (0, 0)) (by (with_reducible repeat (first | refine blk_drewN ?_ _ | refine blk_drew ?_ | refine blk_alloc ?_ _)); exact BK382.out) hb); have n1_ := Aside0.mk (below_step (by repeat (first | (with_reducible first | exact HB.out | apply below_alloc | apply pw_below_drewN | apply below_drew1 | refine below_set ?_ GE382.out) | exact HB.out)) hb); clear BK382; clear HB; have BK382 := n0_; have HB := n1_; clear n0_ n1_; (try clear hb); (try clear hb2); (try clear hk); (try clear hi)))
    go_meet
    case rel => exact ⟨_, (true), (by first | rfl | (simp; done) | (simp [*]; done)), H', ⟨by first | omega | exact Nat.le_refl _⟩, ⟨by (with_reducible repeat (first | refine blk_drewN ?_ _ | refine blk_drew ?_ | refine blk_alloc ?_ _)); exact BK382.out⟩, ⟨by repeat (first | (with_reducible first | exact HB.out | apply below_alloc | apply pw_below_drewN | apply below_drew1 | refine below_set ?_ GE382.out) | exact HB.out)⟩⟩
  ·replace c7 := Bool.eq_false_iff.mpr c7
   subst c7
   have H1 : (anamnesislaw08_SnapBack.j0 k l1 a2 true l0_0 a0_1 a0_2) = some r := by rw [if_neg (show ¬ (false = true) by decide)] at H; exact H
   clear H
   have H := H1
   clear H1
   have H' := Aside0.mk H
   clear H
   go_wp2_with (first | ((with_reducible refine gate_callee (f := 9) rfl ?_); refine goesL_ (some 14) rfl rfl Try.func9 (by kernel_rfl) rfl #[] rfl (by (try simp only [List.map_toArray, List.map_cons, List.map_nil]); first | done | rfl | (simp only [List.length_drop, List.length_take]; rfl)) ?_; (with_reducible refine (anamnesislaw08_fixed.calls k  false _ A6.out).mono ?_); rintro e w20 ⟨rfl, hb⟩; refine ⟨_, rfl, ?_⟩; have n0_ := Aside0.mk (blk_below (g := gb382) (o := .cells #[.slice A0_0 l0_0.length c0_0, .int .i64 a0_1, .int .i64 a0_2] 24 (0, 0)) (by (with_reducible repeat (first | refine blk_drewN ?_ _ | refine blk_drew ?_ | refine blk_alloc ?_ _)); exact BK382.out) hb); have n1_ := Aside0.mk (below_step (by repeat (first | (with_reducible first | exact HB.out | apply below_alloc | apply pw_below_drewN | apply below_drew1 | refine below_set ?_ GE382.out) | exact HB.out)) hb); clear BK382; clear HB; have BK382 := n0_; have HB := n1_; clear n0_ n1_; (try clear hb); (try clear hb2); (try clear hk); (try clear hi)))
   go_meet
   case rel => exact ⟨_, (true), (by first | rfl | (simp; done) | (simp [*]; done)), H', ⟨by first | omega | exact Nat.le_refl _⟩, ⟨by (with_reducible repeat (first | refine blk_drewN ?_ _ | refine blk_drew ?_ | refine blk_alloc ?_ _)); exact BK382.out⟩, ⟨by repeat (first | (with_reducible first | exact HB.out | apply below_alloc | apply pw_below_drewN | apply below_drew1 | refine below_set ?_ GE382.out) | exact HB.out)⟩⟩
 case rest =>
  clear HC4
  try clear c1
  try clear p2
  try clear c4
  try clear c7
  try clear c9
  try clear c10
  try clear c10b0
  try clear c10b1
  try clear hcz12_0
  try clear hcz12_1
  try clear hcz12_2
  try clear hcz15_0
  try clear hcz15_1
  try clear hcz15_2
  try clear hcz18_0
  try clear hcz18_1
  try clear hcz18_2
  try clear hfz12_0
  try clear hfz12_1
  try clear hfz12_2
  try clear hfz15_0
  try clear hfz15_1
  try clear hfz15_2
  try clear hfz18_0
  try clear hfz18_1
  try clear hfz18_2
  obtain ⟨kq, x30_3, rfl, HA, HJ3, BK382, HB⟩ := hcut
  cases kq with
  | zero => exact absurd HA.out (by simp [anamnesislaw08_SnapBack.j0])
  | succ kj3 =>
   have H := HA.out
   clear HA
   simp only [anamnesislaw08_SnapBack.j0] at H
   by_cases c21 : x30_3 = true
   ·subst c21
    have H1 : ((anamnesislaw08_fixed.f kj3).bind fun t385 => (some t385)) = some r := by rw [if_pos rfl] at H; exact H
    clear H
    have H := H1
    clear H1
    replace H := Option.bind_eq_some_iff.mp H
    obtain ⟨t385, A220, H⟩ := H
    replace H : (some t385) = some r := H
    have A22 := Aside0.mk A220
    clear A220
    obtain rfl := Option.some.inj H
    go_wp2_with (first | ((with_reducible refine gate_callee (f := 9) rfl ?_); refine goesL_ (some 31) rfl rfl Try.func9 (by kernel_rfl) rfl #[] rfl (by (try simp only [List.map_toArray, List.map_cons, List.map_nil]); first | done | rfl | (simp only [List.length_drop, List.length_take]; rfl)) ?_; (with_reducible refine (anamnesislaw08_fixed.calls kj3  t385 _ A22.out).mono ?_); rintro e w23 ⟨rfl, hb⟩; refine ⟨_, rfl, ?_⟩; have n0_ := Aside0.mk (blk_below (g := gb382) (o := .cells #[.slice A0_0 l0_0.length c0_0, .int .i64 a0_1, .int .i64 a0_2] 24 (0, 0)) (by (with_reducible repeat (first | refine blk_drewN ?_ _ | refine blk_drew ?_ | refine blk_alloc ?_ _)); exact BK382.out) hb); have n1_ := Aside0.mk (below_step (by repeat (first | (with_reducible first | exact HB.out | apply below_alloc | apply pw_below_drewN | apply below_drew1 | refine below_set ?_ GE382.out) | exact HB.out)) hb); clear BK382; clear HB; have BK382 := n0_; have HB := n1_; clear n0_ n1_; (try clear hb); (try clear hb2); (try clear hk); (try clear hi)))
    go_ret
    exact ⟨by first | rfl | (simp [errW_none, errW_some] <;> rfl) | (simp [*, errW_none, errW_some] <;> rfl), by repeat (first | (with_reducible first | exact HB.out | apply below_alloc | apply pw_below_drewN | apply below_drew1 | refine below_set ?_ GE382.out) | exact HB.out)⟩
   ·replace c21 := Bool.eq_false_iff.mpr c21
    subst c21
    have H1 : ((snap_Decode.f kj3 a2).bind fun bt386 => (if bt386.2.2.2.2 = 0 then ((anamnesisref08_May.f kj3 bt386.1 bt386.2.1 bt386.2.2.1 bt386.2.2.2.1).bind fun t396 => (if t396 = true then ((snap_Encode.f kj3 bt386.1 bt386.2.1 bt386.2.2.1 bt386.2.2.2.1).bind fun t397 => (anamnesislaw08_SnapBack.j1 kj3 l1 bt386.2.2.2.1 bt386.2.2.2.2 (t397.toList != a2.toList) l0_0 a0_1 a0_2 bt386.1 bt386.2.1 bt386.2.2.1)) else (none))) else (anamnesislaw08_SnapBack.j1 kj3 l1 bt386.2.2.2.1 bt386.2.2.2.2 false l0_0 a0_1 a0_2 bt386.1 bt386.2.1 bt386.2.2.1))) = some r := by rw [if_neg (show ¬ (false = true) by decide)] at H; exact H
    clear H
    have H := H1
    clear H1
    replace H := Option.bind_eq_some_iff.mp H
    obtain ⟨⟨t386, t389, t390, t391, t394⟩, A240, H⟩ := H
    replace H : (if t394 = 0 then ((anamnesisref08_May.f kj3 t386 t389 t390 t391).bind fun t396 => (if t396 = true then ((snap_Encode.f kj3 t386 t389 t390 t391).bind fun t397 => (anamnesislaw08_SnapBack.j1 kj3 l1 t391 t394 (t397.toList != a2.toList) l0_0 a0_1 a0_2 t386 t389 t390)) else (none))) else (anamnesislaw08_SnapBack.j1 kj3 l1 t391 t394 false l0_0 a0_1 a0_2 t386 t389 t390)) = some r := H
    have A24 := Aside0.mk A240
    clear A240
    have HC25 := Aside0.mk H
    clear H
    go_upto_region 4 with (first | ((with_reducible refine gate_callee (f := 10) rfl ?_); refine goesL_ (some 34) rfl rfl Try.func10 (by kernel_rfl) rfl #[.string a2] rfl (by (try simp only [List.map_toArray, List.map_cons, List.map_nil]); first | done | rfl | (simp only [List.length_drop, List.length_take]; rfl)) ?_; (with_reducible refine (snap_Decode.calls kj3 a2 t386 t389 t390 t391 t394 _ A24.out).mono ?_); rintro e w26 ⟨v387, v392, rfl, ho0, ho1, hb⟩; refine ⟨_, rfl, ?_⟩; have n0_ := Aside0.mk (Kd.S_lower ho0 (below_size (by repeat (first | (with_reducible first | exact HB.out | apply below_alloc | apply pw_below_drewN | apply below_drew1 | refine below_set ?_ GE382.out) | exact HB.out)))); have n1_ := Aside0.mk (Kd.R_lower ho1 (below_size (by repeat (first | (with_reducible first | exact HB.out | apply below_alloc | apply pw_below_drewN | apply below_drew1 | refine below_set ?_ GE382.out) | exact HB.out)))); have n2_ := Aside0.mk (blk_below (g := gb382) (o := .cells #[.slice A0_0 l0_0.length c0_0, .int .i64 a0_1, .int .i64 a0_2] 24 (0, 0)) (by (with_reducible repeat (first | refine blk_drewN ?_ _ | refine blk_drew ?_ | refine blk_alloc ?_ _)); exact BK382.out) hb); have n3_ := Aside0.mk (below_step (by repeat (first | (with_reducible first | exact HB.out | apply below_alloc | apply pw_below_drewN | apply below_drew1 | refine below_set ?_ GE382.out) | exact HB.out)) hb); clear BK382; clear HB; have HO388 := n0_; have HO393 := n1_; have BK382 := n2_; have HB := n3_; clear n0_ n1_ n2_ n3_; (try clear hb); (try clear hb2); (try clear hk); (try clear hi); (try clear ho0); (try clear ho1)) | ((with_reducible refine gate_dst (N := 7) rfl ?_); (try (refine gate_guard (by rfl) ?_; dsimp only)); refine box_event ?hg (N := 7) ?hd (cs := #[.slice none 0 0, .int .i64 0, .int .i64 0]) (t := 24) ?hr ?_; (case hd => rfl); (case hg => rfl); (case hr => first | (go_simp; done) | (go_simp; rfl)); intro gb395 hg w27 hbox hb; have n0_ := Aside0.mk (Kd.S_below (by (with_reducible repeat (first | apply Kd.S_alloc | apply Kd.S_drewN | apply Kd.S_drew)); exact HO388.out) hb); have n1_ := Aside0.mk (Kd.R_below (by (with_reducible repeat (first | apply Kd.R_alloc | apply Kd.R_drewN | apply Kd.R_drew)); exact HO393.out) hb); have n2_ := Aside0.mk (blk_below (g := gb382) (o := .cells #[.slice A0_0 l0_0.length c0_0, .int .i64 a0_1, .int .i64 a0_2] 24 (0, 0)) (by (with_reducible repeat (first | refine blk_drewN ?_ _ | refine blk_drew ?_ | refine blk_alloc ?_ _)); exact BK382.out) hb); have n3_ := Aside0.mk (below_step (by repeat (first | (with_reducible first | exact HB.out | apply below_alloc | apply pw_below_drewN | apply below_drew1 | refine below_set ?_ GE382.out) | exact HB.out)) hb); have n4_ := Aside0.mk (hbox); have n5_ := Aside0.mk ((by rw [hg]; exact (below_size (by repeat (first | (with_reducible first | exact HB.out | apply below_alloc | apply pw_below_drewN | apply below_drew1 | refine below_set ?_ GE382.out) | exact HB.out))) : w.heap.size ≤ gb395)); have n6_ := Aside0.mk ((by rw [hg]; exact (below_size (by repeat (first | (with_reducible first | exact HB.out | apply below_alloc | apply pw_below_drewN | apply below_drew1 | refine below_set ?_ GE382.out) | exact HB.out))) : w.heap.size ≤ gb395)); have n7_ := Aside0.mk ((by rw [hg]; exact Nat.ne_of_lt (blk_lt (g := gb382) (o := .cells #[.slice A0_0 l0_0.length c0_0, .int .i64 a0_1, .int .i64 a0_2] 24 (0, 0)) (by (with_reducible repeat (first | refine blk_drewN ?_ _ | refine blk_drew ?_ | refine blk_alloc ?_ _)); exact BK382.out)) : gb382 ≠ gb395)); have n8_ := Aside0.mk ((by rw [hg]; exact Nat.ne_of_gt (blk_lt (g := gb382) (o := .cells #[.slice A0_0 l0_0.length c0_0, .int .i64 a0_1, .int .i64 a0_2] 24 (0, 0)) (by (with_reducible repeat (first | refine blk_drewN ?_ _ | refine blk_drew ?_ | refine blk_alloc ?_ _)); exact BK382.out)) : gb395 ≠ gb382)); clear HO388; clear HO393; clear BK382; clear HB; have HO388 := n0_; have HO393 := n1_; have BK382 := n2_; have HB := n3_; have BK395 := n4_; have GW395 := n5_; have GE395 := n6_; have NB382_395 := n7_; have NB395_382 := n8_; clear n0_ n1_ n2_ n3_ n4_ n5_ n6_ n7_ n8_; clear hb hbox hg; obtain ⟨Ao28, co28, eo28⟩ := Kd.S_slice HO388.out; subst eo28; have hnb29 := NB395_382.out; have hnc29 := NB382_395.out; have hcz30_0 : w27.cell? ⟨gb395, 0, none⟩ = some (.slice none 0 0) := (blk_cell BK395.out 0).trans rfl; have hcz30_1 : w27.cell? ⟨gb395, 1, none⟩ = some (.int .i64 0) := (blk_cell BK395.out 1).trans rfl; have hcz30_2 : w27.cell? ⟨gb395, 2, none⟩ = some (.int .i64 0) := (blk_cell BK395.out 2).trans rfl; have hfz30_0 := blk_frozen BK395.out 0; have hfz30_1 := blk_frozen BK395.out 1; have hfz30_2 := blk_frozen BK395.out 2))
    (try simp only [Act.put, List.setIfInBounds_toArray, List.set_cons_zero, List.set_cons_succ])
    go_cut [52] (fun v52 wc => ∃ (kq : Nat) (x52_24 : Bool), v52 = .bool x52_24 ∧ Aside0 (anamnesislaw08_SnapBack.j1 kq l1 t391 t394 x52_24 l0_0 a0_1 a0_2 t386 t389 t390 = some r) ∧ Aside0 (kq ≤ kj3) ∧ Aside0 (Kd.R (Kd.int .i64) 3 wc w.heap.size (fun _ => True) v392 t391) ∧ Aside0 (Kd.S k41 41 wc w.heap.size (fun k_ => some k_ ≠ (v392 : Value).ownBlock) (.slice Ao28 t386.length co28) t386) ∧ Aside0 (wc.heap[gb382]? = some (.cells #[(.slice A0_0 l0_0.length c0_0), .int .i64 a0_1, .int .i64 a0_2] 24 (0, 0))) ∧ Aside0 (wc.heap[gb395]? = some (.cells #[(.slice Ao28 t386.length co28), .int .i64 t389, .int .i64 t390] 24 (0, 0))) ∧ Aside0 (Below w.heap.size w wc))
    case first =>
     have H := HC25.out
     clear HC25
     by_cases c31 : t394 = 0
     ·rw [if_pos c31] at H
      have c31b0 : (t394 == 0) = true := beq_iff_eq.mpr c31
      have c31b1 : (t394 != 0) = false := bne_eq_false_iff_eq.mpr c31
      clear c31
      (first | rw [c31b0] | (simp only [i64_w, i32_w]; rw [c31b0]) | skip)
      replace H := Option.bind_eq_some_iff.mp H
      obtain ⟨t396, A320, H⟩ := H
      replace H : (if t396 = true then ((snap_Encode.f kj3 t386 t389 t390 t391).bind fun t397 => (anamnesislaw08_SnapBack.j1 kj3 l1 t391 t394 (t397.toList != a2.toList) l0_0 a0_1 a0_2 t386 t389 t390)) else (none)) = some r := H
      have A32 := Aside0.mk A320
      clear A320
      by_cases c33 : t396 = true
      ·subst c33
       have H1 : ((snap_Encode.f kj3 t386 t389 t390 t391).bind fun t397 => (anamnesislaw08_SnapBack.j1 kj3 l1 t391 t394 (t397.toList != a2.toList) l0_0 a0_1 a0_2 t386 t389 t390)) = some r := by rw [if_pos rfl] at H; exact H
       clear H
       have H := H1
       clear H1
       replace H := Option.bind_eq_some_iff.mp H
       obtain ⟨t397, A340, H⟩ := H
       replace H : (anamnesislaw08_SnapBack.j1 kj3 l1 t391 t394 (t397.toList != a2.toList) l0_0 a0_1 a0_2 t386 t389 t390) = some r := H
       have A34 := Aside0.mk A340
       clear A340
       have H' := Aside0.mk H
       clear H
       have hnb35 := NB395_382.out
       have hnc35 := NB382_395.out
       have hcz36_0 : w27.cell? ⟨gb395, 0, none⟩ = some (.slice none 0 0) := (blk_cell BK395.out 0).trans rfl
       have hcz36_1 : w27.cell? ⟨gb395, 1, none⟩ = some (.int .i64 0) := (blk_cell BK395.out 1).trans rfl
       have hcz36_2 : w27.cell? ⟨gb395, 2, none⟩ = some (.int .i64 0) := (blk_cell BK395.out 2).trans rfl
       have hfz36_0 := blk_frozen BK395.out 0
       have hfz36_1 := blk_frozen BK395.out 1
       have hfz36_2 := blk_frozen BK395.out 2
       obtain ⟨Ao37, co37, eo37⟩ := Kd.R_slice HO393.out
       subst eo37
       go_wp2_with (first | (go_at_call 16; (with_reducible refine (anamnesisref08_May.calls kj3 _ _ t386 t389 t390 _ _ t391 true _ ?side1 ?side2 ?side3 ?side4 A32.out).mono ?_); (case side1 => refine (Kd.S_reads' (e := 41) (base := w.heap.size) (ok := fun k_ => some k_ ≠ (.slice Ao37 t391.length co37 : Value).ownBlock) (n := t386.length) (c := co28) ?_).2.2; exact (by (with_reducible repeat (first | apply Kd.S_alloc | apply Kd.S_drewN | apply Kd.S_drew)); exact (Kd.S_mono (Kd.S_far (p := ⟨gb395, 2, none⟩) (Kd.S_far (p := ⟨gb395, 1, none⟩) (Kd.S_far (p := ⟨gb395, 0, none⟩) (Kd.S_types HO388.out BK395.out (by decide)) (fun _ hk => hk.2) (.slice Ao28 t386.length co28)) (fun _ hk => hk.2) (.int .i64 t389)) (fun _ hk => hk.2) (.int .i64 t390)) (fun _ h_ => h_.1)))); (case side2 => exact (Kd.S_reads' HO388.out).2.1); (case side3 => refine (Kd.R_reads' (e := 3) (base := w.heap.size) (ok := fun k_ => True) (n := t391.length) (c := co37) ?_).2.2; exact (by (with_reducible repeat (first | apply Kd.R_alloc | apply Kd.R_drewN | apply Kd.R_drew)); exact (Kd.R_mono (Kd.R_far (p := ⟨gb395, 2, none⟩) (Kd.R_far (p := ⟨gb395, 1, none⟩) (Kd.R_far (p := ⟨gb395, 0, none⟩) (Kd.R_types HO393.out BK395.out (by decide)) (fun _ hk => hk.2) (.slice Ao28 t386.length co28)) (fun _ hk => hk.2) (.int .i64 t389)) (fun _ hk => hk.2) (.int .i64 t390)) (fun _ h_ => h_.1)))); (case side4 => exact (Kd.R_reads' HO393.out).2.1); rintro e w38 ⟨rfl, hb⟩; have n0_ := Aside0.mk (Kd.S_below (by (with_reducible repeat (first | apply Kd.S_alloc | apply Kd.S_drewN | apply Kd.S_drew)); exact (Kd.S_mono (Kd.S_far (p := ⟨gb395, 2, none⟩) (Kd.S_far (p := ⟨gb395, 1, none⟩) (Kd.S_far (p := ⟨gb395, 0, none⟩) (Kd.S_types HO388.out BK395.out (by decide)) (fun _ hk => hk.2) (.slice Ao28 t386.length co28)) (fun _ hk => hk.2) (.int .i64 t389)) (fun _ hk => hk.2) (.int .i64 t390)) (fun _ h_ => h_.1))) hb); have n1_ := Aside0.mk (Kd.R_below (by (with_reducible repeat (first | apply Kd.R_alloc | apply Kd.R_drewN | apply Kd.R_drew)); exact (Kd.R_mono (Kd.R_far (p := ⟨gb395, 2, none⟩) (Kd.R_far (p := ⟨gb395, 1, none⟩) (Kd.R_far (p := ⟨gb395, 0, none⟩) (Kd.R_types HO393.out BK395.out (by decide)) (fun _ hk => hk.2) (.slice Ao28 t386.length co28)) (fun _ hk => hk.2) (.int .i64 t389)) (fun _ hk => hk.2) (.int .i64 t390)) (fun _ h_ => h_.1))) hb); have n2_ := Aside0.mk (blk_below (g := gb382) (o := .cells #[.slice A0_0 l0_0.length c0_0, .int .i64 a0_1, .int .i64 a0_2] 24 (0, 0)) (by (with_reducible repeat (first | refine blk_drewN ?_ _ | refine blk_drew ?_ | refine blk_alloc ?_ _)); refine blk_far ?_ NB382_395.out _; (with_reducible repeat (first | refine blk_drewN ?_ _ | refine blk_drew ?_ | refine blk_alloc ?_ _)); refine blk_far ?_ NB382_395.out _; (with_reducible repeat (first | refine blk_drewN ?_ _ | refine blk_drew ?_ | refine blk_alloc ?_ _)); refine blk_far ?_ NB382_395.out _; (with_reducible repeat (first | refine blk_drewN ?_ _ | refine blk_drew ?_ | refine blk_alloc ?_ _)); exact BK382.out) hb); have n3_ := Aside0.mk (blk_below (g := gb395) (o := .cells #[.slice Ao28 t386.length co28, .int .i64 t389, .int .i64 t390] 24 (0, 0)) (by (with_reducible repeat (first | refine blk_drewN ?_ _ | refine blk_drew ?_ | refine blk_alloc ?_ _)); refine blk_put (cs := #[.slice Ao28 t386.length co28, .int .i64 t389, .int .i64 0]) ?_ 2 _ rfl; (with_reducible repeat (first | refine blk_drewN ?_ _ | refine blk_drew ?_ | refine blk_alloc ?_ _)); refine blk_put (cs := #[.slice Ao28 t386.length co28, .int .i64 0, .int .i64 0]) ?_ 1 _ rfl; (with_reducible repeat (first | refine blk_drewN ?_ _ | refine blk_drew ?_ | refine blk_alloc ?_ _)); refine blk_put (cs := #[.slice none 0 0, .int .i64 0, .int .i64 0]) ?_ 0 _ rfl; (with_reducible repeat (first | refine blk_drewN ?_ _ | refine blk_drew ?_ | refine blk_alloc ?_ _)); exact BK395.out) hb); have n4_ := Aside0.mk (below_step (by repeat (first | (with_reducible first | exact HB.out | apply below_alloc | apply pw_below_drewN | apply below_drew1 | refine below_set ?_ GE382.out | refine below_set ?_ GE395.out) | exact HB.out)) hb); clear HO388; clear HO393; clear BK382; clear BK395; clear HB; have HO388 := n0_; have HO393 := n1_; have BK382 := n2_; have BK395 := n3_; have HB := n4_; clear n0_ n1_ n2_ n3_ n4_; (try clear hb); (try clear hb2); (try clear hk); (try clear hi); have hcz39_0 : w38.cell? ⟨gb395, 0, none⟩ = some (.slice Ao28 t386.length co28) := (blk_cell BK395.out 0).trans rfl; have hcz39_1 : w38.cell? ⟨gb395, 1, none⟩ = some (.int .i64 t389) := (blk_cell BK395.out 1).trans rfl; have hcz39_2 : w38.cell? ⟨gb395, 2, none⟩ = some (.int .i64 t390) := (blk_cell BK395.out 2).trans rfl; have hfz39_0 := blk_frozen BK395.out 0; have hfz39_1 := blk_frozen BK395.out 1; have hfz39_2 := blk_frozen BK395.out 2) | (go_at_call 12; (with_reducible refine (snap_Encode.calls kj3 _ _ t386 t389 t390 _ _ t391 t397 _ ?side1 ?side2 ?side3 ?side4 A34.out).mono ?_); (case side1 => repeat (first | exact (Kd.S_reads' HO388.out).2.2 | (with_reducible refine Kd.C_alloc ?_ _) | (with_reducible refine Kd.C_drewN ?_ _) | (with_reducible refine Kd.C_drew ?_))); (case side2 => exact (Kd.S_reads' HO388.out).2.1); (case side3 => repeat (first | exact (Kd.R_reads' HO393.out).2.2 | (with_reducible refine Kd.C_alloc ?_ _) | (with_reducible refine Kd.C_drewN ?_ _) | (with_reducible refine Kd.C_drew ?_))); (case side4 => exact (Kd.R_reads' HO393.out).2.1); rintro e w40 ⟨rfl, hb⟩; have n0_ := Aside0.mk (Kd.S_below (by (with_reducible repeat (first | apply Kd.S_alloc | apply Kd.S_drewN | apply Kd.S_drew)); exact HO388.out) hb); have n1_ := Aside0.mk (Kd.R_below (by (with_reducible repeat (first | apply Kd.R_alloc | apply Kd.R_drewN | apply Kd.R_drew)); exact HO393.out) hb); have n2_ := Aside0.mk (blk_below (g := gb382) (o := .cells #[.slice A0_0 l0_0.length c0_0, .int .i64 a0_1, .int .i64 a0_2] 24 (0, 0)) (by (with_reducible repeat (first | refine blk_drewN ?_ _ | refine blk_drew ?_ | refine blk_alloc ?_ _)); exact BK382.out) hb); have n3_ := Aside0.mk (blk_below (g := gb395) (o := .cells #[.slice Ao28 t386.length co28, .int .i64 t389, .int .i64 t390] 24 (0, 0)) (by (with_reducible repeat (first | refine blk_drewN ?_ _ | refine blk_drew ?_ | refine blk_alloc ?_ _)); exact BK395.out) hb); have n4_ := Aside0.mk (below_step (by repeat (first | (with_reducible first | exact HB.out | apply below_alloc | apply pw_below_drewN | apply below_drew1 | refine below_set ?_ GE382.out | refine below_set ?_ GE395.out) | exact HB.out)) hb); clear HO388; clear HO393; clear BK382; clear BK395; clear HB; have HO388 := n0_; have HO393 := n1_; have BK382 := n2_; have BK395 := n3_; have HB := n4_; clear n0_ n1_ n2_ n3_ n4_; (try clear hb); (try clear hb2); (try clear hk); (try clear hi)))
       go_meet
       case rel => exact ⟨_, ((t397.toList != a2.toList)), (by first | rfl | (simp; done) | (simp [*]; done)), H', ⟨by have := HJ3.out; first | omega | exact Nat.le_refl _⟩, ⟨by (with_reducible repeat (first | apply Kd.R_alloc | apply Kd.R_drewN | apply Kd.R_drew)); exact HO393.out⟩, ⟨by (with_reducible repeat (first | apply Kd.S_alloc | apply Kd.S_drewN | apply Kd.S_drew)); exact HO388.out⟩, ⟨by (with_reducible repeat (first | refine blk_drewN ?_ _ | refine blk_drew ?_ | refine blk_alloc ?_ _)); exact BK382.out⟩, ⟨by (with_reducible repeat (first | refine blk_drewN ?_ _ | refine blk_drew ?_ | refine blk_alloc ?_ _)); exact BK395.out⟩, ⟨by repeat (first | (with_reducible first | exact HB.out | apply below_alloc | apply pw_below_drewN | apply below_drew1 | refine below_set ?_ GE382.out | refine below_set ?_ GE395.out) | exact HB.out)⟩⟩
      ·replace c33 := Bool.eq_false_iff.mpr c33
       subst c33
       have H1 : (none) = some r := by rw [if_neg (show ¬ (false = true) by decide)] at H; exact H
       clear H
       have H := H1
       clear H1
       exact absurd H (by simp)
     ·rw [if_neg c31] at H
      have c31b0 : (t394 == 0) = false := beq_eq_false_iff_ne.mpr c31
      have c31b1 : (t394 != 0) = true := bne_iff_ne.mpr c31
      (first | rw [c31b0] | (simp only [i64_w, i32_w]; rw [c31b0]) | skip)
      have H' := Aside0.mk H
      clear H
      go_wp2
      go_meet
      case rel => exact ⟨_, (false), (by first | rfl | (simp; done) | (simp [*]; done)), H', ⟨by have := HJ3.out; first | omega | exact Nat.le_refl _⟩, ⟨by (with_reducible repeat (first | apply Kd.R_alloc | apply Kd.R_drewN | apply Kd.R_drew)); exact Kd.R_mono (Kd.R_far (p := ⟨gb395, 2, none⟩) (Kd.R_far (p := ⟨gb395, 1, none⟩) (Kd.R_far (p := ⟨gb395, 0, none⟩) (Kd.R_types HO393.out BK395.out (by decide)) (fun _ hk => hk.2) (.slice Ao28 t386.length co28)) (fun _ hk => hk.2) (.int .i64 t389)) (fun _ hk => hk.2) (.int .i64 t390)) (fun _ hk => trivial)⟩, ⟨by (with_reducible repeat (first | apply Kd.S_alloc | apply Kd.S_drewN | apply Kd.S_drew)); exact Kd.S_mono (Kd.S_far (p := ⟨gb395, 2, none⟩) (Kd.S_far (p := ⟨gb395, 1, none⟩) (Kd.S_far (p := ⟨gb395, 0, none⟩) (Kd.S_types HO388.out BK395.out (by decide)) (fun _ hk => hk.2) (.slice Ao28 t386.length co28)) (fun _ hk => hk.2) (.int .i64 t389)) (fun _ hk => hk.2) (.int .i64 t390)) (fun _ hk => hk.1)⟩, ⟨by (with_reducible repeat (first | refine blk_drewN ?_ _ | refine blk_drew ?_ | refine blk_alloc ?_ _)); refine blk_far ?_ NB382_395.out _; (with_reducible repeat (first | refine blk_drewN ?_ _ | refine blk_drew ?_ | refine blk_alloc ?_ _)); refine blk_far ?_ NB382_395.out _; (with_reducible repeat (first | refine blk_drewN ?_ _ | refine blk_drew ?_ | refine blk_alloc ?_ _)); refine blk_far ?_ NB382_395.out _; (with_reducible repeat (first | refine blk_drewN ?_ _ | refine blk_drew ?_ | refine blk_alloc ?_ _)); exact BK382.out⟩, ⟨by (with_reducible repeat (first | refine blk_drewN ?_ _ | refine blk_drew ?_ | refine blk_alloc ?_ _)); refine blk_put (cs := #[.slice Ao28 t386.length co28, .int .i64 t389, .int .i64 0]) ?_ 2 _ rfl; (with_reducible repeat (first | refine blk_drewN ?_ _ | refine blk_drew ?_ | refine blk_alloc ?_ _)); refine blk_put (cs := #[.slice Ao28 t386.length co28, .int .i64 0, .int .i64 0]) ?_ 1 _ rfl; (with_reducible repeat (first | refine blk_drewN ?_ _ | refine blk_drew ?_ | refine blk_alloc ?_ _)); refine blk_put (cs := #[.slice none 0 0, .int .i64 0, .int .i64 0]) ?_ 0 _ rfl; (with_reducible repeat (first | refine blk_drewN ?_ _ | refine blk_drew ?_ | refine blk_alloc ?_ _)); exact BK395.out⟩, ⟨by repeat (first | (with_reducible first | exact HB.out | apply below_alloc | apply pw_below_drewN | apply below_drew1 | refine below_set ?_ GE382.out | refine below_set ?_ GE395.out) | exact HB.out)⟩⟩
    case rest =>
     clear HC25
     try clear c1
     try clear c2
     try clear p2
     try clear c3
     try clear c4
     try clear c7
     try clear c9
     try clear c10
     try clear c10b0
     try clear c10b1
     try clear c21
     try clear c29
     try clear c31
     try clear c31b0
     try clear c31b1
     try clear c33
     try clear c35
     try clear hcz12_0
     try clear hcz12_1
     try clear hcz12_2
     try clear hcz15_0
     try clear hcz15_1
     try clear hcz15_2
     try clear hcz18_0
     try clear hcz18_1
     try clear hcz18_2
     try clear hcz30_0
     try clear hcz30_1
     try clear hcz30_2
     try clear hcz36_0
     try clear hcz36_1
     try clear hcz36_2
     try clear hcz39_0
     try clear hcz39_1
     try clear hcz39_2
     try clear hfz12_0
     try clear hfz12_1
     try clear hfz12_2
     try clear hfz15_0
     try clear hfz15_1
     try clear hfz15_2
     try clear hfz18_0
     try clear hfz18_1
     try clear hfz18_2
     try clear hfz30_0
     try clear hfz30_1
     try clear hfz30_2
     try clear hfz36_0
     try clear hfz36_1
     try clear hfz36_2
     try clear hfz39_0
     try clear hfz39_1
     try clear hfz39_2
     try clear p2
     obtain ⟨kq, x52_24, rfl, HA, HJ24, HO_8, HO_396000, BK382, BK395, HB⟩ := hcut
     cases kq with
     | zero => exact absurd HA.out (by simp [anamnesislaw08_SnapBack.j1])
     | succ kj24 =>
      have H := HA.out
      clear HA
      simp only [anamnesislaw08_SnapBack.j1] at H
      by_cases c41 : x52_24 = true
      ·subst c41
       have H1 : (none) = some r := by rw [if_pos rfl] at H; exact H
       clear H
       have H := H1
       clear H1
       exact absurd H (by simp)
      ·replace c41 := Bool.eq_false_iff.mpr c41
       subst c41
       have H1 : (if t394 = 0 then (anamnesislaw08_SnapBack.j2 kj24 l1 false l0_0 a0_1 a0_2) else (if (t391.length : Int) > 0 then (none) else ((anamnesisref03_Same.f kj24 t386 t389 t390 ([] : List (S41)) 0 0).bind fun t398 => (anamnesislaw08_SnapBack.j2 kj24 l1 (!t398) l0_0 a0_1 a0_2)))) = some r := by rw [if_neg (show ¬ (false = true) by decide)] at H; exact H
       clear H
       have H := H1
       clear H1
       have HC42 := Aside0.mk H
       clear H
       go_upto_region 6 with (fail)
       go_cut [65] (fun v65 wc => ∃ (kq : Nat) (x65_41 : Bool), v65 = .bool x65_41 ∧ Aside0 (anamnesislaw08_SnapBack.j2 kq l1 x65_41 l0_0 a0_1 a0_2 = some r) ∧ Aside0 (kq ≤ kj24) ∧ Aside0 (Kd.S k41 41 wc w.heap.size (fun _ => True) (.slice Ao28 t386.length co28) t386) ∧ Aside0 (wc.heap[gb382]? = some (.cells #[(.slice A0_0 l0_0.length c0_0), .int .i64 a0_1, .int .i64 a0_2] 24 (0, 0))) ∧ Aside0 (wc.heap[gb395]? = some (.cells #[(.slice Ao28 t386.length co28), .int .i64 t389, .int .i64 t390] 24 (0, 0))) ∧ Aside0 (Below w.heap.size w wc))
       case first =>
        have H := HC42.out
        clear HC42
        by_cases c43 : t394 = 0
        ·rw [if_pos c43] at H
         have c43b0 : (t394 == 0) = true := beq_iff_eq.mpr c43
         have c43b1 : (t394 != 0) = false := bne_eq_false_iff_eq.mpr c43
         clear c43
         (first | rw [c43b0] | (simp only [i64_w, i32_w]; rw [c43b0]) | skip)
         have H' := Aside0.mk H
         clear H
         go_wp2
         go_meet
         case rel => exact ⟨_, (false), (by first | rfl | (simp; done) | (simp [*]; done)), H', ⟨by have := HJ3.out; have := HJ24.out; first | omega | exact Nat.le_refl _⟩, ⟨by (with_reducible repeat (first | apply Kd.S_alloc | apply Kd.S_drewN | apply Kd.S_drew)); exact Kd.S_mono HO_396000.out (fun _ hk => trivial)⟩, ⟨by (with_reducible repeat (first | refine blk_drewN ?_ _ | refine blk_drew ?_ | refine blk_alloc ?_ _)); exact BK382.out⟩, ⟨by (with_reducible repeat (first | refine blk_drewN ?_ _ | refine blk_drew ?_ | refine blk_alloc ?_ _)); exact BK395.out⟩, ⟨by repeat (first | (with_reducible first | exact HB.out | apply below_alloc | apply pw_below_drewN | apply below_drew1 | refine below_set ?_ GE382.out | refine below_set ?_ GE395.out) | exact HB.out)⟩⟩
        ·rw [if_neg c43] at H
         have c43b0 : (t394 == 0) = false := beq_eq_false_iff_ne.mpr c43
         have c43b1 : (t394 != 0) = true := bne_iff_ne.mpr c43
         (first | rw [c43b0] | (simp only [i64_w, i32_w]; rw [c43b0]) | skip)
         by_cases c44 : (t391.length : Int) > 0
         ·rw [if_pos c44] at H
          exact absurd H (by simp)
         ·rw [if_neg c44] at H
          have c44b0 : decide (0 < (t391.length : Int)) = false := decide_eq_false c44
          have c44b1 : decide (0 < t391.length) = false := decide_eq_false (by omega)
          clear c44
          replace H := Option.bind_eq_some_iff.mp H
          obtain ⟨t398, A450, H⟩ := H
          replace H : (anamnesislaw08_SnapBack.j2 kj24 l1 (!t398) l0_0 a0_1 a0_2) = some r := H
          have A45 := Aside0.mk A450
          clear A450
          have H' := Aside0.mk H
          clear H
          obtain ⟨Ao46, co46, eo46⟩ := Kd.R_slice HO_8.out
          subst eo46
          have hnb47 := NB395_382.out
          have hnc47 := NB382_395.out
          have hcz48_0 : wc.cell? ⟨gb395, 0, none⟩ = some (.slice Ao28 t386.length co28) := (blk_cell BK395.out 0).trans rfl
          have hcz48_1 : wc.cell? ⟨gb395, 1, none⟩ = some (.int .i64 t389) := (blk_cell BK395.out 1).trans rfl
          have hcz48_2 : wc.cell? ⟨gb395, 2, none⟩ = some (.int .i64 t390) := (blk_cell BK395.out 2).trans rfl
          have hfz48_0 := blk_frozen BK395.out 0
          have hfz48_1 := blk_frozen BK395.out 1
          have hfz48_2 := blk_frozen BK395.out 2
          go_wp2_with (first | (go_at_call 14; (refine (anamnesisref03_Same.calls kj24 _ _ t386 t389 t390 _ _ ([] : List (S41)) 0 0 t398 _ ?side1 ?side2 ?side3 ?side4 A45.out).mono ?_); (case side1 => repeat (first | exact (Kd.S_reads' HO_396000.out).2.2 | (with_reducible refine Kd.C_alloc ?_ _) | (with_reducible refine Kd.C_drewN ?_ _) | (with_reducible refine Kd.C_drew ?_))); (case side2 => exact (Kd.S_reads' HO_396000.out).2.1); (case side3 => exact Kd.C_nil _ _); (case side4 => exact Nat.le_refl _); rintro e w49 ⟨rfl, hb⟩; have n0_ := Aside0.mk (Kd.R_below (by (with_reducible repeat (first | apply Kd.R_alloc | apply Kd.R_drewN | apply Kd.R_drew)); exact HO_8.out) hb); have n1_ := Aside0.mk (Kd.S_below (by (with_reducible repeat (first | apply Kd.S_alloc | apply Kd.S_drewN | apply Kd.S_drew)); exact HO_396000.out) hb); have n2_ := Aside0.mk (blk_below (g := gb382) (o := .cells #[.slice A0_0 l0_0.length c0_0, .int .i64 a0_1, .int .i64 a0_2] 24 (0, 0)) (by (with_reducible repeat (first | refine blk_drewN ?_ _ | refine blk_drew ?_ | refine blk_alloc ?_ _)); exact BK382.out) hb); have n3_ := Aside0.mk (blk_below (g := gb395) (o := .cells #[.slice Ao28 t386.length co28, .int .i64 t389, .int .i64 t390] 24 (0, 0)) (by (with_reducible repeat (first | refine blk_drewN ?_ _ | refine blk_drew ?_ | refine blk_alloc ?_ _)); exact BK395.out) hb); have n4_ := Aside0.mk (below_step (by repeat (first | (with_reducible first | exact HB.out | apply below_alloc | apply pw_below_drewN | apply below_drew1 | refine below_set ?_ GE382.out | refine below_set ?_ GE395.out) | exact HB.out)) hb); clear HO_8; clear HO_396000; clear BK382; clear BK395; clear HB; have HO_8 := n0_; have HO_396000 := n1_; have BK382 := n2_; have BK395 := n3_; have HB := n4_; clear n0_ n1_ n2_ n3_ n4_; (try clear hb); (try clear hb2); (try clear hk); (try clear hi)))
          go_meet
          case rel => exact ⟨_, (!t398), (by first | rfl | (simp; done) | (simp [*]; done)), H', ⟨by have := HJ3.out; have := HJ24.out; first | omega | exact Nat.le_refl _⟩, ⟨by (with_reducible repeat (first | apply Kd.S_alloc | apply Kd.S_drewN | apply Kd.S_drew)); exact Kd.S_mono HO_396000.out (fun _ hk => trivial)⟩, ⟨by (with_reducible repeat (first | refine blk_drewN ?_ _ | refine blk_drew ?_ | refine blk_alloc ?_ _)); exact BK382.out⟩, ⟨by (with_reducible repeat (first | refine blk_drewN ?_ _ | refine blk_drew ?_ | refine blk_alloc ?_ _)); exact BK395.out⟩, ⟨by repeat (first | (with_reducible first | exact HB.out | apply below_alloc | apply pw_below_drewN | apply below_drew1 | refine below_set ?_ GE382.out | refine below_set ?_ GE395.out) | exact HB.out)⟩⟩
       case rest =>
        clear HC42
        try clear c1
        try clear c2
        try clear p2
        try clear c3
        try clear c4
        try clear c7
        try clear c9
        try clear c10
        try clear c10b0
        try clear c10b1
        try clear c21
        try clear c29
        try clear c31
        try clear c31b0
        try clear c31b1
        try clear c33
        try clear c35
        try clear c41
        try clear c43
        try clear c43b0
        try clear c43b1
        try clear c44
        try clear c44b0
        try clear c44b1
        try clear c47
        try clear hcz12_0
        try clear hcz12_1
        try clear hcz12_2
        try clear hcz15_0
        try clear hcz15_1
        try clear hcz15_2
        try clear hcz18_0
        try clear hcz18_1
        try clear hcz18_2
        try clear hcz30_0
        try clear hcz30_1
        try clear hcz30_2
        try clear hcz36_0
        try clear hcz36_1
        try clear hcz36_2
        try clear hcz39_0
        try clear hcz39_1
        try clear hcz39_2
        try clear hcz48_0
        try clear hcz48_1
        try clear hcz48_2
        try clear hfz12_0
        try clear hfz12_1
        try clear hfz12_2
        try clear hfz15_0
        try clear hfz15_1
        try clear hfz15_2
        try clear hfz18_0
        try clear hfz18_1
        try clear hfz18_2
        try clear hfz30_0
        try clear hfz30_1
        try clear hfz30_2
        try clear hfz36_0
        try clear hfz36_1
        try clear hfz36_2
        try clear hfz39_0
        try clear hfz39_1
        try clear hfz39_2
        try clear hfz48_0
        try clear hfz48_1
        try clear hfz48_2
        try clear p2
        obtain ⟨kq, x65_41, rfl, HA, HJ41, HO_396000, BK382, BK395, HB⟩ := hcut
        cases kq with
        | zero => exact absurd HA.out (by simp [anamnesislaw08_SnapBack.j2])
        | succ kj41 =>
         have H := HA.out
         clear HA
         simp only [anamnesislaw08_SnapBack.j2] at H
         by_cases c50 : x65_41 = true
         ·subst c50
          have H1 : (none) = some r := by rw [if_pos rfl] at H; exact H
          clear H
          have H := H1
          clear H1
          exact absurd H (by simp)
         ·replace c50 := Bool.eq_false_iff.mpr c50
          subst c50
          have H1 : ((snap_Encode.f kj41 l0_0 a0_1 a0_2 l1).bind fun t399 => (if t399.toList = ([] : List UInt8) then ((anamnesisref08_May.f kj41 l0_0 a0_1 a0_2 l1).bind fun t400 => (some (!t400))) else ((snap_Decode.f kj41 t399).bind fun bt401 => (if bt401.2.2.2.2 = 0 then ((anamnesisref03_Same.f kj41 bt401.1 bt401.2.1 bt401.2.2.1 l0_0 a0_1 a0_2).bind fun t411 => (if t411 = true then ((anamnesisref03_Ints.f kj41 bt401.2.2.2.1 l1).bind fun t412 => (some t412)) else (none))) else (none))))) = some r := by rw [if_neg (show ¬ (false = true) by decide)] at H; exact H
          clear H
          have H := H1
          clear H1
          replace H := Option.bind_eq_some_iff.mp H
          obtain ⟨t399, A510, H⟩ := H
          replace H : (if t399.toList = ([] : List UInt8) then ((anamnesisref08_May.f kj41 l0_0 a0_1 a0_2 l1).bind fun t400 => (some (!t400))) else ((snap_Decode.f kj41 t399).bind fun bt401 => (if bt401.2.2.2.2 = 0 then ((anamnesisref03_Same.f kj41 bt401.1 bt401.2.1 bt401.2.2.1 l0_0 a0_1 a0_2).bind fun t411 => (if t411 = true then ((anamnesisref03_Ints.f kj41 bt401.2.2.2.1 l1).bind fun t412 => (some t412)) else (none))) else (none)))) = some r := H
          have A51 := Aside0.mk A510
          clear A510
          by_cases c52 : t399.toList = ([] : List UInt8)
          ·rw [if_pos c52] at H
           have c52b0 : (t399.toList == ([] : List UInt8)) = true := beq_iff_eq.mpr c52
           have c52b1 : (t399.toList != ([] : List UInt8)) = false := bne_eq_false_iff_eq.mpr c52
           clear c52
           replace H := Option.bind_eq_some_iff.mp H
           obtain ⟨t400, A530, H⟩ := H
           replace H : (some (!t400)) = some r := H
           have A53 := Aside0.mk A530
           clear A530
           obtain rfl := Option.some.inj H
           have hnb54 := NB382_395.out
           have hnc54 := NB395_382.out
           have hcz55_0 : wc.cell? ⟨gb382, 0, none⟩ = some (.slice A0_0 l0_0.length c0_0) := (blk_cell BK382.out 0).trans rfl
           have hcz55_1 : wc.cell? ⟨gb382, 1, none⟩ = some (.int .i64 a0_1) := (blk_cell BK382.out 1).trans rfl
           have hcz55_2 : wc.cell? ⟨gb382, 2, none⟩ = some (.int .i64 a0_2) := (blk_cell BK382.out 2).trans rfl
           have hfz55_0 := blk_frozen BK382.out 0
           have hfz55_1 := blk_frozen BK382.out 1
           have hfz55_2 := blk_frozen BK382.out 2
           go_wp2_with (first | ((with_reducible refine gate_callee (f := 12) rfl ?_); refine goesL_ (some 68) rfl rfl Try.func12 (by kernel_rfl) rfl #[.agg #[.slice A0_0 l0_0.length c0_0, .int .i64 a0_1, .int .i64 a0_2], .slice A1 l1.length c1] rfl (by (try simp only [List.map_toArray, List.map_cons, List.map_nil]); first | done | rfl | (simp only [List.length_drop, List.length_take]; rfl)) ?_; (with_reducible refine (snap_Encode.calls kj41 _ _ l0_0 a0_1 a0_2 _ _ l1 t399 _ ?side1 ?side2 ?side3 ?side4 A51.out).mono ?_); (case side1 => repeat (first | exact (Kd.C_below HR0_0.out HB.out) | (with_reducible refine Kd.C_alloc ?_ _) | (with_reducible refine Kd.C_drewN ?_ _) | (with_reducible refine Kd.C_drew ?_))); (case side2 => exact HC0_0.out); (case side3 => repeat (first | exact (Kd.C_below HR1.out HB.out) | (with_reducible refine Kd.C_alloc ?_ _) | (with_reducible refine Kd.C_drewN ?_ _) | (with_reducible refine Kd.C_drew ?_))); (case side4 => exact HC1.out); rintro e w56 ⟨rfl, hb⟩; refine ⟨_, rfl, ?_⟩; have n0_ := Aside0.mk (Kd.S_below (by (with_reducible repeat (first | apply Kd.S_alloc | apply Kd.S_drewN | apply Kd.S_drew)); exact HO_396000.out) hb); have n1_ := Aside0.mk (blk_below (g := gb382) (o := .cells #[.slice A0_0 l0_0.length c0_0, .int .i64 a0_1, .int .i64 a0_2] 24 (0, 0)) (by (with_reducible repeat (first | refine blk_drewN ?_ _ | refine blk_drew ?_ | refine blk_alloc ?_ _)); exact BK382.out) hb); have n2_ := Aside0.mk (blk_below (g := gb395) (o := .cells #[.slice Ao28 t386.length co28, .int .i64 t389, .int .i64 t390] 24 (0, 0)) (by (with_reducible repeat (first | refine blk_drewN ?_ _ | refine blk_drew ?_ | refine blk_alloc ?_ _)); exact BK395.out) hb); have n3_ := Aside0.mk (below_step (by repeat (first | (with_reducible first | exact HB.out | apply below_alloc | apply pw_below_drewN | apply below_drew1 | refine below_set ?_ GE382.out | refine below_set ?_ GE395.out) | exact HB.out)) hb); clear HO_396000; clear BK382; clear BK395; clear HB; have HO_396000 := n0_; have BK382 := n1_; have BK395 := n2_; have HB := n3_; clear n0_ n1_ n2_ n3_; (try clear hb); (try clear hb2); (try clear hk); (try clear hi); have hcz57_0 : w56.cell? ⟨gb382, 0, none⟩ = some (.slice A0_0 l0_0.length c0_0) := (blk_cell BK382.out 0).trans rfl; have hcz57_1 : w56.cell? ⟨gb382, 1, none⟩ = some (.int .i64 a0_1) := (blk_cell BK382.out 1).trans rfl; have hcz57_2 : w56.cell? ⟨gb382, 2, none⟩ = some (.int .i64 a0_2) := (blk_cell BK382.out 2).trans rfl; have hfz57_0 := blk_frozen BK382.out 0; have hfz57_1 := blk_frozen BK382.out 1; have hfz57_2 := blk_frozen BK382.out 2) | ((with_reducible refine gate_callee (f := 16) rfl ?_); refine goesL_ (some 73) rfl rfl Try.func16 (by kernel_rfl) rfl #[.agg #[.slice A0_0 l0_0.length c0_0, .int .i64 a0_1, .int .i64 a0_2], .slice A1 l1.length c1] rfl (by (try simp only [List.map_toArray, List.map_cons, List.map_nil]); first | done | rfl | (simp only [List.length_drop, List.length_take]; rfl)) ?_; (with_reducible refine (anamnesisref08_May.calls kj41 _ _ l0_0 a0_1 a0_2 _ _ l1 t400 _ ?side1 ?side2 ?side3 ?side4 A53.out).mono ?_); (case side1 => repeat (first | exact (Kd.C_below HR0_0.out HB.out) | (with_reducible refine Kd.C_alloc ?_ _) | (with_reducible refine Kd.C_drewN ?_ _) | (with_reducible refine Kd.C_drew ?_))); (case side2 => exact HC0_0.out); (case side3 => repeat (first | exact (Kd.C_below HR1.out HB.out) | (with_reducible refine Kd.C_alloc ?_ _) | (with_reducible refine Kd.C_drewN ?_ _) | (with_reducible refine Kd.C_drew ?_))); (case side4 => exact HC1.out); rintro e w58 ⟨rfl, hb⟩; refine ⟨_, rfl, ?_⟩; have n0_ := Aside0.mk (Kd.S_below (by (with_reducible repeat (first | apply Kd.S_alloc | apply Kd.S_drewN | apply Kd.S_drew)); exact HO_396000.out) hb); have n1_ := Aside0.mk (blk_below (g := gb382) (o := .cells #[.slice A0_0 l0_0.length c0_0, .int .i64 a0_1, .int .i64 a0_2] 24 (0, 0)) (by (with_reducible repeat (first | refine blk_drewN ?_ _ | refine blk_drew ?_ | refine blk_alloc ?_ _)); exact BK382.out) hb); have n2_ := Aside0.mk (blk_below (g := gb395) (o := .cells #[.slice Ao28 t386.length co28, .int .i64 t389, .int .i64 t390] 24 (0, 0)) (by (with_reducible repeat (first | refine blk_drewN ?_ _ | refine blk_drew ?_ | refine blk_alloc ?_ _)); exact BK395.out) hb); have n3_ := Aside0.mk (below_step (by repeat (first | (with_reducible first | exact HB.out | apply below_alloc | apply pw_below_drewN | apply below_drew1 | refine below_set ?_ GE382.out | refine below_set ?_ GE395.out) | exact HB.out)) hb); clear HO_396000; clear BK382; clear BK395; clear HB; have HO_396000 := n0_; have BK382 := n1_; have BK395 := n2_; have HB := n3_; clear n0_ n1_ n2_ n3_; (try clear hb); (try clear hb2); (try clear hk); (try clear hi)))
           go_ret
           exact ⟨by first | rfl | (simp [errW_none, errW_some] <;> rfl) | (simp [*, errW_none, errW_some] <;> rfl), by repeat (first | (with_reducible first | exact HB.out | apply below_alloc | apply pw_below_drewN | apply below_drew1 | refine below_set ?_ GE382.out | refine below_set ?_ GE395.out) | exact HB.out)⟩
          ·rw [if_neg c52] at H
           have c52b0 : (t399.toList == ([] : List UInt8)) = false := beq_eq_false_iff_ne.mpr c52
           have c52b1 : (t399.toList != ([] : List UInt8)) = true := bne_iff_ne.mpr c52
           replace H := Option.bind_eq_some_iff.mp H
           obtain ⟨⟨t401, t404, t405, t406, t409⟩, A590, H⟩ := H
           replace H : (if t409 = 0 then ((anamnesisref03_Same.f kj41 t401 t404 t405 l0_0 a0_1 a0_2).bind fun t411 => (if t411 = true then ((anamnesisref03_Ints.f kj41 t406 l1).bind fun t412 => (some t412)) else (none))) else (none)) = some r := H
           have A59 := Aside0.mk A590
           clear A590
           by_cases c60 : t409 = 0
           ·rw [if_pos c60] at H
            have c60b0 : (t409 == 0) = true := beq_iff_eq.mpr c60
            have c60b1 : (t409 != 0) = false := bne_eq_false_iff_eq.mpr c60
            clear c60
            replace H := Option.bind_eq_some_iff.mp H
            obtain ⟨t411, A610, H⟩ := H
            replace H : (if t411 = true then ((anamnesisref03_Ints.f kj41 t406 l1).bind fun t412 => (some t412)) else (none)) = some r := H
            have A61 := Aside0.mk A610
            clear A610
            by_cases c62 : t411 = true
            ·subst c62
             have H1 : ((anamnesisref03_Ints.f kj41 t406 l1).bind fun t412 => (some t412)) = some r := by rw [if_pos rfl] at H; exact H
             clear H
             have H := H1
             clear H1
             replace H := Option.bind_eq_some_iff.mp H
             obtain ⟨t412, A630, H⟩ := H
             replace H : (some t412) = some r := H
             have A63 := Aside0.mk A630
             clear A630
             obtain rfl := Option.some.inj H
             have hnb64 := NB382_395.out
             have hnc64 := NB395_382.out
             have hcz65_0 : wc.cell? ⟨gb382, 0, none⟩ = some (.slice A0_0 l0_0.length c0_0) := (blk_cell BK382.out 0).trans rfl
             have hcz65_1 : wc.cell? ⟨gb382, 1, none⟩ = some (.int .i64 a0_1) := (blk_cell BK382.out 1).trans rfl
             have hcz65_2 : wc.cell? ⟨gb382, 2, none⟩ = some (.int .i64 a0_2) := (blk_cell BK382.out 2).trans rfl
             have hfz65_0 := blk_frozen BK382.out 0
             have hfz65_1 := blk_frozen BK382.out 1
             have hfz65_2 := blk_frozen BK382.out 2
             go_wp2_with (first | ((with_reducible refine gate_callee (f := 12) rfl ?_); refine goesL_ (some 68) rfl rfl Try.func12 (by kernel_rfl) rfl #[.agg #[.slice A0_0 l0_0.length c0_0, .int .i64 a0_1, .int .i64 a0_2], .slice A1 l1.length c1] rfl (by (try simp only [List.map_toArray, List.map_cons, List.map_nil]); first | done | rfl | (simp only [List.length_drop, List.length_take]; rfl)) ?_; (with_reducible refine (snap_Encode.calls kj41 _ _ l0_0 a0_1 a0_2 _ _ l1 t399 _ ?side1 ?side2 ?side3 ?side4 A51.out).mono ?_); (case side1 => repeat (first | exact (Kd.C_below HR0_0.out HB.out) | (with_reducible refine Kd.C_alloc ?_ _) | (with_reducible refine Kd.C_drewN ?_ _) | (with_reducible refine Kd.C_drew ?_))); (case side2 => exact HC0_0.out); (case side3 => repeat (first | exact (Kd.C_below HR1.out HB.out) | (with_reducible refine Kd.C_alloc ?_ _) | (with_reducible refine Kd.C_drewN ?_ _) | (with_reducible refine Kd.C_drew ?_))); (case side4 => exact HC1.out); rintro e w66 ⟨rfl, hb⟩; refine ⟨_, rfl, ?_⟩; have n0_ := Aside0.mk (Kd.S_below (by (with_reducible repeat (first | apply Kd.S_alloc | apply Kd.S_drewN | apply Kd.S_drew)); exact HO_396000.out) hb); have n1_ := Aside0.mk (blk_below (g := gb382) (o := .cells #[.slice A0_0 l0_0.length c0_0, .int .i64 a0_1, .int .i64 a0_2] 24 (0, 0)) (by (with_reducible repeat (first | refine blk_drewN ?_ _ | refine blk_drew ?_ | refine blk_alloc ?_ _)); exact BK382.out) hb); have n2_ := Aside0.mk (blk_below (g := gb395) (o := .cells #[.slice Ao28 t386.length co28, .int .i64 t389, .int .i64 t390] 24 (0, 0)) (by (with_reducible repeat (first | refine blk_drewN ?_ _ | refine blk_drew ?_ | refine blk_alloc ?_ _)); exact BK395.out) hb); have n3_ := Aside0.mk (below_step (by repeat (first | (with_reducible first | exact HB.out | apply below_alloc | apply pw_below_drewN | apply below_drew1 | refine below_set ?_ GE382.out | refine below_set ?_ GE395.out) | exact HB.out)) hb); clear HO_396000; clear BK382; clear BK395; clear HB; have HO_396000 := n0_; have BK382 := n1_; have BK395 := n2_; have HB := n3_; clear n0_ n1_ n2_ n3_; (try clear hb); (try clear hb2); (try clear hk); (try clear hi)) | ((with_reducible refine gate_callee (f := 10) rfl ?_); refine goesL_ (some 77) rfl rfl Try.func10 (by kernel_rfl) rfl #[.string t399] rfl (by (try simp only [List.map_toArray, List.map_cons, List.map_nil]); first | done | rfl | (simp only [List.length_drop, List.length_take]; rfl)) ?_; (with_reducible refine (snap_Decode.calls kj41 t399 t401 t404 t405 t406 t409 _ A59.out).mono ?_); rintro e w67 ⟨v402, v407, rfl, ho0, ho1, hb⟩; refine ⟨_, rfl, ?_⟩; have n0_ := Aside0.mk (Kd.S_mono (Kd.S_told (Kd.S_told (Kd.S_old (by (with_reducible repeat (first | apply Kd.S_alloc | apply Kd.S_drewN | apply Kd.S_drew)); exact HO_396000.out) hb) (Kd.S_base ho0)) (Kd.R_base ho1)) (fun _ h_ => h_.1)); have n1_ := Aside0.mk (Kd.S_lower (Kd.S_new' ho0 (Kd.S_lt (by (with_reducible repeat (first | apply Kd.S_alloc | apply Kd.S_drewN | apply Kd.S_drew)); exact HO_396000.out))) (below_size (by repeat (first | (with_reducible first | exact HB.out | apply below_alloc | apply pw_below_drewN | apply below_drew1 | refine below_set ?_ GE382.out | refine below_set ?_ GE395.out) | exact HB.out)))); have n2_ := Aside0.mk (Kd.R_lower ho1 (below_size (by repeat (first | (with_reducible first | exact HB.out | apply below_alloc | apply pw_below_drewN | apply below_drew1 | refine below_set ?_ GE382.out | refine below_set ?_ GE395.out) | exact HB.out)))); have n3_ := Aside0.mk (blk_below (g := gb382) (o := .cells #[.slice A0_0 l0_0.length c0_0, .int .i64 a0_1, .int .i64 a0_2] 24 (0, 0)) (by (with_reducible repeat (first | refine blk_drewN ?_ _ | refine blk_drew ?_ | refine blk_alloc ?_ _)); exact BK382.out) hb); have n4_ := Aside0.mk (blk_below (g := gb395) (o := .cells #[.slice Ao28 t386.length co28, .int .i64 t389, .int .i64 t390] 24 (0, 0)) (by (with_reducible repeat (first | refine blk_drewN ?_ _ | refine blk_drew ?_ | refine blk_alloc ?_ _)); exact BK395.out) hb); have n5_ := Aside0.mk (below_step (by repeat (first | (with_reducible first | exact HB.out | apply below_alloc | apply pw_below_drewN | apply below_drew1 | refine below_set ?_ GE382.out | refine below_set ?_ GE395.out) | exact HB.out)) hb); clear HO_396000; clear BK382; clear BK395; clear HB; have HO_396000 := n0_; have HO403 := n1_; have HO408 := n2_; have BK382 := n3_; have BK395 := n4_; have HB := n5_; clear n0_ n1_ n2_ n3_ n4_ n5_; (try clear hb); (try clear hb2); (try clear hk); (try clear hi); (try clear ho0); (try clear ho1)) | ((with_reducible refine gate_dst (N := 11) rfl ?_); (try (refine gate_guard (by rfl) ?_; dsimp only)); refine box_event ?hg (N := 11) ?hd (cs := #[.slice none 0 0, .int .i64 0, .int .i64 0]) (t := 24) ?hr ?_; (case hd => rfl); (case hg => rfl); (case hr => first | (go_simp; done) | (go_simp; rfl)); intro gb410 hg w68 hbox hb; have n0_ := Aside0.mk (Kd.S_below (by (with_reducible repeat (first | apply Kd.S_alloc | apply Kd.S_drewN | apply Kd.S_drew)); exact HO_396000.out) hb); have n1_ := Aside0.mk (Kd.S_below (by (with_reducible repeat (first | apply Kd.S_alloc | apply Kd.S_drewN | apply Kd.S_drew)); exact HO403.out) hb); have n2_ := Aside0.mk (Kd.R_below (by (with_reducible repeat (first | apply Kd.R_alloc | apply Kd.R_drewN | apply Kd.R_drew)); exact HO408.out) hb); have n3_ := Aside0.mk (blk_below (g := gb382) (o := .cells #[.slice A0_0 l0_0.length c0_0, .int .i64 a0_1, .int .i64 a0_2] 24 (0, 0)) (by (with_reducible repeat (first | refine blk_drewN ?_ _ | refine blk_drew ?_ | refine blk_alloc ?_ _)); exact BK382.out) hb); have n4_ := Aside0.mk (blk_below (g := gb395) (o := .cells #[.slice Ao28 t386.length co28, .int .i64 t389, .int .i64 t390] 24 (0, 0)) (by (with_reducible repeat (first | refine blk_drewN ?_ _ | refine blk_drew ?_ | refine blk_alloc ?_ _)); exact BK395.out) hb); have n5_ := Aside0.mk (below_step (by repeat (first | (with_reducible first | exact HB.out | apply below_alloc | apply pw_below_drewN | apply below_drew1 | refine below_set ?_ GE382.out | refine below_set ?_ GE395.out) | exact HB.out)) hb); have n6_ := Aside0.mk (hbox); have n7_ := Aside0.mk ((by rw [hg]; exact (below_size (by repeat (first | (with_reducible first | exact HB.out | apply below_alloc | apply pw_below_drewN | apply below_drew1 | refine below_set ?_ GE382.out | refine below_set ?_ GE395.out) | exact HB.out))) : w.heap.size ≤ gb410)); have n8_ := Aside0.mk ((by rw [hg]; exact (below_size (by repeat (first | (with_reducible first | exact HB.out | apply below_alloc | apply pw_below_drewN | apply below_drew1 | refine below_set ?_ GE382.out | refine below_set ?_ GE395.out) | exact HB.out))) : w.heap.size ≤ gb410)); have n9_ := Aside0.mk ((by rw [hg]; exact Nat.ne_of_lt (blk_lt (g := gb382) (o := .cells #[.slice A0_0 l0_0.length c0_0, .int .i64 a0_1, .int .i64 a0_2] 24 (0, 0)) (by (with_reducible repeat (first | refine blk_drewN ?_ _ | refine blk_drew ?_ | refine blk_alloc ?_ _)); exact BK382.out)) : gb382 ≠ gb410)); have n10_ := Aside0.mk ((by rw [hg]; exact Nat.ne_of_gt (blk_lt (g := gb382) (o := .cells #[.slice A0_0 l0_0.length c0_0, .int .i64 a0_1, .int .i64 a0_2] 24 (0, 0)) (by (with_reducible repeat (first | refine blk_drewN ?_ _ | refine blk_drew ?_ | refine blk_alloc ?_ _)); exact BK382.out)) : gb410 ≠ gb382)); have n11_ := Aside0.mk ((by rw [hg]; exact Nat.ne_of_lt (blk_lt (g := gb395) (o := .cells #[.slice Ao28 t386.length co28, .int .i64 t389, .int .i64 t390] 24 (0, 0)) (by (with_reducible repeat (first | refine blk_drewN ?_ _ | refine blk_drew ?_ | refine blk_alloc ?_ _)); exact BK395.out)) : gb395 ≠ gb410)); have n12_ := Aside0.mk ((by rw [hg]; exact Nat.ne_of_gt (blk_lt (g := gb395) (o := .cells #[.slice Ao28 t386.length co28, .int .i64 t389, .int .i64 t390] 24 (0, 0)) (by (with_reducible repeat (first | refine blk_drewN ?_ _ | refine blk_drew ?_ | refine blk_alloc ?_ _)); exact BK395.out)) : gb410 ≠ gb395)); clear HO_396000; clear HO403; clear HO408; clear BK382; clear BK395; clear HB; have HO_396000 := n0_; have HO403 := n1_; have HO408 := n2_; have BK382 := n3_; have BK395 := n4_; have HB := n5_; have BK410 := n6_; have GW410 := n7_; have GE410 := n8_; have NB382_410 := n9_; have NB410_382 := n10_; have NB395_410 := n11_; have NB410_395 := n12_; clear n0_ n1_ n2_ n3_ n4_ n5_ n6_ n7_ n8_ n9_ n10_ n11_ n12_; clear hb hbox hg; obtain ⟨Ao69, co69, eo69⟩ := Kd.S_slice HO403.out; subst eo69; have hnb70 := NB410_382.out; have hnc70 := NB382_410.out; have hnb71 := NB410_395.out; have hnc71 := NB395_410.out; have hcz72_0 : w68.cell? ⟨gb410, 0, none⟩ = some (.slice none 0 0) := (blk_cell BK410.out 0).trans rfl; have hcz72_1 : w68.cell? ⟨gb410, 1, none⟩ = some (.int .i64 0) := (blk_cell BK410.out 1).trans rfl; have hcz72_2 : w68.cell? ⟨gb410, 2, none⟩ = some (.int .i64 0) := (blk_cell BK410.out 2).trans rfl; have hfz72_0 := blk_frozen BK410.out 0; have hfz72_1 := blk_frozen BK410.out 1; have hfz72_2 := blk_frozen BK410.out 2; have hcz73_0 : w68.cell? ⟨gb382, 0, none⟩ = some (.slice A0_0 l0_0.length c0_0) := (blk_cell BK382.out 0).trans rfl; have hcz73_1 : w68.cell? ⟨gb382, 1, none⟩ = some (.int .i64 a0_1) := (blk_cell BK382.out 1).trans rfl; have hcz73_2 : w68.cell? ⟨gb382, 2, none⟩ = some (.int .i64 a0_2) := (blk_cell BK382.out 2).trans rfl; have hfz73_0 := blk_frozen BK382.out 0; have hfz73_1 := blk_frozen BK382.out 1; have hfz73_2 := blk_frozen BK382.out 2) | (go_at_call 14; (with_reducible refine (anamnesisref03_Same.calls kj41 _ _ t401 t404 t405 _ _ l0_0 a0_1 a0_2 true _ ?side1 ?side2 ?side3 ?side4 A61.out).mono ?_); (case side1 => refine (Kd.S_reads' (e := 41) (base := w.heap.size) (ok := fun k_ => (some k_ ≠ (v407 : Value).ownBlock ∧ some k_ ≠ (.slice Ao28 t386.length co28 : Value).ownBlock)) (n := t401.length) (c := co69) ?_).2.2; exact (by (with_reducible repeat (first | apply Kd.S_alloc | apply Kd.S_drewN | apply Kd.S_drew)); exact (Kd.S_mono (Kd.S_far (p := ⟨gb410, 2, none⟩) (Kd.S_far (p := ⟨gb410, 1, none⟩) (Kd.S_far (p := ⟨gb410, 0, none⟩) (Kd.S_types HO403.out BK410.out (by decide)) (fun _ hk => hk.2) (.slice Ao69 t401.length co69)) (fun _ hk => hk.2) (.int .i64 t404)) (fun _ hk => hk.2) (.int .i64 t405)) (fun _ h_ => h_.1)))); (case side2 => exact (Kd.S_reads' HO403.out).2.1); (case side3 => exact Kd.C_below HR0_0.out (by repeat (first | (with_reducible first | exact HB.out | apply below_alloc | apply pw_below_drewN | apply below_drew1 | refine below_set ?_ GE382.out | refine below_set ?_ GE395.out | refine below_set ?_ GE410.out) | exact HB.out))); (case side4 => exact HC0_0.out); rintro e w74 ⟨rfl, hb⟩; have n0_ := Aside0.mk (Kd.S_below (by (with_reducible repeat (first | apply Kd.S_alloc | apply Kd.S_drewN | apply Kd.S_drew)); exact (Kd.S_mono (Kd.S_far (p := ⟨gb410, 2, none⟩) (Kd.S_far (p := ⟨gb410, 1, none⟩) (Kd.S_far (p := ⟨gb410, 0, none⟩) (Kd.S_types HO_396000.out BK410.out (by decide)) (fun _ hk => hk.2) (.slice Ao69 t401.length co69)) (fun _ hk => hk.2) (.int .i64 t404)) (fun _ hk => hk.2) (.int .i64 t405)) (fun _ h_ => h_.1))) hb); have n1_ := Aside0.mk (Kd.S_below (by (with_reducible repeat (first | apply Kd.S_alloc | apply Kd.S_drewN | apply Kd.S_drew)); exact (Kd.S_mono (Kd.S_far (p := ⟨gb410, 2, none⟩) (Kd.S_far (p := ⟨gb410, 1, none⟩) (Kd.S_far (p := ⟨gb410, 0, none⟩) (Kd.S_types HO403.out BK410.out (by decide)) (fun _ hk => hk.2) (.slice Ao69 t401.length co69)) (fun _ hk => hk.2) (.int .i64 t404)) (fun _ hk => hk.2) (.int .i64 t405)) (fun _ h_ => h_.1))) hb); have n2_ := Aside0.mk (Kd.R_below (by (with_reducible repeat (first | apply Kd.R_alloc | apply Kd.R_drewN | apply Kd.R_drew)); exact (Kd.R_mono (Kd.R_far (p := ⟨gb410, 2, none⟩) (Kd.R_far (p := ⟨gb410, 1, none⟩) (Kd.R_far (p := ⟨gb410, 0, none⟩) (Kd.R_types HO408.out BK410.out (by decide)) (fun _ hk => hk.2) (.slice Ao69 t401.length co69)) (fun _ hk => hk.2) (.int .i64 t404)) (fun _ hk => hk.2) (.int .i64 t405)) (fun _ h_ => h_.1))) hb); have n3_ := Aside0.mk (blk_below (g := gb382) (o := .cells #[.slice A0_0 l0_0.length c0_0, .int .i64 a0_1, .int .i64 a0_2] 24 (0, 0)) (by (with_reducible repeat (first | refine blk_drewN ?_ _ | refine blk_drew ?_ | refine blk_alloc ?_ _)); refine blk_far ?_ NB382_410.out _; (with_reducible repeat (first | refine blk_drewN ?_ _ | refine blk_drew ?_ | refine blk_alloc ?_ _)); refine blk_far ?_ NB382_410.out _; (with_reducible repeat (first | refine blk_drewN ?_ _ | refine blk_drew ?_ | refine blk_alloc ?_ _)); refine blk_far ?_ NB382_410.out _; (with_reducible repeat (first | refine blk_drewN ?_ _ | refine blk_drew ?_ | refine blk_alloc ?_ _)); exact BK382.out) hb); have n4_ := Aside0.mk (blk_below (g := gb395) (o := .cells #[.slice Ao28 t386.length co28, .int .i64 t389, .int .i64 t390] 24 (0, 0)) (by (with_reducible repeat (first | refine blk_drewN ?_ _ | refine blk_drew ?_ | refine blk_alloc ?_ _)); refine blk_far ?_ NB395_410.out _; (with_reducible repeat (first | refine blk_drewN ?_ _ | refine blk_drew ?_ | refine blk_alloc ?_ _)); refine blk_far ?_ NB395_410.out _; (with_reducible repeat (first | refine blk_drewN ?_ _ | refine blk_drew ?_ | refine blk_alloc ?_ _)); refine blk_far ?_ NB395_410.out _; (with_reducible repeat (first | refine blk_drewN ?_ _ | refine blk_drew ?_ | refine blk_alloc ?_ _)); exact BK395.out) hb); have n5_ := Aside0.mk (blk_below (g := gb410) (o := .cells #[.slice Ao69 t401.length co69, .int .i64 t404, .int .i64 t405] 24 (0, 0)) (by (with_reducible repeat (first | refine blk_drewN ?_ _ | refine blk_drew ?_ | refine blk_alloc ?_ _)); refine blk_put (cs := #[.slice Ao69 t401.length co69, .int .i64 t404, .int .i64 0]) ?_ 2 _ rfl; (with_reducible repeat (first | refine blk_drewN ?_ _ | refine blk_drew ?_ | refine blk_alloc ?_ _)); refine blk_put (cs := #[.slice Ao69 t401.length co69, .int .i64 0, .int .i64 0]) ?_ 1 _ rfl; (with_reducible repeat (first | refine blk_drewN ?_ _ | refine blk_drew ?_ | refine blk_alloc ?_ _)); refine blk_put (cs := #[.slice none 0 0, .int .i64 0, .int .i64 0]) ?_ 0 _ rfl; (with_reducible repeat (first | refine blk_drewN ?_ _ | refine blk_drew ?_ | refine blk_alloc ?_ _)); exact BK410.out) hb); have n6_ := Aside0.mk (below_step (by repeat (first | (with_reducible first | exact HB.out | apply below_alloc | apply pw_below_drewN | apply below_drew1 | refine below_set ?_ GE382.out | refine below_set ?_ GE395.out | refine below_set ?_ GE410.out) | exact HB.out)) hb); clear HO_396000; clear HO403; clear HO408; clear BK382; clear BK395; clear BK410; clear HB; have HO_396000 := n0_; have HO403 := n1_; have HO408 := n2_; have BK382 := n3_; have BK395 := n4_; have BK410 := n5_; have HB := n6_; clear n0_ n1_ n2_ n3_ n4_ n5_ n6_; (try clear hb); (try clear hb2); (try clear hk); (try clear hi); obtain ⟨Ao75, co75, eo75⟩ := Kd.R_slice HO408.out; subst eo75) | (go_at_call 15; (with_reducible refine (anamnesisref03_Ints.calls kj41 _ _ t406 _ _ l1 t412 _ ?side1 ?side2 ?side3 ?side4 A63.out).mono ?_); (case side1 => repeat (first | exact (Kd.R_reads' HO408.out).2.2 | (with_reducible refine Kd.C_alloc ?_ _) | (with_reducible refine Kd.C_drewN ?_ _) | (with_reducible refine Kd.C_drew ?_))); (case side2 => exact (Kd.R_reads' HO408.out).2.1); (case side3 => repeat (first | exact (Kd.C_below HR1.out HB.out) | (with_reducible refine Kd.C_alloc ?_ _) | (with_reducible refine Kd.C_drewN ?_ _) | (with_reducible refine Kd.C_drew ?_))); (case side4 => exact HC1.out); rintro e w' ⟨rfl, ⟨nd, rfl⟩⟩))
             go_ret
             exact ⟨by first | rfl | (simp [errW_none, errW_some] <;> rfl) | (simp [*, errW_none, errW_some] <;> rfl), by repeat (first | (with_reducible first | exact HB.out | apply below_alloc | apply pw_below_drewN | apply below_drew1 | refine below_set ?_ GE382.out | refine below_set ?_ GE395.out | refine below_set ?_ GE410.out) | exact HB.out)⟩
            ·replace c62 := Bool.eq_false_iff.mpr c62
             subst c62
             have H1 : (none) = some r := by rw [if_neg (show ¬ (false = true) by decide)] at H; exact H
             clear H
             have H := H1
             clear H1
             exact absurd H (by simp)
           ·rw [if_neg c60] at H
            exact absurd H (by simp)
end Go.Proofs.Ytednpcfhefibdaa.PSnap
