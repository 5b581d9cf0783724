import Derived.Test.YtednpcfhefibdaaPSnapx0
import Derived.Test.YtednpcfhefibdaaPSnapx1
import Derived.Test.YtednpcfhefibdaaPSnapx4
import Derived.Test.YtednpcfhefibdaaPSnapx10
import Derived.Test.YtednpcfhefibdaaPSnapx12
namespace Go.Proofs.Ytednpcfhefibdaa.PSnap
open Go.RowKit Go.Proofs.YtednpcfhefibdaaW.PrintWords Go.Proofs.YtednpcfhefibdaaW.PrintLast Go.Proofs.YtednpcfhefibdaaW.PrintMore
attribute [local go_sem] max2_int min2_int max_two min_two max_three min_three max_four min_four
set_option linter.unusedVariables false
set_option linter.unusedSimpArgs false
attribute [local go_sem] setCell_drewN
mutual
def anamnesislaw08_SnapSizes.j0 : Nat → List Int → Bool → List (S41) → Int → Int → Option (Bool)
 | 0, _, _, _, _, _ => none
 | k + 1, x1, x25, x446000, x446001, x446002 => if x25 = true then ((anamnesislaw08_fixed.f k).bind fun t449 => (some t449)) else (anamnesislaw08_SnapSizes.l0 k x1 (wrap64 (23 + (wrap64 (4 * (x1.length : Int))))) 0 x446000 x446001 x446002)
def anamnesislaw08_SnapSizes.l0 : Nat → List Int → Int → Int → List (S41) → Int → Int → Option (Bool)
 | 0, _, _, _, _, _, _ => none
 | k + 1, x1, x5, x6, x446000, x446001, x446002 => if x6 < (x446000.length : Int) then (if 0 ≤ x6 then (if ((rd_T41 x446000 x6).f1) = 2 then (anamnesislaw08_SnapSizes.l0 k x1 (wrap64 ((wrap64 (x5 + (wrap64 ((wrap64 (16 + (wrap64 (4 * (((rd_T41 x446000 x6).f2).length : Int))))) + (((rd_T41 x446000 x6).f3).size : Int))))) + 4)) (wrap64 (x6 + 1)) x446000 x446001 x446002) else (anamnesislaw08_SnapSizes.l0 k x1 (wrap64 (x5 + (wrap64 ((wrap64 (16 + (wrap64 (4 * (((rd_T41 x446000 x6).f2).length : Int))))) + (((rd_T41 x446000 x6).f3).size : Int))))) (wrap64 (x6 + 1)) x446000 x446001 x446002)) else (none)) else ((snap_Encode.f k x446000 x446001 x446002 x1).bind fun t452 => (some ((t452.size : Int) == x5)))
end
def anamnesislaw08_SnapSizes.f (k : Nat) (l0_0 : List (S41)) (a0_1 : Int) (a0_2 : Int) (l1 : List Int) : Option (Bool) := (anamnesislaw08_fixed.f k).bind fun t446 => (if t446 = true then ((anamnesisref03_Small.f k l0_0 a0_1 a0_2).bind fun t447 => (if t447 = true then (if (l1.length : Int) > 64 then (anamnesislaw08_SnapSizes.j0 k l1 true l0_0 a0_1 a0_2) else ((anamnesisref08_May.f k l0_0 a0_1 a0_2 l1).bind fun t448 => (anamnesislaw08_SnapSizes.j0 k l1 (!t448) l0_0 a0_1 a0_2))) else (anamnesislaw08_SnapSizes.j0 k l1 true l0_0 a0_1 a0_2))) else (anamnesislaw08_SnapSizes.j0 k l1 true l0_0 a0_1 a0_2))
theorem anamnesislaw08_SnapSizes.mono_l : ∀ k, (∀ y0 y1 y2 y3 y4, LeO (anamnesislaw08_SnapSizes.j0 k y0 y1 y2 y3 y4) (anamnesislaw08_SnapSizes.j0 (k + 1) y0 y1 y2 y3 y4)) ∧ (∀ y0 y1 y2 y3 y4 y5, LeO (anamnesislaw08_SnapSizes.l0 k y0 y1 y2 y3 y4 y5) (anamnesislaw08_SnapSizes.l0 (k + 1) y0 y1 y2 y3 y4 y5))
 | 0 => ⟨fun _ _ _ _ _ r h => by simp [anamnesislaw08_SnapSizes.j0] at h, fun _ _ _ _ _ _ r h => by simp [anamnesislaw08_SnapSizes.l0] at h⟩
 | k + 1 => by
  obtain ⟨ih0, ih1⟩ := anamnesislaw08_SnapSizes.mono_l k
  refine ⟨?_, ?_⟩
  ·intro y0 y1 y2 y3 y4
   unfold anamnesislaw08_SnapSizes.j0
   repeat' first
   | (with_reducible exact ih0 _ _ _ _ _)
   | (with_reducible exact ih1 _ _ _ _ _ _)
   | (with_reducible exact anamnesislaw08_fixed.mono _)
   | (with_reducible exact anamnesisref03_Small.mono _ _ _ _)
   | (with_reducible exact anamnesisref08_May.mono _ _ _ _ _)
   | (with_reducible exact snap_Encode.mono _ _ _ _ _)
   | (with_reducible exact LeO.refl _)
   | (with_reducible exact LeO.none _)
   | (with_reducible refine LeO.ite ?_ ?_)
   | (with_reducible refine LeO.bind ?_ (fun _ => ?_))
   | exact ih0 _ _ _ _ _
   | exact ih1 _ _ _ _ _ _
   | exact anamnesislaw08_fixed.mono _
   | exact anamnesisref03_Small.mono _ _ _ _
   | exact anamnesisref08_May.mono _ _ _ _ _
   | exact snap_Encode.mono _ _ _ _ _
   | exact LeO.none _
   | refine LeO.ite ?_ ?_
   | refine LeO.bind ?_ (fun _ => ?_)
  ·intro y0 y1 y2 y3 y4 y5
   unfold anamnesislaw08_SnapSizes.l0
   repeat' first
   | (with_reducible exact ih0 _ _ _ _ _)
   | (with_reducible exact ih1 _ _ _ _ _ _)
   | (with_reducible exact anamnesislaw08_fixed.mono _)
   | (with_reducible exact anamnesisref03_Small.mono _ _ _ _)
   | (with_reducible exact anamnesisref08_May.mono _ _ _ _ _)
   | (with_reducible exact snap_Encode.mono _ _ _ _ _)
   | (with_reducible exact LeO.refl _)
   | (with_reducible exact LeO.none _)
   | (with_reducible refine LeO.ite ?_ ?_)
   | (with_reducible refine LeO.bind ?_ (fun _ => ?_))
   | exact ih0 _ _ _ _ _
   | exact ih1 _ _ _ _ _ _
   | exact anamnesislaw08_fixed.mono _
   | exact anamnesisref03_Small.mono _ _ _ _
   | exact anamnesisref08_May.mono _ _ _ _ _
   | exact snap_Encode.mono _ _ _ _ _
   | exact LeO.none _
   | refine LeO.ite ?_ ?_
   | refine LeO.bind ?_ (fun _ => ?_)
theorem anamnesislaw08_SnapSizes.mono : ∀ a0 a1 a2 a3 k, LeO (anamnesislaw08_SnapSizes.f k a0 a1 a2 a3) (anamnesislaw08_SnapSizes.f (k + 1) a0 a1 a2 a3) := by
 intro a0 a1 a2 a3 k
 obtain ⟨ih0, ih1⟩ := anamnesislaw08_SnapSizes.mono_l k
 unfold anamnesislaw08_SnapSizes.f
 repeat' first
   | (with_reducible exact ih0 _ _ _ _ _)
   | (with_reducible exact ih1 _ _ _ _ _ _)
   | (with_reducible exact anamnesislaw08_fixed.mono _)
   | (with_reducible exact anamnesisref03_Small.mono _ _ _ _)
   | (with_reducible exact anamnesisref08_May.mono _ _ _ _ _)
   | (with_reducible exact snap_Encode.mono _ _ _ _ _)
   | (with_reducible exact LeO.refl _)
   | (with_reducible exact LeO.none _)
   | (with_reducible refine LeO.ite ?_ ?_)
   | (with_reducible refine LeO.bind ?_ (fun _ => ?_))
   | exact ih0 _ _ _ _ _
   | exact ih1 _ _ _ _ _ _
   | exact anamnesislaw08_fixed.mono _
   | exact anamnesisref03_Small.mono _ _ _ _
   | exact anamnesisref08_May.mono _ _ _ _ _
   | exact snap_Encode.mono _ _ _ _ _
   | exact LeO.none _
   | refine LeO.ite ?_ ?_
   | refine LeO.bind ?_ (fun _ => ?_)
set_option maxHeartbeats 8000000 in
set_option maxRecDepth 100000 in
theorem anamnesislaw08_SnapSizes.calls (k : Nat) (A0_0 : Option Addr) (c0_0 : Nat) (l0_0 : List (S41)) (a0_1 : Int) (a0_2 : Int) (A1 : Option Addr) (c1 : Nat) (l1 : List Int) (r : Bool) (w : World) (hr0_0 : Kd.C k41 w A0_0 l0_0.length l0_0) (hc0_0 : l0_0.length ≤ c0_0) (hr1 : Kd.C (Kd.int .i64) w A1 l1.length l1) (hc1 : l1.length ≤ c1) (h : anamnesislaw08_SnapSizes.f k l0_0 a0_1 a0_2 l1 = some r) :
  Calls Try.prog 6 #[.agg #[.slice A0_0 l0_0.length c0_0, .int .i64 a0_1, .int .i64 a0_2], .slice A1 l1.length c1] w fun e w' => e = .returned (.bool r) ∧ Below w.heap.size w w' := by
 have hu24 := Try.underlying24
 have hu41 := Try.underlying41
 have HR0_0 := Aside0.mk hr0_0
 have HC0_0 := Aside0.mk hc0_0
 clear hr0_0 hc0_0
 have HR1 := Aside0.mk hr1
 have HC1 := Aside0.mk hc1
 clear hr1 hc1
 have HB := Aside0.mk (Below.refl w.heap.size w)
 have H : ((anamnesislaw08_fixed.f k).bind fun t446 => (if t446 = true then ((anamnesisref03_Small.f k l0_0 a0_1 a0_2).bind fun t447 => (if t447 = true then (if (l1.length : Int) > 64 then (anamnesislaw08_SnapSizes.j0 k l1 true l0_0 a0_1 a0_2) else ((anamnesisref08_May.f k l0_0 a0_1 a0_2 l1).bind fun t448 => (anamnesislaw08_SnapSizes.j0 k l1 (!t448) l0_0 a0_1 a0_2))) else (anamnesislaw08_SnapSizes.j0 k l1 true l0_0 a0_1 a0_2))) else (anamnesislaw08_SnapSizes.j0 k l1 true l0_0 a0_1 a0_2))) = some r := h
 clear h
 have HC3 := Aside0.mk H
 clear H
 go_enter Try.func6, Try.ntmps6
 go_upto_region 1 with (first | ((with_reducible refine gate_dst (N := 2) rfl ?_); (try (refine gate_guard (by rfl) ?_; dsimp only)); refine box_event ?hg (N := 2) ?hd (cs := #[.slice A0_0 l0_0.length c0_0, .int .i64 a0_1, .int .i64 a0_2]) (t := 24) ?hr ?_; (case hd => rfl); (case hg => rfl); (case hr => first | (go_simp; done) | (go_simp; rfl)); intro gb445 hg w4 hbox hb; have n0_ := Aside0.mk (below_step (by repeat (first | (with_reducible first | exact HB.out | apply below_alloc | apply pw_below_drewN | apply below_drew1) | exact HB.out)) hb); have n1_ := Aside0.mk (hbox); have n2_ := Aside0.mk ((by rw [hg]; exact (below_size (by repeat (first | (with_reducible first | exact HB.out | apply below_alloc | apply pw_below_drewN | apply below_drew1) | exact HB.out))) : w.heap.size ≤ gb445)); have n3_ := Aside0.mk ((by rw [hg]; exact (below_size (by repeat (first | (with_reducible first | exact HB.out | apply below_alloc | apply pw_below_drewN | apply below_drew1) | exact HB.out))) : w.heap.size ≤ gb445)); clear HB; have HB := n0_; have BK445 := n1_; have GW445 := n2_; have GE445 := n3_; clear n0_ n1_ n2_ n3_; clear hb hbox hg))
 (try simp only [Act.put, List.setIfInBounds_toArray, List.set_cons_zero, List.set_cons_succ])
 go_cut [25] (fun v25 wc => ∃ (kq : Nat) (x25_2 : Bool), v25 = .bool x25_2 ∧ Aside0 (anamnesislaw08_SnapSizes.j0 kq l1 x25_2 l0_0 a0_1 a0_2 = some r) ∧ Aside0 (kq ≤ k) ∧ Aside0 (wc.heap[gb445]? = some (.cells #[(.slice A0_0 l0_0.length c0_0), .int .i64 a0_1, .int .i64 a0_2] 24 (0, 0))) ∧ Aside0 (Below w.heap.size w wc))
 case first =>
  have H := HC3.out
  clear HC3
  replace H := Option.bind_eq_some_iff.mp H
  obtain ⟨t446, A50, H⟩ := H
  replace H : (if t446 = true then ((anamnesisref03_Small.f k l0_0 a0_1 a0_2).bind fun t447 => (if t447 = true then (if (l1.length : Int) > 64 then (anamnesislaw08_SnapSizes.j0 k l1 true l0_0 a0_1 a0_2) else ((anamnesisref08_May.f k l0_0 a0_1 a0_2 l1).bind fun t448 => (anamnesislaw08_SnapSizes.j0 k l1 (!t448) l0_0 a0_1 a0_2))) else (anamnesislaw08_SnapSizes.j0 k l1 true l0_0 a0_1 a0_2))) else (anamnesislaw08_SnapSizes.j0 k l1 true l0_0 a0_1 a0_2)) = some r := H
  have A5 := Aside0.mk A50
  clear A50
  by_cases c6 : t446 = true
  ·subst c6
   have H1 : ((anamnesisref03_Small.f k l0_0 a0_1 a0_2).bind fun t447 => (if t447 = true then (if (l1.length : Int) > 64 then (anamnesislaw08_SnapSizes.j0 k l1 true l0_0 a0_1 a0_2) else ((anamnesisref08_May.f k l0_0 a0_1 a0_2 l1).bind fun t448 => (anamnesislaw08_SnapSizes.j0 k l1 (!t448) l0_0 a0_1 a0_2))) else (anamnesislaw08_SnapSizes.j0 k l1 true l0_0 a0_1 a0_2))) = some r := by rw [if_pos rfl] at H; exact H
   clear H
   have H := H1
   clear H1
   replace H := Option.bind_eq_some_iff.mp H
   obtain ⟨t447, A70, H⟩ := H
   replace H : (if t447 = true then (if (l1.length : Int) > 64 then (anamnesislaw08_SnapSizes.j0 k l1 true l0_0 a0_1 a0_2) else ((anamnesisref08_May.f k l0_0 a0_1 a0_2 l1).bind fun t448 => (anamnesislaw08_SnapSizes.j0 k l1 (!t448) l0_0 a0_1 a0_2))) else (anamnesislaw08_SnapSizes.j0 k l1 true l0_0 a0_1 a0_2)) = some r := H
   have A7 := Aside0.mk A70
   clear A70
   by_cases c8 : t447 = true
   ·subst c8
    have H1 : (if (l1.length : Int) > 64 then (anamnesislaw08_SnapSizes.j0 k l1 true l0_0 a0_1 a0_2) else ((anamnesisref08_May.f k l0_0 a0_1 a0_2 l1).bind fun t448 => (anamnesislaw08_SnapSizes.j0 k l1 (!t448) l0_0 a0_1 a0_2))) = some r := by rw [if_pos rfl] at H; exact H
    clear H
    have H := H1
    clear H1
    by_cases c9 : (l1.length : Int) > 64
    ·rw [if_pos c9] at H
     have c9b0 : decide (64 < (l1.length : Int)) = true := decide_eq_true c9
     have c9b1 : decide (64 < l1.length) = true := decide_eq_true (by omega)
     clear c9
     (first | rw [c9b0] | (simp only [i64_w, i32_w]; rw [c9b0]) | skip)
     have H' := Aside0.mk H
     clear H
     go_wp2_with (first | ((with_reducible refine gate_callee (f := 9) rfl ?_); refine goesL_ (some 8) rfl rfl Try.func9 (by kernel_rfl) rfl #[] rfl (by (try simp only [List.map_toArray, List.map_cons, List.map_nil]); first | done | rfl | (simp only [List.length_drop, List.length_take]; rfl)) ?_; (with_reducible refine (anamnesislaw08_fixed.calls k  true _ A5.out).mono ?_); rintro e w10 ⟨rfl, hb⟩; refine ⟨_, rfl, ?_⟩; have n0_ := Aside0.mk (blk_below (g := gb445) (o := .cells #[.slice A0_0 l0_0.length c0_0, .int .i64 a0_1, .int .i64 a0_2] 24 (0, 0)) (by (with_reducible repeat (first | refine blk_drewN ?_ _ | refine blk_drew ?_ | refine blk_alloc ?_ _)); exact BK445.out) hb); have n1_ := Aside0.mk (below_step (by repeat (first | (with_reducible first | exact HB.out | apply below_alloc | apply pw_below_drewN | apply below_drew1 | refine below_set ?_ GE445.out) | exact HB.out)) hb); clear BK445; clear HB; have BK445 := n0_; have HB := n1_; clear n0_ n1_; (try clear hb); (try clear hb2); (try clear hk); (try clear hi); have hcz11_0 : w10.cell? ⟨gb445, 0, none⟩ = some (.slice A0_0 l0_0.length c0_0) := (blk_cell BK445.out 0).trans rfl; have hcz11_1 : w10.cell? ⟨gb445, 1, none⟩ = some (.int .i64 a0_1) := (blk_cell BK445.out 1).trans rfl; have hcz11_2 : w10.cell? ⟨gb445, 2, none⟩ = some (.int .i64 a0_2) := (blk_cell BK445.out 2).trans rfl; have hfz11_0 := blk_frozen BK445.out 0; have hfz11_1 := blk_frozen BK445.out 1; have hfz11_2 := blk_frozen BK445.out 2) | (go_at_call 8; (with_reducible refine (anamnesisref03_Small.calls k _ _ l0_0 a0_1 a0_2 true _ ?side1 ?side2 A7.out).mono ?_); (case side1 => repeat (first | exact (Kd.C_below HR0_0.out HB.out) | (with_reducible refine Kd.C_alloc ?_ _) | (with_reducible refine Kd.C_drewN ?_ _) | (with_reducible refine Kd.C_drew ?_))); (case side2 => exact HC0_0.out); rintro e w12 ⟨rfl, hb⟩; have n0_ := Aside0.mk (blk_below (g := gb445) (o := .cells #[.slice A0_0 l0_0.length c0_0, .int .i64 a0_1, .int .i64 a0_2] 24 (0, 0)) (by (with_reducible repeat (first | refine blk_drewN ?_ _ | refine blk_drew ?_ | refine blk_alloc ?_ _)); exact BK445.out) hb); have n1_ := Aside0.mk (below_step (by repeat (first | (with_reducible first | exact HB.out | apply below_alloc | apply pw_below_drewN | apply below_drew1 | refine below_set ?_ GE445.out) | exact HB.out)) hb); clear BK445; clear HB; have BK445 := n0_; have HB := n1_; clear n0_ n1_; (try clear hb); (try clear hb2); (try clear hk); (try clear hi)))
     go_meet
     case rel => exact ⟨_, (true), (by first | rfl | (simp; done) | (simp [*]; done)), H', ⟨by first | omega | exact Nat.le_refl _⟩, ⟨by (with_reducible repeat (first | refine blk_drewN ?_ _ | refine blk_drew ?_ | refine blk_alloc ?_ _)); exact BK445.out⟩, ⟨by repeat (first | (with_reducible first | exact HB.out | apply below_alloc | apply pw_below_drewN | apply below_drew1 | refine below_set ?_ GE445.out) | exact HB.out)⟩⟩
    ·rw [if_neg c9] at H
     have c9b0 : decide (64 < (l1.length : Int)) = false := decide_eq_false c9
     have c9b1 : decide (64 < l1.length) = false := decide_eq_false (by omega)
     clear c9
     (first | rw [c9b0] | (simp only [i64_w, i32_w]; rw [c9b0]) | skip)
     replace H := Option.bind_eq_some_iff.mp H
     obtain ⟨t448, A130, H⟩ := H
     replace H : (anamnesislaw08_SnapSizes.j0 k l1 (!t448) l0_0 a0_1 a0_2) = some r := H
     have A13 := Aside0.mk A130
     clear A130
     have H' := Aside0.mk H
     clear H
     go_wp2_with (first | ((with_reducible refine gate_callee (f := 9) rfl ?_); refine goesL_ (some 8) rfl rfl Try.func9 (by kernel_rfl) rfl #[] rfl (by (try simp only [List.map_toArray, List.map_cons, List.map_nil]); first | done | rfl | (simp only [List.length_drop, List.length_take]; rfl)) ?_; (with_reducible refine (anamnesislaw08_fixed.calls k  true _ A5.out).mono ?_); rintro e w14 ⟨rfl, hb⟩; refine ⟨_, rfl, ?_⟩; have n0_ := Aside0.mk (blk_below (g := gb445) (o := .cells #[.slice A0_0 l0_0.length c0_0, .int .i64 a0_1, .int .i64 a0_2] 24 (0, 0)) (by (with_reducible repeat (first | refine blk_drewN ?_ _ | refine blk_drew ?_ | refine blk_alloc ?_ _)); exact BK445.out) hb); have n1_ := Aside0.mk (below_step (by repeat (first | (with_reducible first | exact HB.out | apply below_alloc | apply pw_below_drewN | apply below_drew1 | refine below_set ?_ GE445.out) | exact HB.out)) hb); clear BK445; clear HB; have BK445 := n0_; have HB := n1_; clear n0_ n1_; (try clear hb); (try clear hb2); (try clear hk); (try clear hi); have hcz15_0 : w14.cell? ⟨gb445, 0, none⟩ = some (.slice A0_0 l0_0.length c0_0) := (blk_cell BK445.out 0).trans rfl; have hcz15_1 : w14.cell? ⟨gb445, 1, none⟩ = some (.int .i64 a0_1) := (blk_cell BK445.out 1).trans rfl; have hcz15_2 : w14.cell? ⟨gb445, 2, none⟩ = some (.int .i64 a0_2) := (blk_cell BK445.out 2).trans rfl; have hfz15_0 := blk_frozen BK445.out 0; have hfz15_1 := blk_frozen BK445.out 1; have hfz15_2 := blk_frozen BK445.out 2) | (go_at_call 8; (with_reducible refine (anamnesisref03_Small.calls k _ _ l0_0 a0_1 a0_2 true _ ?side1 ?side2 A7.out).mono ?_); (case side1 => repeat (first | exact (Kd.C_below HR0_0.out HB.out) | (with_reducible refine Kd.C_alloc ?_ _) | (with_reducible refine Kd.C_drewN ?_ _) | (with_reducible refine Kd.C_drew ?_))); (case side2 => exact HC0_0.out); rintro e w16 ⟨rfl, hb⟩; have n0_ := Aside0.mk (blk_below (g := gb445) (o := .cells #[.slice A0_0 l0_0.length c0_0, .int .i64 a0_1, .int .i64 a0_2] 24 (0, 0)) (by (with_reducible repeat (first | refine blk_drewN ?_ _ | refine blk_drew ?_ | refine blk_alloc ?_ _)); exact BK445.out) hb); have n1_ := Aside0.mk (below_step (by repeat (first | (with_reducible first | exact HB.out | apply below_alloc | apply pw_below_drewN | apply below_drew1 | refine below_set ?_ GE445.out) | exact HB.out)) hb); clear BK445; clear HB; have BK445 := n0_; have HB := n1_; clear n0_ n1_; (try clear hb); (try clear hb2); (try clear hk); (try clear hi); have hcz17_0 : w16.cell? ⟨gb445, 0, none⟩ = some (.slice A0_0 l0_0.length c0_0) := (blk_cell BK445.out 0).trans rfl; have hcz17_1 : w16.cell? ⟨gb445, 1, none⟩ = some (.int .i64 a0_1) := (blk_cell BK445.out 1).trans rfl; have hcz17_2 : w16.cell? ⟨gb445, 2, none⟩ = some (.int .i64 a0_2) := (blk_cell BK445.out 2).trans rfl; have hfz17_0 := blk_frozen BK445.out 0; have hfz17_1 := blk_frozen BK445.out 1; have hfz17_2 := blk_frozen BK445.out 2) | (go_at_call 16; (with_reducible refine (anamnesisref08_May.calls k _ _ l0_0 a0_1 a0_2 _ _ l1 t448 _ ?side1 ?side2 ?side3 ?side4 A13.out).mono ?_); (case side1 => repeat (first | exact (Kd.C_below HR0_0.out HB.out) | (with_reducible refine Kd.C_alloc ?_ _) | (with_reducible refine Kd.C_drewN ?_ _) | (with_reducible refine Kd.C_drew ?_))); (case side2 => exact HC0_0.out); (case side3 => repeat (first | exact (Kd.C_below HR1.out HB.out) | (with_reducible refine Kd.C_alloc ?_ _) | (with_reducible refine Kd.C_drewN ?_ _) | (with_reducible refine Kd.C_drew ?_))); (case side4 => exact HC1.out); rintro e w18 ⟨rfl, hb⟩; have n0_ := Aside0.mk (blk_below (g := gb445) (o := .cells #[.slice A0_0 l0_0.length c0_0, .int .i64 a0_1, .int .i64 a0_2] 24 (0, 0)) (by (with_reducible repeat (first | refine blk_drewN ?_ _ | refine blk_drew ?_ | refine blk_alloc ?_ _)); exact BK445.out) hb); have n1_ := Aside0.mk (below_step (by repeat (first | (with_reducible first | exact HB.out | apply below_alloc | apply pw_below_drewN | apply below_drew1 | refine below_set ?_ GE445.out) | exact HB.out)) hb); clear BK445; clear HB; have BK445 := n0_; have HB := n1_; clear n0_ n1_; (try clear hb); (try clear hb2); (try clear hk); (try clear hi)))
     go_meet
     case rel => exact ⟨_, (!t448), (by first | rfl | (simp; done) | (simp [*]; done)), H', ⟨by first | omega | exact Nat.le_refl _⟩, ⟨by (with_reducible repeat (first | refine blk_drewN ?_ _ | refine blk_drew ?_ | refine blk_alloc ?_ _)); exact BK445.out⟩, ⟨by repeat (first | (with_reducible first | exact HB.out | apply below_alloc | apply pw_below_drewN | apply below_drew1 | refine below_set ?_ GE445.out) | exact HB.out)⟩⟩
   ·replace c8 := Bool.eq_false_iff.mpr c8
    subst c8
    have H1 : (anamnesislaw08_SnapSizes.j0 k l1 true l0_0 a0_1 a0_2) = some r := by rw [if_neg (show ¬ (false = true) by decide)] at H; exact H
    clear H
    have H := H1
    clear H1
    have H' := Aside0.mk H
    clear H
    go_wp2_with (first | ((with_reducible refine gate_callee (f := 9) rfl ?_); refine goesL_ (some 8) rfl rfl Try.func9 (by kernel_rfl) rfl #[] rfl (by (try simp only [List.map_toArray, List.map_cons, List.map_nil]); first | done | rfl | (simp only [List.length_drop, List.length_take]; rfl)) ?_; (with_reducible refine (anamnesislaw08_fixed.calls k  true _ A5.out).mono ?_); rintro e w19 ⟨rfl, hb⟩; refine ⟨_, rfl, ?_⟩; have n0_ := Aside0.mk (blk_below (g := gb445) (o := .cells #[.slice A0_0 l0_0.length c0_0, .int .i64 a0_1, .int .i64 a0_2] 24 (0, 0)) (by (with_reducible repeat (first | refine blk_drewN ?_ _ | refine blk_drew ?_ | refine blk_alloc ?_ _)); exact BK445.out) hb); have n1_ := Aside0.mk (below_step (by repeat (first | (with_reducible first | exact HB.out | apply below_alloc | apply pw_below_drewN | apply below_drew1 | refine below_set ?_ GE445.out) | exact HB.out)) hb); clear BK445; clear HB; have BK445 := n0_; have HB := n1_; clear n0_ n1_; (try clear hb); (try clear hb2); (try clear hk); (try clear hi); have hcz20_0 : w19.cell? ⟨gb445, 0, none⟩ = some (.slice A0_0 l0_0.length c0_0) := (blk_cell BK445.out 0).trans rfl; have hcz20_1 : w19.cell? ⟨gb445, 1, none⟩ = some (.int .i64 a0_1) := (blk_cell BK445.out 1).trans rfl; have hcz20_2 : w19.cell? ⟨gb445, 2, none⟩ = some (.int .i64 a0_2) := (blk_cell BK445.out 2).trans rfl; have hfz20_0 := blk_frozen BK445.out 0; have hfz20_1 := blk_frozen BK445.out 1; have hfz20_2 := blk_frozen BK445.out 2) | (go_at_call 8; (with_reducible refine (anamnesisref03_Small.calls k _ _ l0_0 a0_1 a0_2 false _ ?side1 ?side2 A7.out).mono ?_); (case side1 => repeat (first | exact (Kd.C_below HR0_0.out HB.out) | (with_reducible refine Kd.C_alloc ?_ _) | (with_reducible refine Kd.C_drewN ?_ _) | (with_reducible refine Kd.C_drew ?_))); (case side2 => exact HC0_0.out); rintro e w21 ⟨rfl, hb⟩; have n0_ := Aside0.mk (blk_below (g := gb445) (o := .cells #[.slice A0_0 l0_0.length c0_0, .int .i64 a0_1, .int .i64 a0_2] 24 (0, 0)) (by (with_reducible repeat (first | refine blk_drewN ?_ _ | refine blk_drew ?_ | refine blk_alloc ?_ _)); exact BK445.out) hb); have n1_ := Aside0.mk (below_step (by repeat (first | (with_reducible first | exact HB.out | apply below_alloc | apply pw_below_drewN | apply below_drew1 | refine below_set ?_ GE445.out) | exact HB.out)) hb); clear BK445; clear HB; have BK445 := n0_; have HB := n1_; clear n0_ n1_; (try clear hb); (try clear hb2); (try clear hk); (try clear hi)))
    go_meet
    case rel => exact ⟨_, (true), (by first | rfl | (simp; done) | (simp [*]; done)), H', ⟨by first | omega | exact Nat.le_refl _⟩, ⟨by (with_reducible repeat (first | refine blk_drewN ?_ _ | refine blk_drew ?_ | refine blk_alloc ?_ _)); exact BK445.out⟩, ⟨by repeat (first | (with_reducible first | exact HB.out | apply below_alloc | apply pw_below_drewN | apply below_drew1 | refine below_set ?_ GE445.out) | exact HB.out)⟩⟩
  ·replace c6 := Bool.eq_false_iff.mpr c6
   subst c6
   have H1 : (anamnesislaw08_SnapSizes.j0 k l1 true l0_0 a0_1 a0_2) = some r := by rw [if_neg (show ¬ (false = true) by decide)] at H; exact H
   clear H
   have H := H1
   clear H1
   have H' := Aside0.mk H
   clear H
   go_wp2_with (first | ((with_reducible refine gate_callee (f := 9) rfl ?_); refine goesL_ (some 8) rfl rfl Try.func9 (by kernel_rfl) rfl #[] rfl (by (try simp only [List.map_toArray, List.map_cons, List.map_nil]); first | done | rfl | (simp only [List.length_drop, List.length_take]; rfl)) ?_; (with_reducible refine (anamnesislaw08_fixed.calls k  false _ A5.out).mono ?_); rintro e w22 ⟨rfl, hb⟩; refine ⟨_, rfl, ?_⟩; have n0_ := Aside0.mk (blk_below (g := gb445) (o := .cells #[.slice A0_0 l0_0.length c0_0, .int .i64 a0_1, .int .i64 a0_2] 24 (0, 0)) (by (with_reducible repeat (first | refine blk_drewN ?_ _ | refine blk_drew ?_ | refine blk_alloc ?_ _)); exact BK445.out) hb); have n1_ := Aside0.mk (below_step (by repeat (first | (with_reducible first | exact HB.out | apply below_alloc | apply pw_below_drewN | apply below_drew1 | refine below_set ?_ GE445.out) | exact HB.out)) hb); clear BK445; clear HB; have BK445 := n0_; have HB := n1_; clear n0_ n1_; (try clear hb); (try clear hb2); (try clear hk); (try clear hi)))
   go_meet
   case rel => exact ⟨_, (true), (by first | rfl | (simp; done) | (simp [*]; done)), H', ⟨by first | omega | exact Nat.le_refl _⟩, ⟨by (with_reducible repeat (first | refine blk_drewN ?_ _ | refine blk_drew ?_ | refine blk_alloc ?_ _)); exact BK445.out⟩, ⟨by repeat (first | (with_reducible first | exact HB.out | apply below_alloc | apply pw_below_drewN | apply below_drew1 | refine below_set ?_ GE445.out) | exact HB.out)⟩⟩
 case rest =>
  clear HC3
  try clear c1
  try clear p2
  try clear c6
  try clear c8
  try clear c9
  try clear c9b0
  try clear c9b1
  try clear hcz11_0
  try clear hcz11_1
  try clear hcz11_2
  try clear hcz15_0
  try clear hcz15_1
  try clear hcz15_2
  try clear hcz17_0
  try clear hcz17_1
  try clear hcz17_2
  try clear hcz20_0
  try clear hcz20_1
  try clear hcz20_2
  try clear hfz11_0
  try clear hfz11_1
  try clear hfz11_2
  try clear hfz15_0
  try clear hfz15_1
  try clear hfz15_2
  try clear hfz17_0
  try clear hfz17_1
  try clear hfz17_2
  try clear hfz20_0
  try clear hfz20_1
  try clear hfz20_2
  obtain ⟨kq, x25_2, rfl, HA, HJ2, BK445, HB⟩ := hcut
  cases kq with
  | zero => exact absurd HA.out (by simp [anamnesislaw08_SnapSizes.j0])
  | succ kj2 =>
   have H := HA.out
   clear HA
   simp only [anamnesislaw08_SnapSizes.j0] at H
   by_cases c23 : x25_2 = true
   ·subst c23
    have H1 : ((anamnesislaw08_fixed.f kj2).bind fun t449 => (some t449)) = some r := by rw [if_pos rfl] at H; exact H
    clear H
    have H := H1
    clear H1
    replace H := Option.bind_eq_some_iff.mp H
    obtain ⟨t449, A240, H⟩ := H
    replace H : (some t449) = some r := H
    have A24 := Aside0.mk A240
    clear A240
    obtain rfl := Option.some.inj H
    go_wp2_with (first | ((with_reducible refine gate_callee (f := 9) rfl ?_); refine goesL_ (some 26) rfl rfl Try.func9 (by kernel_rfl) rfl #[] rfl (by (try simp only [List.map_toArray, List.map_cons, List.map_nil]); first | done | rfl | (simp only [List.length_drop, List.length_take]; rfl)) ?_; (with_reducible refine (anamnesislaw08_fixed.calls kj2  t449 _ A24.out).mono ?_); rintro e w25 ⟨rfl, hb⟩; refine ⟨_, rfl, ?_⟩; have n0_ := Aside0.mk (blk_below (g := gb445) (o := .cells #[.slice A0_0 l0_0.length c0_0, .int .i64 a0_1, .int .i64 a0_2] 24 (0, 0)) (by (with_reducible repeat (first | refine blk_drewN ?_ _ | refine blk_drew ?_ | refine blk_alloc ?_ _)); exact BK445.out) hb); have n1_ := Aside0.mk (below_step (by repeat (first | (with_reducible first | exact HB.out | apply below_alloc | apply pw_below_drewN | apply below_drew1 | refine below_set ?_ GE445.out) | exact HB.out)) hb); clear BK445; clear HB; have BK445 := n0_; have HB := n1_; clear n0_ n1_; (try clear hb); (try clear hb2); (try clear hk); (try clear hi)))
    go_ret
    exact ⟨by first | rfl | (simp [errW_none, errW_some] <;> rfl) | (simp [*, errW_none, errW_some] <;> rfl), by repeat (first | (with_reducible first | exact HB.out | apply below_alloc | apply pw_below_drewN | apply below_drew1 | refine below_set ?_ GE445.out) | exact HB.out)⟩
   ·replace c23 := Bool.eq_false_iff.mpr c23
    subst c23
    have H1 : (anamnesislaw08_SnapSizes.l0 kj2 l1 (wrap64 (23 + (wrap64 (4 * (l1.length : Int))))) 0 l0_0 a0_1 a0_2) = some r := by rw [if_neg (show ¬ (false = true) by decide)] at H; exact H
    clear H
    have H := H1
    clear H1
    have H' := Aside0.mk H
    clear H
    go_wp2
    go_loopg [5, 6] kj2 (fun kq v5 v6 w' => ∃ (x5_2 : Int) (x6_2 : Int), v5 = .int .i64 x5_2 ∧ v6 = .int .i64 x6_2 ∧ Aside0 (anamnesislaw08_SnapSizes.l0 kq l1 x5_2 x6_2 l0_0 a0_1 a0_2 = some r) ∧ Aside0 (kq ≤ kj2) ∧ Aside0 (w'.heap[gb445]? = some (.cells #[(.slice A0_0 l0_0.length c0_0), .int .i64 a0_1, .int .i64 a0_2] 24 (0, 0))) ∧ Aside0 (Below w.heap.size w w'))
    case atStart => exact ⟨(wrap64 (23 + (wrap64 (4 * (l1.length : Int))))), (0), (by first | rfl | (simp; done) | (simp [*]; done)), (by first | rfl | (simp; done) | (simp [*]; done)), H', ⟨Nat.le_refl _⟩, ⟨by (with_reducible repeat (first | refine blk_drewN ?_ _ | refine blk_drew ?_ | refine blk_alloc ?_ _)); exact BK445.out⟩, ⟨by repeat (first | (with_reducible first | exact HB.out | apply below_alloc | apply pw_below_drewN | apply below_drew1 | refine below_set ?_ GE445.out) | exact HB.out)⟩⟩
    case round =>
     clear H'
     try clear c1
     try clear c2
     try clear p2
     try clear c6
     try clear p6
     try clear c8
     try clear c9
     try clear c9b0
     try clear c9b1
     try clear c23
     try clear hcz11_0
     try clear hcz11_1
     try clear hcz11_2
     try clear hcz15_0
     try clear hcz15_1
     try clear hcz15_2
     try clear hcz17_0
     try clear hcz17_1
     try clear hcz17_2
     try clear hcz20_0
     try clear hcz20_1
     try clear hcz20_2
     try clear hfz11_0
     try clear hfz11_1
     try clear hfz11_2
     try clear hfz15_0
     try clear hfz15_1
     try clear hfz15_2
     try clear hfz17_0
     try clear hfz17_1
     try clear hfz17_2
     try clear hfz20_0
     try clear hfz20_1
     try clear hfz20_2
     try clear p2
     obtain ⟨x5_2, x6_2, rfl, rfl, HA, HK2, BK445, HB⟩ := hrel
     cases gk with
     | zero => exact absurd HA.out (by simp [anamnesislaw08_SnapSizes.l0])
     | succ k2 =>
      have H := HA.out
      clear HA
      simp only [anamnesislaw08_SnapSizes.l0] at H
      by_cases c26 : x6_2 < (l0_0.length : Int)
      ·rw [if_pos c26] at H
       have c26b0 : decide (x6_2 < (l0_0.length : Int)) = true := decide_eq_true c26
       clear c26
       by_cases c27 : 0 ≤ x6_2
       ·rw [if_pos c27] at H
        have c27b0 : decide (0 ≤ x6_2) = true := decide_eq_true c27
        clear c27
        by_cases c28 : ((rd_T41 l0_0 x6_2).f1) = 2
        ·rw [if_pos c28] at H
         have c28b0 : (((rd_T41 l0_0 x6_2).f1) == 2) = true := beq_iff_eq.mpr c28
         have c28b1 : (((rd_T41 l0_0 x6_2).f1) != 2) = false := bne_eq_false_iff_eq.mpr c28
         clear c28
         have H' := Aside0.mk H
         clear H
         have hcz29_0 : wr.cell? ⟨gb445, 0, none⟩ = some (.slice A0_0 l0_0.length c0_0) := (blk_cell BK445.out 0).trans rfl
         have hcz29_1 : wr.cell? ⟨gb445, 1, none⟩ = some (.int .i64 a0_1) := (blk_cell BK445.out 1).trans rfl
         have hcz29_2 : wr.cell? ⟨gb445, 2, none⟩ = some (.int .i64 a0_2) := (blk_cell BK445.out 2).trans rfl
         have hfz29_0 := blk_frozen BK445.out 0
         have hfz29_1 := blk_frozen BK445.out 1
         have hfz29_2 := blk_frozen BK445.out 2
         have p450 : 0 ≤ (x6_2 : Int) := of_decide_eq_true (by first | (with_reducible assumption) | assumption)
         have q450 : x6_2 < (l0_0.length : Int) := of_decide_eq_true (by first | (with_reducible assumption) | assumption)
         obtain ⟨ad450, A450_2, c450_2, e450, hx450_0, hx450_1, hx450_2, hx450_3, hx450_4, hx450_5, hl450_2, hi450_2⟩ := at_T41 HR0_0.out x6_2 p450 q450
         cases e450
         replace hx450_0 := (HB.out.cell (World.block_lt_of_cell? w _ hx450_0)).trans hx450_0
         replace hx450_1 := (HB.out.cell (World.block_lt_of_cell? w _ hx450_1)).trans hx450_1
         replace hx450_2 := (HB.out.cell (World.block_lt_of_cell? w _ hx450_2)).trans hx450_2
         replace hx450_3 := (HB.out.cell (World.block_lt_of_cell? w _ hx450_3)).trans hx450_3
         replace hx450_4 := (HB.out.cell (World.block_lt_of_cell? w _ hx450_4)).trans hx450_4
         replace hx450_5 := (HB.out.cell (World.block_lt_of_cell? w _ hx450_5)).trans hx450_5
         have HR450_2 := Aside0.mk hi450_2
         have HC450_2 := Aside0.mk hl450_2
         clear hi450_2 hl450_2
         replace p450 := eq_true p450
         replace q450 := eq_true q450
         go_wp2_with (first | ((with_reducible refine gate_dst (N := 7) rfl ?_); (try (refine gate_guard (by rfl) ?_; dsimp only)); refine box_event ?hg (N := 7) ?hd (cs := #[.int .i64 0, .int .i64 0, .slice none 0 0, .string (⟨#[]⟩ : ByteArray), .int .i64 0, .int .i64 0]) (t := 41) ?hr ?_; (case hd => rfl); (case hg => rfl); (case hr => first | (go_simp; done) | (go_simp; rfl)); intro gb451 hg w30 hbox hb; have n0_ := Aside0.mk (blk_below (g := gb445) (o := .cells #[.slice (some ad450) l0_0.length c0_0, .int .i64 a0_1, .int .i64 a0_2] 24 (0, 0)) (by (with_reducible repeat (first | refine blk_drewN ?_ _ | refine blk_drew ?_ | refine blk_alloc ?_ _)); exact BK445.out) hb); have n1_ := Aside0.mk (below_step (by repeat (first | (with_reducible first | exact HB.out | apply below_alloc | apply pw_below_drewN | apply below_drew1 | refine below_set ?_ GE445.out) | exact HB.out)) hb); have n2_ := Aside0.mk (hbox); have n3_ := Aside0.mk ((by rw [hg]; exact (below_size (by repeat (first | (with_reducible first | exact HB.out | apply below_alloc | apply pw_below_drewN | apply below_drew1 | refine below_set ?_ GE445.out) | exact HB.out))) : w.heap.size ≤ gb451)); have n4_ := Aside0.mk ((by rw [hg]; exact (below_size (by repeat (first | (with_reducible first | exact HB.out | apply below_alloc | apply pw_below_drewN | apply below_drew1 | refine below_set ?_ GE445.out) | exact HB.out))) : w.heap.size ≤ gb451)); have n5_ := Aside0.mk ((by rw [hg]; exact Nat.ne_of_lt (blk_lt (g := gb445) (o := .cells #[.slice (some ad450) l0_0.length c0_0, .int .i64 a0_1, .int .i64 a0_2] 24 (0, 0)) (by (with_reducible repeat (first | refine blk_drewN ?_ _ | refine blk_drew ?_ | refine blk_alloc ?_ _)); exact BK445.out)) : gb445 ≠ gb451)); have n6_ := Aside0.mk ((by rw [hg]; exact Nat.ne_of_gt (blk_lt (g := gb445) (o := .cells #[.slice (some ad450) l0_0.length c0_0, .int .i64 a0_1, .int .i64 a0_2] 24 (0, 0)) (by (with_reducible repeat (first | refine blk_drewN ?_ _ | refine blk_drew ?_ | refine blk_alloc ?_ _)); exact BK445.out)) : gb451 ≠ gb445)); clear BK445; clear HB; have BK445 := n0_; have HB := n1_; have BK451 := n2_; have GW451 := n3_; have GE451 := n4_; have NB445_451 := n5_; have NB451_445 := n6_; clear n0_ n1_ n2_ n3_ n4_ n5_ n6_; clear hb hbox hg; have hnb31 := NB451_445.out; have hnc31 := NB445_451.out; have hcz32_0 : w30.cell? ⟨gb451, 0, none⟩ = some (.int .i64 0) := (blk_cell BK451.out 0).trans rfl; have hcz32_1 : w30.cell? ⟨gb451, 1, none⟩ = some (.int .i64 0) := (blk_cell BK451.out 1).trans rfl; have hcz32_2 : w30.cell? ⟨gb451, 2, none⟩ = some (.slice none 0 0) := (blk_cell BK451.out 2).trans rfl; have hcz32_3 : w30.cell? ⟨gb451, 3, none⟩ = some (.string (⟨#[]⟩ : ByteArray)) := (blk_cell BK451.out 3).trans rfl; have hcz32_4 : w30.cell? ⟨gb451, 4, none⟩ = some (.int .i64 0) := (blk_cell BK451.out 4).trans rfl; have hcz32_5 : w30.cell? ⟨gb451, 5, none⟩ = some (.int .i64 0) := (blk_cell BK451.out 5).trans rfl; have hfz32_0 := blk_frozen BK451.out 0; have hfz32_1 := blk_frozen BK451.out 1; have hfz32_2 := blk_frozen BK451.out 2; have hfz32_3 := blk_frozen BK451.out 3; have hfz32_4 := blk_frozen BK451.out 4; have hfz32_5 := blk_frozen BK451.out 5))
         go_roundg k2
         case measure => have := HJ2.out; have := HK2.out; omega
         case rel => exact ⟨(wrap64 ((wrap64 (x5_2 + (wrap64 ((wrap64 (16 + (wrap64 (4 * (((rd_T41 l0_0 x6_2).f2).length : Int))))) + (((rd_T41 l0_0 x6_2).f3).size : Int))))) + 4)), (wrap64 (x6_2 + 1)), (by first | rfl | (simp; done) | (simp [*]; done)), (by first | rfl | (simp; done) | (simp [*]; done)), H', ⟨by have := HJ2.out; have := HK2.out; omega⟩, ⟨by (with_reducible repeat (first | refine blk_drewN ?_ _ | refine blk_drew ?_ | refine blk_alloc ?_ _)); refine blk_far ?_ NB445_451.out _; (with_reducible repeat (first | refine blk_drewN ?_ _ | refine blk_drew ?_ | refine blk_alloc ?_ _)); refine blk_far ?_ NB445_451.out _; (with_reducible repeat (first | refine blk_drewN ?_ _ | refine blk_drew ?_ | refine blk_alloc ?_ _)); refine blk_far ?_ NB445_451.out _; (with_reducible repeat (first | refine blk_drewN ?_ _ | refine blk_drew ?_ | refine blk_alloc ?_ _)); refine blk_far ?_ NB445_451.out _; (with_reducible repeat (first | refine blk_drewN ?_ _ | refine blk_drew ?_ | refine blk_alloc ?_ _)); refine blk_far ?_ NB445_451.out _; (with_reducible repeat (first | refine blk_drewN ?_ _ | refine blk_drew ?_ | refine blk_alloc ?_ _)); refine blk_far ?_ NB445_451.out _; (with_reducible repeat (first | refine blk_drewN ?_ _ | refine blk_drew ?_ | refine blk_alloc ?_ _)); exact BK445.out⟩, ⟨by repeat (first | (with_reducible first | exact HB.out | apply below_alloc | apply pw_below_drewN | apply below_drew1 | refine below_set ?_ GE445.out | refine below_set ?_ GE451.out) | exact HB.out)⟩⟩
        ·rw [if_neg c28] at H
         have c28b0 : (((rd_T41 l0_0 x6_2).f1) == 2) = false := beq_eq_false_iff_ne.mpr c28
         have c28b1 : (((rd_T41 l0_0 x6_2).f1) != 2) = true := bne_iff_ne.mpr c28
         have H' := Aside0.mk H
         clear H
         have hcz33_0 : wr.cell? ⟨gb445, 0, none⟩ = some (.slice A0_0 l0_0.length c0_0) := (blk_cell BK445.out 0).trans rfl
         have hcz33_1 : wr.cell? ⟨gb445, 1, none⟩ = some (.int .i64 a0_1) := (blk_cell BK445.out 1).trans rfl
         have hcz33_2 : wr.cell? ⟨gb445, 2, none⟩ = some (.int .i64 a0_2) := (blk_cell BK445.out 2).trans rfl
         have hfz33_0 := blk_frozen BK445.out 0
         have hfz33_1 := blk_frozen BK445.out 1
         have hfz33_2 := blk_frozen BK445.out 2
         have p450 : 0 ≤ (x6_2 : Int) := of_decide_eq_true (by first | (with_reducible assumption) | assumption)
         have q450 : x6_2 < (l0_0.length : Int) := of_decide_eq_true (by first | (with_reducible assumption) | assumption)
         obtain ⟨ad450, A450_2, c450_2, e450, hx450_0, hx450_1, hx450_2, hx450_3, hx450_4, hx450_5, hl450_2, hi450_2⟩ := at_T41 HR0_0.out x6_2 p450 q450
         cases e450
         replace hx450_0 := (HB.out.cell (World.block_lt_of_cell? w _ hx450_0)).trans hx450_0
         replace hx450_1 := (HB.out.cell (World.block_lt_of_cell? w _ hx450_1)).trans hx450_1
         replace hx450_2 := (HB.out.cell (World.block_lt_of_cell? w _ hx450_2)).trans hx450_2
         replace hx450_3 := (HB.out.cell (World.block_lt_of_cell? w _ hx450_3)).trans hx450_3
         replace hx450_4 := (HB.out.cell (World.block_lt_of_cell? w _ hx450_4)).trans hx450_4
         replace hx450_5 := (HB.out.cell (World.block_lt_of_cell? w _ hx450_5)).trans hx450_5
         have HR450_2 := Aside0.mk hi450_2
         have HC450_2 := Aside0.mk hl450_2
         clear hi450_2 hl450_2
         replace p450 := eq_true p450
         replace q450 := eq_true q450
         go_wp2_with (first | ((with_reducible refine gate_dst (N := 7) rfl ?_); (try (refine gate_guard (by rfl) ?_; dsimp only)); refine box_event ?hg (N := 7) ?hd (cs := #[.int .i64 0, .int .i64 0, .slice none 0 0, .string (⟨#[]⟩ : ByteArray), .int .i64 0, .int .i64 0]) (t := 41) ?hr ?_; (case hd => rfl); (case hg => rfl); (case hr => first | (go_simp; done) | (go_simp; rfl)); intro gb451 hg w34 hbox hb; have n0_ := Aside0.mk (blk_below (g := gb445) (o := .cells #[.slice (some ad450) l0_0.length c0_0, .int .i64 a0_1, .int .i64 a0_2] 24 (0, 0)) (by (with_reducible repeat (first | refine blk_drewN ?_ _ | refine blk_drew ?_ | refine blk_alloc ?_ _)); exact BK445.out) hb); have n1_ := Aside0.mk (below_step (by repeat (first | (with_reducible first | exact HB.out | apply below_alloc | apply pw_below_drewN | apply below_drew1 | refine below_set ?_ GE445.out) | exact HB.out)) hb); have n2_ := Aside0.mk (hbox); have n3_ := Aside0.mk ((by rw [hg]; exact (below_size (by repeat (first | (with_reducible first | exact HB.out | apply below_alloc | apply pw_below_drewN | apply below_drew1 | refine below_set ?_ GE445.out) | exact HB.out))) : w.heap.size ≤ gb451)); have n4_ := Aside0.mk ((by rw [hg]; exact (below_size (by repeat (first | (with_reducible first | exact HB.out | apply below_alloc | apply pw_below_drewN | apply below_drew1 | refine below_set ?_ GE445.out) | exact HB.out))) : w.heap.size ≤ gb451)); have n5_ := Aside0.mk ((by rw [hg]; exact Nat.ne_of_lt (blk_lt (g := gb445) (o := .cells #[.slice (some ad450) l0_0.length c0_0, .int .i64 a0_1, .int .i64 a0_2] 24 (0, 0)) (by (with_reducible repeat (first | refine blk_drewN ?_ _ | refine blk_drew ?_ | refine blk_alloc ?_ _)); exact BK445.out)) : gb445 ≠ gb451)); have n6_ := Aside0.mk ((by rw [hg]; exact Nat.ne_of_gt (blk_lt (g := gb445) (o := .cells #[.slice (some ad450) l0_0.length c0_0, .int .i64 a0_1, .int .i64 a0_2] 24 (0, 0)) (by (with_reducible repeat (first | refine blk_drewN ?_ _ | refine blk_drew ?_ | refine blk_alloc ?_ _)); exact BK445.out)) : gb451 ≠ gb445)); clear BK445; clear HB; have BK445 := n0_; have HB := n1_; have BK451 := n2_; have GW451 := n3_; have GE451 := n4_; have NB445_451 := n5_; have NB451_445 := n6_; clear n0_ n1_ n2_ n3_ n4_ n5_ n6_; clear hb hbox hg; have hnb35 := NB451_445.out; have hnc35 := NB445_451.out; have hcz36_0 : w34.cell? ⟨gb451, 0, none⟩ = some (.int .i64 0) := (blk_cell BK451.out 0).trans rfl; have hcz36_1 : w34.cell? ⟨gb451, 1, none⟩ = some (.int .i64 0) := (blk_cell BK451.out 1).trans rfl; have hcz36_2 : w34.cell? ⟨gb451, 2, none⟩ = some (.slice none 0 0) := (blk_cell BK451.out 2).trans rfl; have hcz36_3 : w34.cell? ⟨gb451, 3, none⟩ = some (.string (⟨#[]⟩ : ByteArray)) := (blk_cell BK451.out 3).trans rfl; have hcz36_4 : w34.cell? ⟨gb451, 4, none⟩ = some (.int .i64 0) := (blk_cell BK451.out 4).trans rfl; have hcz36_5 : w34.cell? ⟨gb451, 5, none⟩ = some (.int .i64 0) := (blk_cell BK451.out 5).trans rfl; have hfz36_0 := blk_frozen BK451.out 0; have hfz36_1 := blk_frozen BK451.out 1; have hfz36_2 := blk_frozen BK451.out 2; have hfz36_3 := blk_frozen BK451.out 3; have hfz36_4 := blk_frozen BK451.out 4; have hfz36_5 := blk_frozen BK451.out 5))
         go_roundg k2
         case measure => have := HJ2.out; have := HK2.out; omega
         case rel => exact ⟨(wrap64 (x5_2 + (wrap64 ((wrap64 (16 + (wrap64 (4 * (((rd_T41 l0_0 x6_2).f2).length : Int))))) + (((rd_T41 l0_0 x6_2).f3).size : Int))))), (wrap64 (x6_2 + 1)), (by first | rfl | (simp; done) | (simp [*]; done)), (by first | rfl | (simp; done) | (simp [*]; done)), H', ⟨by have := HJ2.out; have := HK2.out; omega⟩, ⟨by (with_reducible repeat (first | refine blk_drewN ?_ _ | refine blk_drew ?_ | refine blk_alloc ?_ _)); refine blk_far ?_ NB445_451.out _; (with_reducible repeat (first | refine blk_drewN ?_ _ | refine blk_drew ?_ | refine blk_alloc ?_ _)); refine blk_far ?_ NB445_451.out _; (with_reducible repeat (first | refine blk_drewN ?_ _ | refine blk_drew ?_ | refine blk_alloc ?_ _)); refine blk_far ?_ NB445_451.out _; (with_reducible repeat (first | refine blk_drewN ?_ _ | refine blk_drew ?_ | refine blk_alloc ?_ _)); refine blk_far ?_ NB445_451.out _; (with_reducible repeat (first | refine blk_drewN ?_ _ | refine blk_drew ?_ | refine blk_alloc ?_ _)); refine blk_far ?_ NB445_451.out _; (with_reducible repeat (first | refine blk_drewN ?_ _ | refine blk_drew ?_ | refine blk_alloc ?_ _)); refine blk_far ?_ NB445_451.out _; (with_reducible repeat (first | refine blk_drewN ?_ _ | refine blk_drew ?_ | refine blk_alloc ?_ _)); exact BK445.out⟩, ⟨by repeat (first | (with_reducible first | exact HB.out | apply below_alloc | apply pw_below_drewN | apply below_drew1 | refine below_set ?_ GE445.out | refine below_set ?_ GE451.out) | exact HB.out)⟩⟩
       ·rw [if_neg c27] at H
        exact absurd H (by simp)
      ·rw [if_neg c26] at H
       have c26b0 : decide (x6_2 < (l0_0.length : Int)) = false := decide_eq_false c26
       clear c26
       replace H := Option.bind_eq_some_iff.mp H
       obtain ⟨t452, A370, H⟩ := H
       replace H : (some ((t452.size : Int) == x5_2)) = some r := H
       have A37 := Aside0.mk A370
       clear A370
       obtain rfl := Option.some.inj H
       have hcz38_0 : wr.cell? ⟨gb445, 0, none⟩ = some (.slice A0_0 l0_0.length c0_0) := (blk_cell BK445.out 0).trans rfl
       have hcz38_1 : wr.cell? ⟨gb445, 1, none⟩ = some (.int .i64 a0_1) := (blk_cell BK445.out 1).trans rfl
       have hcz38_2 : wr.cell? ⟨gb445, 2, none⟩ = some (.int .i64 a0_2) := (blk_cell BK445.out 2).trans rfl
       have hfz38_0 := blk_frozen BK445.out 0
       have hfz38_1 := blk_frozen BK445.out 1
       have hfz38_2 := blk_frozen BK445.out 2
       go_wp2_with (first | ((with_reducible refine gate_callee (f := 12) rfl ?_); refine goesL_ (some 61) rfl rfl Try.func12 (by kernel_rfl) rfl #[.agg #[.slice A0_0 l0_0.length c0_0, .int .i64 a0_1, .int .i64 a0_2], .slice A1 l1.length c1] rfl (by (try simp only [List.map_toArray, List.map_cons, List.map_nil]); first | done | rfl | (simp only [List.length_drop, List.length_take]; rfl)) ?_; (with_reducible refine (snap_Encode.calls k2 _ _ l0_0 a0_1 a0_2 _ _ l1 t452 _ ?side1 ?side2 ?side3 ?side4 A37.out).mono ?_); (case side1 => repeat (first | exact (Kd.C_below HR0_0.out HB.out) | (with_reducible refine Kd.C_alloc ?_ _) | (with_reducible refine Kd.C_drewN ?_ _) | (with_reducible refine Kd.C_drew ?_))); (case side2 => exact HC0_0.out); (case side3 => repeat (first | exact (Kd.C_below HR1.out HB.out) | (with_reducible refine Kd.C_alloc ?_ _) | (with_reducible refine Kd.C_drewN ?_ _) | (with_reducible refine Kd.C_drew ?_))); (case side4 => exact HC1.out); rintro e w39 ⟨rfl, hb⟩; refine ⟨_, rfl, ?_⟩; have n0_ := Aside0.mk (blk_below (g := gb445) (o := .cells #[.slice A0_0 l0_0.length c0_0, .int .i64 a0_1, .int .i64 a0_2] 24 (0, 0)) (by (with_reducible repeat (first | refine blk_drewN ?_ _ | refine blk_drew ?_ | refine blk_alloc ?_ _)); exact BK445.out) hb); have n1_ := Aside0.mk (below_step (by repeat (first | (with_reducible first | exact HB.out | apply below_alloc | apply pw_below_drewN | apply below_drew1 | refine below_set ?_ GE445.out) | exact HB.out)) hb); clear BK445; clear HB; have BK445 := n0_; have HB := n1_; clear n0_ n1_; (try clear hb); (try clear hb2); (try clear hk); (try clear hi)))
       go_ret
       exact ⟨by first | rfl | (simp [errW_none, errW_some] <;> rfl) | (simp [*, errW_none, errW_some] <;> rfl), by repeat (first | (with_reducible first | exact HB.out | apply below_alloc | apply pw_below_drewN | apply below_drew1 | refine below_set ?_ GE445.out) | exact HB.out)⟩
end Go.Proofs.Ytednpcfhefibdaa.PSnap
