import Derived.Test.YtlmejfcfdhinlaaPMovex0
import Derived.Test.YtlmejfcfdhinlaaPMovex1
import Derived.Test.YtlmejfcfdhinlaaPMovex5
import Derived.Test.YtlmejfcfdhinlaaPMovex8
import Derived.Test.YtlmejfcfdhinlaaPMovex10
import Derived.Test.YtlmejfcfdhinlaaPMovex12
namespace Go.Proofs.Ytlmejfcfdhinlaa.PMove
open Go.RowKit Go.Proofs.YtlmejfcfdhinlaaW.PrintWords Go.Proofs.YtlmejfcfdhinlaaW.PrintLast Go.Proofs.YtlmejfcfdhinlaaW.PrintMore
attribute [local go_sem] max2_int min2_int max_two min_two max_three min_three max_four min_four
set_option linter.unusedVariables false
set_option linter.unusedSimpArgs false
attribute [local go_sem] setCell_drewN
mutual
def anamnesislaw05_MoveRoom.j0 : Nat → List Int → Bool → List (S44) → Int → Int → Option (Bool)
 | 0, _, _, _, _, _ => none
 | k + 1, x1, x35, x495000, x495001, x495002 => if x35 = true then ((anamnesislaw05_fixed.f k).bind fun t498 => (some t498)) else ((anamnesisref04_Live.f k x495000 x495001 x495002 x1).bind fun bt499 => ((move_Compact.f k x495000 x495001 x495002 x1).bind fun bt503 => (if bt503.2.2.2.2 = bt499.2 then (if (bt503.1.length : Int) = (bt499.1.length : Int) then (anamnesislaw05_MoveRoom.l0 k bt499.1 bt503.2.2.2.2 0 x495000 x495001 x495002 bt503.1 bt503.2.1 bt503.2.2.1) else (none)) else (none))))
def anamnesislaw05_MoveRoom.l0 : Nat → List Int → Int → Int → List (S44) → Int → Int → List (S44) → Int → Int → Option (Bool)
 | 0, _, _, _, _, _, _, _, _, _ => none
 | k + 1, x5, x9, x10, x495000, x495001, x495002, x513000, x513001, x513002 => if x10 < (x5.length : Int) then (if 0 ≤ x10 then (if 0 ≤ (rd x5 x10) then (if (rd x5 x10) < (x495000.length : Int) then (if x10 < (x513000.length : Int) then (if ((rd_T44 x495000 (rd x5 x10)).f1) = ((rd_T44 x513000 x10).f1) then (if ((rd_T44 x495000 (rd x5 x10)).f3).toList = ((rd_T44 x513000 x10).f3).toList then (if ((rd_T44 x495000 (rd x5 x10)).f4) = ((rd_T44 x513000 x10).f4) then (if ((rd_T44 x495000 (rd x5 x10)).f5) = ((rd_T44 x513000 x10).f5) then (if (((rd_T44 x495000 (rd x5 x10)).f2).length : Int) = (((rd_T44 x513000 x10).f2).length : Int) then (anamnesislaw05_MoveRoom.l0 k x5 x9 (wrap64 (x10 + 1)) x495000 x495001 x495002 x513000 x513001 x513002) else (none)) else (none)) else (none)) else (none)) else (none)) else (none)) else (none)) else (none)) else (none)) else (if x9 = 0 then (if x513001 = x495001 then (some (x513002 == x495002)) else (none)) else (some true))
end
def anamnesislaw05_MoveRoom.f (k : Nat) (l0_0 : List (S44)) (a0_1 : Int) (a0_2 : Int) (l1 : List Int) : Option (Bool) := (anamnesislaw05_fixed.f k).bind fun t495 => (if t495 = true then ((anamnesisref03_Small.f k l0_0 a0_1 a0_2).bind fun t496 => (if t496 = true then ((anamnesisref03_May.f k l0_0 a0_1 a0_2).bind fun t497 => (if t497 = true then (if (l0_0.length : Int) > 40 then (anamnesislaw05_MoveRoom.j0 k l1 true l0_0 a0_1 a0_2) else (anamnesislaw05_MoveRoom.j0 k l1 (decide ((l1.length : Int) > 100)) l0_0 a0_1 a0_2)) else (anamnesislaw05_MoveRoom.j0 k l1 true l0_0 a0_1 a0_2))) else (anamnesislaw05_MoveRoom.j0 k l1 true l0_0 a0_1 a0_2))) else (anamnesislaw05_MoveRoom.j0 k l1 true l0_0 a0_1 a0_2))
theorem anamnesislaw05_MoveRoom.mono_l : ∀ k, (∀ y0 y1 y2 y3 y4, LeO (anamnesislaw05_MoveRoom.j0 k y0 y1 y2 y3 y4) (anamnesislaw05_MoveRoom.j0 (k + 1) y0 y1 y2 y3 y4)) ∧ (∀ y0 y1 y2 y3 y4 y5 y6 y7 y8, LeO (anamnesislaw05_MoveRoom.l0 k y0 y1 y2 y3 y4 y5 y6 y7 y8) (anamnesislaw05_MoveRoom.l0 (k + 1) y0 y1 y2 y3 y4 y5 y6 y7 y8))
 | 0 => ⟨fun _ _ _ _ _ r h => by simp [anamnesislaw05_MoveRoom.j0] at h, fun _ _ _ _ _ _ _ _ _ r h => by simp [anamnesislaw05_MoveRoom.l0] at h⟩
 | k + 1 => by
  obtain ⟨ih0, ih1⟩ := anamnesislaw05_MoveRoom.mono_l k
  refine ⟨?_, ?_⟩
  ·intro y0 y1 y2 y3 y4
   unfold anamnesislaw05_MoveRoom.j0
   repeat' first
   | (with_reducible exact ih0 _ _ _ _ _)
   | (with_reducible exact ih1 _ _ _ _ _ _ _ _ _)
   | (with_reducible exact anamnesislaw05_fixed.mono _)
   | (with_reducible exact anamnesisref03_May.mono _ _ _ _)
   | (with_reducible exact anamnesisref03_Small.mono _ _ _ _)
   | (with_reducible exact anamnesisref04_Live.mono _ _ _ _ _)
   | (with_reducible exact move_Compact.mono _ _ _ _ _)
   | (with_reducible exact LeO.refl _)
   | (with_reducible exact LeO.none _)
   | (with_reducible refine LeO.ite ?_ ?_)
   | (with_reducible refine LeO.bind ?_ (fun _ => ?_))
   | exact ih0 _ _ _ _ _
   | exact ih1 _ _ _ _ _ _ _ _ _
   | exact anamnesislaw05_fixed.mono _
   | exact anamnesisref03_May.mono _ _ _ _
   | exact anamnesisref03_Small.mono _ _ _ _
   | exact anamnesisref04_Live.mono _ _ _ _ _
   | exact move_Compact.mono _ _ _ _ _
   | exact LeO.none _
   | refine LeO.ite ?_ ?_
   | refine LeO.bind ?_ (fun _ => ?_)
  ·intro y0 y1 y2 y3 y4 y5 y6 y7 y8
   unfold anamnesislaw05_MoveRoom.l0
   repeat' first
   | (with_reducible exact ih0 _ _ _ _ _)
   | (with_reducible exact ih1 _ _ _ _ _ _ _ _ _)
   | (with_reducible exact anamnesislaw05_fixed.mono _)
   | (with_reducible exact anamnesisref03_May.mono _ _ _ _)
   | (with_reducible exact anamnesisref03_Small.mono _ _ _ _)
   | (with_reducible exact anamnesisref04_Live.mono _ _ _ _ _)
   | (with_reducible exact move_Compact.mono _ _ _ _ _)
   | (with_reducible exact LeO.refl _)
   | (with_reducible exact LeO.none _)
   | (with_reducible refine LeO.ite ?_ ?_)
   | (with_reducible refine LeO.bind ?_ (fun _ => ?_))
   | exact ih0 _ _ _ _ _
   | exact ih1 _ _ _ _ _ _ _ _ _
   | exact anamnesislaw05_fixed.mono _
   | exact anamnesisref03_May.mono _ _ _ _
   | exact anamnesisref03_Small.mono _ _ _ _
   | exact anamnesisref04_Live.mono _ _ _ _ _
   | exact move_Compact.mono _ _ _ _ _
   | exact LeO.none _
   | refine LeO.ite ?_ ?_
   | refine LeO.bind ?_ (fun _ => ?_)
theorem anamnesislaw05_MoveRoom.mono : ∀ a0 a1 a2 a3 k, LeO (anamnesislaw05_MoveRoom.f k a0 a1 a2 a3) (anamnesislaw05_MoveRoom.f (k + 1) a0 a1 a2 a3) := by
 intro a0 a1 a2 a3 k
 obtain ⟨ih0, ih1⟩ := anamnesislaw05_MoveRoom.mono_l k
 unfold anamnesislaw05_MoveRoom.f
 repeat' first
   | (with_reducible exact ih0 _ _ _ _ _)
   | (with_reducible exact ih1 _ _ _ _ _ _ _ _ _)
   | (with_reducible exact anamnesislaw05_fixed.mono _)
   | (with_reducible exact anamnesisref03_May.mono _ _ _ _)
   | (with_reducible exact anamnesisref03_Small.mono _ _ _ _)
   | (with_reducible exact anamnesisref04_Live.mono _ _ _ _ _)
   | (with_reducible exact move_Compact.mono _ _ _ _ _)
   | (with_reducible exact LeO.refl _)
   | (with_reducible exact LeO.none _)
   | (with_reducible refine LeO.ite ?_ ?_)
   | (with_reducible refine LeO.bind ?_ (fun _ => ?_))
   | exact ih0 _ _ _ _ _
   | exact ih1 _ _ _ _ _ _ _ _ _
   | exact anamnesislaw05_fixed.mono _
   | exact anamnesisref03_May.mono _ _ _ _
   | exact anamnesisref03_Small.mono _ _ _ _
   | exact anamnesisref04_Live.mono _ _ _ _ _
   | exact move_Compact.mono _ _ _ _ _
   | exact LeO.none _
   | refine LeO.ite ?_ ?_
   | refine LeO.bind ?_ (fun _ => ?_)
def anamnesislaw05_MoveRoom.T10 : Bool × List (List Nat × List Nat) := (true, [([], []), ([0], [0]), ([], []), ([], []), ([2, 3], [2, 3]), ([4], [4]), ([1, 5], [1, 5]), ([6], [6]), ([], []), ([8], [8]), ([], []), ([9, 10], [9, 10]), ([11], [11]), ([], []), ([], []), ([13, 7, 0, 1, 2, 3, 4, 5, 6, 7, 13, 14], [7, 13]), ([14, 12, 15, 0, 1, 2, 3, 4, 5, 6, 7, 8, 9, 10, 11, 12, 13, 14, 15], [12, 14])])
def anamnesislaw05_MoveRoom.B10 : List Nat := [0, 1, 0, 0, 12, 28, 63, 127, 0, 256, 0, 1792, 3840, 0, 0, 24831, 65535]
theorem anamnesislaw05_MoveRoom.tab10 : rtab .any (opsOf Try.f6 10) = anamnesislaw05_MoveRoom.T10 := by kernel_rfl
theorem anamnesislaw05_MoveRoom.bits10 : waitsOk anamnesislaw05_MoveRoom.T10.2 anamnesislaw05_MoveRoom.B10 = true := by kernel_rfl
set_option maxHeartbeats 8000000 in
set_option maxRecDepth 100000 in
theorem anamnesislaw05_MoveRoom.calls (k : Nat) (A0_0 : Option Addr) (c0_0 : Nat) (l0_0 : List (S44)) (a0_1 : Int) (a0_2 : Int) (A1 : Option Addr) (c1 : Nat) (l1 : List Int) (r : Bool) (w : World) (hr0_0 : Kd.C k44 w A0_0 l0_0.length l0_0) (hc0_0 : l0_0.length ≤ c0_0) (hr1 : Kd.C (Kd.int .i64) w A1 l1.length l1) (hc1 : l1.length ≤ c1) (h : anamnesislaw05_MoveRoom.f k l0_0 a0_1 a0_2 l1 = some r) :
  Calls Try.prog 6 #[.agg #[.slice A0_0 l0_0.length c0_0, .int .i64 a0_1, .int .i64 a0_2], .slice A1 l1.length c1] w fun e w' => e = .returned (.bool r) ∧ Below w.heap.size w w' := by
 have hu24 := Try.underlying24
 have hu44 := Try.underlying44
 have HR0_0 := Aside0.mk hr0_0
 have HC0_0 := Aside0.mk hc0_0
 clear hr0_0 hc0_0
 have HR1 := Aside0.mk hr1
 have HC1 := Aside0.mk hc1
 clear hr1 hc1
 have HB := Aside0.mk (Below.refl w.heap.size w)
 have H : ((anamnesislaw05_fixed.f k).bind fun t495 => (if t495 = true then ((anamnesisref03_Small.f k l0_0 a0_1 a0_2).bind fun t496 => (if t496 = true then ((anamnesisref03_May.f k l0_0 a0_1 a0_2).bind fun t497 => (if t497 = true then (if (l0_0.length : Int) > 40 then (anamnesislaw05_MoveRoom.j0 k l1 true l0_0 a0_1 a0_2) else (anamnesislaw05_MoveRoom.j0 k l1 (decide ((l1.length : Int) > 100)) l0_0 a0_1 a0_2)) else (anamnesislaw05_MoveRoom.j0 k l1 true l0_0 a0_1 a0_2))) else (anamnesislaw05_MoveRoom.j0 k l1 true l0_0 a0_1 a0_2))) else (anamnesislaw05_MoveRoom.j0 k l1 true l0_0 a0_1 a0_2))) = some r := h
 clear h
 have HC3 := Aside0.mk H
 clear H
 go_enter Try.func6, Try.ntmps6
 go_upto_region 1 with (first | ((with_reducible refine gate_dst (N := 2) rfl ?_); (try (refine gate_guard (by rfl) ?_; dsimp only)); refine box_event ?hg (N := 2) ?hd (cs := #[.slice A0_0 l0_0.length c0_0, .int .i64 a0_1, .int .i64 a0_2]) (t := 24) ?hr ?_; (case hd => rfl); (case hg => rfl); (case hr => first | (go_simp; done) | (go_simp; rfl)); intro gb494 hg w4 hbox hb; have n0_ := Aside0.mk (below_step (by repeat (first | (with_reducible first | exact HB.out | apply below_alloc | apply pw_below_drewN | apply below_drew1) | exact HB.out)) hb); have n1_ := Aside0.mk (hbox); have n2_ := Aside0.mk ((by rw [hg]; exact (below_size (by repeat (first | (with_reducible first | exact HB.out | apply below_alloc | apply pw_below_drewN | apply below_drew1) | exact HB.out))) : w.heap.size ≤ gb494)); have n3_ := Aside0.mk ((by rw [hg]; exact (below_size (by repeat (first | (with_reducible first | exact HB.out | apply below_alloc | apply pw_below_drewN | apply below_drew1) | exact HB.out))) : w.heap.size ≤ gb494)); clear HB; have HB := n0_; have BK494 := n1_; have GW494 := n2_; have GE494 := n3_; clear n0_ n1_ n2_ n3_; clear hb hbox hg))
 (try simp only [Act.put, List.setIfInBounds_toArray, List.set_cons_zero, List.set_cons_succ])
 go_cut [35] (fun v35 wc => ∃ (kq : Nat) (x35_2 : Bool), v35 = .bool x35_2 ∧ Aside0 (anamnesislaw05_MoveRoom.j0 kq l1 x35_2 l0_0 a0_1 a0_2 = some r) ∧ Aside0 (kq ≤ k) ∧ Aside0 (wc.heap[gb494]? = some (.cells #[(.slice A0_0 l0_0.length c0_0), .int .i64 a0_1, .int .i64 a0_2] 24 (0, 0))) ∧ Aside0 (Below w.heap.size w wc))
 case first =>
  have H := HC3.out
  clear HC3
  replace H := Option.bind_eq_some_iff.mp H
  obtain ⟨t495, A50, H⟩ := H
  replace H : (if t495 = true then ((anamnesisref03_Small.f k l0_0 a0_1 a0_2).bind fun t496 => (if t496 = true then ((anamnesisref03_May.f k l0_0 a0_1 a0_2).bind fun t497 => (if t497 = true then (if (l0_0.length : Int) > 40 then (anamnesislaw05_MoveRoom.j0 k l1 true l0_0 a0_1 a0_2) else (anamnesislaw05_MoveRoom.j0 k l1 (decide ((l1.length : Int) > 100)) l0_0 a0_1 a0_2)) else (anamnesislaw05_MoveRoom.j0 k l1 true l0_0 a0_1 a0_2))) else (anamnesislaw05_MoveRoom.j0 k l1 true l0_0 a0_1 a0_2))) else (anamnesislaw05_MoveRoom.j0 k l1 true l0_0 a0_1 a0_2)) = some r := H
  have A5 := Aside0.mk A50
  clear A50
  by_cases c6 : t495 = true
  ·subst c6
   have H1 : ((anamnesisref03_Small.f k l0_0 a0_1 a0_2).bind fun t496 => (if t496 = true then ((anamnesisref03_May.f k l0_0 a0_1 a0_2).bind fun t497 => (if t497 = true then (if (l0_0.length : Int) > 40 then (anamnesislaw05_MoveRoom.j0 k l1 true l0_0 a0_1 a0_2) else (anamnesislaw05_MoveRoom.j0 k l1 (decide ((l1.length : Int) > 100)) l0_0 a0_1 a0_2)) else (anamnesislaw05_MoveRoom.j0 k l1 true l0_0 a0_1 a0_2))) else (anamnesislaw05_MoveRoom.j0 k l1 true l0_0 a0_1 a0_2))) = some r := by rw [if_pos rfl] at H; exact H
   clear H
   have H := H1
   clear H1
   replace H := Option.bind_eq_some_iff.mp H
   obtain ⟨t496, A70, H⟩ := H
   replace H : (if t496 = true then ((anamnesisref03_May.f k l0_0 a0_1 a0_2).bind fun t497 => (if t497 = true then (if (l0_0.length : Int) > 40 then (anamnesislaw05_MoveRoom.j0 k l1 true l0_0 a0_1 a0_2) else (anamnesislaw05_MoveRoom.j0 k l1 (decide ((l1.length : Int) > 100)) l0_0 a0_1 a0_2)) else (anamnesislaw05_MoveRoom.j0 k l1 true l0_0 a0_1 a0_2))) else (anamnesislaw05_MoveRoom.j0 k l1 true l0_0 a0_1 a0_2)) = some r := H
   have A7 := Aside0.mk A70
   clear A70
   by_cases c8 : t496 = true
   ·subst c8
    have H1 : ((anamnesisref03_May.f k l0_0 a0_1 a0_2).bind fun t497 => (if t497 = true then (if (l0_0.length : Int) > 40 then (anamnesislaw05_MoveRoom.j0 k l1 true l0_0 a0_1 a0_2) else (anamnesislaw05_MoveRoom.j0 k l1 (decide ((l1.length : Int) > 100)) l0_0 a0_1 a0_2)) else (anamnesislaw05_MoveRoom.j0 k l1 true l0_0 a0_1 a0_2))) = some r := by rw [if_pos rfl] at H; exact H
    clear H
    have H := H1
    clear H1
    replace H := Option.bind_eq_some_iff.mp H
    obtain ⟨t497, A90, H⟩ := H
    replace H : (if t497 = true then (if (l0_0.length : Int) > 40 then (anamnesislaw05_MoveRoom.j0 k l1 true l0_0 a0_1 a0_2) else (anamnesislaw05_MoveRoom.j0 k l1 (decide ((l1.length : Int) > 100)) l0_0 a0_1 a0_2)) else (anamnesislaw05_MoveRoom.j0 k l1 true l0_0 a0_1 a0_2)) = some r := H
    have A9 := Aside0.mk A90
    clear A90
    by_cases c10 : t497 = true
    ·subst c10
     have H1 : (if (l0_0.length : Int) > 40 then (anamnesislaw05_MoveRoom.j0 k l1 true l0_0 a0_1 a0_2) else (anamnesislaw05_MoveRoom.j0 k l1 (decide ((l1.length : Int) > 100)) l0_0 a0_1 a0_2)) = some r := by rw [if_pos rfl] at H; exact H
     clear H
     have H := H1
     clear H1
     by_cases c11 : (l0_0.length : Int) > 40
     ·rw [if_pos c11] at H
      have c11b0 : decide (40 < (l0_0.length : Int)) = true := decide_eq_true c11
      have c11b1 : decide (40 < l0_0.length) = true := decide_eq_true (by omega)
      clear c11
      (first | rw [c11b0] | (simp only [i64_w, i32_w]; rw [c11b0]) | skip)
      have H' := Aside0.mk H
      clear H
      go_wp2_with (first | ((with_reducible refine gate_callee (f := 9) rfl ?_); refine goesL_ (some 13) rfl rfl Try.func9 (by kernel_rfl) rfl #[] rfl (by (try simp only [List.map_toArray, List.map_cons, List.map_nil]); first | done | rfl | (simp only [List.length_drop, List.length_take]; rfl)) ?_; (with_reducible refine (anamnesislaw05_fixed.calls k  true _ A5.out).mono ?_); rintro e w12 ⟨rfl, hb⟩; refine ⟨_, rfl, ?_⟩; have n0_ := Aside0.mk (blk_below (g := gb494) (o := .cells #[.slice A0_0 l0_0.length c0_0, .int .i64 a0_1, .int .i64 a0_2] 24 (0, 0)) (by (with_reducible repeat (first | refine blk_drewN ?_ _ | refine blk_drew ?_ | refine blk_alloc ?_ _)); exact BK494.out) hb); have n1_ := Aside0.mk (below_step (by repeat (first | (with_reducible first | exact HB.out | apply below_alloc | apply pw_below_drewN | apply below_drew1 | refine below_set ?_ GE494.out) | exact HB.out)) hb); clear BK494; clear HB; have BK494 := n0_; have HB := n1_; clear n0_ n1_; (try clear hb); (try clear hb2); (try clear hk); (try clear hi); have hcz13_0 : w12.cell? ⟨gb494, 0, none⟩ = some (.slice A0_0 l0_0.length c0_0) := (blk_cell BK494.out 0).trans rfl; have hcz13_1 : w12.cell? ⟨gb494, 1, none⟩ = some (.int .i64 a0_1) := (blk_cell BK494.out 1).trans rfl; have hcz13_2 : w12.cell? ⟨gb494, 2, none⟩ = some (.int .i64 a0_2) := (blk_cell BK494.out 2).trans rfl; have hfz13_0 := blk_frozen BK494.out 0; have hfz13_1 := blk_frozen BK494.out 1; have hfz13_2 := blk_frozen BK494.out 2) | (go_at_call 8; (with_reducible refine (anamnesisref03_Small.calls k _ _ l0_0 a0_1 a0_2 true _ ?side1 ?side2 A7.out).mono ?_); (case side1 => repeat (first | exact (Kd.C_below HR0_0.out HB.out) | (with_reducible refine Kd.C_alloc ?_ _) | (with_reducible refine Kd.C_drewN ?_ _) | (with_reducible refine Kd.C_drew ?_))); (case side2 => exact HC0_0.out); rintro e w14 ⟨rfl, hb⟩; have n0_ := Aside0.mk (blk_below (g := gb494) (o := .cells #[.slice A0_0 l0_0.length c0_0, .int .i64 a0_1, .int .i64 a0_2] 24 (0, 0)) (by (with_reducible repeat (first | refine blk_drewN ?_ _ | refine blk_drew ?_ | refine blk_alloc ?_ _)); exact BK494.out) hb); have n1_ := Aside0.mk (below_step (by repeat (first | (with_reducible first | exact HB.out | apply below_alloc | apply pw_below_drewN | apply below_drew1 | refine below_set ?_ GE494.out) | exact HB.out)) hb); clear BK494; clear HB; have BK494 := n0_; have HB := n1_; clear n0_ n1_; (try clear hb); (try clear hb2); (try clear hk); (try clear hi); have hcz15_0 : w14.cell? ⟨gb494, 0, none⟩ = some (.slice A0_0 l0_0.length c0_0) := (blk_cell BK494.out 0).trans rfl; have hcz15_1 : w14.cell? ⟨gb494, 1, none⟩ = some (.int .i64 a0_1) := (blk_cell BK494.out 1).trans rfl; have hcz15_2 : w14.cell? ⟨gb494, 2, none⟩ = some (.int .i64 a0_2) := (blk_cell BK494.out 2).trans rfl; have hfz15_0 := blk_frozen BK494.out 0; have hfz15_1 := blk_frozen BK494.out 1; have hfz15_2 := blk_frozen BK494.out 2) | (go_at_call 18; (with_reducible refine (anamnesisref03_May.calls k _ _ l0_0 a0_1 a0_2 true _ ?side1 ?side2 A9.out).mono ?_); (case side1 => repeat (first | exact (Kd.C_below HR0_0.out HB.out) | (with_reducible refine Kd.C_alloc ?_ _) | (with_reducible refine Kd.C_drewN ?_ _) | (with_reducible refine Kd.C_drew ?_))); (case side2 => exact HC0_0.out); rintro e w16 ⟨rfl, hb⟩; have n0_ := Aside0.mk (blk_below (g := gb494) (o := .cells #[.slice A0_0 l0_0.length c0_0, .int .i64 a0_1, .int .i64 a0_2] 24 (0, 0)) (by (with_reducible repeat (first | refine blk_drewN ?_ _ | refine blk_drew ?_ | refine blk_alloc ?_ _)); exact BK494.out) hb); have n1_ := Aside0.mk (below_step (by repeat (first | (with_reducible first | exact HB.out | apply below_alloc | apply pw_below_drewN | apply below_drew1 | refine below_set ?_ GE494.out) | exact HB.out)) hb); clear BK494; clear HB; have BK494 := n0_; have HB := n1_; clear n0_ n1_; (try clear hb); (try clear hb2); (try clear hk); (try clear hi); have hcz17_0 : w16.cell? ⟨gb494, 0, none⟩ = some (.slice A0_0 l0_0.length c0_0) := (blk_cell BK494.out 0).trans rfl; have hcz17_1 : w16.cell? ⟨gb494, 1, none⟩ = some (.int .i64 a0_1) := (blk_cell BK494.out 1).trans rfl; have hcz17_2 : w16.cell? ⟨gb494, 2, none⟩ = some (.int .i64 a0_2) := (blk_cell BK494.out 2).trans rfl; have hfz17_0 := blk_frozen BK494.out 0; have hfz17_1 := blk_frozen BK494.out 1; have hfz17_2 := blk_frozen BK494.out 2))
      go_meet
      case rel => exact ⟨_, (true), (by first | rfl | (simp; done) | (simp [*]; done)), H', ⟨by first | omega | exact Nat.le_refl _⟩, ⟨by (with_reducible repeat (first | refine blk_drewN ?_ _ | refine blk_drew ?_ | refine blk_alloc ?_ _)); exact BK494.out⟩, ⟨by repeat (first | (with_reducible first | exact HB.out | apply below_alloc | apply pw_below_drewN | apply below_drew1 | refine below_set ?_ GE494.out) | exact HB.out)⟩⟩
     ·rw [if_neg c11] at H
      have c11b0 : decide (40 < (l0_0.length : Int)) = false := decide_eq_false c11
      have c11b1 : decide (40 < l0_0.length) = false := decide_eq_false (by omega)
      clear c11
      (first | rw [c11b0] | (simp only [i64_w, i32_w]; rw [c11b0]) | skip)
      have H' := Aside0.mk H
      clear H
      go_wp2_with (first | ((with_reducible refine gate_callee (f := 9) rfl ?_); refine goesL_ (some 13) rfl rfl Try.func9 (by kernel_rfl) rfl #[] rfl (by (try simp only [List.map_toArray, List.map_cons, List.map_nil]); first | done | rfl | (simp only [List.length_drop, List.length_take]; rfl)) ?_; (with_reducible refine (anamnesislaw05_fixed.calls k  true _ A5.out).mono ?_); rintro e w18 ⟨rfl, hb⟩; refine ⟨_, rfl, ?_⟩; have n0_ := Aside0.mk (blk_below (g := gb494) (o := .cells #[.slice A0_0 l0_0.length c0_0, .int .i64 a0_1, .int .i64 a0_2] 24 (0, 0)) (by (with_reducible repeat (first | refine blk_drewN ?_ _ | refine blk_drew ?_ | refine blk_alloc ?_ _)); exact BK494.out) hb); have n1_ := Aside0.mk (below_step (by repeat (first | (with_reducible first | exact HB.out | apply below_alloc | apply pw_below_drewN | apply below_drew1 | refine below_set ?_ GE494.out) | exact HB.out)) hb); clear BK494; clear HB; have BK494 := n0_; have HB := n1_; clear n0_ n1_; (try clear hb); (try clear hb2); (try clear hk); (try clear hi); have hcz19_0 : w18.cell? ⟨gb494, 0, none⟩ = some (.slice A0_0 l0_0.length c0_0) := (blk_cell BK494.out 0).trans rfl; have hcz19_1 : w18.cell? ⟨gb494, 1, none⟩ = some (.int .i64 a0_1) := (blk_cell BK494.out 1).trans rfl; have hcz19_2 : w18.cell? ⟨gb494, 2, none⟩ = some (.int .i64 a0_2) := (blk_cell BK494.out 2).trans rfl; have hfz19_0 := blk_frozen BK494.out 0; have hfz19_1 := blk_frozen BK494.out 1; have hfz19_2 := blk_frozen BK494.out 2) | (go_at_call 8; (with_reducible refine (anamnesisref03_Small.calls k _ _ l0_0 a0_1 a0_2 true _ ?side1 ?side2 A7.out).mono ?_); (case side1 => repeat (first | exact (Kd.C_below HR0_0.out HB.out) | (with_reducible refine Kd.C_alloc ?_ _) | (with_reducible refine Kd.C_drewN ?_ _) | (with_reducible refine Kd.C_drew ?_))); (case side2 => exact HC0_0.out); rintro e w20 ⟨rfl, hb⟩; have n0_ := Aside0.mk (blk_below (g := gb494) (o := .cells #[.slice A0_0 l0_0.length c0_0, .int .i64 a0_1, .int .i64 a0_2] 24 (0, 0)) (by (with_reducible repeat (first | refine blk_drewN ?_ _ | refine blk_drew ?_ | refine blk_alloc ?_ _)); exact BK494.out) hb); have n1_ := Aside0.mk (below_step (by repeat (first | (with_reducible first | exact HB.out | apply below_alloc | apply pw_below_drewN | apply below_drew1 | refine below_set ?_ GE494.out) | exact HB.out)) hb); clear BK494; clear HB; have BK494 := n0_; have HB := n1_; clear n0_ n1_; (try clear hb); (try clear hb2); (try clear hk); (try clear hi); have hcz21_0 : w20.cell? ⟨gb494, 0, none⟩ = some (.slice A0_0 l0_0.length c0_0) := (blk_cell BK494.out 0).trans rfl; have hcz21_1 : w20.cell? ⟨gb494, 1, none⟩ = some (.int .i64 a0_1) := (blk_cell BK494.out 1).trans rfl; have hcz21_2 : w20.cell? ⟨gb494, 2, none⟩ = some (.int .i64 a0_2) := (blk_cell BK494.out 2).trans rfl; have hfz21_0 := blk_frozen BK494.out 0; have hfz21_1 := blk_frozen BK494.out 1; have hfz21_2 := blk_frozen BK494.out 2) | (go_at_call 18; (with_reducible refine (anamnesisref03_May.calls k _ _ l0_0 a0_1 a0_2 true _ ?side1 ?side2 A9.out).mono ?_); (case side1 => repeat (first | exact (Kd.C_below HR0_0.out HB.out) | (with_reducible refine Kd.C_alloc ?_ _) | (with_reducible refine Kd.C_drewN ?_ _) | (with_reducible refine Kd.C_drew ?_))); (case side2 => exact HC0_0.out); rintro e w22 ⟨rfl, hb⟩; have n0_ := Aside0.mk (blk_below (g := gb494) (o := .cells #[.slice A0_0 l0_0.length c0_0, .int .i64 a0_1, .int .i64 a0_2] 24 (0, 0)) (by (with_reducible repeat (first | refine blk_drewN ?_ _ | refine blk_drew ?_ | refine blk_alloc ?_ _)); exact BK494.out) hb); have n1_ := Aside0.mk (below_step (by repeat (first | (with_reducible first | exact HB.out | apply below_alloc | apply pw_below_drewN | apply below_drew1 | refine below_set ?_ GE494.out) | exact HB.out)) hb); clear BK494; clear HB; have BK494 := n0_; have HB := n1_; clear n0_ n1_; (try clear hb); (try clear hb2); (try clear hk); (try clear hi); have hcz23_0 : w22.cell? ⟨gb494, 0, none⟩ = some (.slice A0_0 l0_0.length c0_0) := (blk_cell BK494.out 0).trans rfl; have hcz23_1 : w22.cell? ⟨gb494, 1, none⟩ = some (.int .i64 a0_1) := (blk_cell BK494.out 1).trans rfl; have hcz23_2 : w22.cell? ⟨gb494, 2, none⟩ = some (.int .i64 a0_2) := (blk_cell BK494.out 2).trans rfl; have hfz23_0 := blk_frozen BK494.out 0; have hfz23_1 := blk_frozen BK494.out 1; have hfz23_2 := blk_frozen BK494.out 2))
      go_meet
      case rel => exact ⟨_, (decide ((l1.length : Int) > 100)), (by first | rfl | (simp; done) | (simp [*]; done)), H', ⟨by first | omega | exact Nat.le_refl _⟩, ⟨by (with_reducible repeat (first | refine blk_drewN ?_ _ | refine blk_drew ?_ | refine blk_alloc ?_ _)); exact BK494.out⟩, ⟨by repeat (first | (with_reducible first | exact HB.out | apply below_alloc | apply pw_below_drewN | apply below_drew1 | refine below_set ?_ GE494.out) | exact HB.out)⟩⟩
    ·replace c10 := Bool.eq_false_iff.mpr c10
     subst c10
     have H1 : (anamnesislaw05_MoveRoom.j0 k l1 true l0_0 a0_1 a0_2) = some r := by rw [if_neg (show ¬ (false = true) by decide)] at H; exact H
     clear H
     have H := H1
     clear H1
     have H' := Aside0.mk H
     clear H
     go_wp2_with (first | ((with_reducible refine gate_callee (f := 9) rfl ?_); refine goesL_ (some 13) rfl rfl Try.func9 (by kernel_rfl) rfl #[] rfl (by (try simp only [List.map_toArray, List.map_cons, List.map_nil]); first | done | rfl | (simp only [List.length_drop, List.length_take]; rfl)) ?_; (with_reducible refine (anamnesislaw05_fixed.calls k  true _ A5.out).mono ?_); rintro e w24 ⟨rfl, hb⟩; refine ⟨_, rfl, ?_⟩; have n0_ := Aside0.mk (blk_below (g := gb494) (o := .cells #[.slice A0_0 l0_0.length c0_0, .int .i64 a0_1, .int .i64 a0_2] 24 (0, 0)) (by (with_reducible repeat (first | refine blk_drewN ?_ _ | refine blk_drew ?_ | refine blk_alloc ?_ _)); exact BK494.out) hb); have n1_ := Aside0.mk (below_step (by repeat (first | (with_reducible first | exact HB.out | apply below_alloc | apply pw_below_drewN | apply below_drew1 | refine below_set ?_ GE494.out) | exact HB.out)) hb); clear BK494; clear HB; have BK494 := n0_; have HB := n1_; clear n0_ n1_; (try clear hb); (try clear hb2); (try clear hk); (try clear hi); have hcz25_0 : w24.cell? ⟨gb494, 0, none⟩ = some (.slice A0_0 l0_0.length c0_0) := (blk_cell BK494.out 0).trans rfl; have hcz25_1 : w24.cell? ⟨gb494, 1, none⟩ = some (.int .i64 a0_1) := (blk_cell BK494.out 1).trans rfl; have hcz25_2 : w24.cell? ⟨gb494, 2, none⟩ = some (.int .i64 a0_2) := (blk_cell BK494.out 2).trans rfl; have hfz25_0 := blk_frozen BK494.out 0; have hfz25_1 := blk_frozen BK494.out 1; have hfz25_2 := blk_frozen BK494.out 2) | (go_at_call 8; (with_reducible refine (anamnesisref03_Small.calls k _ _ l0_0 a0_1 a0_2 true _ ?side1 ?side2 A7.out).mono ?_); (case side1 => repeat (first | exact (Kd.C_below HR0_0.out HB.out) | (with_reducible refine Kd.C_alloc ?_ _) | (with_reducible refine Kd.C_drewN ?_ _) | (with_reducible refine Kd.C_drew ?_))); (case side2 => exact HC0_0.out); rintro e w26 ⟨rfl, hb⟩; have n0_ := Aside0.mk (blk_below (g := gb494) (o := .cells #[.slice A0_0 l0_0.length c0_0, .int .i64 a0_1, .int .i64 a0_2] 24 (0, 0)) (by (with_reducible repeat (first | refine blk_drewN ?_ _ | refine blk_drew ?_ | refine blk_alloc ?_ _)); exact BK494.out) hb); have n1_ := Aside0.mk (below_step (by repeat (first | (with_reducible first | exact HB.out | apply below_alloc | apply pw_below_drewN | apply below_drew1 | refine below_set ?_ GE494.out) | exact HB.out)) hb); clear BK494; clear HB; have BK494 := n0_; have HB := n1_; clear n0_ n1_; (try clear hb); (try clear hb2); (try clear hk); (try clear hi); have hcz27_0 : w26.cell? ⟨gb494, 0, none⟩ = some (.slice A0_0 l0_0.length c0_0) := (blk_cell BK494.out 0).trans rfl; have hcz27_1 : w26.cell? ⟨gb494, 1, none⟩ = some (.int .i64 a0_1) := (blk_cell BK494.out 1).trans rfl; have hcz27_2 : w26.cell? ⟨gb494, 2, none⟩ = some (.int .i64 a0_2) := (blk_cell BK494.out 2).trans rfl; have hfz27_0 := blk_frozen BK494.out 0; have hfz27_1 := blk_frozen BK494.out 1; have hfz27_2 := blk_frozen BK494.out 2) | (go_at_call 18; (with_reducible refine (anamnesisref03_May.calls k _ _ l0_0 a0_1 a0_2 false _ ?side1 ?side2 A9.out).mono ?_); (case side1 => repeat (first | exact (Kd.C_below HR0_0.out HB.out) | (with_reducible refine Kd.C_alloc ?_ _) | (with_reducible refine Kd.C_drewN ?_ _) | (with_reducible refine Kd.C_drew ?_))); (case side2 => exact HC0_0.out); rintro e w28 ⟨rfl, hb⟩; have n0_ := Aside0.mk (blk_below (g := gb494) (o := .cells #[.slice A0_0 l0_0.length c0_0, .int .i64 a0_1, .int .i64 a0_2] 24 (0, 0)) (by (with_reducible repeat (first | refine blk_drewN ?_ _ | refine blk_drew ?_ | refine blk_alloc ?_ _)); exact BK494.out) hb); have n1_ := Aside0.mk (below_step (by repeat (first | (with_reducible first | exact HB.out | apply below_alloc | apply pw_below_drewN | apply below_drew1 | refine below_set ?_ GE494.out) | exact HB.out)) hb); clear BK494; clear HB; have BK494 := n0_; have HB := n1_; clear n0_ n1_; (try clear hb); (try clear hb2); (try clear hk); (try clear hi)))
     go_meet
     case rel => exact ⟨_, (true), (by first | rfl | (simp; done) | (simp [*]; done)), H', ⟨by first | omega | exact Nat.le_refl _⟩, ⟨by (with_reducible repeat (first | refine blk_drewN ?_ _ | refine blk_drew ?_ | refine blk_alloc ?_ _)); exact BK494.out⟩, ⟨by repeat (first | (with_reducible first | exact HB.out | apply below_alloc | apply pw_below_drewN | apply below_drew1 | refine below_set ?_ GE494.out) | exact HB.out)⟩⟩
   ·replace c8 := Bool.eq_false_iff.mpr c8
    subst c8
    have H1 : (anamnesislaw05_MoveRoom.j0 k l1 true l0_0 a0_1 a0_2) = some r := by rw [if_neg (show ¬ (false = true) by decide)] at H; exact H
    clear H
    have H := H1
    clear H1
    have H' := Aside0.mk H
    clear H
    go_wp2_with (first | ((with_reducible refine gate_callee (f := 9) rfl ?_); refine goesL_ (some 13) rfl rfl Try.func9 (by kernel_rfl) rfl #[] rfl (by (try simp only [List.map_toArray, List.map_cons, List.map_nil]); first | done | rfl | (simp only [List.length_drop, List.length_take]; rfl)) ?_; (with_reducible refine (anamnesislaw05_fixed.calls k  true _ A5.out).mono ?_); rintro e w29 ⟨rfl, hb⟩; refine ⟨_, rfl, ?_⟩; have n0_ := Aside0.mk (blk_below (g := gb494) (o := .cells #[.slice A0_0 l0_0.length c0_0, .int .i64 a0_1, .int .i64 a0_2] 24 (0, 0)) (by (with_reducible repeat (first | refine blk_drewN ?_ _ | refine blk_drew ?_ | refine blk_alloc ?_ _)); exact BK494.out) hb); have n1_ := Aside0.mk (below_step (by repeat (first | (with_reducible first | exact HB.out | apply below_alloc | apply pw_below_drewN | apply below_drew1 | refine below_set ?_ GE494.out) | exact HB.out)) hb); clear BK494; clear HB; have BK494 := n0_; have HB := n1_; clear n0_ n1_; (try clear hb); (try clear hb2); (try clear hk); (try clear hi); have hcz30_0 : w29.cell? ⟨gb494, 0, none⟩ = some (.slice A0_0 l0_0.length c0_0) := (blk_cell BK494.out 0).trans rfl; have hcz30_1 : w29.cell? ⟨gb494, 1, none⟩ = some (.int .i64 a0_1) := (blk_cell BK494.out 1).trans rfl; have hcz30_2 : w29.cell? ⟨gb494, 2, none⟩ = some (.int .i64 a0_2) := (blk_cell BK494.out 2).trans rfl; have hfz30_0 := blk_frozen BK494.out 0; have hfz30_1 := blk_frozen BK494.out 1; have hfz30_2 := blk_frozen BK494.out 2) | (go_at_call 8; (with_reducible refine (anamnesisref03_Small.calls k _ _ l0_0 a0_1 a0_2 false _ ?side1 ?side2 A7.out).mono ?_); (case side1 => repeat (first | exact (Kd.C_below HR0_0.out HB.out) | (with_reducible refine Kd.C_alloc ?_ _) | (with_reducible refine Kd.C_drewN ?_ _) | (with_reducible refine Kd.C_drew ?_))); (case side2 => exact HC0_0.out); rintro e w31 ⟨rfl, hb⟩; have n0_ := Aside0.mk (blk_below (g := gb494) (o := .cells #[.slice A0_0 l0_0.length c0_0, .int .i64 a0_1, .int .i64 a0_2] 24 (0, 0)) (by (with_reducible repeat (first | refine blk_drewN ?_ _ | refine blk_drew ?_ | refine blk_alloc ?_ _)); exact BK494.out) hb); have n1_ := Aside0.mk (below_step (by repeat (first | (with_reducible first | exact HB.out | apply below_alloc | apply pw_below_drewN | apply below_drew1 | refine below_set ?_ GE494.out) | exact HB.out)) hb); clear BK494; clear HB; have BK494 := n0_; have HB := n1_; clear n0_ n1_; (try clear hb); (try clear hb2); (try clear hk); (try clear hi)))
    go_meet
    case rel => exact ⟨_, (true), (by first | rfl | (simp; done) | (simp [*]; done)), H', ⟨by first | omega | exact Nat.le_refl _⟩, ⟨by (with_reducible repeat (first | refine blk_drewN ?_ _ | refine blk_drew ?_ | refine blk_alloc ?_ _)); exact BK494.out⟩, ⟨by repeat (first | (with_reducible first | exact HB.out | apply below_alloc | apply pw_below_drewN | apply below_drew1 | refine below_set ?_ GE494.out) | exact HB.out)⟩⟩
  ·replace c6 := Bool.eq_false_iff.mpr c6
   subst c6
   have H1 : (anamnesislaw05_MoveRoom.j0 k l1 true l0_0 a0_1 a0_2) = some r := by rw [if_neg (show ¬ (false = true) by decide)] at H; exact H
   clear H
   have H := H1
   clear H1
   have H' := Aside0.mk H
   clear H
   go_wp2_with (first | ((with_reducible refine gate_callee (f := 9) rfl ?_); refine goesL_ (some 13) rfl rfl Try.func9 (by kernel_rfl) rfl #[] rfl (by (try simp only [List.map_toArray, List.map_cons, List.map_nil]); first | done | rfl | (simp only [List.length_drop, List.length_take]; rfl)) ?_; (with_reducible refine (anamnesislaw05_fixed.calls k  false _ A5.out).mono ?_); rintro e w32 ⟨rfl, hb⟩; refine ⟨_, rfl, ?_⟩; have n0_ := Aside0.mk (blk_below (g := gb494) (o := .cells #[.slice A0_0 l0_0.length c0_0, .int .i64 a0_1, .int .i64 a0_2] 24 (0, 0)) (by (with_reducible repeat (first | refine blk_drewN ?_ _ | refine blk_drew ?_ | refine blk_alloc ?_ _)); exact BK494.out) hb); have n1_ := Aside0.mk (below_step (by repeat (first | (with_reducible first | exact HB.out | apply below_alloc | apply pw_below_drewN | apply below_drew1 | refine below_set ?_ GE494.out) | exact HB.out)) hb); clear BK494; clear HB; have BK494 := n0_; have HB := n1_; clear n0_ n1_; (try clear hb); (try clear hb2); (try clear hk); (try clear hi)))
   go_meet
   case rel => exact ⟨_, (true), (by first | rfl | (simp; done) | (simp [*]; done)), H', ⟨by first | omega | exact Nat.le_refl _⟩, ⟨by (with_reducible repeat (first | refine blk_drewN ?_ _ | refine blk_drew ?_ | refine blk_alloc ?_ _)); exact BK494.out⟩, ⟨by repeat (first | (with_reducible first | exact HB.out | apply below_alloc | apply pw_below_drewN | apply below_drew1 | refine below_set ?_ GE494.out) | exact HB.out)⟩⟩
 case rest =>
  clear HC3
  try clear c1
  try clear p2
  try clear c6
  try clear c8
  try clear c9
  try clear c10
  try clear c11
  try clear c11b0
  try clear c11b1
  try clear hcz13_0
  try clear hcz13_1
  try clear hcz13_2
  try clear hcz15_0
  try clear hcz15_1
  try clear hcz15_2
  try clear hcz17_0
  try clear hcz17_1
  try clear hcz17_2
  try clear hcz19_0
  try clear hcz19_1
  try clear hcz19_2
  try clear hcz21_0
  try clear hcz21_1
  try clear hcz21_2
  try clear hcz23_0
  try clear hcz23_1
  try clear hcz23_2
  try clear hcz25_0
  try clear hcz25_1
  try clear hcz25_2
  try clear hcz27_0
  try clear hcz27_1
  try clear hcz27_2
  try clear hcz30_0
  try clear hcz30_1
  try clear hcz30_2
  try clear hfz13_0
  try clear hfz13_1
  try clear hfz13_2
  try clear hfz15_0
  try clear hfz15_1
  try clear hfz15_2
  try clear hfz17_0
  try clear hfz17_1
  try clear hfz17_2
  try clear hfz19_0
  try clear hfz19_1
  try clear hfz19_2
  try clear hfz21_0
  try clear hfz21_1
  try clear hfz21_2
  try clear hfz23_0
  try clear hfz23_1
  try clear hfz23_2
  try clear hfz25_0
  try clear hfz25_1
  try clear hfz25_2
  try clear hfz27_0
  try clear hfz27_1
  try clear hfz27_2
  try clear hfz30_0
  try clear hfz30_1
  try clear hfz30_2
  obtain ⟨kq, x35_2, rfl, HA, HJ2, BK494, HB⟩ := hcut
  cases kq with
  | zero => exact absurd HA.out (by simp [anamnesislaw05_MoveRoom.j0])
  | succ kj2 =>
   have H := HA.out
   clear HA
   simp only [anamnesislaw05_MoveRoom.j0] at H
   by_cases c33 : x35_2 = true
   ·subst c33
    have H1 : ((anamnesislaw05_fixed.f kj2).bind fun t498 => (some t498)) = some r := by rw [if_pos rfl] at H; exact H
    clear H
    have H := H1
    clear H1
    replace H := Option.bind_eq_some_iff.mp H
    obtain ⟨t498, A340, H⟩ := H
    replace H : (some t498) = some r := H
    have A34 := Aside0.mk A340
    clear A340
    obtain rfl := Option.some.inj H
    go_wp2_with (first | ((with_reducible refine gate_callee (f := 9) rfl ?_); refine goesL_ (some 36) rfl rfl Try.func9 (by kernel_rfl) rfl #[] rfl (by (try simp only [List.map_toArray, List.map_cons, List.map_nil]); first | done | rfl | (simp only [List.length_drop, List.length_take]; rfl)) ?_; (with_reducible refine (anamnesislaw05_fixed.calls kj2  t498 _ A34.out).mono ?_); rintro e w35 ⟨rfl, hb⟩; refine ⟨_, rfl, ?_⟩; have n0_ := Aside0.mk (blk_below (g := gb494) (o := .cells #[.slice A0_0 l0_0.length c0_0, .int .i64 a0_1, .int .i64 a0_2] 24 (0, 0)) (by (with_reducible repeat (first | refine blk_drewN ?_ _ | refine blk_drew ?_ | refine blk_alloc ?_ _)); exact BK494.out) hb); have n1_ := Aside0.mk (below_step (by repeat (first | (with_reducible first | exact HB.out | apply below_alloc | apply pw_below_drewN | apply below_drew1 | refine below_set ?_ GE494.out) | exact HB.out)) hb); clear BK494; clear HB; have BK494 := n0_; have HB := n1_; clear n0_ n1_; (try clear hb); (try clear hb2); (try clear hk); (try clear hi)))
    go_ret
    exact ⟨by first | rfl | (simp [errW_none, errW_some] <;> rfl) | (simp [*, errW_none, errW_some] <;> rfl), by repeat (first | (with_reducible first | exact HB.out | apply below_alloc | apply pw_below_drewN | apply below_drew1 | refine below_set ?_ GE494.out) | exact HB.out)⟩
   ·replace c33 := Bool.eq_false_iff.mpr c33
    subst c33
    have H1 : ((anamnesisref04_Live.f kj2 l0_0 a0_1 a0_2 l1).bind fun bt499 => ((move_Compact.f kj2 l0_0 a0_1 a0_2 l1).bind fun bt503 => (if bt503.2.2.2.2 = bt499.2 then (if (bt503.1.length : Int) = (bt499.1.length : Int) then (anamnesislaw05_MoveRoom.l0 kj2 bt499.1 bt503.2.2.2.2 0 l0_0 a0_1 a0_2 bt503.1 bt503.2.1 bt503.2.2.1) else (none)) else (none)))) = some r := by rw [if_neg (show ¬ (false = true) by decide)] at H; exact H
    clear H
    have H := H1
    clear H1
    replace H := Option.bind_eq_some_iff.mp H
    obtain ⟨⟨t499, t502⟩, A360, H⟩ := H
    replace H : ((move_Compact.f kj2 l0_0 a0_1 a0_2 l1).bind fun bt503 => (if bt503.2.2.2.2 = t502 then (if (bt503.1.length : Int) = (t499.length : Int) then (anamnesislaw05_MoveRoom.l0 kj2 t499 bt503.2.2.2.2 0 l0_0 a0_1 a0_2 bt503.1 bt503.2.1 bt503.2.2.1) else (none)) else (none))) = some r := H
    have A36 := Aside0.mk A360
    clear A360
    replace H := Option.bind_eq_some_iff.mp H
    obtain ⟨⟨t503, t506, t507, t508, t511⟩, A370, H⟩ := H
    replace H : (if t511 = t502 then (if (t503.length : Int) = (t499.length : Int) then (anamnesislaw05_MoveRoom.l0 kj2 t499 t511 0 l0_0 a0_1 a0_2 t503 t506 t507) else (none)) else (none)) = some r := H
    have A37 := Aside0.mk A370
    clear A370
    by_cases c38 : t511 = t502
    ·rw [if_pos c38] at H
     have c38b0 : (t511 == t502) = true := beq_iff_eq.mpr c38
     have c38b1 : (t511 != t502) = false := bne_eq_false_iff_eq.mpr c38
     clear c38
     by_cases c39 : (t503.length : Int) = (t499.length : Int)
     ·rw [if_pos c39] at H
      have c39b0 : ((t503.length : Int) == (t499.length : Int)) = true := beq_iff_eq.mpr c39
      have c39b1 : ((t503.length : Int) != (t499.length : Int)) = false := bne_eq_false_iff_eq.mpr c39
      have c39b2 : (t503.length == t499.length) = true := by first | simpa using c39 | (simp at c39 ⊢; omega)
      clear c39
      have H' := Aside0.mk H
      clear H
      have hcz40_0 : wc.cell? ⟨gb494, 0, none⟩ = some (.slice A0_0 l0_0.length c0_0) := (blk_cell BK494.out 0).trans rfl
      have hcz40_1 : wc.cell? ⟨gb494, 1, none⟩ = some (.int .i64 a0_1) := (blk_cell BK494.out 1).trans rfl
      have hcz40_2 : wc.cell? ⟨gb494, 2, none⟩ = some (.int .i64 a0_2) := (blk_cell BK494.out 2).trans rfl
      have hfz40_0 := blk_frozen BK494.out 0
      have hfz40_1 := blk_frozen BK494.out 1
      have hfz40_2 := blk_frozen BK494.out 2
      go_wp2_with (first | ((with_reducible refine gate_callee (f := 19) rfl ?_); refine goesL_ (some 40) rfl rfl Try.func19 (by kernel_rfl) rfl #[.agg #[.slice A0_0 l0_0.length c0_0, .int .i64 a0_1, .int .i64 a0_2], .slice A1 l1.length c1] rfl (by (try simp only [List.map_toArray, List.map_cons, List.map_nil]); first | done | rfl | (simp only [List.length_drop, List.length_take]; rfl)) ?_; (with_reducible refine (anamnesisref04_Live.calls kj2 _ _ l0_0 a0_1 a0_2 _ _ l1 t499 t502 _ ?side1 ?side2 ?side3 ?side4 A36.out).mono ?_); (case side1 => repeat (first | exact (Kd.C_below HR0_0.out HB.out) | (with_reducible refine Kd.C_alloc ?_ _) | (with_reducible refine Kd.C_drewN ?_ _) | (with_reducible refine Kd.C_drew ?_))); (case side2 => exact HC0_0.out); (case side3 => repeat (first | exact (Kd.C_below HR1.out HB.out) | (with_reducible refine Kd.C_alloc ?_ _) | (with_reducible refine Kd.C_drewN ?_ _) | (with_reducible refine Kd.C_drew ?_))); (case side4 => exact HC1.out); rintro e w41 ⟨v500, rfl, ho0, hb⟩; refine ⟨_, rfl, ?_⟩; have n0_ := Aside0.mk (Kd.R_lower ho0 (below_size (by repeat (first | (with_reducible first | exact HB.out | apply below_alloc | apply pw_below_drewN | apply below_drew1 | refine below_set ?_ GE494.out) | exact HB.out)))); have n1_ := Aside0.mk (blk_below (g := gb494) (o := .cells #[.slice A0_0 l0_0.length c0_0, .int .i64 a0_1, .int .i64 a0_2] 24 (0, 0)) (by (with_reducible repeat (first | refine blk_drewN ?_ _ | refine blk_drew ?_ | refine blk_alloc ?_ _)); exact BK494.out) hb); have n2_ := Aside0.mk (below_step (by repeat (first | (with_reducible first | exact HB.out | apply below_alloc | apply pw_below_drewN | apply below_drew1 | refine below_set ?_ GE494.out) | exact HB.out)) hb); clear BK494; clear HB; have HO501 := n0_; have BK494 := n1_; have HB := n2_; clear n0_ n1_ n2_; (try clear hb); (try clear hb2); (try clear hk); (try clear hi); (try clear ho0); have hcz42_0 : w41.cell? ⟨gb494, 0, none⟩ = some (.slice A0_0 l0_0.length c0_0) := (blk_cell BK494.out 0).trans rfl; have hcz42_1 : w41.cell? ⟨gb494, 1, none⟩ = some (.int .i64 a0_1) := (blk_cell BK494.out 1).trans rfl; have hcz42_2 : w41.cell? ⟨gb494, 2, none⟩ = some (.int .i64 a0_2) := (blk_cell BK494.out 2).trans rfl; have hfz42_0 := blk_frozen BK494.out 0; have hfz42_1 := blk_frozen BK494.out 1; have hfz42_2 := blk_frozen BK494.out 2) | ((with_reducible refine gate_callee (f := 12) rfl ?_); refine goesL_ (some 46) rfl rfl Try.func12 (by kernel_rfl) rfl #[.agg #[.slice A0_0 l0_0.length c0_0, .int .i64 a0_1, .int .i64 a0_2], .slice A1 l1.length c1] rfl (by (try simp only [List.map_toArray, List.map_cons, List.map_nil]); first | done | rfl | (simp only [List.length_drop, List.length_take]; rfl)) ?_; (with_reducible refine (move_Compact.calls kj2 _ _ l0_0 a0_1 a0_2 _ _ l1 t503 t506 t507 t508 t511 _ ?side1 ?side2 ?side3 ?side4 A37.out).mono ?_); (case side1 => repeat (first | exact (Kd.C_below HR0_0.out HB.out) | (with_reducible refine Kd.C_alloc ?_ _) | (with_reducible refine Kd.C_drewN ?_ _) | (with_reducible refine Kd.C_drew ?_))); (case side2 => exact HC0_0.out); (case side3 => repeat (first | exact (Kd.C_below HR1.out HB.out) | (with_reducible refine Kd.C_alloc ?_ _) | (with_reducible refine Kd.C_drewN ?_ _) | (with_reducible refine Kd.C_drew ?_))); (case side4 => exact HC1.out); rintro e w43 ⟨v504, v509, rfl, ho0, ho1, hb⟩; refine ⟨_, rfl, ?_⟩; have n0_ := Aside0.mk (Kd.R_elder' (by (with_reducible repeat (first | apply Kd.R_alloc | apply Kd.R_drewN | apply Kd.R_drew)); exact HO501.out) (Kd.R_base ho1) hb); have n1_ := Aside0.mk (Kd.S_lower (Kd.S_new' ho0 (Kd.R_lt (by (with_reducible repeat (first | apply Kd.R_alloc | apply Kd.R_drewN | apply Kd.R_drew)); exact HO501.out))) (below_size (by repeat (first | (with_reducible first | exact HB.out | apply below_alloc | apply pw_below_drewN | apply below_drew1 | refine below_set ?_ GE494.out) | exact HB.out)))); have n2_ := Aside0.mk (Kd.R_lower (Kd.R_new' ho1 (Kd.R_lt (by (with_reducible repeat (first | apply Kd.R_alloc | apply Kd.R_drewN | apply Kd.R_drew)); exact HO501.out))) (below_size (by repeat (first | (with_reducible first | exact HB.out | apply below_alloc | apply pw_below_drewN | apply below_drew1 | refine below_set ?_ GE494.out) | exact HB.out)))); have n3_ := Aside0.mk (blk_below (g := gb494) (o := .cells #[.slice A0_0 l0_0.length c0_0, .int .i64 a0_1, .int .i64 a0_2] 24 (0, 0)) (by (with_reducible repeat (first | refine blk_drewN ?_ _ | refine blk_drew ?_ | refine blk_alloc ?_ _)); exact BK494.out) hb); have n4_ := Aside0.mk (below_step (by repeat (first | (with_reducible first | exact HB.out | apply below_alloc | apply pw_below_drewN | apply below_drew1 | refine below_set ?_ GE494.out) | exact HB.out)) hb); clear HO501; clear BK494; clear HB; have HO501 := n0_; have HO505 := n1_; have HO510 := n2_; have BK494 := n3_; have HB := n4_; clear n0_ n1_ n2_ n3_ n4_; (try clear hb); (try clear hb2); (try clear hk); (try clear hi); (try clear ho0); (try clear ho1)) | ((with_reducible refine gate_dst (N := 7) rfl ?_); (try (refine gate_guard (by rfl) ?_; dsimp only)); refine box_event ?hg (N := 7) ?hd (cs := #[.slice none 0 0, .int .i64 0, .int .i64 0]) (t := 24) ?hr ?_; (case hd => rfl); (case hg => rfl); (case hr => first | (go_simp; done) | (go_simp; rfl)); intro gb512 hg w44 hbox hb; have n0_ := Aside0.mk (Kd.R_below (by (with_reducible repeat (first | apply Kd.R_alloc | apply Kd.R_drewN | apply Kd.R_drew)); exact HO501.out) hb); have n1_ := Aside0.mk (Kd.S_below (by (with_reducible repeat (first | apply Kd.S_alloc | apply Kd.S_drewN | apply Kd.S_drew)); exact HO505.out) hb); have n2_ := Aside0.mk (Kd.R_below (by (with_reducible repeat (first | apply Kd.R_alloc | apply Kd.R_drewN | apply Kd.R_drew)); exact HO510.out) hb); have n3_ := Aside0.mk (blk_below (g := gb494) (o := .cells #[.slice A0_0 l0_0.length c0_0, .int .i64 a0_1, .int .i64 a0_2] 24 (0, 0)) (by (with_reducible repeat (first | refine blk_drewN ?_ _ | refine blk_drew ?_ | refine blk_alloc ?_ _)); exact BK494.out) hb); have n4_ := Aside0.mk (below_step (by repeat (first | (with_reducible first | exact HB.out | apply below_alloc | apply pw_below_drewN | apply below_drew1 | refine below_set ?_ GE494.out) | exact HB.out)) hb); have n5_ := Aside0.mk (hbox); have n6_ := Aside0.mk ((by rw [hg]; exact (below_size (by repeat (first | (with_reducible first | exact HB.out | apply below_alloc | apply pw_below_drewN | apply below_drew1 | refine below_set ?_ GE494.out) | exact HB.out))) : w.heap.size ≤ gb512)); have n7_ := Aside0.mk ((by rw [hg]; exact (below_size (by repeat (first | (with_reducible first | exact HB.out | apply below_alloc | apply pw_below_drewN | apply below_drew1 | refine below_set ?_ GE494.out) | exact HB.out))) : w.heap.size ≤ gb512)); have n8_ := Aside0.mk ((by rw [hg]; exact Nat.ne_of_lt (blk_lt (g := gb494) (o := .cells #[.slice A0_0 l0_0.length c0_0, .int .i64 a0_1, .int .i64 a0_2] 24 (0, 0)) (by (with_reducible repeat (first | refine blk_drewN ?_ _ | refine blk_drew ?_ | refine blk_alloc ?_ _)); exact BK494.out)) : gb494 ≠ gb512)); have n9_ := Aside0.mk ((by rw [hg]; exact Nat.ne_of_gt (blk_lt (g := gb494) (o := .cells #[.slice A0_0 l0_0.length c0_0, .int .i64 a0_1, .int .i64 a0_2] 24 (0, 0)) (by (with_reducible repeat (first | refine blk_drewN ?_ _ | refine blk_drew ?_ | refine blk_alloc ?_ _)); exact BK494.out)) : gb512 ≠ gb494)); clear HO501; clear HO505; clear HO510; clear BK494; clear HB; have HO501 := n0_; have HO505 := n1_; have HO510 := n2_; have BK494 := n3_; have HB := n4_; have BK512 := n5_; have GW512 := n6_; have GE512 := n7_; have NB494_512 := n8_; have NB512_494 := n9_; clear n0_ n1_ n2_ n3_ n4_ n5_ n6_ n7_ n8_ n9_; clear hb hbox hg; obtain ⟨Ao45, co45, eo45⟩ := Kd.S_slice HO505.out; subst eo45; have hnb46 := NB512_494.out; have hnc46 := NB494_512.out; have hcz47_0 : w44.cell? ⟨gb512, 0, none⟩ = some (.slice none 0 0) := (blk_cell BK512.out 0).trans rfl; have hcz47_1 : w44.cell? ⟨gb512, 1, none⟩ = some (.int .i64 0) := (blk_cell BK512.out 1).trans rfl; have hcz47_2 : w44.cell? ⟨gb512, 2, none⟩ = some (.int .i64 0) := (blk_cell BK512.out 2).trans rfl; have hfz47_0 := blk_frozen BK512.out 0; have hfz47_1 := blk_frozen BK512.out 1; have hfz47_2 := blk_frozen BK512.out 2; obtain ⟨Ao48, co48, eo48⟩ := Kd.R_slice HO501.out; subst eo48))
      go_loopg [10] kj2 (fun kq v10 w' => ∃ (x10_2 : Int), v10 = .int .i64 x10_2 ∧ Aside0 (anamnesislaw05_MoveRoom.l0 kq t499 t511 x10_2 l0_0 a0_1 a0_2 t503 t506 t507 = some r) ∧ Aside0 (kq ≤ kj2) ∧ Aside0 (Kd.R (Kd.int .i64) 3 w' w.heap.size (fun _ => True) (.slice Ao48 t499.length co48) t499) ∧ Aside0 (Kd.S k44 44 w' w.heap.size (fun k_ => some k_ ≠ ((.slice Ao48 t499.length co48) : Value).ownBlock) (.slice Ao45 t503.length co45) t503) ∧ Aside0 (w'.heap[gb494]? = some (.cells #[(.slice A0_0 l0_0.length c0_0), .int .i64 a0_1, .int .i64 a0_2] 24 (0, 0))) ∧ Aside0 (w'.heap[gb512]? = some (.cells #[(.slice Ao45 t503.length co45), .int .i64 t506, .int .i64 t507] 24 (0, 0))) ∧ Aside0 (Below w.heap.size w w'))
      case atStart => exact ⟨(0), (by first | rfl | (simp; done) | (simp [*]; done)), H', ⟨Nat.le_refl _⟩, ⟨by (with_reducible repeat (first | apply Kd.R_alloc | apply Kd.R_drewN | apply Kd.R_drew)); exact Kd.R_mono (Kd.R_far (p := ⟨gb512, 2, none⟩) (Kd.R_far (p := ⟨gb512, 1, none⟩) (Kd.R_far (p := ⟨gb512, 0, none⟩) (Kd.R_types HO501.out BK512.out (by decide)) (fun _ hk => hk.2) (.slice Ao45 t503.length co45)) (fun _ hk => hk.2) (.int .i64 t506)) (fun _ hk => hk.2) (.int .i64 t507)) (fun _ hk => trivial)⟩, ⟨by (with_reducible repeat (first | apply Kd.S_alloc | apply Kd.S_drewN | apply Kd.S_drew)); exact Kd.S_mono (Kd.S_far (p := ⟨gb512, 2, none⟩) (Kd.S_far (p := ⟨gb512, 1, none⟩) (Kd.S_far (p := ⟨gb512, 0, none⟩) (Kd.S_types HO505.out BK512.out (by decide)) (fun _ hk => hk.2) (.slice Ao45 t503.length co45)) (fun _ hk => hk.2) (.int .i64 t506)) (fun _ hk => hk.2) (.int .i64 t507)) (fun _ hk => hk.1.2)⟩, ⟨by (with_reducible repeat (first | refine blk_drewN ?_ _ | refine blk_drew ?_ | refine blk_alloc ?_ _)); refine blk_far ?_ NB494_512.out _; (with_reducible repeat (first | refine blk_drewN ?_ _ | refine blk_drew ?_ | refine blk_alloc ?_ _)); refine blk_far ?_ NB494_512.out _; (with_reducible repeat (first | refine blk_drewN ?_ _ | refine blk_drew ?_ | refine blk_alloc ?_ _)); refine blk_far ?_ NB494_512.out _; (with_reducible repeat (first | refine blk_drewN ?_ _ | refine blk_drew ?_ | refine blk_alloc ?_ _)); exact BK494.out⟩, ⟨by (with_reducible repeat (first | refine blk_drewN ?_ _ | refine blk_drew ?_ | refine blk_alloc ?_ _)); refine blk_put (cs := #[.slice Ao45 t503.length co45, .int .i64 t506, .int .i64 0]) ?_ 2 _ rfl; (with_reducible repeat (first | refine blk_drewN ?_ _ | refine blk_drew ?_ | refine blk_alloc ?_ _)); refine blk_put (cs := #[.slice Ao45 t503.length co45, .int .i64 0, .int .i64 0]) ?_ 1 _ rfl; (with_reducible repeat (first | refine blk_drewN ?_ _ | refine blk_drew ?_ | refine blk_alloc ?_ _)); refine blk_put (cs := #[.slice none 0 0, .int .i64 0, .int .i64 0]) ?_ 0 _ rfl; (with_reducible repeat (first | refine blk_drewN ?_ _ | refine blk_drew ?_ | refine blk_alloc ?_ _)); exact BK512.out⟩, ⟨by repeat (first | (with_reducible first | exact HB.out | apply below_alloc | apply pw_below_drewN | apply below_drew1 | refine below_set ?_ GE494.out | refine below_set ?_ GE512.out) | exact HB.out)⟩⟩
      case round =>
       clear H'
       try clear c1
       try clear p2
       try clear c3
       try clear c4
       try clear c6
       try clear c8
       try clear c9
       try clear c10
       try clear c11
       try clear c11b0
       try clear c11b1
       try clear c12
       try clear c19
       try clear c33
       try clear c38
       try clear c38b0
       try clear c38b1
       try clear c39
       try clear c39b0
       try clear c39b1
       try clear c39b2
       try clear c46
       try clear hcz13_0
       try clear hcz13_1
       try clear hcz13_2
       try clear hcz15_0
       try clear hcz15_1
       try clear hcz15_2
       try clear hcz17_0
       try clear hcz17_1
       try clear hcz17_2
       try clear hcz19_0
       try clear hcz19_1
       try clear hcz19_2
       try clear hcz21_0
       try clear hcz21_1
       try clear hcz21_2
       try clear hcz23_0
       try clear hcz23_1
       try clear hcz23_2
       try clear hcz25_0
       try clear hcz25_1
       try clear hcz25_2
       try clear hcz27_0
       try clear hcz27_1
       try clear hcz27_2
       try clear hcz30_0
       try clear hcz30_1
       try clear hcz30_2
       try clear hcz40_0
       try clear hcz40_1
       try clear hcz40_2
       try clear hcz42_0
       try clear hcz42_1
       try clear hcz42_2
       try clear hcz47_0
       try clear hcz47_1
       try clear hcz47_2
       try clear hfz13_0
       try clear hfz13_1
       try clear hfz13_2
       try clear hfz15_0
       try clear hfz15_1
       try clear hfz15_2
       try clear hfz17_0
       try clear hfz17_1
       try clear hfz17_2
       try clear hfz19_0
       try clear hfz19_1
       try clear hfz19_2
       try clear hfz21_0
       try clear hfz21_1
       try clear hfz21_2
       try clear hfz23_0
       try clear hfz23_1
       try clear hfz23_2
       try clear hfz25_0
       try clear hfz25_1
       try clear hfz25_2
       try clear hfz27_0
       try clear hfz27_1
       try clear hfz27_2
       try clear hfz30_0
       try clear hfz30_1
       try clear hfz30_2
       try clear hfz40_0
       try clear hfz40_1
       try clear hfz40_2
       try clear hfz42_0
       try clear hfz42_1
       try clear hfz42_2
       try clear hfz47_0
       try clear hfz47_1
       try clear hfz47_2
       try clear p2
       obtain ⟨x10_2, rfl, HA, HK2, HO_5, HO_513000, BK494, BK512, HB⟩ := hrel
       cases gk with
       | zero => exact absurd HA.out (by simp [anamnesislaw05_MoveRoom.l0])
       | succ k2 =>
        have H := HA.out
        clear HA
        simp only [anamnesislaw05_MoveRoom.l0] at H
        by_cases c49 : x10_2 < (t499.length : Int)
        ·rw [if_pos c49] at H
         have c49b0 : decide (x10_2 < (t499.length : Int)) = true := decide_eq_true c49
         clear c49
         by_cases c50 : 0 ≤ x10_2
         ·rw [if_pos c50] at H
          have c50b0 : decide (0 ≤ x10_2) = true := decide_eq_true c50
          clear c50
          by_cases c51 : 0 ≤ (rd t499 x10_2)
          ·rw [if_pos c51] at H
           have c51b0 : decide (0 ≤ (rd t499 x10_2)) = true := decide_eq_true c51
           clear c51
           by_cases c52 : (rd t499 x10_2) < (l0_0.length : Int)
           ·rw [if_pos c52] at H
            have c52b0 : decide ((rd t499 x10_2) < (l0_0.length : Int)) = true := decide_eq_true c52
            clear c52
            by_cases c53 : x10_2 < (t503.length : Int)
            ·rw [if_pos c53] at H
             have c53b0 : decide (x10_2 < (t503.length : Int)) = true := decide_eq_true c53
             clear c53
             by_cases c54 : ((rd_T44 l0_0 (rd t499 x10_2)).f1) = ((rd_T44 t503 x10_2).f1)
             ·rw [if_pos c54] at H
              have c54b0 : (((rd_T44 l0_0 (rd t499 x10_2)).f1) == ((rd_T44 t503 x10_2).f1)) = true := beq_iff_eq.mpr c54
              have c54b1 : (((rd_T44 l0_0 (rd t499 x10_2)).f1) != ((rd_T44 t503 x10_2).f1)) = false := bne_eq_false_iff_eq.mpr c54
              clear c54
              by_cases c55 : ((rd_T44 l0_0 (rd t499 x10_2)).f3).toList = ((rd_T44 t503 x10_2).f3).toList
              ·rw [if_pos c55] at H
               have c55b0 : (((rd_T44 l0_0 (rd t499 x10_2)).f3).toList == ((rd_T44 t503 x10_2).f3).toList) = true := beq_iff_eq.mpr c55
               have c55b1 : (((rd_T44 l0_0 (rd t499 x10_2)).f3).toList != ((rd_T44 t503 x10_2).f3).toList) = false := bne_eq_false_iff_eq.mpr c55
               clear c55
               by_cases c56 : ((rd_T44 l0_0 (rd t499 x10_2)).f4) = ((rd_T44 t503 x10_2).f4)
               ·rw [if_pos c56] at H
                have c56b0 : (((rd_T44 l0_0 (rd t499 x10_2)).f4) == ((rd_T44 t503 x10_2).f4)) = true := beq_iff_eq.mpr c56
                have c56b1 : (((rd_T44 l0_0 (rd t499 x10_2)).f4) != ((rd_T44 t503 x10_2).f4)) = false := bne_eq_false_iff_eq.mpr c56
                clear c56
                by_cases c57 : ((rd_T44 l0_0 (rd t499 x10_2)).f5) = ((rd_T44 t503 x10_2).f5)
                ·rw [if_pos c57] at H
                 have c57b0 : (((rd_T44 l0_0 (rd t499 x10_2)).f5) == ((rd_T44 t503 x10_2).f5)) = true := beq_iff_eq.mpr c57
                 have c57b1 : (((rd_T44 l0_0 (rd t499 x10_2)).f5) != ((rd_T44 t503 x10_2).f5)) = false := bne_eq_false_iff_eq.mpr c57
                 clear c57
                 by_cases c58 : (((rd_T44 l0_0 (rd t499 x10_2)).f2).length : Int) = (((rd_T44 t503 x10_2).f2).length : Int)
                 ·rw [if_pos c58] at H
                  have c58b0 : ((((rd_T44 l0_0 (rd t499 x10_2)).f2).length : Int) == (((rd_T44 t503 x10_2).f2).length : Int)) = true := beq_iff_eq.mpr c58
                  have c58b1 : ((((rd_T44 l0_0 (rd t499 x10_2)).f2).length : Int) != (((rd_T44 t503 x10_2).f2).length : Int)) = false := bne_eq_false_iff_eq.mpr c58
                  have c58b2 : (((rd_T44 l0_0 (rd t499 x10_2)).f2).length == ((rd_T44 t503 x10_2).f2).length) = true := by first | simpa using c58 | (simp at c58 ⊢; omega)
                  clear c58
                  have H' := Aside0.mk H
                  clear H
                  try go_wp2
                  have n0_ := Aside0.mk (Kd.R_drew HO_5.out)
                  have n1_ := Aside0.mk (Kd.S_drew HO_513000.out)
                  have n2_ := Aside0.mk (blk_drew BK494.out)
                  have n3_ := Aside0.mk (blk_drew BK512.out)
                  have n4_ := Aside0.mk (below_drew1 HB.out)
                  clear HO_5
                  clear HO_513000
                  clear BK494
                  clear BK512
                  clear HB
                  have HO_5 := n0_
                  have HO_513000 := n1_
                  have BK494 := n2_
                  have BK512 := n3_
                  have HB := n4_
                  clear n0_ n1_ n2_ n3_ n4_
                  have p513 : 0 ≤ (x10_2 : Int) := of_decide_eq_true (by first | (with_reducible assumption) | assumption)
                  have q513 : x10_2 < (t499.length : Int) := of_decide_eq_true (by first | (with_reducible assumption) | assumption)
                  obtain ⟨ad513, e513, hx513_0⟩ := Kd.at_int (Kd.R_reads' HO_5.out).2.2 x10_2 p513 q513
                  cases e513
                  replace p513 := eq_true p513
                  replace q513 := eq_true q513
                  have p514 : 0 ≤ ((rd t499 x10_2) : Int) := of_decide_eq_true (by first | (with_reducible assumption) | assumption)
                  have q514 : (rd t499 x10_2) < (l0_0.length : Int) := of_decide_eq_true (by first | (with_reducible assumption) | assumption)
                  obtain ⟨ad514, A514_2, c514_2, e514, hx514_0, hx514_1, hx514_2, hx514_3, hx514_4, hx514_5, hl514_2, hi514_2⟩ := at_T44 HR0_0.out (rd t499 x10_2) p514 q514
                  have hw514_5 := hx514_5
                  have hw514_4 := hx514_4
                  have hw514_3 := hx514_3
                  have hw514_2 := hx514_2
                  have hw514_1 := hx514_1
                  have hw514_0 := hx514_0
                  cases e514
                  replace hx514_0 := (HB.out.cell (World.block_lt_of_cell? w _ hx514_0)).trans hx514_0
                  replace hx514_1 := (HB.out.cell (World.block_lt_of_cell? w _ hx514_1)).trans hx514_1
                  replace hx514_2 := (HB.out.cell (World.block_lt_of_cell? w _ hx514_2)).trans hx514_2
                  replace hx514_3 := (HB.out.cell (World.block_lt_of_cell? w _ hx514_3)).trans hx514_3
                  replace hx514_4 := (HB.out.cell (World.block_lt_of_cell? w _ hx514_4)).trans hx514_4
                  replace hx514_5 := (HB.out.cell (World.block_lt_of_cell? w _ hx514_5)).trans hx514_5
                  have HR514_2 := Aside0.mk hi514_2
                  have HC514_2 := Aside0.mk hl514_2
                  clear hi514_2 hl514_2
                  replace p514 := eq_true p514
                  replace q514 := eq_true q514
                  have p515 : 0 ≤ (x10_2 : Int) := of_decide_eq_true (by first | (with_reducible assumption) | assumption)
                  have q515 : x10_2 < (t503.length : Int) := of_decide_eq_true (by first | (with_reducible assumption) | assumption)
                  obtain ⟨ad515, A515_2, c515_2, e515, hx515_0, hx515_1, hx515_2, hx515_3, hx515_4, hx515_5, hl515_2, hi515_2⟩ := at_T44 (Kd.S_reads' HO_513000.out).2.2 x10_2 p515 q515
                  cases e515
                  obtain ⟨ce515, hce515, hMe515, hcc515⟩ := Kd.S_get HO_513000.out z44 x10_2 p515 (by first | exact q515 | exact of_decide_eq_true (by first | (with_reducible assumption) | assumption) | (have e_ := (Kd.S_reads' HO_513000.out).1; omega))
                  obtain ⟨ve515_2, rfl, ge515_2⟩ := k44_openM hMe515
                  have hv515_2 := hcc515 2 _ rfl
                  rw [add_field _ _ 2 (by omega)] at hv515_2
                  replace hv515_2 := Option.some.inj (hv515_2.symm.trans hx515_2)
                  rw [hv515_2] at ge515_2
                  have HL515_2 := Aside0.mk (show Kd.R (Kd.int .i64) 3 _ _ _ _ ((rd_T44 t503 x10_2).f2) from ge515_2)
                  clear hv515_2 ge515_2
                  clear hcc515 hce515
                  have HR515_2 := Aside0.mk hi515_2
                  have HC515_2 := Aside0.mk hl515_2
                  clear hi515_2 hl515_2
                  replace p515 := eq_true p515
                  replace q515 := eq_true q515
                  refine start_ (n := 17) (S := fun w' => w'.cell? ⟨gb494, 0, none⟩ = some (.slice (some ad514) l0_0.length c0_0) ∧ w'.cell? ⟨gb494, 1, none⟩ = some (.int .i64 a0_1) ∧ w'.cell? ⟨gb494, 2, none⟩ = some (.int .i64 a0_2) ∧ w'.cell? ⟨gb512, 0, none⟩ = some (.slice (some ad515) t503.length co45) ∧ w'.cell? ⟨gb512, 1, none⟩ = some (.int .i64 t506) ∧ w'.cell? ⟨gb512, 2, none⟩ = some (.int .i64 t507) ∧ w'.cell? (ad513.add (x10_2).toNat) = some (.int .i64 (rd t499 x10_2)) ∧ w'.cell? (ad514.add (((rd t499 x10_2)).toNat * 6)) = some (.int .i64 ((rd_T44 l0_0 (rd t499 x10_2)).f0)) ∧ w'.cell? ⟨(ad514.add (((rd t499 x10_2)).toNat * 6)).block, (ad514.add (((rd t499 x10_2)).toNat * 6)).off + 1, none⟩ = some (.int .i64 ((rd_T44 l0_0 (rd t499 x10_2)).f1)) ∧ w'.cell? ⟨(ad514.add (((rd t499 x10_2)).toNat * 6)).block, (ad514.add (((rd t499 x10_2)).toNat * 6)).off + 2, none⟩ = some (.slice A514_2 ((rd_T44 l0_0 (rd t499 x10_2)).f2).length c514_2) ∧ w'.cell? ⟨(ad514.add (((rd t499 x10_2)).toNat * 6)).block, (ad514.add (((rd t499 x10_2)).toNat * 6)).off + 3, none⟩ = some (.string ((rd_T44 l0_0 (rd t499 x10_2)).f3)) ∧ w'.cell? ⟨(ad514.add (((rd t499 x10_2)).toNat * 6)).block, (ad514.add (((rd t499 x10_2)).toNat * 6)).off + 4, none⟩ = some (.int .i64 ((rd_T44 l0_0 (rd t499 x10_2)).f4)) ∧ w'.cell? ⟨(ad514.add (((rd t499 x10_2)).toNat * 6)).block, (ad514.add (((rd t499 x10_2)).toNat * 6)).off + 5, none⟩ = some (.int .i64 ((rd_T44 l0_0 (rd t499 x10_2)).f5)) ∧ w'.cell? (ad515.add ((x10_2).toNat * 6)) = some (.int .i64 ((rd_T44 t503 x10_2).f0)) ∧ w'.cell? ⟨(ad515.add ((x10_2).toNat * 6)).block, (ad515.add ((x10_2).toNat * 6)).off + 1, none⟩ = some (.int .i64 ((rd_T44 t503 x10_2).f1)) ∧ w'.cell? ⟨(ad515.add ((x10_2).toNat * 6)).block, (ad515.add ((x10_2).toNat * 6)).off + 2, none⟩ = some (.slice A515_2 ((rd_T44 t503 x10_2).f2).length c515_2) ∧ w'.cell? ⟨(ad515.add ((x10_2).toNat * 6)).block, (ad515.add ((x10_2).toNat * 6)).off + 3, none⟩ = some (.string ((rd_T44 t503 x10_2).f3)) ∧ w'.cell? ⟨(ad515.add ((x10_2).toNat * 6)).block, (ad515.add ((x10_2).toNat * 6)).off + 4, none⟩ = some (.int .i64 ((rd_T44 t503 x10_2).f4)) ∧ w'.cell? ⟨(ad515.add ((x10_2).toNat * 6)).block, (ad515.add ((x10_2).toNat * 6)).off + 5, none⟩ = some (.int .i64 ((rd_T44 t503 x10_2).f5))) (ds := []) #[false, false, false, false, false, false, false, false, false, false, false, false, false, false, false, false, false] (by kernel_rfl) rfl rfl ⟨(blk_cell BK494.out 0).trans rfl, (blk_cell BK494.out 1).trans rfl, (blk_cell BK494.out 2).trans rfl, (blk_cell BK512.out 0).trans rfl, (blk_cell BK512.out 1).trans rfl, (blk_cell BK512.out 2).trans rfl, hx513_0, ((HB.out.cell (World.block_lt_of_cell? w _ hw514_0)).trans hw514_0), ((HB.out.cell (World.block_lt_of_cell? w _ hw514_1)).trans hw514_1), ((HB.out.cell (World.block_lt_of_cell? w _ hw514_2)).trans hw514_2), ((HB.out.cell (World.block_lt_of_cell? w _ hw514_3)).trans hw514_3), ((HB.out.cell (World.block_lt_of_cell? w _ hw514_4)).trans hw514_4), ((HB.out.cell (World.block_lt_of_cell? w _ hw514_5)).trans hw514_5), hx515_0, hx515_1, hx515_2, hx515_3, hx515_4, hx515_5⟩ (fun hHeld => ?_); refine with_tabW anamnesislaw05_MoveRoom.tab10 anamnesislaw05_MoveRoom.bits10 (fun HT_ HW_ => ?_)
                  generalize wr.drew = w59 at HO_5 HO_513000 BK494 BK512 HB HL515_2 HR514_2 HR515_2 hx513_0 hx514_0 hx514_1 hx514_2 hx514_3 hx514_4 hx514_5 hx515_0 hx515_1 hx515_2 hx515_3 hx515_4 hx515_5 hHeld ⊢
                  refine pure_ (i := 0) (N := some 67) (v := ?_) (a' := ?_) #[true, false, false, false, false, false, false, false, false, false, false, false, false, false, false, false, false] rfl rfl (any_of HT_.out (by kernel_rfl)) (fun _ _ _ h => h) (Or.inl ⟨by rfl, ?_⟩) ?_ ?_
                  rotate_left
                  ·intro w'
                   go_simp
                   with_reducible rfl
                  rotate_left
                  ·simp only [Act.put, List.setIfInBounds_toArray, List.set_cons_zero, List.set_cons_succ, i64_w, i32_w]
                   rfl
                  refine pure_ (i := 2) (N := some 69) (v := ?_) (a' := ?_) #[true, false, true, false, false, false, false, false, false, false, false, false, false, false, false, false, false] rfl rfl (any_of HT_.out (by kernel_rfl)) (fun _ _ _ h => h) (Or.inl ⟨by rfl, ?_⟩) ?_ ?_
                  rotate_left
                  ·intro w'
                   go_simp
                   with_reducible rfl
                  rotate_left
                  ·simp only [Act.put, List.setIfInBounds_toArray, List.set_cons_zero, List.set_cons_succ, i64_w, i32_w]
                   rfl
                  refine pure_ (i := 3) (N := some 70) (v := ?_) (a' := ?_) #[true, false, true, true, false, false, false, false, false, false, false, false, false, false, false, false, false] rfl rfl (any_of HT_.out (by kernel_rfl)) (fun _ _ _ h => h) (Or.inl ⟨by rfl, ?_⟩) ?_ ?_
                  rotate_left
                  ·intro w'
                   go_simp
                   with_reducible rfl
                  rotate_left
                  ·simp only [Act.put, List.setIfInBounds_toArray, List.set_cons_zero, List.set_cons_succ, i64_w, i32_w]
                   rfl
                  refine pure_ (i := 4) (N := some 71) (v := ?_) (a' := ?_) #[true, false, true, true, true, false, false, false, false, false, false, false, false, false, false, false, false] rfl rfl (any_of HT_.out (by kernel_rfl)) (fun _ _ _ h => h) (Or.inl ⟨by rfl, ?_⟩) ?_ ?_
                  rotate_left
                  ·intro w'
                   go_simp
                   with_reducible rfl
                  rotate_left
                  ·simp only [Act.put, List.setIfInBounds_toArray, List.set_cons_zero, List.set_cons_succ, i64_w, i32_w]
                   rfl
                  refine pure_ (i := 8) (N := some 75) (v := ?_) (a' := ?_) #[true, false, true, true, true, false, false, false, true, false, false, false, false, false, false, false, false] rfl rfl (any_of HT_.out (by kernel_rfl)) (fun _ _ _ h => h) (Or.inl ⟨by rfl, ?_⟩) ?_ ?_
                  rotate_left
                  ·intro w'
                   go_simp
                   with_reducible rfl
                  rotate_left
                  ·simp only [Act.put, List.setIfInBounds_toArray, List.set_cons_zero, List.set_cons_succ, i64_w, i32_w]
                   rfl
                  refine pure_ (i := 10) (N := some 77) (v := ?_) (a' := ?_) #[true, false, true, true, true, false, false, false, true, false, true, false, false, false, false, false, false] rfl rfl (any_of HT_.out (by kernel_rfl)) (fun _ _ _ h => h) (Or.inl ⟨by rfl, ?_⟩) ?_ ?_
                  rotate_left
                  ·intro w'
                   go_simp
                   with_reducible rfl
                  rotate_left
                  ·simp only [Act.put, List.setIfInBounds_toArray, List.set_cons_zero, List.set_cons_succ, i64_w, i32_w]
                   rfl
                  refine take_ (i := 1) (N := some 68) (v := ?_) (a' := ?_) #[true, true, true, true, true, false, false, false, true, false, true, false, false, false, false, false, false] rfl rfl (take_ofW HT_.out HW_.out (by kernel_rfl)) (fun _ _ _ h => h) (Or.inl ⟨by rfl, ?_⟩) hHeld ?_ ?_
                  rotate_left
                  ·rintro w' ⟨s0, s1, s2, s3, s4, s5, s6, s7, s8, s9, s10, s11, s12, s13, s14, s15, s16, s17, s18⟩
                   go_simp
                   with_reducible rfl
                  rotate_left
                  ·simp only [Act.put, List.setIfInBounds_toArray, List.set_cons_zero, List.set_cons_succ, i64_w, i32_w]
                   rfl
                  refine take_ (i := 5) (N := some 72) (v := ?_) (a' := ?_) #[true, true, true, true, true, true, false, false, true, false, true, false, false, false, false, false, false] rfl rfl (take_ofW HT_.out HW_.out (by kernel_rfl)) (fun _ _ _ h => h) (Or.inl ⟨by rfl, ?_⟩) hHeld ?_ ?_
                  rotate_left
                  ·rintro w' ⟨s0, s1, s2, s3, s4, s5, s6, s7, s8, s9, s10, s11, s12, s13, s14, s15, s16, s17, s18⟩
                   go_simp
                   with_reducible rfl
                  rotate_left
                  ·simp only [Act.put, List.setIfInBounds_toArray, List.set_cons_zero, List.set_cons_succ, i64_w, i32_w]
                   rfl
                  refine pure_ (i := 6) (N := some 73) (v := ?_) (a' := ?_) #[true, true, true, true, true, true, true, false, true, false, true, false, false, false, false, false, false] rfl rfl (any_of HT_.out (by kernel_rfl)) (fun _ _ _ h => h) (Or.inl ⟨by rfl, ?_⟩) ?_ ?_
                  rotate_left
                  ·intro w'
                   go_simp
                   with_reducible rfl
                  rotate_left
                  ·simp only [Act.put, List.setIfInBounds_toArray, List.set_cons_zero, List.set_cons_succ, i64_w, i32_w]
                   rfl
                  refine take_ (i := 7) (N := some 74) (v := ?_) (a' := ?_) #[true, true, true, true, true, true, true, true, true, false, true, false, false, false, false, false, false] rfl rfl (take_ofW HT_.out HW_.out (by kernel_rfl)) (fun _ _ _ h => h) (Or.inl ⟨by rfl, ?_⟩) hHeld ?_ ?_
                  rotate_left
                  ·rintro w' ⟨s0, s1, s2, s3, s4, s5, s6, s7, s8, s9, s10, s11, s12, s13, s14, s15, s16, s17, s18⟩
                   go_simp
                   with_reducible rfl
                  rotate_left
                  ·simp only [Act.put, List.setIfInBounds_toArray, List.set_cons_zero, List.set_cons_succ, i64_w, i32_w]
                   rfl
                  refine take_ (i := 9) (N := some 76) (v := ?_) (a' := ?_) #[true, true, true, true, true, true, true, true, true, true, true, false, false, false, false, false, false] rfl rfl (take_ofW HT_.out HW_.out (by kernel_rfl)) (fun _ _ _ h => h) (Or.inl ⟨by rfl, ?_⟩) hHeld ?_ ?_
                  rotate_left
                  ·rintro w' ⟨s0, s1, s2, s3, s4, s5, s6, s7, s8, s9, s10, s11, s12, s13, s14, s15, s16, s17, s18⟩
                   go_simp
                   with_reducible rfl
                  rotate_left
                  ·simp only [Act.put, List.setIfInBounds_toArray, List.set_cons_zero, List.set_cons_succ, i64_w, i32_w]
                   rfl
                  refine pure_ (i := 11) (N := some 78) (v := ?_) (a' := ?_) #[true, true, true, true, true, true, true, true, true, true, true, true, false, false, false, false, false] rfl rfl (any_of HT_.out (by kernel_rfl)) (fun _ _ _ h => h) (Or.inl ⟨by rfl, ?_⟩) ?_ ?_
                  rotate_left
                  ·intro w'
                   go_simp
                   with_reducible rfl
                  rotate_left
                  ·simp only [Act.put, List.setIfInBounds_toArray, List.set_cons_zero, List.set_cons_succ, i64_w, i32_w]
                   rfl
                  refine take_ (i := 12) (N := some 79) (v := ?_) (a' := ?_) #[true, true, true, true, true, true, true, true, true, true, true, true, true, false, false, false, false] rfl rfl (take_ofW HT_.out HW_.out (by kernel_rfl)) (fun _ _ _ h => h) (Or.inl ⟨by rfl, ?_⟩) hHeld ?_ ?_
                  rotate_left
                  ·rintro w' ⟨s0, s1, s2, s3, s4, s5, s6, s7, s8, s9, s10, s11, s12, s13, s14, s15, s16, s17, s18⟩
                   go_simp
                   with_reducible rfl
                  rotate_left
                  ·simp only [Act.put, List.setIfInBounds_toArray, List.set_cons_zero, List.set_cons_succ, i64_w, i32_w]
                   rfl
                  refine join_ (σ := Nat × Nat) 2 #[true, true, true, true, true, true, true, true, true, true, true, true, true, true, true, false, false] (fun s_ => [(11, .pointer (some ⟨s_.1, 0, none⟩)), (12, .pointer (some ⟨s_.2, 0, none⟩))]) (fun s_ w' => (w'.cell? ⟨gb494, 0, none⟩ = some (.slice (some ad514) l0_0.length c0_0) ∧ w'.cell? ⟨gb494, 1, none⟩ = some (.int .i64 a0_1) ∧ w'.cell? ⟨gb494, 2, none⟩ = some (.int .i64 a0_2) ∧ w'.cell? ⟨gb512, 0, none⟩ = some (.slice (some ad515) t503.length co45) ∧ w'.cell? ⟨gb512, 1, none⟩ = some (.int .i64 t506) ∧ w'.cell? ⟨gb512, 2, none⟩ = some (.int .i64 t507) ∧ w'.cell? (ad513.add (x10_2).toNat) = some (.int .i64 (rd t499 x10_2)) ∧ w'.cell? (ad514.add (((rd t499 x10_2)).toNat * 6)) = some (.int .i64 ((rd_T44 l0_0 (rd t499 x10_2)).f0)) ∧ w'.cell? ⟨(ad514.add (((rd t499 x10_2)).toNat * 6)).block, (ad514.add (((rd t499 x10_2)).toNat * 6)).off + 1, none⟩ = some (.int .i64 ((rd_T44 l0_0 (rd t499 x10_2)).f1)) ∧ w'.cell? ⟨(ad514.add (((rd t499 x10_2)).toNat * 6)).block, (ad514.add (((rd t499 x10_2)).toNat * 6)).off + 2, none⟩ = some (.slice A514_2 ((rd_T44 l0_0 (rd t499 x10_2)).f2).length c514_2) ∧ w'.cell? ⟨(ad514.add (((rd t499 x10_2)).toNat * 6)).block, (ad514.add (((rd t499 x10_2)).toNat * 6)).off + 3, none⟩ = some (.string ((rd_T44 l0_0 (rd t499 x10_2)).f3)) ∧ w'.cell? ⟨(ad514.add (((rd t499 x10_2)).toNat * 6)).block, (ad514.add (((rd t499 x10_2)).toNat * 6)).off + 4, none⟩ = some (.int .i64 ((rd_T44 l0_0 (rd t499 x10_2)).f4)) ∧ w'.cell? ⟨(ad514.add (((rd t499 x10_2)).toNat * 6)).block, (ad514.add (((rd t499 x10_2)).toNat * 6)).off + 5, none⟩ = some (.int .i64 ((rd_T44 l0_0 (rd t499 x10_2)).f5)) ∧ w'.cell? (ad515.add ((x10_2).toNat * 6)) = some (.int .i64 ((rd_T44 t503 x10_2).f0)) ∧ w'.cell? ⟨(ad515.add ((x10_2).toNat * 6)).block, (ad515.add ((x10_2).toNat * 6)).off + 1, none⟩ = some (.int .i64 ((rd_T44 t503 x10_2).f1)) ∧ w'.cell? ⟨(ad515.add ((x10_2).toNat * 6)).block, (ad515.add ((x10_2).toNat * 6)).off + 2, none⟩ = some (.slice A515_2 ((rd_T44 t503 x10_2).f2).length c515_2) ∧ w'.cell? ⟨(ad515.add ((x10_2).toNat * 6)).block, (ad515.add ((x10_2).toNat * 6)).off + 3, none⟩ = some (.string ((rd_T44 t503 x10_2).f3)) ∧ w'.cell? ⟨(ad515.add ((x10_2).toNat * 6)).block, (ad515.add ((x10_2).toNat * 6)).off + 4, none⟩ = some (.int .i64 ((rd_T44 t503 x10_2).f4)) ∧ w'.cell? ⟨(ad515.add ((x10_2).toNat * 6)).block, (ad515.add ((x10_2).toNat * 6)).off + 5, none⟩ = some (.int .i64 ((rd_T44 t503 x10_2).f5))) ∧ (Kd.R (Kd.int .i64) 3 w' w.heap.size (fun k_ => some k_ ≠ (.slice (some ad513) t499.length co48 : Value).ownBlock ∧ some k_ ≠ (.slice (some ad515) t503.length co45 : Value).ownBlock) (.slice A515_2 ((rd_T44 t503 x10_2).f2).length c515_2) ((rd_T44 t503 x10_2).f2)) ∧ (Kd.R (Kd.int .i64) 3 w' w.heap.size (fun _ => True) (.slice (some ad513) t499.length co48) t499) ∧ (Kd.S k44 44 w' w.heap.size (fun k_ => some k_ ≠ (.slice (some ad513) t499.length co48 : Value).ownBlock ∧ k_ ≠ s_.1 ∧ k_ ≠ s_.2) (.slice (some ad515) t503.length co45) t503) ∧ (w'.heap[gb494]? = some (.cells #[.slice (some ad514) l0_0.length c0_0, .int .i64 a0_1, .int .i64 a0_2] 24 (0, 0))) ∧ (w'.heap[gb512]? = some (.cells #[.slice (some ad515) t503.length co45, .int .i64 t506, .int .i64 t507] 24 (0, 0))) ∧ (w'.heap[s_.1]? = some (.cells #[.int .i64 0, .int .i64 0, .slice none 0 0, .string (⟨#[]⟩ : ByteArray), .int .i64 0, .int .i64 0] 44 (0, 0))) ∧ (w'.heap[s_.2]? = some (.cells #[.int .i64 0, .int .i64 0, .slice none 0 0, .string (⟨#[]⟩ : ByteArray), .int .i64 0, .int .i64 0] 44 (0, 0))) ∧ (w.heap.size ≤ s_.1) ∧ (w.heap.size ≤ s_.1) ∧ (gb494 ≠ s_.1) ∧ (s_.1 ≠ gb494) ∧ (gb512 ≠ s_.1) ∧ (s_.1 ≠ gb512) ∧ (s_.2 ≠ s_.1) ∧ (s_.1 ≠ s_.2) ∧ (w.heap.size ≤ s_.2) ∧ (w.heap.size ≤ s_.2) ∧ (gb494 ≠ s_.2) ∧ (s_.2 ≠ gb494) ∧ (gb512 ≠ s_.2) ∧ (s_.2 ≠ gb512) ∧ (Below w.heap.size w w')) ?_ ?_
                  rotate_left
                  ·intro hCont
                   refine two_ (i := 13) (j := 14) (Ni := some 11) (Nj := some 12) #[true, true, true, true, true, true, true, true, true, true, true, true, true, true, false, false, false] #[true, true, true, true, true, true, true, true, true, true, true, true, true, false, true, false, false] rfl rfl rfl rfl (two_of HT_.out (by kernel_rfl)) (by decide) (by decide) (fun K hK => ?_) (fun K hK => ?_)
                   ·skip
                    refine box_step ?hg (N := 11) ?hd (cs := #[.int .i64 0, .int .i64 0, .slice none 0 0, .string (⟨#[]⟩ : ByteArray), .int .i64 0, .int .i64 0]) (t := 44) ?hr ?_; (case hd => rfl); (case hg => rfl); (case hr => first | (go_simp; done) | (go_simp; rfl))
                    intro gb516 hg w60 hbox hb
                    have HS6_ := (hb.cell (World.block_lt_of_cell? _ _ (hHeld.2.2.2.2.2.2.1))).trans (hHeld.2.2.2.2.2.2.1)
                    have HS13_ := (hb.cell (World.block_lt_of_cell? _ _ (hHeld.2.2.2.2.2.2.2.2.2.2.2.2.2.1))).trans (hHeld.2.2.2.2.2.2.2.2.2.2.2.2.2.1)
                    have HS14_ := (hb.cell (World.block_lt_of_cell? _ _ (hHeld.2.2.2.2.2.2.2.2.2.2.2.2.2.2.1))).trans (hHeld.2.2.2.2.2.2.2.2.2.2.2.2.2.2.1)
                    have HS15_ := (hb.cell (World.block_lt_of_cell? _ _ (hHeld.2.2.2.2.2.2.2.2.2.2.2.2.2.2.2.1))).trans (hHeld.2.2.2.2.2.2.2.2.2.2.2.2.2.2.2.1)
                    have HS16_ := (hb.cell (World.block_lt_of_cell? _ _ (hHeld.2.2.2.2.2.2.2.2.2.2.2.2.2.2.2.2.1))).trans (hHeld.2.2.2.2.2.2.2.2.2.2.2.2.2.2.2.2.1)
                    have HS17_ := (hb.cell (World.block_lt_of_cell? _ _ (hHeld.2.2.2.2.2.2.2.2.2.2.2.2.2.2.2.2.2.1))).trans (hHeld.2.2.2.2.2.2.2.2.2.2.2.2.2.2.2.2.2.1)
                    have HS18_ := (hb.cell (World.block_lt_of_cell? _ _ (hHeld.2.2.2.2.2.2.2.2.2.2.2.2.2.2.2.2.2.2))).trans (hHeld.2.2.2.2.2.2.2.2.2.2.2.2.2.2.2.2.2.2)
                    have n0_ := Aside0.mk (Kd.R_below (by (with_reducible repeat (first | apply Kd.R_alloc | apply Kd.R_drewN | apply Kd.R_drew)); exact HO_5.out) hb)
                    have n1_ := Aside0.mk (Kd.S_below (Kd.S_elderB (by (with_reducible repeat (first | apply Kd.S_alloc | apply Kd.S_drewN | apply Kd.S_drew)); exact HO_513000.out) gb516 (Nat.le_of_eq hg.symm)) hb)
                    have n2_ := Aside0.mk (Kd.R_below (by (with_reducible repeat (first | apply Kd.R_alloc | apply Kd.R_drewN | apply Kd.R_drew)); exact HL515_2.out) hb)
                    have n3_ := Aside0.mk (blk_below (g := gb494) (o := .cells #[.slice (some ad514) l0_0.length c0_0, .int .i64 a0_1, .int .i64 a0_2] 24 (0, 0)) (by (with_reducible repeat (first | refine blk_drewN ?_ _ | refine blk_drew ?_ | refine blk_alloc ?_ _)); exact BK494.out) hb)
                    have n4_ := Aside0.mk (blk_below (g := gb512) (o := .cells #[.slice (some ad515) t503.length co45, .int .i64 t506, .int .i64 t507] 24 (0, 0)) (by (with_reducible repeat (first | refine blk_drewN ?_ _ | refine blk_drew ?_ | refine blk_alloc ?_ _)); exact BK512.out) hb)
                    have n5_ := Aside0.mk (Kd.C_below (by repeat (first | (with_reducible exact HR515_2.out) | (with_reducible refine Kd.C_alloc ?_ _) | (with_reducible refine Kd.C_drewN ?_ _) | (with_reducible refine Kd.C_drew ?_) | exact HR515_2.out)) hb)
                    have n6_ := Aside0.mk (below_step (by repeat (first | (with_reducible first | exact HB.out | apply below_alloc | apply pw_below_drewN | apply below_drew1 | refine below_set ?_ GE494.out | refine below_set ?_ GE512.out) | exact HB.out)) hb)
                    have n7_ := Aside0.mk (hbox)
                    have n8_ := Aside0.mk ((by rw [hg]; exact (below_size (by repeat (first | (with_reducible first | exact HB.out | apply below_alloc | apply pw_below_drewN | apply below_drew1 | refine below_set ?_ GE494.out | refine below_set ?_ GE512.out) | exact HB.out))) : w.heap.size ≤ gb516))
                    have n9_ := Aside0.mk ((by rw [hg]; exact (below_size (by repeat (first | (with_reducible first | exact HB.out | apply below_alloc | apply pw_below_drewN | apply below_drew1 | refine below_set ?_ GE494.out | refine below_set ?_ GE512.out) | exact HB.out))) : w.heap.size ≤ gb516))
                    have n10_ := Aside0.mk ((by rw [hg]; exact Nat.ne_of_lt (blk_lt (g := gb494) (o := .cells #[.slice (some ad514) l0_0.length c0_0, .int .i64 a0_1, .int .i64 a0_2] 24 (0, 0)) (by (with_reducible repeat (first | refine blk_drewN ?_ _ | refine blk_drew ?_ | refine blk_alloc ?_ _)); exact BK494.out)) : gb494 ≠ gb516))
                    have n11_ := Aside0.mk ((by rw [hg]; exact Nat.ne_of_gt (blk_lt (g := gb494) (o := .cells #[.slice (some ad514) l0_0.length c0_0, .int .i64 a0_1, .int .i64 a0_2] 24 (0, 0)) (by (with_reducible repeat (first | refine blk_drewN ?_ _ | refine blk_drew ?_ | refine blk_alloc ?_ _)); exact BK494.out)) : gb516 ≠ gb494))
                    have n12_ := Aside0.mk ((by rw [hg]; exact Nat.ne_of_lt (blk_lt (g := gb512) (o := .cells #[.slice (some ad515) t503.length co45, .int .i64 t506, .int .i64 t507] 24 (0, 0)) (by (with_reducible repeat (first | refine blk_drewN ?_ _ | refine blk_drew ?_ | refine blk_alloc ?_ _)); exact BK512.out)) : gb512 ≠ gb516))
                    have n13_ := Aside0.mk ((by rw [hg]; exact Nat.ne_of_gt (blk_lt (g := gb512) (o := .cells #[.slice (some ad515) t503.length co45, .int .i64 t506, .int .i64 t507] 24 (0, 0)) (by (with_reducible repeat (first | refine blk_drewN ?_ _ | refine blk_drew ?_ | refine blk_alloc ?_ _)); exact BK512.out)) : gb516 ≠ gb512))
                    clear HO_5
                    clear HO_513000
                    clear HL515_2
                    clear BK494
                    clear BK512
                    clear HR515_2
                    clear HB
                    have HO_5 := n0_
                    have HO_513000 := n1_
                    have HL515_2 := n2_
                    have BK494 := n3_
                    have BK512 := n4_
                    have HR515_2 := n5_
                    have HB := n6_
                    have BK516 := n7_
                    have GW516 := n8_
                    have GE516 := n9_
                    have NB494_516 := n10_
                    have NB516_494 := n11_
                    have NB512_516 := n12_
                    have NB516_512 := n13_
                    clear n0_ n1_ n2_ n3_ n4_ n5_ n6_ n7_ n8_ n9_ n10_ n11_ n12_ n13_
                    clear hb hbox hg
                    refine hK.out _ _ ⟨(blk_cell BK494.out 0).trans rfl, (blk_cell BK494.out 1).trans rfl, (blk_cell BK494.out 2).trans rfl, (blk_cell BK512.out 0).trans rfl, (blk_cell BK512.out 1).trans rfl, (blk_cell BK512.out 2).trans rfl, HS6_, ((HB.out.cell (World.block_lt_of_cell? w _ hw514_0)).trans hw514_0), ((HB.out.cell (World.block_lt_of_cell? w _ hw514_1)).trans hw514_1), ((HB.out.cell (World.block_lt_of_cell? w _ hw514_2)).trans hw514_2), ((HB.out.cell (World.block_lt_of_cell? w _ hw514_3)).trans hw514_3), ((HB.out.cell (World.block_lt_of_cell? w _ hw514_4)).trans hw514_4), ((HB.out.cell (World.block_lt_of_cell? w _ hw514_5)).trans hw514_5), HS13_, HS14_, HS15_, HS16_, HS17_, HS18_⟩ (fun hHeld => ?_)
                    clear hK K
                    refine norm_ (a' := ?_) ?_ ?_
                    rotate_left
                    ·show Act.put _ (some 11) _ = _
                     simp only [Act.put, List.setIfInBounds_toArray, List.set_cons_zero, List.set_cons_succ, i64_w, i32_w]
                     rfl
                    refine one_ (i := 14) (N := some 12) #[true, true, true, true, true, true, true, true, true, true, true, true, true, true, true, false, false] rfl rfl (one_of HT_.out (by kernel_rfl)) (by decide) (fun K hK => ?_)
                    refine box_step ?hg (N := 12) ?hd (cs := #[.int .i64 0, .int .i64 0, .slice none 0 0, .string (⟨#[]⟩ : ByteArray), .int .i64 0, .int .i64 0]) (t := 44) ?hr ?_; (case hd => rfl); (case hg => rfl); (case hr => first | (go_simp; done) | (go_simp; rfl))
                    intro gb517 hg w61 hbox hb
                    have HS6_ := (hb.cell (World.block_lt_of_cell? _ _ (hHeld.2.2.2.2.2.2.1))).trans (hHeld.2.2.2.2.2.2.1)
                    have HS13_ := (hb.cell (World.block_lt_of_cell? _ _ (hHeld.2.2.2.2.2.2.2.2.2.2.2.2.2.1))).trans (hHeld.2.2.2.2.2.2.2.2.2.2.2.2.2.1)
                    have HS14_ := (hb.cell (World.block_lt_of_cell? _ _ (hHeld.2.2.2.2.2.2.2.2.2.2.2.2.2.2.1))).trans (hHeld.2.2.2.2.2.2.2.2.2.2.2.2.2.2.1)
                    have HS15_ := (hb.cell (World.block_lt_of_cell? _ _ (hHeld.2.2.2.2.2.2.2.2.2.2.2.2.2.2.2.1))).trans (hHeld.2.2.2.2.2.2.2.2.2.2.2.2.2.2.2.1)
                    have HS16_ := (hb.cell (World.block_lt_of_cell? _ _ (hHeld.2.2.2.2.2.2.2.2.2.2.2.2.2.2.2.2.1))).trans (hHeld.2.2.2.2.2.2.2.2.2.2.2.2.2.2.2.2.1)
                    have HS17_ := (hb.cell (World.block_lt_of_cell? _ _ (hHeld.2.2.2.2.2.2.2.2.2.2.2.2.2.2.2.2.2.1))).trans (hHeld.2.2.2.2.2.2.2.2.2.2.2.2.2.2.2.2.2.1)
                    have HS18_ := (hb.cell (World.block_lt_of_cell? _ _ (hHeld.2.2.2.2.2.2.2.2.2.2.2.2.2.2.2.2.2.2))).trans (hHeld.2.2.2.2.2.2.2.2.2.2.2.2.2.2.2.2.2.2)
                    have n0_ := Aside0.mk (Kd.R_below (by (with_reducible repeat (first | apply Kd.R_alloc | apply Kd.R_drewN | apply Kd.R_drew)); exact HO_5.out) hb)
                    have n1_ := Aside0.mk (Kd.S_below (Kd.S_elderB (by (with_reducible repeat (first | apply Kd.S_alloc | apply Kd.S_drewN | apply Kd.S_drew)); exact HO_513000.out) gb517 (Nat.le_of_eq hg.symm)) hb)
                    have n2_ := Aside0.mk (Kd.R_below (by (with_reducible repeat (first | apply Kd.R_alloc | apply Kd.R_drewN | apply Kd.R_drew)); exact HL515_2.out) hb)
                    have n3_ := Aside0.mk (blk_below (g := gb494) (o := .cells #[.slice (some ad514) l0_0.length c0_0, .int .i64 a0_1, .int .i64 a0_2] 24 (0, 0)) (by (with_reducible repeat (first | refine blk_drewN ?_ _ | refine blk_drew ?_ | refine blk_alloc ?_ _)); exact BK494.out) hb)
                    have n4_ := Aside0.mk (blk_below (g := gb512) (o := .cells #[.slice (some ad515) t503.length co45, .int .i64 t506, .int .i64 t507] 24 (0, 0)) (by (with_reducible repeat (first | refine blk_drewN ?_ _ | refine blk_drew ?_ | refine blk_alloc ?_ _)); exact BK512.out) hb)
                    have n5_ := Aside0.mk (Kd.C_below (by repeat (first | (with_reducible exact HR515_2.out) | (with_reducible refine Kd.C_alloc ?_ _) | (with_reducible refine Kd.C_drewN ?_ _) | (with_reducible refine Kd.C_drew ?_) | exact HR515_2.out)) hb)
                    have n6_ := Aside0.mk (blk_below (g := gb516) (o := .cells #[.int .i64 0, .int .i64 0, .slice none 0 0, .string (⟨#[]⟩ : ByteArray), .int .i64 0, .int .i64 0] 44 (0, 0)) (by (with_reducible repeat (first | refine blk_drewN ?_ _ | refine blk_drew ?_ | refine blk_alloc ?_ _)); exact BK516.out) hb)
                    have n7_ := Aside0.mk (below_step (by repeat (first | (with_reducible first | exact HB.out | apply below_alloc | apply pw_below_drewN | apply below_drew1 | refine below_set ?_ GE494.out | refine below_set ?_ GE512.out | refine below_set ?_ GE516.out) | exact HB.out)) hb)
                    have n8_ := Aside0.mk (hbox)
                    have n9_ := Aside0.mk ((by rw [hg]; exact (below_size (by repeat (first | (with_reducible first | exact HB.out | apply below_alloc | apply pw_below_drewN | apply below_drew1 | refine below_set ?_ GE494.out | refine below_set ?_ GE512.out | refine below_set ?_ GE516.out) | exact HB.out))) : w.heap.size ≤ gb517))
                    have n10_ := Aside0.mk ((by rw [hg]; exact (below_size (by repeat (first | (with_reducible first | exact HB.out | apply below_alloc | apply pw_below_drewN | apply below_drew1 | refine below_set ?_ GE494.out | refine below_set ?_ GE512.out | refine below_set ?_ GE516.out) | exact HB.out))) : w.heap.size ≤ gb517))
                    have n11_ := Aside0.mk ((by rw [hg]; exact Nat.ne_of_lt (blk_lt (g := gb494) (o := .cells #[.slice (some ad514) l0_0.length c0_0, .int .i64 a0_1, .int .i64 a0_2] 24 (0, 0)) (by (with_reducible repeat (first | refine blk_drewN ?_ _ | refine blk_drew ?_ | refine blk_alloc ?_ _)); exact BK494.out)) : gb494 ≠ gb517))
                    have n12_ := Aside0.mk ((by rw [hg]; exact Nat.ne_of_gt (blk_lt (g := gb494) (o := .cells #[.slice (some ad514) l0_0.length c0_0, .int .i64 a0_1, .int .i64 a0_2] 24 (0, 0)) (by (with_reducible repeat (first | refine blk_drewN ?_ _ | refine blk_drew ?_ | refine blk_alloc ?_ _)); exact BK494.out)) : gb517 ≠ gb494))
                    have n13_ := Aside0.mk ((by rw [hg]; exact Nat.ne_of_lt (blk_lt (g := gb512) (o := .cells #[.slice (some ad515) t503.length co45, .int .i64 t506, .int .i64 t507] 24 (0, 0)) (by (with_reducible repeat (first | refine blk_drewN ?_ _ | refine blk_drew ?_ | refine blk_alloc ?_ _)); exact BK512.out)) : gb512 ≠ gb517))
                    have n14_ := Aside0.mk ((by rw [hg]; exact Nat.ne_of_gt (blk_lt (g := gb512) (o := .cells #[.slice (some ad515) t503.length co45, .int .i64 t506, .int .i64 t507] 24 (0, 0)) (by (with_reducible repeat (first | refine blk_drewN ?_ _ | refine blk_drew ?_ | refine blk_alloc ?_ _)); exact BK512.out)) : gb517 ≠ gb512))
                    have n15_ := Aside0.mk ((by rw [hg]; exact Nat.ne_of_lt (blk_lt (g := gb516) (o := .cells #[.int .i64 0, .int .i64 0, .slice none 0 0, .string (⟨#[]⟩ : ByteArray), .int .i64 0, .int .i64 0] 44 (0, 0)) (by (with_reducible repeat (first | refine blk_drewN ?_ _ | refine blk_drew ?_ | refine blk_alloc ?_ _)); exact BK516.out)) : gb516 ≠ gb517))
                    have n16_ := Aside0.mk ((by rw [hg]; exact Nat.ne_of_gt (blk_lt (g := gb516) (o := .cells #[.int .i64 0, .int .i64 0, .slice none 0 0, .string (⟨#[]⟩ : ByteArray), .int .i64 0, .int .i64 0] 44 (0, 0)) (by (with_reducible repeat (first | refine blk_drewN ?_ _ | refine blk_drew ?_ | refine blk_alloc ?_ _)); exact BK516.out)) : gb517 ≠ gb516))
                    clear HO_5
                    clear HO_513000
                    clear HL515_2
                    clear BK494
                    clear BK512
                    clear HR515_2
                    clear BK516
                    clear HB
                    have HO_5 := n0_
                    have HO_513000 := n1_
                    have HL515_2 := n2_
                    have BK494 := n3_
                    have BK512 := n4_
                    have HR515_2 := n5_
                    have BK516 := n6_
                    have HB := n7_
                    have BK517 := n8_
                    have GW517 := n9_
                    have GE517 := n10_
                    have NB494_517 := n11_
                    have NB517_494 := n12_
                    have NB512_517 := n13_
                    have NB517_512 := n14_
                    have NB516_517 := n15_
                    have NB517_516 := n16_
                    clear n0_ n1_ n2_ n3_ n4_ n5_ n6_ n7_ n8_ n9_ n10_ n11_ n12_ n13_ n14_ n15_ n16_
                    clear hb hbox hg
                    refine hK.out _ _ ⟨(blk_cell BK494.out 0).trans rfl, (blk_cell BK494.out 1).trans rfl, (blk_cell BK494.out 2).trans rfl, (blk_cell BK512.out 0).trans rfl, (blk_cell BK512.out 1).trans rfl, (blk_cell BK512.out 2).trans rfl, HS6_, ((HB.out.cell (World.block_lt_of_cell? w _ hw514_0)).trans hw514_0), ((HB.out.cell (World.block_lt_of_cell? w _ hw514_1)).trans hw514_1), ((HB.out.cell (World.block_lt_of_cell? w _ hw514_2)).trans hw514_2), ((HB.out.cell (World.block_lt_of_cell? w _ hw514_3)).trans hw514_3), ((HB.out.cell (World.block_lt_of_cell? w _ hw514_4)).trans hw514_4), ((HB.out.cell (World.block_lt_of_cell? w _ hw514_5)).trans hw514_5), HS13_, HS14_, HS15_, HS16_, HS17_, HS18_⟩ (fun hHeld => ?_)
                    clear hK K
                    refine norm_ (a' := ?_) ?_ ?_
                    rotate_left
                    ·show Act.put _ (some 12) _ = _
                     simp only [Act.put, List.setIfInBounds_toArray, List.set_cons_zero, List.set_cons_succ, i64_w, i32_w]
                     rfl
                    exact norm_ (by simp only [putAll, Act.put, List.setIfInBounds_toArray, List.set_cons_zero, List.set_cons_succ]) (hCont (gb516, gb517) _ ⟨hHeld, (by (with_reducible repeat (first | apply Kd.R_alloc | apply Kd.R_drewN | apply Kd.R_drew)); exact HL515_2.out), (by (with_reducible repeat (first | apply Kd.R_alloc | apply Kd.R_drewN | apply Kd.R_drew)); exact HO_5.out), (by (with_reducible repeat (first | apply Kd.S_alloc | apply Kd.S_drewN | apply Kd.S_drew)); exact Kd.S_mono HO_513000.out (fun _ hk => ⟨hk.1.1, ⟨hk.1.2, hk.2⟩⟩)), (by (with_reducible repeat (first | refine blk_drewN ?_ _ | refine blk_drew ?_ | refine blk_alloc ?_ _)); exact BK494.out), (by (with_reducible repeat (first | refine blk_drewN ?_ _ | refine blk_drew ?_ | refine blk_alloc ?_ _)); exact BK512.out), (by (with_reducible repeat (first | refine blk_drewN ?_ _ | refine blk_drew ?_ | refine blk_alloc ?_ _)); exact BK516.out), (by (with_reducible repeat (first | refine blk_drewN ?_ _ | refine blk_drew ?_ | refine blk_alloc ?_ _)); exact BK517.out), GW516.out, GE516.out, NB494_516.out, NB516_494.out, NB512_516.out, NB516_512.out, NB517_516.out, NB516_517.out, GW517.out, GE517.out, NB494_517.out, NB517_494.out, NB512_517.out, NB517_512.out, (by repeat (first | (with_reducible first | exact HB.out | apply below_alloc | apply pw_below_drewN | apply below_drew1 | refine below_set ?_ GE494.out | refine below_set ?_ GE512.out | refine below_set ?_ GE516.out | refine below_set ?_ GE517.out) | exact HB.out))⟩)
                   ·skip
                    refine box_step ?hg (N := 12) ?hd (cs := #[.int .i64 0, .int .i64 0, .slice none 0 0, .string (⟨#[]⟩ : ByteArray), .int .i64 0, .int .i64 0]) (t := 44) ?hr ?_; (case hd => rfl); (case hg => rfl); (case hr => first | (go_simp; done) | (go_simp; rfl))
                    intro gb517 hg w60 hbox hb
                    have HS6_ := (hb.cell (World.block_lt_of_cell? _ _ (hHeld.2.2.2.2.2.2.1))).trans (hHeld.2.2.2.2.2.2.1)
                    have HS13_ := (hb.cell (World.block_lt_of_cell? _ _ (hHeld.2.2.2.2.2.2.2.2.2.2.2.2.2.1))).trans (hHeld.2.2.2.2.2.2.2.2.2.2.2.2.2.1)
                    have HS14_ := (hb.cell (World.block_lt_of_cell? _ _ (hHeld.2.2.2.2.2.2.2.2.2.2.2.2.2.2.1))).trans (hHeld.2.2.2.2.2.2.2.2.2.2.2.2.2.2.1)
                    have HS15_ := (hb.cell (World.block_lt_of_cell? _ _ (hHeld.2.2.2.2.2.2.2.2.2.2.2.2.2.2.2.1))).trans (hHeld.2.2.2.2.2.2.2.2.2.2.2.2.2.2.2.1)
                    have HS16_ := (hb.cell (World.block_lt_of_cell? _ _ (hHeld.2.2.2.2.2.2.2.2.2.2.2.2.2.2.2.2.1))).trans (hHeld.2.2.2.2.2.2.2.2.2.2.2.2.2.2.2.2.1)
                    have HS17_ := (hb.cell (World.block_lt_of_cell? _ _ (hHeld.2.2.2.2.2.2.2.2.2.2.2.2.2.2.2.2.2.1))).trans (hHeld.2.2.2.2.2.2.2.2.2.2.2.2.2.2.2.2.2.1)
                    have HS18_ := (hb.cell (World.block_lt_of_cell? _ _ (hHeld.2.2.2.2.2.2.2.2.2.2.2.2.2.2.2.2.2.2))).trans (hHeld.2.2.2.2.2.2.2.2.2.2.2.2.2.2.2.2.2.2)
                    have n0_ := Aside0.mk (Kd.R_below (by (with_reducible repeat (first | apply Kd.R_alloc | apply Kd.R_drewN | apply Kd.R_drew)); exact HO_5.out) hb)
                    have n1_ := Aside0.mk (Kd.S_below (Kd.S_elderB (by (with_reducible repeat (first | apply Kd.S_alloc | apply Kd.S_drewN | apply Kd.S_drew)); exact HO_513000.out) gb517 (Nat.le_of_eq hg.symm)) hb)
                    have n2_ := Aside0.mk (Kd.R_below (by (with_reducible repeat (first | apply Kd.R_alloc | apply Kd.R_drewN | apply Kd.R_drew)); exact HL515_2.out) hb)
                    have n3_ := Aside0.mk (blk_below (g := gb494) (o := .cells #[.slice (some ad514) l0_0.length c0_0, .int .i64 a0_1, .int .i64 a0_2] 24 (0, 0)) (by (with_reducible repeat (first | refine blk_drewN ?_ _ | refine blk_drew ?_ | refine blk_alloc ?_ _)); exact BK494.out) hb)
                    have n4_ := Aside0.mk (blk_below (g := gb512) (o := .cells #[.slice (some ad515) t503.length co45, .int .i64 t506, .int .i64 t507] 24 (0, 0)) (by (with_reducible repeat (first | refine blk_drewN ?_ _ | refine blk_drew ?_ | refine blk_alloc ?_ _)); exact BK512.out) hb)
                    have n5_ := Aside0.mk (Kd.C_below (by repeat (first | (with_reducible exact HR515_2.out) | (with_reducible refine Kd.C_alloc ?_ _) | (with_reducible refine Kd.C_drewN ?_ _) | (with_reducible refine Kd.C_drew ?_) | exact HR515_2.out)) hb)
                    have n6_ := Aside0.mk (below_step (by repeat (first | (with_reducible first | exact HB.out | apply below_alloc | apply pw_below_drewN | apply below_drew1 | refine below_set ?_ GE494.out | refine below_set ?_ GE512.out) | exact HB.out)) hb)
                    have n7_ := Aside0.mk (hbox)
                    have n8_ := Aside0.mk ((by rw [hg]; exact (below_size (by repeat (first | (with_reducible first | exact HB.out | apply below_alloc | apply pw_below_drewN | apply below_drew1 | refine below_set ?_ GE494.out | refine below_set ?_ GE512.out) | exact HB.out))) : w.heap.size ≤ gb517))
                    have n9_ := Aside0.mk ((by rw [hg]; exact (below_size (by repeat (first | (with_reducible first | exact HB.out | apply below_alloc | apply pw_below_drewN | apply below_drew1 | refine below_set ?_ GE494.out | refine below_set ?_ GE512.out) | exact HB.out))) : w.heap.size ≤ gb517))
                    have n10_ := Aside0.mk ((by rw [hg]; exact Nat.ne_of_lt (blk_lt (g := gb494) (o := .cells #[.slice (some ad514) l0_0.length c0_0, .int .i64 a0_1, .int .i64 a0_2] 24 (0, 0)) (by (with_reducible repeat (first | refine blk_drewN ?_ _ | refine blk_drew ?_ | refine blk_alloc ?_ _)); exact BK494.out)) : gb494 ≠ gb517))
                    have n11_ := Aside0.mk ((by rw [hg]; exact Nat.ne_of_gt (blk_lt (g := gb494) (o := .cells #[.slice (some ad514) l0_0.length c0_0, .int .i64 a0_1, .int .i64 a0_2] 24 (0, 0)) (by (with_reducible repeat (first | refine blk_drewN ?_ _ | refine blk_drew ?_ | refine blk_alloc ?_ _)); exact BK494.out)) : gb517 ≠ gb494))
                    have n12_ := Aside0.mk ((by rw [hg]; exact Nat.ne_of_lt (blk_lt (g := gb512) (o := .cells #[.slice (some ad515) t503.length co45, .int .i64 t506, .int .i64 t507] 24 (0, 0)) (by (with_reducible repeat (first | refine blk_drewN ?_ _ | refine blk_drew ?_ | refine blk_alloc ?_ _)); exact BK512.out)) : gb512 ≠ gb517))
                    have n13_ := Aside0.mk ((by rw [hg]; exact Nat.ne_of_gt (blk_lt (g := gb512) (o := .cells #[.slice (some ad515) t503.length co45, .int .i64 t506, .int .i64 t507] 24 (0, 0)) (by (with_reducible repeat (first | refine blk_drewN ?_ _ | refine blk_drew ?_ | refine blk_alloc ?_ _)); exact BK512.out)) : gb517 ≠ gb512))
                    clear HO_5
                    clear HO_513000
                    clear HL515_2
                    clear BK494
                    clear BK512
                    clear HR515_2
                    clear HB
                    have HO_5 := n0_
                    have HO_513000 := n1_
                    have HL515_2 := n2_
                    have BK494 := n3_
                    have BK512 := n4_
                    have HR515_2 := n5_
                    have HB := n6_
                    have BK517 := n7_
                    have GW517 := n8_
                    have GE517 := n9_
                    have NB494_517 := n10_
                    have NB517_494 := n11_
                    have NB512_517 := n12_
                    have NB517_512 := n13_
                    clear n0_ n1_ n2_ n3_ n4_ n5_ n6_ n7_ n8_ n9_ n10_ n11_ n12_ n13_
                    clear hb hbox hg
                    refine hK.out _ _ ⟨(blk_cell BK494.out 0).trans rfl, (blk_cell BK494.out 1).trans rfl, (blk_cell BK494.out 2).trans rfl, (blk_cell BK512.out 0).trans rfl, (blk_cell BK512.out 1).trans rfl, (blk_cell BK512.out 2).trans rfl, HS6_, ((HB.out.cell (World.block_lt_of_cell? w _ hw514_0)).trans hw514_0), ((HB.out.cell (World.block_lt_of_cell? w _ hw514_1)).trans hw514_1), ((HB.out.cell (World.block_lt_of_cell? w _ hw514_2)).trans hw514_2), ((HB.out.cell (World.block_lt_of_cell? w _ hw514_3)).trans hw514_3), ((HB.out.cell (World.block_lt_of_cell? w _ hw514_4)).trans hw514_4), ((HB.out.cell (World.block_lt_of_cell? w _ hw514_5)).trans hw514_5), HS13_, HS14_, HS15_, HS16_, HS17_, HS18_⟩ (fun hHeld => ?_)
                    clear hK K
                    refine norm_ (a' := ?_) ?_ ?_
                    rotate_left
                    ·show Act.put _ (some 12) _ = _
                     simp only [Act.put, List.setIfInBounds_toArray, List.set_cons_zero, List.set_cons_succ, i64_w, i32_w]
                     rfl
                    refine one_ (i := 13) (N := some 11) #[true, true, true, true, true, true, true, true, true, true, true, true, true, true, true, false, false] rfl rfl (one_of HT_.out (by kernel_rfl)) (by decide) (fun K hK => ?_)
                    refine box_step ?hg (N := 11) ?hd (cs := #[.int .i64 0, .int .i64 0, .slice none 0 0, .string (⟨#[]⟩ : ByteArray), .int .i64 0, .int .i64 0]) (t := 44) ?hr ?_; (case hd => rfl); (case hg => rfl); (case hr => first | (go_simp; done) | (go_simp; rfl))
                    intro gb516 hg w61 hbox hb
                    have HS6_ := (hb.cell (World.block_lt_of_cell? _ _ (hHeld.2.2.2.2.2.2.1))).trans (hHeld.2.2.2.2.2.2.1)
                    have HS13_ := (hb.cell (World.block_lt_of_cell? _ _ (hHeld.2.2.2.2.2.2.2.2.2.2.2.2.2.1))).trans (hHeld.2.2.2.2.2.2.2.2.2.2.2.2.2.1)
                    have HS14_ := (hb.cell (World.block_lt_of_cell? _ _ (hHeld.2.2.2.2.2.2.2.2.2.2.2.2.2.2.1))).trans (hHeld.2.2.2.2.2.2.2.2.2.2.2.2.2.2.1)
                    have HS15_ := (hb.cell (World.block_lt_of_cell? _ _ (hHeld.2.2.2.2.2.2.2.2.2.2.2.2.2.2.2.1))).trans (hHeld.2.2.2.2.2.2.2.2.2.2.2.2.2.2.2.1)
                    have HS16_ := (hb.cell (World.block_lt_of_cell? _ _ (hHeld.2.2.2.2.2.2.2.2.2.2.2.2.2.2.2.2.1))).trans (hHeld.2.2.2.2.2.2.2.2.2.2.2.2.2.2.2.2.1)
                    have HS17_ := (hb.cell (World.block_lt_of_cell? _ _ (hHeld.2.2.2.2.2.2.2.2.2.2.2.2.2.2.2.2.2.1))).trans (hHeld.2.2.2.2.2.2.2.2.2.2.2.2.2.2.2.2.2.1)
                    have HS18_ := (hb.cell (World.block_lt_of_cell? _ _ (hHeld.2.2.2.2.2.2.2.2.2.2.2.2.2.2.2.2.2.2))).trans (hHeld.2.2.2.2.2.2.2.2.2.2.2.2.2.2.2.2.2.2)
                    have n0_ := Aside0.mk (Kd.R_below (by (with_reducible repeat (first | apply Kd.R_alloc | apply Kd.R_drewN | apply Kd.R_drew)); exact HO_5.out) hb)
                    have n1_ := Aside0.mk (Kd.S_below (Kd.S_elderB (by (with_reducible repeat (first | apply Kd.S_alloc | apply Kd.S_drewN | apply Kd.S_drew)); exact HO_513000.out) gb516 (Nat.le_of_eq hg.symm)) hb)
                    have n2_ := Aside0.mk (Kd.R_below (by (with_reducible repeat (first | apply Kd.R_alloc | apply Kd.R_drewN | apply Kd.R_drew)); exact HL515_2.out) hb)
                    have n3_ := Aside0.mk (blk_below (g := gb494) (o := .cells #[.slice (some ad514) l0_0.length c0_0, .int .i64 a0_1, .int .i64 a0_2] 24 (0, 0)) (by (with_reducible repeat (first | refine blk_drewN ?_ _ | refine blk_drew ?_ | refine blk_alloc ?_ _)); exact BK494.out) hb)
                    have n4_ := Aside0.mk (blk_below (g := gb512) (o := .cells #[.slice (some ad515) t503.length co45, .int .i64 t506, .int .i64 t507] 24 (0, 0)) (by (with_reducible repeat (first | refine blk_drewN ?_ _ | refine blk_drew ?_ | refine blk_alloc ?_ _)); exact BK512.out) hb)
                    have n5_ := Aside0.mk (Kd.C_below (by repeat (first | (with_reducible exact HR515_2.out) | (with_reducible refine Kd.C_alloc ?_ _) | (with_reducible refine Kd.C_drewN ?_ _) | (with_reducible refine Kd.C_drew ?_) | exact HR515_2.out)) hb)
                    have n6_ := Aside0.mk (blk_below (g := gb517) (o := .cells #[.int .i64 0, .int .i64 0, .slice none 0 0, .string (⟨#[]⟩ : ByteArray), .int .i64 0, .int .i64 0] 44 (0, 0)) (by (with_reducible repeat (first | refine blk_drewN ?_ _ | refine blk_drew ?_ | refine blk_alloc ?_ _)); exact BK517.out) hb)
                    have n7_ := Aside0.mk (below_step (by repeat (first | (with_reducible first | exact HB.out | apply below_alloc | apply pw_below_drewN | apply below_drew1 | refine below_set ?_ GE494.out | refine below_set ?_ GE512.out | refine below_set ?_ GE517.out) | exact HB.out)) hb)
                    have n8_ := Aside0.mk (hbox)
                    have n9_ := Aside0.mk ((by rw [hg]; exact (below_size (by repeat (first | (with_reducible first | exact HB.out | apply below_alloc | apply pw_below_drewN | apply below_drew1 | refine below_set ?_ GE494.out | refine below_set ?_ GE512.out | refine below_set ?_ GE517.out) | exact HB.out))) : w.heap.size ≤ gb516))
                    have n10_ := Aside0.mk ((by rw [hg]; exact (below_size (by repeat (first | (with_reducible first | exact HB.out | apply below_alloc | apply pw_below_drewN | apply below_drew1 | refine below_set ?_ GE494.out | refine below_set ?_ GE512.out | refine below_set ?_ GE517.out) | exact HB.out))) : w.heap.size ≤ gb516))
                    have n11_ := Aside0.mk ((by rw [hg]; exact Nat.ne_of_lt (blk_lt (g := gb494) (o := .cells #[.slice (some ad514) l0_0.length c0_0, .int .i64 a0_1, .int .i64 a0_2] 24 (0, 0)) (by (with_reducible repeat (first | refine blk_drewN ?_ _ | refine blk_drew ?_ | refine blk_alloc ?_ _)); exact BK494.out)) : gb494 ≠ gb516))
                    have n12_ := Aside0.mk ((by rw [hg]; exact Nat.ne_of_gt (blk_lt (g := gb494) (o := .cells #[.slice (some ad514) l0_0.length c0_0, .int .i64 a0_1, .int .i64 a0_2] 24 (0, 0)) (by (with_reducible repeat (first | refine blk_drewN ?_ _ | refine blk_drew ?_ | refine blk_alloc ?_ _)); exact BK494.out)) : gb516 ≠ gb494))
                    have n13_ := Aside0.mk ((by rw [hg]; exact Nat.ne_of_lt (blk_lt (g := gb512) (o := .cells #[.slice (some ad515) t503.length co45, .int .i64 t506, .int .i64 t507] 24 (0, 0)) (by (with_reducible repeat (first | refine blk_drewN ?_ _ | refine blk_drew ?_ | refine blk_alloc ?_ _)); exact BK512.out)) : gb512 ≠ gb516))
                    have n14_ := Aside0.mk ((by rw [hg]; exact Nat.ne_of_gt (blk_lt (g := gb512) (o := .cells #[.slice (some ad515) t503.length co45, .int .i64 t506, .int .i64 t507] 24 (0, 0)) (by (with_reducible repeat (first | refine blk_drewN ?_ _ | refine blk_drew ?_ | refine blk_alloc ?_ _)); exact BK512.out)) : gb516 ≠ gb512))
                    have n15_ := Aside0.mk ((by rw [hg]; exact Nat.ne_of_lt (blk_lt (g := gb517) (o := .cells #[.int .i64 0, .int .i64 0, .slice none 0 0, .string (⟨#[]⟩ : ByteArray), .int .i64 0, .int .i64 0] 44 (0, 0)) (by (with_reducible repeat (first | refine blk_drewN ?_ _ | refine blk_drew ?_ | refine blk_alloc ?_ _)); exact BK517.out)) : gb517 ≠ gb516))
                    have n16_ := Aside0.mk ((by rw [hg]; exact Nat.ne_of_gt (blk_lt (g := gb517) (o := .cells #[.int .i64 0, .int .i64 0, .slice none 0 0, .string (⟨#[]⟩ : ByteArray), .int .i64 0, .int .i64 0] 44 (0, 0)) (by (with_reducible repeat (first | refine blk_drewN ?_ _ | refine blk_drew ?_ | refine blk_alloc ?_ _)); exact BK517.out)) : gb516 ≠ gb517))
                    clear HO_5
                    clear HO_513000
                    clear HL515_2
                    clear BK494
                    clear BK512
                    clear HR515_2
                    clear BK517
                    clear HB
                    have HO_5 := n0_
                    have HO_513000 := n1_
                    have HL515_2 := n2_
                    have BK494 := n3_
                    have BK512 := n4_
                    have HR515_2 := n5_
                    have BK517 := n6_
                    have HB := n7_
                    have BK516 := n8_
                    have GW516 := n9_
                    have GE516 := n10_
                    have NB494_516 := n11_
                    have NB516_494 := n12_
                    have NB512_516 := n13_
                    have NB516_512 := n14_
                    have NB517_516 := n15_
                    have NB516_517 := n16_
                    clear n0_ n1_ n2_ n3_ n4_ n5_ n6_ n7_ n8_ n9_ n10_ n11_ n12_ n13_ n14_ n15_ n16_
                    clear hb hbox hg
                    refine hK.out _ _ ⟨(blk_cell BK494.out 0).trans rfl, (blk_cell BK494.out 1).trans rfl, (blk_cell BK494.out 2).trans rfl, (blk_cell BK512.out 0).trans rfl, (blk_cell BK512.out 1).trans rfl, (blk_cell BK512.out 2).trans rfl, HS6_, ((HB.out.cell (World.block_lt_of_cell? w _ hw514_0)).trans hw514_0), ((HB.out.cell (World.block_lt_of_cell? w _ hw514_1)).trans hw514_1), ((HB.out.cell (World.block_lt_of_cell? w _ hw514_2)).trans hw514_2), ((HB.out.cell (World.block_lt_of_cell? w _ hw514_3)).trans hw514_3), ((HB.out.cell (World.block_lt_of_cell? w _ hw514_4)).trans hw514_4), ((HB.out.cell (World.block_lt_of_cell? w _ hw514_5)).trans hw514_5), HS13_, HS14_, HS15_, HS16_, HS17_, HS18_⟩ (fun hHeld => ?_)
                    clear hK K
                    refine norm_ (a' := ?_) ?_ ?_
                    rotate_left
                    ·show Act.put _ (some 11) _ = _
                     simp only [Act.put, List.setIfInBounds_toArray, List.set_cons_zero, List.set_cons_succ, i64_w, i32_w]
                     rfl
                    exact norm_ (by simp only [putAll, Act.put, List.setIfInBounds_toArray, List.set_cons_zero, List.set_cons_succ]) (hCont (gb516, gb517) _ ⟨hHeld, (by (with_reducible repeat (first | apply Kd.R_alloc | apply Kd.R_drewN | apply Kd.R_drew)); exact HL515_2.out), (by (with_reducible repeat (first | apply Kd.R_alloc | apply Kd.R_drewN | apply Kd.R_drew)); exact HO_5.out), (by (with_reducible repeat (first | apply Kd.S_alloc | apply Kd.S_drewN | apply Kd.S_drew)); exact Kd.S_mono HO_513000.out (fun _ hk => ⟨hk.1.1, ⟨hk.2, hk.1.2⟩⟩)), (by (with_reducible repeat (first | refine blk_drewN ?_ _ | refine blk_drew ?_ | refine blk_alloc ?_ _)); exact BK494.out), (by (with_reducible repeat (first | refine blk_drewN ?_ _ | refine blk_drew ?_ | refine blk_alloc ?_ _)); exact BK512.out), (by (with_reducible repeat (first | refine blk_drewN ?_ _ | refine blk_drew ?_ | refine blk_alloc ?_ _)); exact BK516.out), (by (with_reducible repeat (first | refine blk_drewN ?_ _ | refine blk_drew ?_ | refine blk_alloc ?_ _)); exact BK517.out), GW516.out, GE516.out, NB494_516.out, NB516_494.out, NB512_516.out, NB516_512.out, NB517_516.out, NB516_517.out, GW517.out, GE517.out, NB494_517.out, NB517_494.out, NB512_517.out, NB517_512.out, (by repeat (first | (with_reducible first | exact HB.out | apply below_alloc | apply pw_below_drewN | apply below_drew1 | refine below_set ?_ GE494.out | refine below_set ?_ GE512.out | refine below_set ?_ GE517.out | refine below_set ?_ GE516.out) | exact HB.out))⟩)
                  rintro ⟨gb516, gb517⟩ w62 ⟨hS_, h0_, h1_, h2_, h3_, h4_, h5_, h6_, h7_, h8_, h9_, h10_, h11_, h12_, h13_, h14_, h15_, h16_, h17_, h18_, h19_, h20_, h21_⟩
                  have n0_ : Aside0 (Kd.R (Kd.int .i64) 3 w62 w.heap.size (fun k_ => some k_ ≠ (.slice (some ad513) t499.length co48 : Value).ownBlock ∧ some k_ ≠ (.slice (some ad515) t503.length co45 : Value).ownBlock) (.slice A515_2 ((rd_T44 t503 x10_2).f2).length c515_2) ((rd_T44 t503 x10_2).f2)) := ⟨h0_⟩
                  have n1_ : Aside0 (Kd.R (Kd.int .i64) 3 w62 w.heap.size (fun _ => True) (.slice (some ad513) t499.length co48) t499) := ⟨h1_⟩
                  have n2_ : Aside0 (Kd.S k44 44 w62 w.heap.size (fun k_ => some k_ ≠ (.slice (some ad513) t499.length co48 : Value).ownBlock ∧ k_ ≠ gb516 ∧ k_ ≠ gb517) (.slice (some ad515) t503.length co45) t503) := ⟨h2_⟩
                  have n3_ : Aside0 (w62.heap[gb494]? = some (.cells #[.slice (some ad514) l0_0.length c0_0, .int .i64 a0_1, .int .i64 a0_2] 24 (0, 0))) := ⟨h3_⟩
                  have n4_ : Aside0 (w62.heap[gb512]? = some (.cells #[.slice (some ad515) t503.length co45, .int .i64 t506, .int .i64 t507] 24 (0, 0))) := ⟨h4_⟩
                  have n5_ : Aside0 (w62.heap[gb516]? = some (.cells #[.int .i64 0, .int .i64 0, .slice none 0 0, .string (⟨#[]⟩ : ByteArray), .int .i64 0, .int .i64 0] 44 (0, 0))) := ⟨h5_⟩
                  have n6_ : Aside0 (w62.heap[gb517]? = some (.cells #[.int .i64 0, .int .i64 0, .slice none 0 0, .string (⟨#[]⟩ : ByteArray), .int .i64 0, .int .i64 0] 44 (0, 0))) := ⟨h6_⟩
                  have n7_ : Aside0 (w.heap.size ≤ gb516) := ⟨h7_⟩
                  have n8_ : Aside0 (w.heap.size ≤ gb516) := ⟨h8_⟩
                  have n9_ : Aside0 (gb494 ≠ gb516) := ⟨h9_⟩
                  have n10_ : Aside0 (gb516 ≠ gb494) := ⟨h10_⟩
                  have n11_ : Aside0 (gb512 ≠ gb516) := ⟨h11_⟩
                  have n12_ : Aside0 (gb516 ≠ gb512) := ⟨h12_⟩
                  have n13_ : Aside0 (gb517 ≠ gb516) := ⟨h13_⟩
                  have n14_ : Aside0 (gb516 ≠ gb517) := ⟨h14_⟩
                  have n15_ : Aside0 (w.heap.size ≤ gb517) := ⟨h15_⟩
                  have n16_ : Aside0 (w.heap.size ≤ gb517) := ⟨h16_⟩
                  have n17_ : Aside0 (gb494 ≠ gb517) := ⟨h17_⟩
                  have n18_ : Aside0 (gb517 ≠ gb494) := ⟨h18_⟩
                  have n19_ : Aside0 (gb512 ≠ gb517) := ⟨h19_⟩
                  have n20_ : Aside0 (gb517 ≠ gb512) := ⟨h20_⟩
                  have n21_ : Aside0 (Below w.heap.size w w62) := ⟨h21_⟩
                  clear HO_5
                  clear HO_513000
                  clear BK494
                  clear BK512
                  clear HB
                  clear h0_ h1_ h2_ h3_ h4_ h5_ h6_ h7_ h8_ h9_ h10_ h11_ h12_ h13_ h14_ h15_ h16_ h17_ h18_ h19_ h20_ h21_
                  have HL515_2 := n0_
                  have HO_5 := n1_
                  have HO_513000 := n2_
                  have BK494 := n3_
                  have BK512 := n4_
                  have BK516 := n5_
                  have BK517 := n6_
                  have GW516 := n7_
                  have GE516 := n8_
                  have NB494_516 := n9_
                  have NB516_494 := n10_
                  have NB512_516 := n11_
                  have NB516_512 := n12_
                  have NB517_516 := n13_
                  have NB516_517 := n14_
                  have GW517 := n15_
                  have GE517 := n16_
                  have NB494_517 := n17_
                  have NB517_494 := n18_
                  have NB512_517 := n19_
                  have NB517_512 := n20_
                  have HB := n21_
                  clear n0_ n1_ n2_ n3_ n4_ n5_ n6_ n7_ n8_ n9_ n10_ n11_ n12_ n13_ n14_ n15_ n16_ n17_ n18_ n19_ n20_ n21_
                  have hHeld : w62.cell? ⟨gb494, 0, none⟩ = some (.slice (some ad514) l0_0.length c0_0) ∧ w62.cell? ⟨gb494, 1, none⟩ = some (.int .i64 a0_1) ∧ w62.cell? ⟨gb494, 2, none⟩ = some (.int .i64 a0_2) ∧ w62.cell? ⟨gb512, 0, none⟩ = some (.slice (some ad515) t503.length co45) ∧ w62.cell? ⟨gb512, 1, none⟩ = some (.int .i64 t506) ∧ w62.cell? ⟨gb512, 2, none⟩ = some (.int .i64 t507) ∧ w62.cell? (ad513.add (x10_2).toNat) = some (.int .i64 (rd t499 x10_2)) ∧ w62.cell? (ad514.add (((rd t499 x10_2)).toNat * 6)) = some (.int .i64 ((rd_T44 l0_0 (rd t499 x10_2)).f0)) ∧ w62.cell? ⟨(ad514.add (((rd t499 x10_2)).toNat * 6)).block, (ad514.add (((rd t499 x10_2)).toNat * 6)).off + 1, none⟩ = some (.int .i64 ((rd_T44 l0_0 (rd t499 x10_2)).f1)) ∧ w62.cell? ⟨(ad514.add (((rd t499 x10_2)).toNat * 6)).block, (ad514.add (((rd t499 x10_2)).toNat * 6)).off + 2, none⟩ = some (.slice A514_2 ((rd_T44 l0_0 (rd t499 x10_2)).f2).length c514_2) ∧ w62.cell? ⟨(ad514.add (((rd t499 x10_2)).toNat * 6)).block, (ad514.add (((rd t499 x10_2)).toNat * 6)).off + 3, none⟩ = some (.string ((rd_T44 l0_0 (rd t499 x10_2)).f3)) ∧ w62.cell? ⟨(ad514.add (((rd t499 x10_2)).toNat * 6)).block, (ad514.add (((rd t499 x10_2)).toNat * 6)).off + 4, none⟩ = some (.int .i64 ((rd_T44 l0_0 (rd t499 x10_2)).f4)) ∧ w62.cell? ⟨(ad514.add (((rd t499 x10_2)).toNat * 6)).block, (ad514.add (((rd t499 x10_2)).toNat * 6)).off + 5, none⟩ = some (.int .i64 ((rd_T44 l0_0 (rd t499 x10_2)).f5)) ∧ w62.cell? (ad515.add ((x10_2).toNat * 6)) = some (.int .i64 ((rd_T44 t503 x10_2).f0)) ∧ w62.cell? ⟨(ad515.add ((x10_2).toNat * 6)).block, (ad515.add ((x10_2).toNat * 6)).off + 1, none⟩ = some (.int .i64 ((rd_T44 t503 x10_2).f1)) ∧ w62.cell? ⟨(ad515.add ((x10_2).toNat * 6)).block, (ad515.add ((x10_2).toNat * 6)).off + 2, none⟩ = some (.slice A515_2 ((rd_T44 t503 x10_2).f2).length c515_2) ∧ w62.cell? ⟨(ad515.add ((x10_2).toNat * 6)).block, (ad515.add ((x10_2).toNat * 6)).off + 3, none⟩ = some (.string ((rd_T44 t503 x10_2).f3)) ∧ w62.cell? ⟨(ad515.add ((x10_2).toNat * 6)).block, (ad515.add ((x10_2).toNat * 6)).off + 4, none⟩ = some (.int .i64 ((rd_T44 t503 x10_2).f4)) ∧ w62.cell? ⟨(ad515.add ((x10_2).toNat * 6)).block, (ad515.add ((x10_2).toNat * 6)).off + 5, none⟩ = some (.int .i64 ((rd_T44 t503 x10_2).f5)) := hS_
                  refine norm_ (a' := ?_) ?_ ?_
                  rotate_left
                  ·simp only [putAll, Act.put, List.setIfInBounds_toArray, List.set_cons_zero, List.set_cons_succ]
                   rfl
                  refine one_ (i := 15) (N := none) #[true, true, true, true, true, true, true, true, true, true, true, true, true, true, true, true, false] rfl rfl (one_of HT_.out (by kernel_rfl)) (by decide) (fun K hK => ?_)
                  have hs63 : w62.cell? ⟨gb516, 0, none⟩ = some (.int .i64 0) := (blk_cell BK516.out 0).trans rfl
                  have hfs63 := blk_frozen BK516.out 0
                  have hns63_0 := NB494_516.out
                  have hns63_1 := NB512_516.out
                  have hns63_3 := NB517_516.out
                  have hms63_0 := NB516_494.out
                  have hms63_1 := NB516_512.out
                  have hms63_3 := NB516_517.out
                  have hs64 : w62.cell? ⟨gb516, 1, none⟩ = some (.int .i64 0) := (blk_cell BK516.out 1).trans rfl
                  have hfs64 := blk_frozen BK516.out 1
                  have hns64_0 := NB494_516.out
                  have hns64_1 := NB512_516.out
                  have hns64_3 := NB517_516.out
                  have hms64_0 := NB516_494.out
                  have hms64_1 := NB516_512.out
                  have hms64_3 := NB516_517.out
                  have hs65 : w62.cell? ⟨gb516, 2, none⟩ = some (.slice none 0 0) := (blk_cell BK516.out 2).trans rfl
                  have hfs65 := blk_frozen BK516.out 2
                  have hns65_0 := NB494_516.out
                  have hns65_1 := NB512_516.out
                  have hns65_3 := NB517_516.out
                  have hms65_0 := NB516_494.out
                  have hms65_1 := NB516_512.out
                  have hms65_3 := NB516_517.out
                  have hs66 : w62.cell? ⟨gb516, 3, none⟩ = some (.string (⟨#[]⟩ : ByteArray)) := (blk_cell BK516.out 3).trans rfl
                  have hfs66 := blk_frozen BK516.out 3
                  have hns66_0 := NB494_516.out
                  have hns66_1 := NB512_516.out
                  have hns66_3 := NB517_516.out
                  have hms66_0 := NB516_494.out
                  have hms66_1 := NB516_512.out
                  have hms66_3 := NB516_517.out
                  have hs67 : w62.cell? ⟨gb516, 4, none⟩ = some (.int .i64 0) := (blk_cell BK516.out 4).trans rfl
                  have hfs67 := blk_frozen BK516.out 4
                  have hns67_0 := NB494_516.out
                  have hns67_1 := NB512_516.out
                  have hns67_3 := NB517_516.out
                  have hms67_0 := NB516_494.out
                  have hms67_1 := NB516_512.out
                  have hms67_3 := NB516_517.out
                  have hs68 : w62.cell? ⟨gb516, 5, none⟩ = some (.int .i64 0) := (blk_cell BK516.out 5).trans rfl
                  have hfs68 := blk_frozen BK516.out 5
                  have hns68_0 := NB494_516.out
                  have hns68_1 := NB512_516.out
                  have hns68_3 := NB517_516.out
                  have hms68_0 := NB516_494.out
                  have hms68_1 := NB516_512.out
                  have hms68_3 := NB516_517.out
                  refine skip_ (w1 := ?_) (by rfl) rfl ?_ ?_
                  rotate_left
                  ·go_simp
                   rfl
                  refine hK.out _ _ ⟨((cell_far (p := ⟨gb516, _, none⟩) NB494_516.out _).trans (((cell_far (p := ⟨gb516, _, none⟩) NB494_516.out _).trans (((cell_far (p := ⟨gb516, _, none⟩) NB494_516.out _).trans (((cell_far (p := ⟨gb516, _, none⟩) NB494_516.out _).trans (((cell_far (p := ⟨gb516, _, none⟩) NB494_516.out _).trans (((cell_far (p := ⟨gb516, _, none⟩) NB494_516.out _).trans (hHeld.1)))))))))))), ((cell_far (p := ⟨gb516, _, none⟩) NB494_516.out _).trans (((cell_far (p := ⟨gb516, _, none⟩) NB494_516.out _).trans (((cell_far (p := ⟨gb516, _, none⟩) NB494_516.out _).trans (((cell_far (p := ⟨gb516, _, none⟩) NB494_516.out _).trans (((cell_far (p := ⟨gb516, _, none⟩) NB494_516.out _).trans (((cell_far (p := ⟨gb516, _, none⟩) NB494_516.out _).trans (hHeld.2.1)))))))))))), ((cell_far (p := ⟨gb516, _, none⟩) NB494_516.out _).trans (((cell_far (p := ⟨gb516, _, none⟩) NB494_516.out _).trans (((cell_far (p := ⟨gb516, _, none⟩) NB494_516.out _).trans (((cell_far (p := ⟨gb516, _, none⟩) NB494_516.out _).trans (((cell_far (p := ⟨gb516, _, none⟩) NB494_516.out _).trans (((cell_far (p := ⟨gb516, _, none⟩) NB494_516.out _).trans (hHeld.2.2.1)))))))))))), ((cell_far (p := ⟨gb516, _, none⟩) NB512_516.out _).trans (((cell_far (p := ⟨gb516, _, none⟩) NB512_516.out _).trans (((cell_far (p := ⟨gb516, _, none⟩) NB512_516.out _).trans (((cell_far (p := ⟨gb516, _, none⟩) NB512_516.out _).trans (((cell_far (p := ⟨gb516, _, none⟩) NB512_516.out _).trans (((cell_far (p := ⟨gb516, _, none⟩) NB512_516.out _).trans (hHeld.2.2.2.1)))))))))))), ((cell_far (p := ⟨gb516, _, none⟩) NB512_516.out _).trans (((cell_far (p := ⟨gb516, _, none⟩) NB512_516.out _).trans (((cell_far (p := ⟨gb516, _, none⟩) NB512_516.out _).trans (((cell_far (p := ⟨gb516, _, none⟩) NB512_516.out _).trans (((cell_far (p := ⟨gb516, _, none⟩) NB512_516.out _).trans (((cell_far (p := ⟨gb516, _, none⟩) NB512_516.out _).trans (hHeld.2.2.2.2.1)))))))))))), ((cell_far (p := ⟨gb516, _, none⟩) NB512_516.out _).trans (((cell_far (p := ⟨gb516, _, none⟩) NB512_516.out _).trans (((cell_far (p := ⟨gb516, _, none⟩) NB512_516.out _).trans (((cell_far (p := ⟨gb516, _, none⟩) NB512_516.out _).trans (((cell_far (p := ⟨gb516, _, none⟩) NB512_516.out _).trans (((cell_far (p := ⟨gb516, _, none⟩) NB512_516.out _).trans (hHeld.2.2.2.2.2.1)))))))))))), ((cell_far (p := ⟨gb516, _, none⟩) (by first | exact Kd.own_blk (Kd.R_ne HO_5.out BK516.out (by decide)) | (rw [add_block]; exact Kd.own_blk (Kd.R_ne HO_5.out BK516.out (by decide))) | (show (Addr.add _ _).block ≠ _; rw [add_block]; exact Kd.own_blk (Kd.R_ne HO_5.out BK516.out (by decide))) | (dsimp only; exact Kd.own_blk (Kd.R_ne HO_5.out BK516.out (by decide)))) _).trans (((cell_far (p := ⟨gb516, _, none⟩) (by first | exact Kd.own_blk (Kd.R_ne HO_5.out BK516.out (by decide)) | (rw [add_block]; exact Kd.own_blk (Kd.R_ne HO_5.out BK516.out (by decide))) | (show (Addr.add _ _).block ≠ _; rw [add_block]; exact Kd.own_blk (Kd.R_ne HO_5.out BK516.out (by decide))) | (dsimp only; exact Kd.own_blk (Kd.R_ne HO_5.out BK516.out (by decide)))) _).trans (((cell_far (p := ⟨gb516, _, none⟩) (by first | exact Kd.own_blk (Kd.R_ne HO_5.out BK516.out (by decide)) | (rw [add_block]; exact Kd.own_blk (Kd.R_ne HO_5.out BK516.out (by decide))) | (show (Addr.add _ _).block ≠ _; rw [add_block]; exact Kd.own_blk (Kd.R_ne HO_5.out BK516.out (by decide))) | (dsimp only; exact Kd.own_blk (Kd.R_ne HO_5.out BK516.out (by decide)))) _).trans (((cell_far (p := ⟨gb516, _, none⟩) (by first | exact Kd.own_blk (Kd.R_ne HO_5.out BK516.out (by decide)) | (rw [add_block]; exact Kd.own_blk (Kd.R_ne HO_5.out BK516.out (by decide))) | (show (Addr.add _ _).block ≠ _; rw [add_block]; exact Kd.own_blk (Kd.R_ne HO_5.out BK516.out (by decide))) | (dsimp only; exact Kd.own_blk (Kd.R_ne HO_5.out BK516.out (by decide)))) _).trans (((cell_far (p := ⟨gb516, _, none⟩) (by first | exact Kd.own_blk (Kd.R_ne HO_5.out BK516.out (by decide)) | (rw [add_block]; exact Kd.own_blk (Kd.R_ne HO_5.out BK516.out (by decide))) | (show (Addr.add _ _).block ≠ _; rw [add_block]; exact Kd.own_blk (Kd.R_ne HO_5.out BK516.out (by decide))) | (dsimp only; exact Kd.own_blk (Kd.R_ne HO_5.out BK516.out (by decide)))) _).trans (((cell_far (p := ⟨gb516, _, none⟩) (by first | exact Kd.own_blk (Kd.R_ne HO_5.out BK516.out (by decide)) | (rw [add_block]; exact Kd.own_blk (Kd.R_ne HO_5.out BK516.out (by decide))) | (show (Addr.add _ _).block ≠ _; rw [add_block]; exact Kd.own_blk (Kd.R_ne HO_5.out BK516.out (by decide))) | (dsimp only; exact Kd.own_blk (Kd.R_ne HO_5.out BK516.out (by decide)))) _).trans (hHeld.2.2.2.2.2.2.1)))))))))))), ((cell_far (p := ⟨gb516, _, none⟩) (by first | exact Nat.ne_of_lt (Nat.lt_of_lt_of_le (by have := World.block_lt_of_cell? _ _ hw514_0; first | rwa [add_block] at this | exact this) GW516.out) | (rw [add_block]; exact Nat.ne_of_lt (Nat.lt_of_lt_of_le (by have := World.block_lt_of_cell? _ _ hw514_0; first | rwa [add_block] at this | exact this) GW516.out)) | (show (Addr.add _ _).block ≠ _; rw [add_block]; exact Nat.ne_of_lt (Nat.lt_of_lt_of_le (by have := World.block_lt_of_cell? _ _ hw514_0; first | rwa [add_block] at this | exact this) GW516.out)) | (dsimp only; exact Nat.ne_of_lt (Nat.lt_of_lt_of_le (by have := World.block_lt_of_cell? _ _ hw514_0; first | rwa [add_block] at this | exact this) GW516.out))) _).trans (((cell_far (p := ⟨gb516, _, none⟩) (by first | exact Nat.ne_of_lt (Nat.lt_of_lt_of_le (by have := World.block_lt_of_cell? _ _ hw514_0; first | rwa [add_block] at this | exact this) GW516.out) | (rw [add_block]; exact Nat.ne_of_lt (Nat.lt_of_lt_of_le (by have := World.block_lt_of_cell? _ _ hw514_0; first | rwa [add_block] at this | exact this) GW516.out)) | (show (Addr.add _ _).block ≠ _; rw [add_block]; exact Nat.ne_of_lt (Nat.lt_of_lt_of_le (by have := World.block_lt_of_cell? _ _ hw514_0; first | rwa [add_block] at this | exact this) GW516.out)) | (dsimp only; exact Nat.ne_of_lt (Nat.lt_of_lt_of_le (by have := World.block_lt_of_cell? _ _ hw514_0; first | rwa [add_block] at this | exact this) GW516.out))) _).trans (((cell_far (p := ⟨gb516, _, none⟩) (by first | exact Nat.ne_of_lt (Nat.lt_of_lt_of_le (by have := World.block_lt_of_cell? _ _ hw514_0; first | rwa [add_block] at this | exact this) GW516.out) | (rw [add_block]; exact Nat.ne_of_lt (Nat.lt_of_lt_of_le (by have := World.block_lt_of_cell? _ _ hw514_0; first | rwa [add_block] at this | exact this) GW516.out)) | (show (Addr.add _ _).block ≠ _; rw [add_block]; exact Nat.ne_of_lt (Nat.lt_of_lt_of_le (by have := World.block_lt_of_cell? _ _ hw514_0; first | rwa [add_block] at this | exact this) GW516.out)) | (dsimp only; exact Nat.ne_of_lt (Nat.lt_of_lt_of_le (by have := World.block_lt_of_cell? _ _ hw514_0; first | rwa [add_block] at this | exact this) GW516.out))) _).trans (((cell_far (p := ⟨gb516, _, none⟩) (by first | exact Nat.ne_of_lt (Nat.lt_of_lt_of_le (by have := World.block_lt_of_cell? _ _ hw514_0; first | rwa [add_block] at this | exact this) GW516.out) | (rw [add_block]; exact Nat.ne_of_lt (Nat.lt_of_lt_of_le (by have := World.block_lt_of_cell? _ _ hw514_0; first | rwa [add_block] at this | exact this) GW516.out)) | (show (Addr.add _ _).block ≠ _; rw [add_block]; exact Nat.ne_of_lt (Nat.lt_of_lt_of_le (by have := World.block_lt_of_cell? _ _ hw514_0; first | rwa [add_block] at this | exact this) GW516.out)) | (dsimp only; exact Nat.ne_of_lt (Nat.lt_of_lt_of_le (by have := World.block_lt_of_cell? _ _ hw514_0; first | rwa [add_block] at this | exact this) GW516.out))) _).trans (((cell_far (p := ⟨gb516, _, none⟩) (by first | exact Nat.ne_of_lt (Nat.lt_of_lt_of_le (by have := World.block_lt_of_cell? _ _ hw514_0; first | rwa [add_block] at this | exact this) GW516.out) | (rw [add_block]; exact Nat.ne_of_lt (Nat.lt_of_lt_of_le (by have := World.block_lt_of_cell? _ _ hw514_0; first | rwa [add_block] at this | exact this) GW516.out)) | (show (Addr.add _ _).block ≠ _; rw [add_block]; exact Nat.ne_of_lt (Nat.lt_of_lt_of_le (by have := World.block_lt_of_cell? _ _ hw514_0; first | rwa [add_block] at this | exact this) GW516.out)) | (dsimp only; exact Nat.ne_of_lt (Nat.lt_of_lt_of_le (by have := World.block_lt_of_cell? _ _ hw514_0; first | rwa [add_block] at this | exact this) GW516.out))) _).trans (((cell_far (p := ⟨gb516, _, none⟩) (by first | exact Nat.ne_of_lt (Nat.lt_of_lt_of_le (by have := World.block_lt_of_cell? _ _ hw514_0; first | rwa [add_block] at this | exact this) GW516.out) | (rw [add_block]; exact Nat.ne_of_lt (Nat.lt_of_lt_of_le (by have := World.block_lt_of_cell? _ _ hw514_0; first | rwa [add_block] at this | exact this) GW516.out)) | (show (Addr.add _ _).block ≠ _; rw [add_block]; exact Nat.ne_of_lt (Nat.lt_of_lt_of_le (by have := World.block_lt_of_cell? _ _ hw514_0; first | rwa [add_block] at this | exact this) GW516.out)) | (dsimp only; exact Nat.ne_of_lt (Nat.lt_of_lt_of_le (by have := World.block_lt_of_cell? _ _ hw514_0; first | rwa [add_block] at this | exact this) GW516.out))) _).trans (hHeld.2.2.2.2.2.2.2.1)))))))))))), ((cell_far (p := ⟨gb516, _, none⟩) (by first | exact Nat.ne_of_lt (Nat.lt_of_lt_of_le (by have := World.block_lt_of_cell? _ _ hw514_1; first | rwa [add_block] at this | exact this) GW516.out) | (rw [add_block]; exact Nat.ne_of_lt (Nat.lt_of_lt_of_le (by have := World.block_lt_of_cell? _ _ hw514_1; first | rwa [add_block] at this | exact this) GW516.out)) | (show (Addr.add _ _).block ≠ _; rw [add_block]; exact Nat.ne_of_lt (Nat.lt_of_lt_of_le (by have := World.block_lt_of_cell? _ _ hw514_1; first | rwa [add_block] at this | exact this) GW516.out)) | (dsimp only; exact Nat.ne_of_lt (Nat.lt_of_lt_of_le (by have := World.block_lt_of_cell? _ _ hw514_1; first | rwa [add_block] at this | exact this) GW516.out))) _).trans (((cell_far (p := ⟨gb516, _, none⟩) (by first | exact Nat.ne_of_lt (Nat.lt_of_lt_of_le (by have := World.block_lt_of_cell? _ _ hw514_1; first | rwa [add_block] at this | exact this) GW516.out) | (rw [add_block]; exact Nat.ne_of_lt (Nat.lt_of_lt_of_le (by have := World.block_lt_of_cell? _ _ hw514_1; first | rwa [add_block] at this | exact this) GW516.out)) | (show (Addr.add _ _).block ≠ _; rw [add_block]; exact Nat.ne_of_lt (Nat.lt_of_lt_of_le (by have := World.block_lt_of_cell? _ _ hw514_1; first | rwa [add_block] at this | exact this) GW516.out)) | (dsimp only; exact Nat.ne_of_lt (Nat.lt_of_lt_of_le (by have := World.block_lt_of_cell? _ _ hw514_1; first | rwa [add_block] at this | exact this) GW516.out))) _).trans (((cell_far (p := ⟨gb516, _, none⟩) (by first | exact Nat.ne_of_lt (Nat.lt_of_lt_of_le (by have := World.block_lt_of_cell? _ _ hw514_1; first | rwa [add_block] at this | exact this) GW516.out) | (rw [add_block]; exact Nat.ne_of_lt (Nat.lt_of_lt_of_le (by have := World.block_lt_of_cell? _ _ hw514_1; first | rwa [add_block] at this | exact this) GW516.out)) | (show (Addr.add _ _).block ≠ _; rw [add_block]; exact Nat.ne_of_lt (Nat.lt_of_lt_of_le (by have := World.block_lt_of_cell? _ _ hw514_1; first | rwa [add_block] at this | exact this) GW516.out)) | (dsimp only; exact Nat.ne_of_lt (Nat.lt_of_lt_of_le (by have := World.block_lt_of_cell? _ _ hw514_1; first | rwa [add_block] at this | exact this) GW516.out))) _).trans (((cell_far (p := ⟨gb516, _, none⟩) (by first | exact Nat.ne_of_lt (Nat.lt_of_lt_of_le (by have := World.block_lt_of_cell? _ _ hw514_1; first | rwa [add_block] at this | exact this) GW516.out) | (rw [add_block]; exact Nat.ne_of_lt (Nat.lt_of_lt_of_le (by have := World.block_lt_of_cell? _ _ hw514_1; first | rwa [add_block] at this | exact this) GW516.out)) | (show (Addr.add _ _).block ≠ _; rw [add_block]; exact Nat.ne_of_lt (Nat.lt_of_lt_of_le (by have := World.block_lt_of_cell? _ _ hw514_1; first | rwa [add_block] at this | exact this) GW516.out)) | (dsimp only; exact Nat.ne_of_lt (Nat.lt_of_lt_of_le (by have := World.block_lt_of_cell? _ _ hw514_1; first | rwa [add_block] at this | exact this) GW516.out))) _).trans (((cell_far (p := ⟨gb516, _, none⟩) (by first | exact Nat.ne_of_lt (Nat.lt_of_lt_of_le (by have := World.block_lt_of_cell? _ _ hw514_1; first | rwa [add_block] at this | exact this) GW516.out) | (rw [add_block]; exact Nat.ne_of_lt (Nat.lt_of_lt_of_le (by have := World.block_lt_of_cell? _ _ hw514_1; first | rwa [add_block] at this | exact this) GW516.out)) | (show (Addr.add _ _).block ≠ _; rw [add_block]; exact Nat.ne_of_lt (Nat.lt_of_lt_of_le (by have := World.block_lt_of_cell? _ _ hw514_1; first | rwa [add_block] at this | exact this) GW516.out)) | (dsimp only; exact Nat.ne_of_lt (Nat.lt_of_lt_of_le (by have := World.block_lt_of_cell? _ _ hw514_1; first | rwa [add_block] at this | exact this) GW516.out))) _).trans (((cell_far (p := ⟨gb516, _, none⟩) (by first | exact Nat.ne_of_lt (Nat.lt_of_lt_of_le (by have := World.block_lt_of_cell? _ _ hw514_1; first | rwa [add_block] at this | exact this) GW516.out) | (rw [add_block]; exact Nat.ne_of_lt (Nat.lt_of_lt_of_le (by have := World.block_lt_of_cell? _ _ hw514_1; first | rwa [add_block] at this | exact this) GW516.out)) | (show (Addr.add _ _).block ≠ _; rw [add_block]; exact Nat.ne_of_lt (Nat.lt_of_lt_of_le (by have := World.block_lt_of_cell? _ _ hw514_1; first | rwa [add_block] at this | exact this) GW516.out)) | (dsimp only; exact Nat.ne_of_lt (Nat.lt_of_lt_of_le (by have := World.block_lt_of_cell? _ _ hw514_1; first | rwa [add_block] at this | exact this) GW516.out))) _).trans (hHeld.2.2.2.2.2.2.2.2.1)))))))))))), ((cell_far (p := ⟨gb516, _, none⟩) (by first | exact Nat.ne_of_lt (Nat.lt_of_lt_of_le (by have := World.block_lt_of_cell? _ _ hw514_2; first | rwa [add_block] at this | exact this) GW516.out) | (rw [add_block]; exact Nat.ne_of_lt (Nat.lt_of_lt_of_le (by have := World.block_lt_of_cell? _ _ hw514_2; first | rwa [add_block] at this | exact this) GW516.out)) | (show (Addr.add _ _).block ≠ _; rw [add_block]; exact Nat.ne_of_lt (Nat.lt_of_lt_of_le (by have := World.block_lt_of_cell? _ _ hw514_2; first | rwa [add_block] at this | exact this) GW516.out)) | (dsimp only; exact Nat.ne_of_lt (Nat.lt_of_lt_of_le (by have := World.block_lt_of_cell? _ _ hw514_2; first | rwa [add_block] at this | exact this) GW516.out))) _).trans (((cell_far (p := ⟨gb516, _, none⟩) (by first | exact Nat.ne_of_lt (Nat.lt_of_lt_of_le (by have := World.block_lt_of_cell? _ _ hw514_2; first | rwa [add_block] at this | exact this) GW516.out) | (rw [add_block]; exact Nat.ne_of_lt (Nat.lt_of_lt_of_le (by have := World.block_lt_of_cell? _ _ hw514_2; first | rwa [add_block] at this | exact this) GW516.out)) | (show (Addr.add _ _).block ≠ _; rw [add_block]; exact Nat.ne_of_lt (Nat.lt_of_lt_of_le (by have := World.block_lt_of_cell? _ _ hw514_2; first | rwa [add_block] at this | exact this) GW516.out)) | (dsimp only; exact Nat.ne_of_lt (Nat.lt_of_lt_of_le (by have := World.block_lt_of_cell? _ _ hw514_2; first | rwa [add_block] at this | exact this) GW516.out))) _).trans (((cell_far (p := ⟨gb516, _, none⟩) (by first | exact Nat.ne_of_lt (Nat.lt_of_lt_of_le (by have := World.block_lt_of_cell? _ _ hw514_2; first | rwa [add_block] at this | exact this) GW516.out) | (rw [add_block]; exact Nat.ne_of_lt (Nat.lt_of_lt_of_le (by have := World.block_lt_of_cell? _ _ hw514_2; first | rwa [add_block] at this | exact this) GW516.out)) | (show (Addr.add _ _).block ≠ _; rw [add_block]; exact Nat.ne_of_lt (Nat.lt_of_lt_of_le (by have := World.block_lt_of_cell? _ _ hw514_2; first | rwa [add_block] at this | exact this) GW516.out)) | (dsimp only; exact Nat.ne_of_lt (Nat.lt_of_lt_of_le (by have := World.block_lt_of_cell? _ _ hw514_2; first | rwa [add_block] at this | exact this) GW516.out))) _).trans (((cell_far (p := ⟨gb516, _, none⟩) (by first | exact Nat.ne_of_lt (Nat.lt_of_lt_of_le (by have := World.block_lt_of_cell? _ _ hw514_2; first | rwa [add_block] at this | exact this) GW516.out) | (rw [add_block]; exact Nat.ne_of_lt (Nat.lt_of_lt_of_le (by have := World.block_lt_of_cell? _ _ hw514_2; first | rwa [add_block] at this | exact this) GW516.out)) | (show (Addr.add _ _).block ≠ _; rw [add_block]; exact Nat.ne_of_lt (Nat.lt_of_lt_of_le (by have := World.block_lt_of_cell? _ _ hw514_2; first | rwa [add_block] at this | exact this) GW516.out)) | (dsimp only; exact Nat.ne_of_lt (Nat.lt_of_lt_of_le (by have := World.block_lt_of_cell? _ _ hw514_2; first | rwa [add_block] at this | exact this) GW516.out))) _).trans (((cell_far (p := ⟨gb516, _, none⟩) (by first | exact Nat.ne_of_lt (Nat.lt_of_lt_of_le (by have := World.block_lt_of_cell? _ _ hw514_2; first | rwa [add_block] at this | exact this) GW516.out) | (rw [add_block]; exact Nat.ne_of_lt (Nat.lt_of_lt_of_le (by have := World.block_lt_of_cell? _ _ hw514_2; first | rwa [add_block] at this | exact this) GW516.out)) | (show (Addr.add _ _).block ≠ _; rw [add_block]; exact Nat.ne_of_lt (Nat.lt_of_lt_of_le (by have := World.block_lt_of_cell? _ _ hw514_2; first | rwa [add_block] at this | exact this) GW516.out)) | (dsimp only; exact Nat.ne_of_lt (Nat.lt_of_lt_of_le (by have := World.block_lt_of_cell? _ _ hw514_2; first | rwa [add_block] at this | exact this) GW516.out))) _).trans (((cell_far (p := ⟨gb516, _, none⟩) (by first | exact Nat.ne_of_lt (Nat.lt_of_lt_of_le (by have := World.block_lt_of_cell? _ _ hw514_2; first | rwa [add_block] at this | exact this) GW516.out) | (rw [add_block]; exact Nat.ne_of_lt (Nat.lt_of_lt_of_le (by have := World.block_lt_of_cell? _ _ hw514_2; first | rwa [add_block] at this | exact this) GW516.out)) | (show (Addr.add _ _).block ≠ _; rw [add_block]; exact Nat.ne_of_lt (Nat.lt_of_lt_of_le (by have := World.block_lt_of_cell? _ _ hw514_2; first | rwa [add_block] at this | exact this) GW516.out)) | (dsimp only; exact Nat.ne_of_lt (Nat.lt_of_lt_of_le (by have := World.block_lt_of_cell? _ _ hw514_2; first | rwa [add_block] at this | exact this) GW516.out))) _).trans (hHeld.2.2.2.2.2.2.2.2.2.1)))))))))))), ((cell_far (p := ⟨gb516, _, none⟩) (by first | exact Nat.ne_of_lt (Nat.lt_of_lt_of_le (by have := World.block_lt_of_cell? _ _ hw514_3; first | rwa [add_block] at this | exact this) GW516.out) | (rw [add_block]; exact Nat.ne_of_lt (Nat.lt_of_lt_of_le (by have := World.block_lt_of_cell? _ _ hw514_3; first | rwa [add_block] at this | exact this) GW516.out)) | (show (Addr.add _ _).block ≠ _; rw [add_block]; exact Nat.ne_of_lt (Nat.lt_of_lt_of_le (by have := World.block_lt_of_cell? _ _ hw514_3; first | rwa [add_block] at this | exact this) GW516.out)) | (dsimp only; exact Nat.ne_of_lt (Nat.lt_of_lt_of_le (by have := World.block_lt_of_cell? _ _ hw514_3; first | rwa [add_block] at this | exact this) GW516.out))) _).trans (((cell_far (p := ⟨gb516, _, none⟩) (by first | exact Nat.ne_of_lt (Nat.lt_of_lt_of_le (by have := World.block_lt_of_cell? _ _ hw514_3; first | rwa [add_block] at this | exact this) GW516.out) | (rw [add_block]; exact Nat.ne_of_lt (Nat.lt_of_lt_of_le (by have := World.block_lt_of_cell? _ _ hw514_3; first | rwa [add_block] at this | exact this) GW516.out)) | (show (Addr.add _ _).block ≠ _; rw [add_block]; exact Nat.ne_of_lt (Nat.lt_of_lt_of_le (by have := World.block_lt_of_cell? _ _ hw514_3; first | rwa [add_block] at this | exact this) GW516.out)) | (dsimp only; exact Nat.ne_of_lt (Nat.lt_of_lt_of_le (by have := World.block_lt_of_cell? _ _ hw514_3; first | rwa [add_block] at this | exact this) GW516.out))) _).trans (((cell_far (p := ⟨gb516, _, none⟩) (by first | exact Nat.ne_of_lt (Nat.lt_of_lt_of_le (by have := World.block_lt_of_cell? _ _ hw514_3; first | rwa [add_block] at this | exact this) GW516.out) | (rw [add_block]; exact Nat.ne_of_lt (Nat.lt_of_lt_of_le (by have := World.block_lt_of_cell? _ _ hw514_3; first | rwa [add_block] at this | exact this) GW516.out)) | (show (Addr.add _ _).block ≠ _; rw [add_block]; exact Nat.ne_of_lt (Nat.lt_of_lt_of_le (by have := World.block_lt_of_cell? _ _ hw514_3; first | rwa [add_block] at this | exact this) GW516.out)) | (dsimp only; exact Nat.ne_of_lt (Nat.lt_of_lt_of_le (by have := World.block_lt_of_cell? _ _ hw514_3; first | rwa [add_block] at this | exact this) GW516.out))) _).trans (((cell_far (p := ⟨gb516, _, none⟩) (by first | exact Nat.ne_of_lt (Nat.lt_of_lt_of_le (by have := World.block_lt_of_cell? _ _ hw514_3; first | rwa [add_block] at this | exact this) GW516.out) | (rw [add_block]; exact Nat.ne_of_lt (Nat.lt_of_lt_of_le (by have := World.block_lt_of_cell? _ _ hw514_3; first | rwa [add_block] at this | exact this) GW516.out)) | (show (Addr.add _ _).block ≠ _; rw [add_block]; exact Nat.ne_of_lt (Nat.lt_of_lt_of_le (by have := World.block_lt_of_cell? _ _ hw514_3; first | rwa [add_block] at this | exact this) GW516.out)) | (dsimp only; exact Nat.ne_of_lt (Nat.lt_of_lt_of_le (by have := World.block_lt_of_cell? _ _ hw514_3; first | rwa [add_block] at this | exact this) GW516.out))) _).trans (((cell_far (p := ⟨gb516, _, none⟩) (by first | exact Nat.ne_of_lt (Nat.lt_of_lt_of_le (by have := World.block_lt_of_cell? _ _ hw514_3; first | rwa [add_block] at this | exact this) GW516.out) | (rw [add_block]; exact Nat.ne_of_lt (Nat.lt_of_lt_of_le (by have := World.block_lt_of_cell? _ _ hw514_3; first | rwa [add_block] at this | exact this) GW516.out)) | (show (Addr.add _ _).block ≠ _; rw [add_block]; exact Nat.ne_of_lt (Nat.lt_of_lt_of_le (by have := World.block_lt_of_cell? _ _ hw514_3; first | rwa [add_block] at this | exact this) GW516.out)) | (dsimp only; exact Nat.ne_of_lt (Nat.lt_of_lt_of_le (by have := World.block_lt_of_cell? _ _ hw514_3; first | rwa [add_block] at this | exact this) GW516.out))) _).trans (((cell_far (p := ⟨gb516, _, none⟩) (by first | exact Nat.ne_of_lt (Nat.lt_of_lt_of_le (by have := World.block_lt_of_cell? _ _ hw514_3; first | rwa [add_block] at this | exact this) GW516.out) | (rw [add_block]; exact Nat.ne_of_lt (Nat.lt_of_lt_of_le (by have := World.block_lt_of_cell? _ _ hw514_3; first | rwa [add_block] at this | exact this) GW516.out)) | (show (Addr.add _ _).block ≠ _; rw [add_block]; exact Nat.ne_of_lt (Nat.lt_of_lt_of_le (by have := World.block_lt_of_cell? _ _ hw514_3; first | rwa [add_block] at this | exact this) GW516.out)) | (dsimp only; exact Nat.ne_of_lt (Nat.lt_of_lt_of_le (by have := World.block_lt_of_cell? _ _ hw514_3; first | rwa [add_block] at this | exact this) GW516.out))) _).trans (hHeld.2.2.2.2.2.2.2.2.2.2.1)))))))))))), ((cell_far (p := ⟨gb516, _, none⟩) (by first | exact Nat.ne_of_lt (Nat.lt_of_lt_of_le (by have := World.block_lt_of_cell? _ _ hw514_4; first | rwa [add_block] at this | exact this) GW516.out) | (rw [add_block]; exact Nat.ne_of_lt (Nat.lt_of_lt_of_le (by have := World.block_lt_of_cell? _ _ hw514_4; first | rwa [add_block] at this | exact this) GW516.out)) | (show (Addr.add _ _).block ≠ _; rw [add_block]; exact Nat.ne_of_lt (Nat.lt_of_lt_of_le (by have := World.block_lt_of_cell? _ _ hw514_4; first | rwa [add_block] at this | exact this) GW516.out)) | (dsimp only; exact Nat.ne_of_lt (Nat.lt_of_lt_of_le (by have := World.block_lt_of_cell? _ _ hw514_4; first | rwa [add_block] at this | exact this) GW516.out))) _).trans (((cell_far (p := ⟨gb516, _, none⟩) (by first | exact Nat.ne_of_lt (Nat.lt_of_lt_of_le (by have := World.block_lt_of_cell? _ _ hw514_4; first | rwa [add_block] at this | exact this) GW516.out) | (rw [add_block]; exact Nat.ne_of_lt (Nat.lt_of_lt_of_le (by have := World.block_lt_of_cell? _ _ hw514_4; first | rwa [add_block] at this | exact this) GW516.out)) | (show (Addr.add _ _).block ≠ _; rw [add_block]; exact Nat.ne_of_lt (Nat.lt_of_lt_of_le (by have := World.block_lt_of_cell? _ _ hw514_4; first | rwa [add_block] at this | exact this) GW516.out)) | (dsimp only; exact Nat.ne_of_lt (Nat.lt_of_lt_of_le (by have := World.block_lt_of_cell? _ _ hw514_4; first | rwa [add_block] at this | exact this) GW516.out))) _).trans (((cell_far (p := ⟨gb516, _, none⟩) (by first | exact Nat.ne_of_lt (Nat.lt_of_lt_of_le (by have := World.block_lt_of_cell? _ _ hw514_4; first | rwa [add_block] at this | exact this) GW516.out) | (rw [add_block]; exact Nat.ne_of_lt (Nat.lt_of_lt_of_le (by have := World.block_lt_of_cell? _ _ hw514_4; first | rwa [add_block] at this | exact this) GW516.out)) | (show (Addr.add _ _).block ≠ _; rw [add_block]; exact Nat.ne_of_lt (Nat.lt_of_lt_of_le (by have := World.block_lt_of_cell? _ _ hw514_4; first | rwa [add_block] at this | exact this) GW516.out)) | (dsimp only; exact Nat.ne_of_lt (Nat.lt_of_lt_of_le (by have := World.block_lt_of_cell? _ _ hw514_4; first | rwa [add_block] at this | exact this) GW516.out))) _).trans (((cell_far (p := ⟨gb516, _, none⟩) (by first | exact Nat.ne_of_lt (Nat.lt_of_lt_of_le (by have := World.block_lt_of_cell? _ _ hw514_4; first | rwa [add_block] at this | exact this) GW516.out) | (rw [add_block]; exact Nat.ne_of_lt (Nat.lt_of_lt_of_le (by have := World.block_lt_of_cell? _ _ hw514_4; first | rwa [add_block] at this | exact this) GW516.out)) | (show (Addr.add _ _).block ≠ _; rw [add_block]; exact Nat.ne_of_lt (Nat.lt_of_lt_of_le (by have := World.block_lt_of_cell? _ _ hw514_4; first | rwa [add_block] at this | exact this) GW516.out)) | (dsimp only; exact Nat.ne_of_lt (Nat.lt_of_lt_of_le (by have := World.block_lt_of_cell? _ _ hw514_4; first | rwa [add_block] at this | exact this) GW516.out))) _).trans (((cell_far (p := ⟨gb516, _, none⟩) (by first | exact Nat.ne_of_lt (Nat.lt_of_lt_of_le (by have := World.block_lt_of_cell? _ _ hw514_4; first | rwa [add_block] at this | exact this) GW516.out) | (rw [add_block]; exact Nat.ne_of_lt (Nat.lt_of_lt_of_le (by have := World.block_lt_of_cell? _ _ hw514_4; first | rwa [add_block] at this | exact this) GW516.out)) | (show (Addr.add _ _).block ≠ _; rw [add_block]; exact Nat.ne_of_lt (Nat.lt_of_lt_of_le (by have := World.block_lt_of_cell? _ _ hw514_4; first | rwa [add_block] at this | exact this) GW516.out)) | (dsimp only; exact Nat.ne_of_lt (Nat.lt_of_lt_of_le (by have := World.block_lt_of_cell? _ _ hw514_4; first | rwa [add_block] at this | exact this) GW516.out))) _).trans (((cell_far (p := ⟨gb516, _, none⟩) (by first | exact Nat.ne_of_lt (Nat.lt_of_lt_of_le (by have := World.block_lt_of_cell? _ _ hw514_4; first | rwa [add_block] at this | exact this) GW516.out) | (rw [add_block]; exact Nat.ne_of_lt (Nat.lt_of_lt_of_le (by have := World.block_lt_of_cell? _ _ hw514_4; first | rwa [add_block] at this | exact this) GW516.out)) | (show (Addr.add _ _).block ≠ _; rw [add_block]; exact Nat.ne_of_lt (Nat.lt_of_lt_of_le (by have := World.block_lt_of_cell? _ _ hw514_4; first | rwa [add_block] at this | exact this) GW516.out)) | (dsimp only; exact Nat.ne_of_lt (Nat.lt_of_lt_of_le (by have := World.block_lt_of_cell? _ _ hw514_4; first | rwa [add_block] at this | exact this) GW516.out))) _).trans (hHeld.2.2.2.2.2.2.2.2.2.2.2.1)))))))))))), ((cell_far (p := ⟨gb516, _, none⟩) (by first | exact Nat.ne_of_lt (Nat.lt_of_lt_of_le (by have := World.block_lt_of_cell? _ _ hw514_5; first | rwa [add_block] at this | exact this) GW516.out) | (rw [add_block]; exact Nat.ne_of_lt (Nat.lt_of_lt_of_le (by have := World.block_lt_of_cell? _ _ hw514_5; first | rwa [add_block] at this | exact this) GW516.out)) | (show (Addr.add _ _).block ≠ _; rw [add_block]; exact Nat.ne_of_lt (Nat.lt_of_lt_of_le (by have := World.block_lt_of_cell? _ _ hw514_5; first | rwa [add_block] at this | exact this) GW516.out)) | (dsimp only; exact Nat.ne_of_lt (Nat.lt_of_lt_of_le (by have := World.block_lt_of_cell? _ _ hw514_5; first | rwa [add_block] at this | exact this) GW516.out))) _).trans (((cell_far (p := ⟨gb516, _, none⟩) (by first | exact Nat.ne_of_lt (Nat.lt_of_lt_of_le (by have := World.block_lt_of_cell? _ _ hw514_5; first | rwa [add_block] at this | exact this) GW516.out) | (rw [add_block]; exact Nat.ne_of_lt (Nat.lt_of_lt_of_le (by have := World.block_lt_of_cell? _ _ hw514_5; first | rwa [add_block] at this | exact this) GW516.out)) | (show (Addr.add _ _).block ≠ _; rw [add_block]; exact Nat.ne_of_lt (Nat.lt_of_lt_of_le (by have := World.block_lt_of_cell? _ _ hw514_5; first | rwa [add_block] at this | exact this) GW516.out)) | (dsimp only; exact Nat.ne_of_lt (Nat.lt_of_lt_of_le (by have := World.block_lt_of_cell? _ _ hw514_5; first | rwa [add_block] at this | exact this) GW516.out))) _).trans (((cell_far (p := ⟨gb516, _, none⟩) (by first | exact Nat.ne_of_lt (Nat.lt_of_lt_of_le (by have := World.block_lt_of_cell? _ _ hw514_5; first | rwa [add_block] at this | exact this) GW516.out) | (rw [add_block]; exact Nat.ne_of_lt (Nat.lt_of_lt_of_le (by have := World.block_lt_of_cell? _ _ hw514_5; first | rwa [add_block] at this | exact this) GW516.out)) | (show (Addr.add _ _).block ≠ _; rw [add_block]; exact Nat.ne_of_lt (Nat.lt_of_lt_of_le (by have := World.block_lt_of_cell? _ _ hw514_5; first | rwa [add_block] at this | exact this) GW516.out)) | (dsimp only; exact Nat.ne_of_lt (Nat.lt_of_lt_of_le (by have := World.block_lt_of_cell? _ _ hw514_5; first | rwa [add_block] at this | exact this) GW516.out))) _).trans (((cell_far (p := ⟨gb516, _, none⟩) (by first | exact Nat.ne_of_lt (Nat.lt_of_lt_of_le (by have := World.block_lt_of_cell? _ _ hw514_5; first | rwa [add_block] at this | exact this) GW516.out) | (rw [add_block]; exact Nat.ne_of_lt (Nat.lt_of_lt_of_le (by have := World.block_lt_of_cell? _ _ hw514_5; first | rwa [add_block] at this | exact this) GW516.out)) | (show (Addr.add _ _).block ≠ _; rw [add_block]; exact Nat.ne_of_lt (Nat.lt_of_lt_of_le (by have := World.block_lt_of_cell? _ _ hw514_5; first | rwa [add_block] at this | exact this) GW516.out)) | (dsimp only; exact Nat.ne_of_lt (Nat.lt_of_lt_of_le (by have := World.block_lt_of_cell? _ _ hw514_5; first | rwa [add_block] at this | exact this) GW516.out))) _).trans (((cell_far (p := ⟨gb516, _, none⟩) (by first | exact Nat.ne_of_lt (Nat.lt_of_lt_of_le (by have := World.block_lt_of_cell? _ _ hw514_5; first | rwa [add_block] at this | exact this) GW516.out) | (rw [add_block]; exact Nat.ne_of_lt (Nat.lt_of_lt_of_le (by have := World.block_lt_of_cell? _ _ hw514_5; first | rwa [add_block] at this | exact this) GW516.out)) | (show (Addr.add _ _).block ≠ _; rw [add_block]; exact Nat.ne_of_lt (Nat.lt_of_lt_of_le (by have := World.block_lt_of_cell? _ _ hw514_5; first | rwa [add_block] at this | exact this) GW516.out)) | (dsimp only; exact Nat.ne_of_lt (Nat.lt_of_lt_of_le (by have := World.block_lt_of_cell? _ _ hw514_5; first | rwa [add_block] at this | exact this) GW516.out))) _).trans (((cell_far (p := ⟨gb516, _, none⟩) (by first | exact Nat.ne_of_lt (Nat.lt_of_lt_of_le (by have := World.block_lt_of_cell? _ _ hw514_5; first | rwa [add_block] at this | exact this) GW516.out) | (rw [add_block]; exact Nat.ne_of_lt (Nat.lt_of_lt_of_le (by have := World.block_lt_of_cell? _ _ hw514_5; first | rwa [add_block] at this | exact this) GW516.out)) | (show (Addr.add _ _).block ≠ _; rw [add_block]; exact Nat.ne_of_lt (Nat.lt_of_lt_of_le (by have := World.block_lt_of_cell? _ _ hw514_5; first | rwa [add_block] at this | exact this) GW516.out)) | (dsimp only; exact Nat.ne_of_lt (Nat.lt_of_lt_of_le (by have := World.block_lt_of_cell? _ _ hw514_5; first | rwa [add_block] at this | exact this) GW516.out))) _).trans (hHeld.2.2.2.2.2.2.2.2.2.2.2.2.1)))))))))))), ((cell_far (p := ⟨gb516, _, none⟩) (by first | exact Kd.own_blk (Kd.S_away HO_513000.out (fun _ hk => hk.2.1)) | (rw [add_block]; exact Kd.own_blk (Kd.S_away HO_513000.out (fun _ hk => hk.2.1))) | (show (Addr.add _ _).block ≠ _; rw [add_block]; exact Kd.own_blk (Kd.S_away HO_513000.out (fun _ hk => hk.2.1))) | (dsimp only; exact Kd.own_blk (Kd.S_away HO_513000.out (fun _ hk => hk.2.1)))) _).trans (((cell_far (p := ⟨gb516, _, none⟩) (by first | exact Kd.own_blk (Kd.S_away HO_513000.out (fun _ hk => hk.2.1)) | (rw [add_block]; exact Kd.own_blk (Kd.S_away HO_513000.out (fun _ hk => hk.2.1))) | (show (Addr.add _ _).block ≠ _; rw [add_block]; exact Kd.own_blk (Kd.S_away HO_513000.out (fun _ hk => hk.2.1))) | (dsimp only; exact Kd.own_blk (Kd.S_away HO_513000.out (fun _ hk => hk.2.1)))) _).trans (((cell_far (p := ⟨gb516, _, none⟩) (by first | exact Kd.own_blk (Kd.S_away HO_513000.out (fun _ hk => hk.2.1)) | (rw [add_block]; exact Kd.own_blk (Kd.S_away HO_513000.out (fun _ hk => hk.2.1))) | (show (Addr.add _ _).block ≠ _; rw [add_block]; exact Kd.own_blk (Kd.S_away HO_513000.out (fun _ hk => hk.2.1))) | (dsimp only; exact Kd.own_blk (Kd.S_away HO_513000.out (fun _ hk => hk.2.1)))) _).trans (((cell_far (p := ⟨gb516, _, none⟩) (by first | exact Kd.own_blk (Kd.S_away HO_513000.out (fun _ hk => hk.2.1)) | (rw [add_block]; exact Kd.own_blk (Kd.S_away HO_513000.out (fun _ hk => hk.2.1))) | (show (Addr.add _ _).block ≠ _; rw [add_block]; exact Kd.own_blk (Kd.S_away HO_513000.out (fun _ hk => hk.2.1))) | (dsimp only; exact Kd.own_blk (Kd.S_away HO_513000.out (fun _ hk => hk.2.1)))) _).trans (((cell_far (p := ⟨gb516, _, none⟩) (by first | exact Kd.own_blk (Kd.S_away HO_513000.out (fun _ hk => hk.2.1)) | (rw [add_block]; exact Kd.own_blk (Kd.S_away HO_513000.out (fun _ hk => hk.2.1))) | (show (Addr.add _ _).block ≠ _; rw [add_block]; exact Kd.own_blk (Kd.S_away HO_513000.out (fun _ hk => hk.2.1))) | (dsimp only; exact Kd.own_blk (Kd.S_away HO_513000.out (fun _ hk => hk.2.1)))) _).trans (((cell_far (p := ⟨gb516, _, none⟩) (by first | exact Kd.own_blk (Kd.S_away HO_513000.out (fun _ hk => hk.2.1)) | (rw [add_block]; exact Kd.own_blk (Kd.S_away HO_513000.out (fun _ hk => hk.2.1))) | (show (Addr.add _ _).block ≠ _; rw [add_block]; exact Kd.own_blk (Kd.S_away HO_513000.out (fun _ hk => hk.2.1))) | (dsimp only; exact Kd.own_blk (Kd.S_away HO_513000.out (fun _ hk => hk.2.1)))) _).trans (hHeld.2.2.2.2.2.2.2.2.2.2.2.2.2.1)))))))))))), ((cell_far (p := ⟨gb516, _, none⟩) (by first | exact Kd.own_blk (Kd.S_away HO_513000.out (fun _ hk => hk.2.1)) | (rw [add_block]; exact Kd.own_blk (Kd.S_away HO_513000.out (fun _ hk => hk.2.1))) | (show (Addr.add _ _).block ≠ _; rw [add_block]; exact Kd.own_blk (Kd.S_away HO_513000.out (fun _ hk => hk.2.1))) | (dsimp only; exact Kd.own_blk (Kd.S_away HO_513000.out (fun _ hk => hk.2.1)))) _).trans (((cell_far (p := ⟨gb516, _, none⟩) (by first | exact Kd.own_blk (Kd.S_away HO_513000.out (fun _ hk => hk.2.1)) | (rw [add_block]; exact Kd.own_blk (Kd.S_away HO_513000.out (fun _ hk => hk.2.1))) | (show (Addr.add _ _).block ≠ _; rw [add_block]; exact Kd.own_blk (Kd.S_away HO_513000.out (fun _ hk => hk.2.1))) | (dsimp only; exact Kd.own_blk (Kd.S_away HO_513000.out (fun _ hk => hk.2.1)))) _).trans (((cell_far (p := ⟨gb516, _, none⟩) (by first | exact Kd.own_blk (Kd.S_away HO_513000.out (fun _ hk => hk.2.1)) | (rw [add_block]; exact Kd.own_blk (Kd.S_away HO_513000.out (fun _ hk => hk.2.1))) | (show (Addr.add _ _).block ≠ _; rw [add_block]; exact Kd.own_blk (Kd.S_away HO_513000.out (fun _ hk => hk.2.1))) | (dsimp only; exact Kd.own_blk (Kd.S_away HO_513000.out (fun _ hk => hk.2.1)))) _).trans (((cell_far (p := ⟨gb516, _, none⟩) (by first | exact Kd.own_blk (Kd.S_away HO_513000.out (fun _ hk => hk.2.1)) | (rw [add_block]; exact Kd.own_blk (Kd.S_away HO_513000.out (fun _ hk => hk.2.1))) | (show (Addr.add _ _).block ≠ _; rw [add_block]; exact Kd.own_blk (Kd.S_away HO_513000.out (fun _ hk => hk.2.1))) | (dsimp only; exact Kd.own_blk (Kd.S_away HO_513000.out (fun _ hk => hk.2.1)))) _).trans (((cell_far (p := ⟨gb516, _, none⟩) (by first | exact Kd.own_blk (Kd.S_away HO_513000.out (fun _ hk => hk.2.1)) | (rw [add_block]; exact Kd.own_blk (Kd.S_away HO_513000.out (fun _ hk => hk.2.1))) | (show (Addr.add _ _).block ≠ _; rw [add_block]; exact Kd.own_blk (Kd.S_away HO_513000.out (fun _ hk => hk.2.1))) | (dsimp only; exact Kd.own_blk (Kd.S_away HO_513000.out (fun _ hk => hk.2.1)))) _).trans (((cell_far (p := ⟨gb516, _, none⟩) (by first | exact Kd.own_blk (Kd.S_away HO_513000.out (fun _ hk => hk.2.1)) | (rw [add_block]; exact Kd.own_blk (Kd.S_away HO_513000.out (fun _ hk => hk.2.1))) | (show (Addr.add _ _).block ≠ _; rw [add_block]; exact Kd.own_blk (Kd.S_away HO_513000.out (fun _ hk => hk.2.1))) | (dsimp only; exact Kd.own_blk (Kd.S_away HO_513000.out (fun _ hk => hk.2.1)))) _).trans (hHeld.2.2.2.2.2.2.2.2.2.2.2.2.2.2.1)))))))))))), ((cell_far (p := ⟨gb516, _, none⟩) (by first | exact Kd.own_blk (Kd.S_away HO_513000.out (fun _ hk => hk.2.1)) | (rw [add_block]; exact Kd.own_blk (Kd.S_away HO_513000.out (fun _ hk => hk.2.1))) | (show (Addr.add _ _).block ≠ _; rw [add_block]; exact Kd.own_blk (Kd.S_away HO_513000.out (fun _ hk => hk.2.1))) | (dsimp only; exact Kd.own_blk (Kd.S_away HO_513000.out (fun _ hk => hk.2.1)))) _).trans (((cell_far (p := ⟨gb516, _, none⟩) (by first | exact Kd.own_blk (Kd.S_away HO_513000.out (fun _ hk => hk.2.1)) | (rw [add_block]; exact Kd.own_blk (Kd.S_away HO_513000.out (fun _ hk => hk.2.1))) | (show (Addr.add _ _).block ≠ _; rw [add_block]; exact Kd.own_blk (Kd.S_away HO_513000.out (fun _ hk => hk.2.1))) | (dsimp only; exact Kd.own_blk (Kd.S_away HO_513000.out (fun _ hk => hk.2.1)))) _).trans (((cell_far (p := ⟨gb516, _, none⟩) (by first | exact Kd.own_blk (Kd.S_away HO_513000.out (fun _ hk => hk.2.1)) | (rw [add_block]; exact Kd.own_blk (Kd.S_away HO_513000.out (fun _ hk => hk.2.1))) | (show (Addr.add _ _).block ≠ _; rw [add_block]; exact Kd.own_blk (Kd.S_away HO_513000.out (fun _ hk => hk.2.1))) | (dsimp only; exact Kd.own_blk (Kd.S_away HO_513000.out (fun _ hk => hk.2.1)))) _).trans (((cell_far (p := ⟨gb516, _, none⟩) (by first | exact Kd.own_blk (Kd.S_away HO_513000.out (fun _ hk => hk.2.1)) | (rw [add_block]; exact Kd.own_blk (Kd.S_away HO_513000.out (fun _ hk => hk.2.1))) | (show (Addr.add _ _).block ≠ _; rw [add_block]; exact Kd.own_blk (Kd.S_away HO_513000.out (fun _ hk => hk.2.1))) | (dsimp only; exact Kd.own_blk (Kd.S_away HO_513000.out (fun _ hk => hk.2.1)))) _).trans (((cell_far (p := ⟨gb516, _, none⟩) (by first | exact Kd.own_blk (Kd.S_away HO_513000.out (fun _ hk => hk.2.1)) | (rw [add_block]; exact Kd.own_blk (Kd.S_away HO_513000.out (fun _ hk => hk.2.1))) | (show (Addr.add _ _).block ≠ _; rw [add_block]; exact Kd.own_blk (Kd.S_away HO_513000.out (fun _ hk => hk.2.1))) | (dsimp only; exact Kd.own_blk (Kd.S_away HO_513000.out (fun _ hk => hk.2.1)))) _).trans (((cell_far (p := ⟨gb516, _, none⟩) (by first | exact Kd.own_blk (Kd.S_away HO_513000.out (fun _ hk => hk.2.1)) | (rw [add_block]; exact Kd.own_blk (Kd.S_away HO_513000.out (fun _ hk => hk.2.1))) | (show (Addr.add _ _).block ≠ _; rw [add_block]; exact Kd.own_blk (Kd.S_away HO_513000.out (fun _ hk => hk.2.1))) | (dsimp only; exact Kd.own_blk (Kd.S_away HO_513000.out (fun _ hk => hk.2.1)))) _).trans (hHeld.2.2.2.2.2.2.2.2.2.2.2.2.2.2.2.1)))))))))))), ((cell_far (p := ⟨gb516, _, none⟩) (by first | exact Kd.own_blk (Kd.S_away HO_513000.out (fun _ hk => hk.2.1)) | (rw [add_block]; exact Kd.own_blk (Kd.S_away HO_513000.out (fun _ hk => hk.2.1))) | (show (Addr.add _ _).block ≠ _; rw [add_block]; exact Kd.own_blk (Kd.S_away HO_513000.out (fun _ hk => hk.2.1))) | (dsimp only; exact Kd.own_blk (Kd.S_away HO_513000.out (fun _ hk => hk.2.1)))) _).trans (((cell_far (p := ⟨gb516, _, none⟩) (by first | exact Kd.own_blk (Kd.S_away HO_513000.out (fun _ hk => hk.2.1)) | (rw [add_block]; exact Kd.own_blk (Kd.S_away HO_513000.out (fun _ hk => hk.2.1))) | (show (Addr.add _ _).block ≠ _; rw [add_block]; exact Kd.own_blk (Kd.S_away HO_513000.out (fun _ hk => hk.2.1))) | (dsimp only; exact Kd.own_blk (Kd.S_away HO_513000.out (fun _ hk => hk.2.1)))) _).trans (((cell_far (p := ⟨gb516, _, none⟩) (by first | exact Kd.own_blk (Kd.S_away HO_513000.out (fun _ hk => hk.2.1)) | (rw [add_block]; exact Kd.own_blk (Kd.S_away HO_513000.out (fun _ hk => hk.2.1))) | (show (Addr.add _ _).block ≠ _; rw [add_block]; exact Kd.own_blk (Kd.S_away HO_513000.out (fun _ hk => hk.2.1))) | (dsimp only; exact Kd.own_blk (Kd.S_away HO_513000.out (fun _ hk => hk.2.1)))) _).trans (((cell_far (p := ⟨gb516, _, none⟩) (by first | exact Kd.own_blk (Kd.S_away HO_513000.out (fun _ hk => hk.2.1)) | (rw [add_block]; exact Kd.own_blk (Kd.S_away HO_513000.out (fun _ hk => hk.2.1))) | (show (Addr.add _ _).block ≠ _; rw [add_block]; exact Kd.own_blk (Kd.S_away HO_513000.out (fun _ hk => hk.2.1))) | (dsimp only; exact Kd.own_blk (Kd.S_away HO_513000.out (fun _ hk => hk.2.1)))) _).trans (((cell_far (p := ⟨gb516, _, none⟩) (by first | exact Kd.own_blk (Kd.S_away HO_513000.out (fun _ hk => hk.2.1)) | (rw [add_block]; exact Kd.own_blk (Kd.S_away HO_513000.out (fun _ hk => hk.2.1))) | (show (Addr.add _ _).block ≠ _; rw [add_block]; exact Kd.own_blk (Kd.S_away HO_513000.out (fun _ hk => hk.2.1))) | (dsimp only; exact Kd.own_blk (Kd.S_away HO_513000.out (fun _ hk => hk.2.1)))) _).trans (((cell_far (p := ⟨gb516, _, none⟩) (by first | exact Kd.own_blk (Kd.S_away HO_513000.out (fun _ hk => hk.2.1)) | (rw [add_block]; exact Kd.own_blk (Kd.S_away HO_513000.out (fun _ hk => hk.2.1))) | (show (Addr.add _ _).block ≠ _; rw [add_block]; exact Kd.own_blk (Kd.S_away HO_513000.out (fun _ hk => hk.2.1))) | (dsimp only; exact Kd.own_blk (Kd.S_away HO_513000.out (fun _ hk => hk.2.1)))) _).trans (hHeld.2.2.2.2.2.2.2.2.2.2.2.2.2.2.2.2.1)))))))))))), ((cell_far (p := ⟨gb516, _, none⟩) (by first | exact Kd.own_blk (Kd.S_away HO_513000.out (fun _ hk => hk.2.1)) | (rw [add_block]; exact Kd.own_blk (Kd.S_away HO_513000.out (fun _ hk => hk.2.1))) | (show (Addr.add _ _).block ≠ _; rw [add_block]; exact Kd.own_blk (Kd.S_away HO_513000.out (fun _ hk => hk.2.1))) | (dsimp only; exact Kd.own_blk (Kd.S_away HO_513000.out (fun _ hk => hk.2.1)))) _).trans (((cell_far (p := ⟨gb516, _, none⟩) (by first | exact Kd.own_blk (Kd.S_away HO_513000.out (fun _ hk => hk.2.1)) | (rw [add_block]; exact Kd.own_blk (Kd.S_away HO_513000.out (fun _ hk => hk.2.1))) | (show (Addr.add _ _).block ≠ _; rw [add_block]; exact Kd.own_blk (Kd.S_away HO_513000.out (fun _ hk => hk.2.1))) | (dsimp only; exact Kd.own_blk (Kd.S_away HO_513000.out (fun _ hk => hk.2.1)))) _).trans (((cell_far (p := ⟨gb516, _, none⟩) (by first | exact Kd.own_blk (Kd.S_away HO_513000.out (fun _ hk => hk.2.1)) | (rw [add_block]; exact Kd.own_blk (Kd.S_away HO_513000.out (fun _ hk => hk.2.1))) | (show (Addr.add _ _).block ≠ _; rw [add_block]; exact Kd.own_blk (Kd.S_away HO_513000.out (fun _ hk => hk.2.1))) | (dsimp only; exact Kd.own_blk (Kd.S_away HO_513000.out (fun _ hk => hk.2.1)))) _).trans (((cell_far (p := ⟨gb516, _, none⟩) (by first | exact Kd.own_blk (Kd.S_away HO_513000.out (fun _ hk => hk.2.1)) | (rw [add_block]; exact Kd.own_blk (Kd.S_away HO_513000.out (fun _ hk => hk.2.1))) | (show (Addr.add _ _).block ≠ _; rw [add_block]; exact Kd.own_blk (Kd.S_away HO_513000.out (fun _ hk => hk.2.1))) | (dsimp only; exact Kd.own_blk (Kd.S_away HO_513000.out (fun _ hk => hk.2.1)))) _).trans (((cell_far (p := ⟨gb516, _, none⟩) (by first | exact Kd.own_blk (Kd.S_away HO_513000.out (fun _ hk => hk.2.1)) | (rw [add_block]; exact Kd.own_blk (Kd.S_away HO_513000.out (fun _ hk => hk.2.1))) | (show (Addr.add _ _).block ≠ _; rw [add_block]; exact Kd.own_blk (Kd.S_away HO_513000.out (fun _ hk => hk.2.1))) | (dsimp only; exact Kd.own_blk (Kd.S_away HO_513000.out (fun _ hk => hk.2.1)))) _).trans (((cell_far (p := ⟨gb516, _, none⟩) (by first | exact Kd.own_blk (Kd.S_away HO_513000.out (fun _ hk => hk.2.1)) | (rw [add_block]; exact Kd.own_blk (Kd.S_away HO_513000.out (fun _ hk => hk.2.1))) | (show (Addr.add _ _).block ≠ _; rw [add_block]; exact Kd.own_blk (Kd.S_away HO_513000.out (fun _ hk => hk.2.1))) | (dsimp only; exact Kd.own_blk (Kd.S_away HO_513000.out (fun _ hk => hk.2.1)))) _).trans (hHeld.2.2.2.2.2.2.2.2.2.2.2.2.2.2.2.2.2.1)))))))))))), ((cell_far (p := ⟨gb516, _, none⟩) (by first | exact Kd.own_blk (Kd.S_away HO_513000.out (fun _ hk => hk.2.1)) | (rw [add_block]; exact Kd.own_blk (Kd.S_away HO_513000.out (fun _ hk => hk.2.1))) | (show (Addr.add _ _).block ≠ _; rw [add_block]; exact Kd.own_blk (Kd.S_away HO_513000.out (fun _ hk => hk.2.1))) | (dsimp only; exact Kd.own_blk (Kd.S_away HO_513000.out (fun _ hk => hk.2.1)))) _).trans (((cell_far (p := ⟨gb516, _, none⟩) (by first | exact Kd.own_blk (Kd.S_away HO_513000.out (fun _ hk => hk.2.1)) | (rw [add_block]; exact Kd.own_blk (Kd.S_away HO_513000.out (fun _ hk => hk.2.1))) | (show (Addr.add _ _).block ≠ _; rw [add_block]; exact Kd.own_blk (Kd.S_away HO_513000.out (fun _ hk => hk.2.1))) | (dsimp only; exact Kd.own_blk (Kd.S_away HO_513000.out (fun _ hk => hk.2.1)))) _).trans (((cell_far (p := ⟨gb516, _, none⟩) (by first | exact Kd.own_blk (Kd.S_away HO_513000.out (fun _ hk => hk.2.1)) | (rw [add_block]; exact Kd.own_blk (Kd.S_away HO_513000.out (fun _ hk => hk.2.1))) | (show (Addr.add _ _).block ≠ _; rw [add_block]; exact Kd.own_blk (Kd.S_away HO_513000.out (fun _ hk => hk.2.1))) | (dsimp only; exact Kd.own_blk (Kd.S_away HO_513000.out (fun _ hk => hk.2.1)))) _).trans (((cell_far (p := ⟨gb516, _, none⟩) (by first | exact Kd.own_blk (Kd.S_away HO_513000.out (fun _ hk => hk.2.1)) | (rw [add_block]; exact Kd.own_blk (Kd.S_away HO_513000.out (fun _ hk => hk.2.1))) | (show (Addr.add _ _).block ≠ _; rw [add_block]; exact Kd.own_blk (Kd.S_away HO_513000.out (fun _ hk => hk.2.1))) | (dsimp only; exact Kd.own_blk (Kd.S_away HO_513000.out (fun _ hk => hk.2.1)))) _).trans (((cell_far (p := ⟨gb516, _, none⟩) (by first | exact Kd.own_blk (Kd.S_away HO_513000.out (fun _ hk => hk.2.1)) | (rw [add_block]; exact Kd.own_blk (Kd.S_away HO_513000.out (fun _ hk => hk.2.1))) | (show (Addr.add _ _).block ≠ _; rw [add_block]; exact Kd.own_blk (Kd.S_away HO_513000.out (fun _ hk => hk.2.1))) | (dsimp only; exact Kd.own_blk (Kd.S_away HO_513000.out (fun _ hk => hk.2.1)))) _).trans (((cell_far (p := ⟨gb516, _, none⟩) (by first | exact Kd.own_blk (Kd.S_away HO_513000.out (fun _ hk => hk.2.1)) | (rw [add_block]; exact Kd.own_blk (Kd.S_away HO_513000.out (fun _ hk => hk.2.1))) | (show (Addr.add _ _).block ≠ _; rw [add_block]; exact Kd.own_blk (Kd.S_away HO_513000.out (fun _ hk => hk.2.1))) | (dsimp only; exact Kd.own_blk (Kd.S_away HO_513000.out (fun _ hk => hk.2.1)))) _).trans (hHeld.2.2.2.2.2.2.2.2.2.2.2.2.2.2.2.2.2.2))))))))))))⟩ (fun hHeld => ?_)
                  clear hK K
                  refine one_ (i := 16) (N := none) #[true, true, true, true, true, true, true, true, true, true, true, true, true, true, true, true, true] rfl rfl (one_of HT_.out (by kernel_rfl)) (by decide) (fun K hK => ?_)
                  have hs69 : w62.cell? ⟨gb517, 0, none⟩ = some (.int .i64 0) := (blk_cell BK517.out 0).trans rfl
                  have hfs69 := blk_frozen BK517.out 0
                  have hns69_0 := NB494_517.out
                  have hns69_1 := NB512_517.out
                  have hns69_2 := NB516_517.out
                  have hms69_0 := NB517_494.out
                  have hms69_1 := NB517_512.out
                  have hms69_2 := NB517_516.out
                  have hs70 : w62.cell? ⟨gb517, 1, none⟩ = some (.int .i64 0) := (blk_cell BK517.out 1).trans rfl
                  have hfs70 := blk_frozen BK517.out 1
                  have hns70_0 := NB494_517.out
                  have hns70_1 := NB512_517.out
                  have hns70_2 := NB516_517.out
                  have hms70_0 := NB517_494.out
                  have hms70_1 := NB517_512.out
                  have hms70_2 := NB517_516.out
                  have hs71 : w62.cell? ⟨gb517, 2, none⟩ = some (.slice none 0 0) := (blk_cell BK517.out 2).trans rfl
                  have hfs71 := blk_frozen BK517.out 2
                  have hns71_0 := NB494_517.out
                  have hns71_1 := NB512_517.out
                  have hns71_2 := NB516_517.out
                  have hms71_0 := NB517_494.out
                  have hms71_1 := NB517_512.out
                  have hms71_2 := NB517_516.out
                  have hs72 : w62.cell? ⟨gb517, 3, none⟩ = some (.string (⟨#[]⟩ : ByteArray)) := (blk_cell BK517.out 3).trans rfl
                  have hfs72 := blk_frozen BK517.out 3
                  have hns72_0 := NB494_517.out
                  have hns72_1 := NB512_517.out
                  have hns72_2 := NB516_517.out
                  have hms72_0 := NB517_494.out
                  have hms72_1 := NB517_512.out
                  have hms72_2 := NB517_516.out
                  have hs73 : w62.cell? ⟨gb517, 4, none⟩ = some (.int .i64 0) := (blk_cell BK517.out 4).trans rfl
                  have hfs73 := blk_frozen BK517.out 4
                  have hns73_0 := NB494_517.out
                  have hns73_1 := NB512_517.out
                  have hns73_2 := NB516_517.out
                  have hms73_0 := NB517_494.out
                  have hms73_1 := NB517_512.out
                  have hms73_2 := NB517_516.out
                  have hs74 : w62.cell? ⟨gb517, 5, none⟩ = some (.int .i64 0) := (blk_cell BK517.out 5).trans rfl
                  have hfs74 := blk_frozen BK517.out 5
                  have hns74_0 := NB494_517.out
                  have hns74_1 := NB512_517.out
                  have hns74_2 := NB516_517.out
                  have hms74_0 := NB517_494.out
                  have hms74_1 := NB517_512.out
                  have hms74_2 := NB517_516.out
                  refine skip_ (w1 := ?_) (by rfl) rfl ?_ ?_
                  rotate_left
                  ·go_simp
                   rfl
                  refine hK.out _ _ ⟨((cell_far (p := ⟨gb517, _, none⟩) NB494_517.out _).trans (((cell_far (p := ⟨gb517, _, none⟩) NB494_517.out _).trans (((cell_far (p := ⟨gb517, _, none⟩) NB494_517.out _).trans (((cell_far (p := ⟨gb517, _, none⟩) NB494_517.out _).trans (((cell_far (p := ⟨gb517, _, none⟩) NB494_517.out _).trans (((cell_far (p := ⟨gb517, _, none⟩) NB494_517.out _).trans (hHeld.1)))))))))))), ((cell_far (p := ⟨gb517, _, none⟩) NB494_517.out _).trans (((cell_far (p := ⟨gb517, _, none⟩) NB494_517.out _).trans (((cell_far (p := ⟨gb517, _, none⟩) NB494_517.out _).trans (((cell_far (p := ⟨gb517, _, none⟩) NB494_517.out _).trans (((cell_far (p := ⟨gb517, _, none⟩) NB494_517.out _).trans (((cell_far (p := ⟨gb517, _, none⟩) NB494_517.out _).trans (hHeld.2.1)))))))))))), ((cell_far (p := ⟨gb517, _, none⟩) NB494_517.out _).trans (((cell_far (p := ⟨gb517, _, none⟩) NB494_517.out _).trans (((cell_far (p := ⟨gb517, _, none⟩) NB494_517.out _).trans (((cell_far (p := ⟨gb517, _, none⟩) NB494_517.out _).trans (((cell_far (p := ⟨gb517, _, none⟩) NB494_517.out _).trans (((cell_far (p := ⟨gb517, _, none⟩) NB494_517.out _).trans (hHeld.2.2.1)))))))))))), ((cell_far (p := ⟨gb517, _, none⟩) NB512_517.out _).trans (((cell_far (p := ⟨gb517, _, none⟩) NB512_517.out _).trans (((cell_far (p := ⟨gb517, _, none⟩) NB512_517.out _).trans (((cell_far (p := ⟨gb517, _, none⟩) NB512_517.out _).trans (((cell_far (p := ⟨gb517, _, none⟩) NB512_517.out _).trans (((cell_far (p := ⟨gb517, _, none⟩) NB512_517.out _).trans (hHeld.2.2.2.1)))))))))))), ((cell_far (p := ⟨gb517, _, none⟩) NB512_517.out _).trans (((cell_far (p := ⟨gb517, _, none⟩) NB512_517.out _).trans (((cell_far (p := ⟨gb517, _, none⟩) NB512_517.out _).trans (((cell_far (p := ⟨gb517, _, none⟩) NB512_517.out _).trans (((cell_far (p := ⟨gb517, _, none⟩) NB512_517.out _).trans (((cell_far (p := ⟨gb517, _, none⟩) NB512_517.out _).trans (hHeld.2.2.2.2.1)))))))))))), ((cell_far (p := ⟨gb517, _, none⟩) NB512_517.out _).trans (((cell_far (p := ⟨gb517, _, none⟩) NB512_517.out _).trans (((cell_far (p := ⟨gb517, _, none⟩) NB512_517.out _).trans (((cell_far (p := ⟨gb517, _, none⟩) NB512_517.out _).trans (((cell_far (p := ⟨gb517, _, none⟩) NB512_517.out _).trans (((cell_far (p := ⟨gb517, _, none⟩) NB512_517.out _).trans (hHeld.2.2.2.2.2.1)))))))))))), ((cell_far (p := ⟨gb517, _, none⟩) (by first | exact Kd.own_blk (Kd.R_ne HO_5.out BK517.out (by decide)) | (rw [add_block]; exact Kd.own_blk (Kd.R_ne HO_5.out BK517.out (by decide))) | (show (Addr.add _ _).block ≠ _; rw [add_block]; exact Kd.own_blk (Kd.R_ne HO_5.out BK517.out (by decide))) | (dsimp only; exact Kd.own_blk (Kd.R_ne HO_5.out BK517.out (by decide)))) _).trans (((cell_far (p := ⟨gb517, _, none⟩) (by first | exact Kd.own_blk (Kd.R_ne HO_5.out BK517.out (by decide)) | (rw [add_block]; exact Kd.own_blk (Kd.R_ne HO_5.out BK517.out (by decide))) | (show (Addr.add _ _).block ≠ _; rw [add_block]; exact Kd.own_blk (Kd.R_ne HO_5.out BK517.out (by decide))) | (dsimp only; exact Kd.own_blk (Kd.R_ne HO_5.out BK517.out (by decide)))) _).trans (((cell_far (p := ⟨gb517, _, none⟩) (by first | exact Kd.own_blk (Kd.R_ne HO_5.out BK517.out (by decide)) | (rw [add_block]; exact Kd.own_blk (Kd.R_ne HO_5.out BK517.out (by decide))) | (show (Addr.add _ _).block ≠ _; rw [add_block]; exact Kd.own_blk (Kd.R_ne HO_5.out BK517.out (by decide))) | (dsimp only; exact Kd.own_blk (Kd.R_ne HO_5.out BK517.out (by decide)))) _).trans (((cell_far (p := ⟨gb517, _, none⟩) (by first | exact Kd.own_blk (Kd.R_ne HO_5.out BK517.out (by decide)) | (rw [add_block]; exact Kd.own_blk (Kd.R_ne HO_5.out BK517.out (by decide))) | (show (Addr.add _ _).block ≠ _; rw [add_block]; exact Kd.own_blk (Kd.R_ne HO_5.out BK517.out (by decide))) | (dsimp only; exact Kd.own_blk (Kd.R_ne HO_5.out BK517.out (by decide)))) _).trans (((cell_far (p := ⟨gb517, _, none⟩) (by first | exact Kd.own_blk (Kd.R_ne HO_5.out BK517.out (by decide)) | (rw [add_block]; exact Kd.own_blk (Kd.R_ne HO_5.out BK517.out (by decide))) | (show (Addr.add _ _).block ≠ _; rw [add_block]; exact Kd.own_blk (Kd.R_ne HO_5.out BK517.out (by decide))) | (dsimp only; exact Kd.own_blk (Kd.R_ne HO_5.out BK517.out (by decide)))) _).trans (((cell_far (p := ⟨gb517, _, none⟩) (by first | exact Kd.own_blk (Kd.R_ne HO_5.out BK517.out (by decide)) | (rw [add_block]; exact Kd.own_blk (Kd.R_ne HO_5.out BK517.out (by decide))) | (show (Addr.add _ _).block ≠ _; rw [add_block]; exact Kd.own_blk (Kd.R_ne HO_5.out BK517.out (by decide))) | (dsimp only; exact Kd.own_blk (Kd.R_ne HO_5.out BK517.out (by decide)))) _).trans (hHeld.2.2.2.2.2.2.1)))))))))))), ((cell_far (p := ⟨gb517, _, none⟩) (by first | exact Nat.ne_of_lt (Nat.lt_of_lt_of_le (by have := World.block_lt_of_cell? _ _ hw514_0; first | rwa [add_block] at this | exact this) GW517.out) | (rw [add_block]; exact Nat.ne_of_lt (Nat.lt_of_lt_of_le (by have := World.block_lt_of_cell? _ _ hw514_0; first | rwa [add_block] at this | exact this) GW517.out)) | (show (Addr.add _ _).block ≠ _; rw [add_block]; exact Nat.ne_of_lt (Nat.lt_of_lt_of_le (by have := World.block_lt_of_cell? _ _ hw514_0; first | rwa [add_block] at this | exact this) GW517.out)) | (dsimp only; exact Nat.ne_of_lt (Nat.lt_of_lt_of_le (by have := World.block_lt_of_cell? _ _ hw514_0; first | rwa [add_block] at this | exact this) GW517.out))) _).trans (((cell_far (p := ⟨gb517, _, none⟩) (by first | exact Nat.ne_of_lt (Nat.lt_of_lt_of_le (by have := World.block_lt_of_cell? _ _ hw514_0; first | rwa [add_block] at this | exact this) GW517.out) | (rw [add_block]; exact Nat.ne_of_lt (Nat.lt_of_lt_of_le (by have := World.block_lt_of_cell? _ _ hw514_0; first | rwa [add_block] at this | exact this) GW517.out)) | (show (Addr.add _ _).block ≠ _; rw [add_block]; exact Nat.ne_of_lt (Nat.lt_of_lt_of_le (by have := World.block_lt_of_cell? _ _ hw514_0; first | rwa [add_block] at this | exact this) GW517.out)) | (dsimp only; exact Nat.ne_of_lt (Nat.lt_of_lt_of_le (by have := World.block_lt_of_cell? _ _ hw514_0; first | rwa [add_block] at this | exact this) GW517.out))) _).trans (((cell_far (p := ⟨gb517, _, none⟩) (by first | exact Nat.ne_of_lt (Nat.lt_of_lt_of_le (by have := World.block_lt_of_cell? _ _ hw514_0; first | rwa [add_block] at this | exact this) GW517.out) | (rw [add_block]; exact Nat.ne_of_lt (Nat.lt_of_lt_of_le (by have := World.block_lt_of_cell? _ _ hw514_0; first | rwa [add_block] at this | exact this) GW517.out)) | (show (Addr.add _ _).block ≠ _; rw [add_block]; exact Nat.ne_of_lt (Nat.lt_of_lt_of_le (by have := World.block_lt_of_cell? _ _ hw514_0; first | rwa [add_block] at this | exact this) GW517.out)) | (dsimp only; exact Nat.ne_of_lt (Nat.lt_of_lt_of_le (by have := World.block_lt_of_cell? _ _ hw514_0; first | rwa [add_block] at this | exact this) GW517.out))) _).trans (((cell_far (p := ⟨gb517, _, none⟩) (by first | exact Nat.ne_of_lt (Nat.lt_of_lt_of_le (by have := World.block_lt_of_cell? _ _ hw514_0; first | rwa [add_block] at this | exact this) GW517.out) | (rw [add_block]; exact Nat.ne_of_lt (Nat.lt_of_lt_of_le (by have := World.block_lt_of_cell? _ _ hw514_0; first | rwa [add_block] at this | exact this) GW517.out)) | (show (Addr.add _ _).block ≠ _; rw [add_block]; exact Nat.ne_of_lt (Nat.lt_of_lt_of_le (by have := World.block_lt_of_cell? _ _ hw514_0; first | rwa [add_block] at this | exact this) GW517.out)) | (dsimp only; exact Nat.ne_of_lt (Nat.lt_of_lt_of_le (by have := World.block_lt_of_cell? _ _ hw514_0; first | rwa [add_block] at this | exact this) GW517.out))) _).trans (((cell_far (p := ⟨gb517, _, none⟩) (by first | exact Nat.ne_of_lt (Nat.lt_of_lt_of_le (by have := World.block_lt_of_cell? _ _ hw514_0; first | rwa [add_block] at this | exact this) GW517.out) | (rw [add_block]; exact Nat.ne_of_lt (Nat.lt_of_lt_of_le (by have := World.block_lt_of_cell? _ _ hw514_0; first | rwa [add_block] at this | exact this) GW517.out)) | (show (Addr.add _ _).block ≠ _; rw [add_block]; exact Nat.ne_of_lt (Nat.lt_of_lt_of_le (by have := World.block_lt_of_cell? _ _ hw514_0; first | rwa [add_block] at this | exact this) GW517.out)) | (dsimp only; exact Nat.ne_of_lt (Nat.lt_of_lt_of_le (by have := World.block_lt_of_cell? _ _ hw514_0; first | rwa [add_block] at this | exact this) GW517.out))) _).trans (((cell_far (p := ⟨gb517, _, none⟩) (by first | exact Nat.ne_of_lt (Nat.lt_of_lt_of_le (by have := World.block_lt_of_cell? _ _ hw514_0; first | rwa [add_block] at this | exact this) GW517.out) | (rw [add_block]; exact Nat.ne_of_lt (Nat.lt_of_lt_of_le (by have := World.block_lt_of_cell? _ _ hw514_0; first | rwa [add_block] at this | exact this) GW517.out)) | (show (Addr.add _ _).block ≠ _; rw [add_block]; exact Nat.ne_of_lt (Nat.lt_of_lt_of_le (by have := World.block_lt_of_cell? _ _ hw514_0; first | rwa [add_block] at this | exact this) GW517.out)) | (dsimp only; exact Nat.ne_of_lt (Nat.lt_of_lt_of_le (by have := World.block_lt_of_cell? _ _ hw514_0; first | rwa [add_block] at this | exact this) GW517.out))) _).trans (hHeld.2.2.2.2.2.2.2.1)))))))))))), ((cell_far (p := ⟨gb517, _, none⟩) (by first | exact Nat.ne_of_lt (Nat.lt_of_lt_of_le (by have := World.block_lt_of_cell? _ _ hw514_1; first | rwa [add_block] at this | exact this) GW517.out) | (rw [add_block]; exact Nat.ne_of_lt (Nat.lt_of_lt_of_le (by have := World.block_lt_of_cell? _ _ hw514_1; first | rwa [add_block] at this | exact this) GW517.out)) | (show (Addr.add _ _).block ≠ _; rw [add_block]; exact Nat.ne_of_lt (Nat.lt_of_lt_of_le (by have := World.block_lt_of_cell? _ _ hw514_1; first | rwa [add_block] at this | exact this) GW517.out)) | (dsimp only; exact Nat.ne_of_lt (Nat.lt_of_lt_of_le (by have := World.block_lt_of_cell? _ _ hw514_1; first | rwa [add_block] at this | exact this) GW517.out))) _).trans (((cell_far (p := ⟨gb517, _, none⟩) (by first | exact Nat.ne_of_lt (Nat.lt_of_lt_of_le (by have := World.block_lt_of_cell? _ _ hw514_1; first | rwa [add_block] at this | exact this) GW517.out) | (rw [add_block]; exact Nat.ne_of_lt (Nat.lt_of_lt_of_le (by have := World.block_lt_of_cell? _ _ hw514_1; first | rwa [add_block] at this | exact this) GW517.out)) | (show (Addr.add _ _).block ≠ _; rw [add_block]; exact Nat.ne_of_lt (Nat.lt_of_lt_of_le (by have := World.block_lt_of_cell? _ _ hw514_1; first | rwa [add_block] at this | exact this) GW517.out)) | (dsimp only; exact Nat.ne_of_lt (Nat.lt_of_lt_of_le (by have := World.block_lt_of_cell? _ _ hw514_1; first | rwa [add_block] at this | exact this) GW517.out))) _).trans (((cell_far (p := ⟨gb517, _, none⟩) (by first | exact Nat.ne_of_lt (Nat.lt_of_lt_of_le (by have := World.block_lt_of_cell? _ _ hw514_1; first | rwa [add_block] at this | exact this) GW517.out) | (rw [add_block]; exact Nat.ne_of_lt (Nat.lt_of_lt_of_le (by have := World.block_lt_of_cell? _ _ hw514_1; first | rwa [add_block] at this | exact this) GW517.out)) | (show (Addr.add _ _).block ≠ _; rw [add_block]; exact Nat.ne_of_lt (Nat.lt_of_lt_of_le (by have := World.block_lt_of_cell? _ _ hw514_1; first | rwa [add_block] at this | exact this) GW517.out)) | (dsimp only; exact Nat.ne_of_lt (Nat.lt_of_lt_of_le (by have := World.block_lt_of_cell? _ _ hw514_1; first | rwa [add_block] at this | exact this) GW517.out))) _).trans (((cell_far (p := ⟨gb517, _, none⟩) (by first | exact Nat.ne_of_lt (Nat.lt_of_lt_of_le (by have := World.block_lt_of_cell? _ _ hw514_1; first | rwa [add_block] at this | exact this) GW517.out) | (rw [add_block]; exact Nat.ne_of_lt (Nat.lt_of_lt_of_le (by have := World.block_lt_of_cell? _ _ hw514_1; first | rwa [add_block] at this | exact this) GW517.out)) | (show (Addr.add _ _).block ≠ _; rw [add_block]; exact Nat.ne_of_lt (Nat.lt_of_lt_of_le (by have := World.block_lt_of_cell? _ _ hw514_1; first | rwa [add_block] at this | exact this) GW517.out)) | (dsimp only; exact Nat.ne_of_lt (Nat.lt_of_lt_of_le (by have := World.block_lt_of_cell? _ _ hw514_1; first | rwa [add_block] at this | exact this) GW517.out))) _).trans (((cell_far (p := ⟨gb517, _, none⟩) (by first | exact Nat.ne_of_lt (Nat.lt_of_lt_of_le (by have := World.block_lt_of_cell? _ _ hw514_1; first | rwa [add_block] at this | exact this) GW517.out) | (rw [add_block]; exact Nat.ne_of_lt (Nat.lt_of_lt_of_le (by have := World.block_lt_of_cell? _ _ hw514_1; first | rwa [add_block] at this | exact this) GW517.out)) | (show (Addr.add _ _).block ≠ _; rw [add_block]; exact Nat.ne_of_lt (Nat.lt_of_lt_of_le (by have := World.block_lt_of_cell? _ _ hw514_1; first | rwa [add_block] at this | exact this) GW517.out)) | (dsimp only; exact Nat.ne_of_lt (Nat.lt_of_lt_of_le (by have := World.block_lt_of_cell? _ _ hw514_1; first | rwa [add_block] at this | exact this) GW517.out))) _).trans (((cell_far (p := ⟨gb517, _, none⟩) (by first | exact Nat.ne_of_lt (Nat.lt_of_lt_of_le (by have := World.block_lt_of_cell? _ _ hw514_1; first | rwa [add_block] at this | exact this) GW517.out) | (rw [add_block]; exact Nat.ne_of_lt (Nat.lt_of_lt_of_le (by have := World.block_lt_of_cell? _ _ hw514_1; first | rwa [add_block] at this | exact this) GW517.out)) | (show (Addr.add _ _).block ≠ _; rw [add_block]; exact Nat.ne_of_lt (Nat.lt_of_lt_of_le (by have := World.block_lt_of_cell? _ _ hw514_1; first | rwa [add_block] at this | exact this) GW517.out)) | (dsimp only; exact Nat.ne_of_lt (Nat.lt_of_lt_of_le (by have := World.block_lt_of_cell? _ _ hw514_1; first | rwa [add_block] at this | exact this) GW517.out))) _).trans (hHeld.2.2.2.2.2.2.2.2.1)))))))))))), ((cell_far (p := ⟨gb517, _, none⟩) (by first | exact Nat.ne_of_lt (Nat.lt_of_lt_of_le (by have := World.block_lt_of_cell? _ _ hw514_2; first | rwa [add_block] at this | exact this) GW517.out) | (rw [add_block]; exact Nat.ne_of_lt (Nat.lt_of_lt_of_le (by have := World.block_lt_of_cell? _ _ hw514_2; first | rwa [add_block] at this | exact this) GW517.out)) | (show (Addr.add _ _).block ≠ _; rw [add_block]; exact Nat.ne_of_lt (Nat.lt_of_lt_of_le (by have := World.block_lt_of_cell? _ _ hw514_2; first | rwa [add_block] at this | exact this) GW517.out)) | (dsimp only; exact Nat.ne_of_lt (Nat.lt_of_lt_of_le (by have := World.block_lt_of_cell? _ _ hw514_2; first | rwa [add_block] at this | exact this) GW517.out))) _).trans (((cell_far (p := ⟨gb517, _, none⟩) (by first | exact Nat.ne_of_lt (Nat.lt_of_lt_of_le (by have := World.block_lt_of_cell? _ _ hw514_2; first | rwa [add_block] at this | exact this) GW517.out) | (rw [add_block]; exact Nat.ne_of_lt (Nat.lt_of_lt_of_le (by have := World.block_lt_of_cell? _ _ hw514_2; first | rwa [add_block] at this | exact this) GW517.out)) | (show (Addr.add _ _).block ≠ _; rw [add_block]; exact Nat.ne_of_lt (Nat.lt_of_lt_of_le (by have := World.block_lt_of_cell? _ _ hw514_2; first | rwa [add_block] at this | exact this) GW517.out)) | (dsimp only; exact Nat.ne_of_lt (Nat.lt_of_lt_of_le (by have := World.block_lt_of_cell? _ _ hw514_2; first | rwa [add_block] at this | exact this) GW517.out))) _).trans (((cell_far (p := ⟨gb517, _, none⟩) (by first | exact Nat.ne_of_lt (Nat.lt_of_lt_of_le (by have := World.block_lt_of_cell? _ _ hw514_2; first | rwa [add_block] at this | exact this) GW517.out) | (rw [add_block]; exact Nat.ne_of_lt (Nat.lt_of_lt_of_le (by have := World.block_lt_of_cell? _ _ hw514_2; first | rwa [add_block] at this | exact this) GW517.out)) | (show (Addr.add _ _).block ≠ _; rw [add_block]; exact Nat.ne_of_lt (Nat.lt_of_lt_of_le (by have := World.block_lt_of_cell? _ _ hw514_2; first | rwa [add_block] at this | exact this) GW517.out)) | (dsimp only; exact Nat.ne_of_lt (Nat.lt_of_lt_of_le (by have := World.block_lt_of_cell? _ _ hw514_2; first | rwa [add_block] at this | exact this) GW517.out))) _).trans (((cell_far (p := ⟨gb517, _, none⟩) (by first | exact Nat.ne_of_lt (Nat.lt_of_lt_of_le (by have := World.block_lt_of_cell? _ _ hw514_2; first | rwa [add_block] at this | exact this) GW517.out) | (rw [add_block]; exact Nat.ne_of_lt (Nat.lt_of_lt_of_le (by have := World.block_lt_of_cell? _ _ hw514_2; first | rwa [add_block] at this | exact this) GW517.out)) | (show (Addr.add _ _).block ≠ _; rw [add_block]; exact Nat.ne_of_lt (Nat.lt_of_lt_of_le (by have := World.block_lt_of_cell? _ _ hw514_2; first | rwa [add_block] at this | exact this) GW517.out)) | (dsimp only; exact Nat.ne_of_lt (Nat.lt_of_lt_of_le (by have := World.block_lt_of_cell? _ _ hw514_2; first | rwa [add_block] at this | exact this) GW517.out))) _).trans (((cell_far (p := ⟨gb517, _, none⟩) (by first | exact Nat.ne_of_lt (Nat.lt_of_lt_of_le (by have := World.block_lt_of_cell? _ _ hw514_2; first | rwa [add_block] at this | exact this) GW517.out) | (rw [add_block]; exact Nat.ne_of_lt (Nat.lt_of_lt_of_le (by have := World.block_lt_of_cell? _ _ hw514_2; first | rwa [add_block] at this | exact this) GW517.out)) | (show (Addr.add _ _).block ≠ _; rw [add_block]; exact Nat.ne_of_lt (Nat.lt_of_lt_of_le (by have := World.block_lt_of_cell? _ _ hw514_2; first | rwa [add_block] at this | exact this) GW517.out)) | (dsimp only; exact Nat.ne_of_lt (Nat.lt_of_lt_of_le (by have := World.block_lt_of_cell? _ _ hw514_2; first | rwa [add_block] at this | exact this) GW517.out))) _).trans (((cell_far (p := ⟨gb517, _, none⟩) (by first | exact Nat.ne_of_lt (Nat.lt_of_lt_of_le (by have := World.block_lt_of_cell? _ _ hw514_2; first | rwa [add_block] at this | exact this) GW517.out) | (rw [add_block]; exact Nat.ne_of_lt (Nat.lt_of_lt_of_le (by have := World.block_lt_of_cell? _ _ hw514_2; first | rwa [add_block] at this | exact this) GW517.out)) | (show (Addr.add _ _).block ≠ _; rw [add_block]; exact Nat.ne_of_lt (Nat.lt_of_lt_of_le (by have := World.block_lt_of_cell? _ _ hw514_2; first | rwa [add_block] at this | exact this) GW517.out)) | (dsimp only; exact Nat.ne_of_lt (Nat.lt_of_lt_of_le (by have := World.block_lt_of_cell? _ _ hw514_2; first | rwa [add_block] at this | exact this) GW517.out))) _).trans (hHeld.2.2.2.2.2.2.2.2.2.1)))))))))))), ((cell_far (p := ⟨gb517, _, none⟩) (by first | exact Nat.ne_of_lt (Nat.lt_of_lt_of_le (by have := World.block_lt_of_cell? _ _ hw514_3; first | rwa [add_block] at this | exact this) GW517.out) | (rw [add_block]; exact Nat.ne_of_lt (Nat.lt_of_lt_of_le (by have := World.block_lt_of_cell? _ _ hw514_3; first | rwa [add_block] at this | exact this) GW517.out)) | (show (Addr.add _ _).block ≠ _; rw [add_block]; exact Nat.ne_of_lt (Nat.lt_of_lt_of_le (by have := World.block_lt_of_cell? _ _ hw514_3; first | rwa [add_block] at this | exact this) GW517.out)) | (dsimp only; exact Nat.ne_of_lt (Nat.lt_of_lt_of_le (by have := World.block_lt_of_cell? _ _ hw514_3; first | rwa [add_block] at this | exact this) GW517.out))) _).trans (((cell_far (p := ⟨gb517, _, none⟩) (by first | exact Nat.ne_of_lt (Nat.lt_of_lt_of_le (by have := World.block_lt_of_cell? _ _ hw514_3; first | rwa [add_block] at this | exact this) GW517.out) | (rw [add_block]; exact Nat.ne_of_lt (Nat.lt_of_lt_of_le (by have := World.block_lt_of_cell? _ _ hw514_3; first | rwa [add_block] at this | exact this) GW517.out)) | (show (Addr.add _ _).block ≠ _; rw [add_block]; exact Nat.ne_of_lt (Nat.lt_of_lt_of_le (by have := World.block_lt_of_cell? _ _ hw514_3; first | rwa [add_block] at this | exact this) GW517.out)) | (dsimp only; exact Nat.ne_of_lt (Nat.lt_of_lt_of_le (by have := World.block_lt_of_cell? _ _ hw514_3; first | rwa [add_block] at this | exact this) GW517.out))) _).trans (((cell_far (p := ⟨gb517, _, none⟩) (by first | exact Nat.ne_of_lt (Nat.lt_of_lt_of_le (by have := World.block_lt_of_cell? _ _ hw514_3; first | rwa [add_block] at this | exact this) GW517.out) | (rw [add_block]; exact Nat.ne_of_lt (Nat.lt_of_lt_of_le (by have := World.block_lt_of_cell? _ _ hw514_3; first | rwa [add_block] at this | exact this) GW517.out)) | (show (Addr.add _ _).block ≠ _; rw [add_block]; exact Nat.ne_of_lt (Nat.lt_of_lt_of_le (by have := World.block_lt_of_cell? _ _ hw514_3; first | rwa [add_block] at this | exact this) GW517.out)) | (dsimp only; exact Nat.ne_of_lt (Nat.lt_of_lt_of_le (by have := World.block_lt_of_cell? _ _ hw514_3; first | rwa [add_block] at this | exact this) GW517.out))) _).trans (((cell_far (p := ⟨gb517, _, none⟩) (by first | exact Nat.ne_of_lt (Nat.lt_of_lt_of_le (by have := World.block_lt_of_cell? _ _ hw514_3; first | rwa [add_block] at this | exact this) GW517.out) | (rw [add_block]; exact Nat.ne_of_lt (Nat.lt_of_lt_of_le (by have := World.block_lt_of_cell? _ _ hw514_3; first | rwa [add_block] at this | exact this) GW517.out)) | (show (Addr.add _ _).block ≠ _; rw [add_block]; exact Nat.ne_of_lt (Nat.lt_of_lt_of_le (by have := World.block_lt_of_cell? _ _ hw514_3; first | rwa [add_block] at this | exact this) GW517.out)) | (dsimp only; exact Nat.ne_of_lt (Nat.lt_of_lt_of_le (by have := World.block_lt_of_cell? _ _ hw514_3; first | rwa [add_block] at this | exact this) GW517.out))) _).trans (((cell_far (p := ⟨gb517, _, none⟩) (by first | exact Nat.ne_of_lt (Nat.lt_of_lt_of_le (by have := World.block_lt_of_cell? _ _ hw514_3; first | rwa [add_block] at this | exact this) GW517.out) | (rw [add_block]; exact Nat.ne_of_lt (Nat.lt_of_lt_of_le (by have := World.block_lt_of_cell? _ _ hw514_3; first | rwa [add_block] at this | exact this) GW517.out)) | (show (Addr.add _ _).block ≠ _; rw [add_block]; exact Nat.ne_of_lt (Nat.lt_of_lt_of_le (by have := World.block_lt_of_cell? _ _ hw514_3; first | rwa [add_block] at this | exact this) GW517.out)) | (dsimp only; exact Nat.ne_of_lt (Nat.lt_of_lt_of_le (by have := World.block_lt_of_cell? _ _ hw514_3; first | rwa [add_block] at this | exact this) GW517.out))) _).trans (((cell_far (p := ⟨gb517, _, none⟩) (by first | exact Nat.ne_of_lt (Nat.lt_of_lt_of_le (by have := World.block_lt_of_cell? _ _ hw514_3; first | rwa [add_block] at this | exact this) GW517.out) | (rw [add_block]; exact Nat.ne_of_lt (Nat.lt_of_lt_of_le (by have := World.block_lt_of_cell? _ _ hw514_3; first | rwa [add_block] at this | exact this) GW517.out)) | (show (Addr.add _ _).block ≠ _; rw [add_block]; exact Nat.ne_of_lt (Nat.lt_of_lt_of_le (by have := World.block_lt_of_cell? _ _ hw514_3; first | rwa [add_block] at this | exact this) GW517.out)) | (dsimp only; exact Nat.ne_of_lt (Nat.lt_of_lt_of_le (by have := World.block_lt_of_cell? _ _ hw514_3; first | rwa [add_block] at this | exact this) GW517.out))) _).trans (hHeld.2.2.2.2.2.2.2.2.2.2.1)))))))))))), ((cell_far (p := ⟨gb517, _, none⟩) (by first | exact Nat.ne_of_lt (Nat.lt_of_lt_of_le (by have := World.block_lt_of_cell? _ _ hw514_4; first | rwa [add_block] at this | exact this) GW517.out) | (rw [add_block]; exact Nat.ne_of_lt (Nat.lt_of_lt_of_le (by have := World.block_lt_of_cell? _ _ hw514_4; first | rwa [add_block] at this | exact this) GW517.out)) | (show (Addr.add _ _).block ≠ _; rw [add_block]; exact Nat.ne_of_lt (Nat.lt_of_lt_of_le (by have := World.block_lt_of_cell? _ _ hw514_4; first | rwa [add_block] at this | exact this) GW517.out)) | (dsimp only; exact Nat.ne_of_lt (Nat.lt_of_lt_of_le (by have := World.block_lt_of_cell? _ _ hw514_4; first | rwa [add_block] at this | exact this) GW517.out))) _).trans (((cell_far (p := ⟨gb517, _, none⟩) (by first | exact Nat.ne_of_lt (Nat.lt_of_lt_of_le (by have := World.block_lt_of_cell? _ _ hw514_4; first | rwa [add_block] at this | exact this) GW517.out) | (rw [add_block]; exact Nat.ne_of_lt (Nat.lt_of_lt_of_le (by have := World.block_lt_of_cell? _ _ hw514_4; first | rwa [add_block] at this | exact this) GW517.out)) | (show (Addr.add _ _).block ≠ _; rw [add_block]; exact Nat.ne_of_lt (Nat.lt_of_lt_of_le (by have := World.block_lt_of_cell? _ _ hw514_4; first | rwa [add_block] at this | exact this) GW517.out)) | (dsimp only; exact Nat.ne_of_lt (Nat.lt_of_lt_of_le (by have := World.block_lt_of_cell? _ _ hw514_4; first | rwa [add_block] at this | exact this) GW517.out))) _).trans (((cell_far (p := ⟨gb517, _, none⟩) (by first | exact Nat.ne_of_lt (Nat.lt_of_lt_of_le (by have := World.block_lt_of_cell? _ _ hw514_4; first | rwa [add_block] at this | exact this) GW517.out) | (rw [add_block]; exact Nat.ne_of_lt (Nat.lt_of_lt_of_le (by have := World.block_lt_of_cell? _ _ hw514_4; first | rwa [add_block] at this | exact this) GW517.out)) | (show (Addr.add _ _).block ≠ _; rw [add_block]; exact Nat.ne_of_lt (Nat.lt_of_lt_of_le (by have := World.block_lt_of_cell? _ _ hw514_4; first | rwa [add_block] at this | exact this) GW517.out)) | (dsimp only; exact Nat.ne_of_lt (Nat.lt_of_lt_of_le (by have := World.block_lt_of_cell? _ _ hw514_4; first | rwa [add_block] at this | exact this) GW517.out))) _).trans (((cell_far (p := ⟨gb517, _, none⟩) (by first | exact Nat.ne_of_lt (Nat.lt_of_lt_of_le (by have := World.block_lt_of_cell? _ _ hw514_4; first | rwa [add_block] at this | exact this) GW517.out) | (rw [add_block]; exact Nat.ne_of_lt (Nat.lt_of_lt_of_le (by have := World.block_lt_of_cell? _ _ hw514_4; first | rwa [add_block] at this | exact this) GW517.out)) | (show (Addr.add _ _).block ≠ _; rw [add_block]; exact Nat.ne_of_lt (Nat.lt_of_lt_of_le (by have := World.block_lt_of_cell? _ _ hw514_4; first | rwa [add_block] at this | exact this) GW517.out)) | (dsimp only; exact Nat.ne_of_lt (Nat.lt_of_lt_of_le (by have := World.block_lt_of_cell? _ _ hw514_4; first | rwa [add_block] at this | exact this) GW517.out))) _).trans (((cell_far (p := ⟨gb517, _, none⟩) (by first | exact Nat.ne_of_lt (Nat.lt_of_lt_of_le (by have := World.block_lt_of_cell? _ _ hw514_4; first | rwa [add_block] at this | exact this) GW517.out) | (rw [add_block]; exact Nat.ne_of_lt (Nat.lt_of_lt_of_le (by have := World.block_lt_of_cell? _ _ hw514_4; first | rwa [add_block] at this | exact this) GW517.out)) | (show (Addr.add _ _).block ≠ _; rw [add_block]; exact Nat.ne_of_lt (Nat.lt_of_lt_of_le (by have := World.block_lt_of_cell? _ _ hw514_4; first | rwa [add_block] at this | exact this) GW517.out)) | (dsimp only; exact Nat.ne_of_lt (Nat.lt_of_lt_of_le (by have := World.block_lt_of_cell? _ _ hw514_4; first | rwa [add_block] at this | exact this) GW517.out))) _).trans (((cell_far (p := ⟨gb517, _, none⟩) (by first | exact Nat.ne_of_lt (Nat.lt_of_lt_of_le (by have := World.block_lt_of_cell? _ _ hw514_4; first | rwa [add_block] at this | exact this) GW517.out) | (rw [add_block]; exact Nat.ne_of_lt (Nat.lt_of_lt_of_le (by have := World.block_lt_of_cell? _ _ hw514_4; first | rwa [add_block] at this | exact this) GW517.out)) | (show (Addr.add _ _).block ≠ _; rw [add_block]; exact Nat.ne_of_lt (Nat.lt_of_lt_of_le (by have := World.block_lt_of_cell? _ _ hw514_4; first | rwa [add_block] at this | exact this) GW517.out)) | (dsimp only; exact Nat.ne_of_lt (Nat.lt_of_lt_of_le (by have := World.block_lt_of_cell? _ _ hw514_4; first | rwa [add_block] at this | exact this) GW517.out))) _).trans (hHeld.2.2.2.2.2.2.2.2.2.2.2.1)))))))))))), ((cell_far (p := ⟨gb517, _, none⟩) (by first | exact Nat.ne_of_lt (Nat.lt_of_lt_of_le (by have := World.block_lt_of_cell? _ _ hw514_5; first | rwa [add_block] at this | exact this) GW517.out) | (rw [add_block]; exact Nat.ne_of_lt (Nat.lt_of_lt_of_le (by have := World.block_lt_of_cell? _ _ hw514_5; first | rwa [add_block] at this | exact this) GW517.out)) | (show (Addr.add _ _).block ≠ _; rw [add_block]; exact Nat.ne_of_lt (Nat.lt_of_lt_of_le (by have := World.block_lt_of_cell? _ _ hw514_5; first | rwa [add_block] at this | exact this) GW517.out)) | (dsimp only; exact Nat.ne_of_lt (Nat.lt_of_lt_of_le (by have := World.block_lt_of_cell? _ _ hw514_5; first | rwa [add_block] at this | exact this) GW517.out))) _).trans (((cell_far (p := ⟨gb517, _, none⟩) (by first | exact Nat.ne_of_lt (Nat.lt_of_lt_of_le (by have := World.block_lt_of_cell? _ _ hw514_5; first | rwa [add_block] at this | exact this) GW517.out) | (rw [add_block]; exact Nat.ne_of_lt (Nat.lt_of_lt_of_le (by have := World.block_lt_of_cell? _ _ hw514_5; first | rwa [add_block] at this | exact this) GW517.out)) | (show (Addr.add _ _).block ≠ _; rw [add_block]; exact Nat.ne_of_lt (Nat.lt_of_lt_of_le (by have := World.block_lt_of_cell? _ _ hw514_5; first | rwa [add_block] at this | exact this) GW517.out)) | (dsimp only; exact Nat.ne_of_lt (Nat.lt_of_lt_of_le (by have := World.block_lt_of_cell? _ _ hw514_5; first | rwa [add_block] at this | exact this) GW517.out))) _).trans (((cell_far (p := ⟨gb517, _, none⟩) (by first | exact Nat.ne_of_lt (Nat.lt_of_lt_of_le (by have := World.block_lt_of_cell? _ _ hw514_5; first | rwa [add_block] at this | exact this) GW517.out) | (rw [add_block]; exact Nat.ne_of_lt (Nat.lt_of_lt_of_le (by have := World.block_lt_of_cell? _ _ hw514_5; first | rwa [add_block] at this | exact this) GW517.out)) | (show (Addr.add _ _).block ≠ _; rw [add_block]; exact Nat.ne_of_lt (Nat.lt_of_lt_of_le (by have := World.block_lt_of_cell? _ _ hw514_5; first | rwa [add_block] at this | exact this) GW517.out)) | (dsimp only; exact Nat.ne_of_lt (Nat.lt_of_lt_of_le (by have := World.block_lt_of_cell? _ _ hw514_5; first | rwa [add_block] at this | exact this) GW517.out))) _).trans (((cell_far (p := ⟨gb517, _, none⟩) (by first | exact Nat.ne_of_lt (Nat.lt_of_lt_of_le (by have := World.block_lt_of_cell? _ _ hw514_5; first | rwa [add_block] at this | exact this) GW517.out) | (rw [add_block]; exact Nat.ne_of_lt (Nat.lt_of_lt_of_le (by have := World.block_lt_of_cell? _ _ hw514_5; first | rwa [add_block] at this | exact this) GW517.out)) | (show (Addr.add _ _).block ≠ _; rw [add_block]; exact Nat.ne_of_lt (Nat.lt_of_lt_of_le (by have := World.block_lt_of_cell? _ _ hw514_5; first | rwa [add_block] at this | exact this) GW517.out)) | (dsimp only; exact Nat.ne_of_lt (Nat.lt_of_lt_of_le (by have := World.block_lt_of_cell? _ _ hw514_5; first | rwa [add_block] at this | exact this) GW517.out))) _).trans (((cell_far (p := ⟨gb517, _, none⟩) (by first | exact Nat.ne_of_lt (Nat.lt_of_lt_of_le (by have := World.block_lt_of_cell? _ _ hw514_5; first | rwa [add_block] at this | exact this) GW517.out) | (rw [add_block]; exact Nat.ne_of_lt (Nat.lt_of_lt_of_le (by have := World.block_lt_of_cell? _ _ hw514_5; first | rwa [add_block] at this | exact this) GW517.out)) | (show (Addr.add _ _).block ≠ _; rw [add_block]; exact Nat.ne_of_lt (Nat.lt_of_lt_of_le (by have := World.block_lt_of_cell? _ _ hw514_5; first | rwa [add_block] at this | exact this) GW517.out)) | (dsimp only; exact Nat.ne_of_lt (Nat.lt_of_lt_of_le (by have := World.block_lt_of_cell? _ _ hw514_5; first | rwa [add_block] at this | exact this) GW517.out))) _).trans (((cell_far (p := ⟨gb517, _, none⟩) (by first | exact Nat.ne_of_lt (Nat.lt_of_lt_of_le (by have := World.block_lt_of_cell? _ _ hw514_5; first | rwa [add_block] at this | exact this) GW517.out) | (rw [add_block]; exact Nat.ne_of_lt (Nat.lt_of_lt_of_le (by have := World.block_lt_of_cell? _ _ hw514_5; first | rwa [add_block] at this | exact this) GW517.out)) | (show (Addr.add _ _).block ≠ _; rw [add_block]; exact Nat.ne_of_lt (Nat.lt_of_lt_of_le (by have := World.block_lt_of_cell? _ _ hw514_5; first | rwa [add_block] at this | exact this) GW517.out)) | (dsimp only; exact Nat.ne_of_lt (Nat.lt_of_lt_of_le (by have := World.block_lt_of_cell? _ _ hw514_5; first | rwa [add_block] at this | exact this) GW517.out))) _).trans (hHeld.2.2.2.2.2.2.2.2.2.2.2.2.1)))))))))))), ((cell_far (p := ⟨gb517, _, none⟩) (by first | exact Kd.own_blk (Kd.S_away HO_513000.out (fun _ hk => hk.2.2)) | (rw [add_block]; exact Kd.own_blk (Kd.S_away HO_513000.out (fun _ hk => hk.2.2))) | (show (Addr.add _ _).block ≠ _; rw [add_block]; exact Kd.own_blk (Kd.S_away HO_513000.out (fun _ hk => hk.2.2))) | (dsimp only; exact Kd.own_blk (Kd.S_away HO_513000.out (fun _ hk => hk.2.2)))) _).trans (((cell_far (p := ⟨gb517, _, none⟩) (by first | exact Kd.own_blk (Kd.S_away HO_513000.out (fun _ hk => hk.2.2)) | (rw [add_block]; exact Kd.own_blk (Kd.S_away HO_513000.out (fun _ hk => hk.2.2))) | (show (Addr.add _ _).block ≠ _; rw [add_block]; exact Kd.own_blk (Kd.S_away HO_513000.out (fun _ hk => hk.2.2))) | (dsimp only; exact Kd.own_blk (Kd.S_away HO_513000.out (fun _ hk => hk.2.2)))) _).trans (((cell_far (p := ⟨gb517, _, none⟩) (by first | exact Kd.own_blk (Kd.S_away HO_513000.out (fun _ hk => hk.2.2)) | (rw [add_block]; exact Kd.own_blk (Kd.S_away HO_513000.out (fun _ hk => hk.2.2))) | (show (Addr.add _ _).block ≠ _; rw [add_block]; exact Kd.own_blk (Kd.S_away HO_513000.out (fun _ hk => hk.2.2))) | (dsimp only; exact Kd.own_blk (Kd.S_away HO_513000.out (fun _ hk => hk.2.2)))) _).trans (((cell_far (p := ⟨gb517, _, none⟩) (by first | exact Kd.own_blk (Kd.S_away HO_513000.out (fun _ hk => hk.2.2)) | (rw [add_block]; exact Kd.own_blk (Kd.S_away HO_513000.out (fun _ hk => hk.2.2))) | (show (Addr.add _ _).block ≠ _; rw [add_block]; exact Kd.own_blk (Kd.S_away HO_513000.out (fun _ hk => hk.2.2))) | (dsimp only; exact Kd.own_blk (Kd.S_away HO_513000.out (fun _ hk => hk.2.2)))) _).trans (((cell_far (p := ⟨gb517, _, none⟩) (by first | exact Kd.own_blk (Kd.S_away HO_513000.out (fun _ hk => hk.2.2)) | (rw [add_block]; exact Kd.own_blk (Kd.S_away HO_513000.out (fun _ hk => hk.2.2))) | (show (Addr.add _ _).block ≠ _; rw [add_block]; exact Kd.own_blk (Kd.S_away HO_513000.out (fun _ hk => hk.2.2))) | (dsimp only; exact Kd.own_blk (Kd.S_away HO_513000.out (fun _ hk => hk.2.2)))) _).trans (((cell_far (p := ⟨gb517, _, none⟩) (by first | exact Kd.own_blk (Kd.S_away HO_513000.out (fun _ hk => hk.2.2)) | (rw [add_block]; exact Kd.own_blk (Kd.S_away HO_513000.out (fun _ hk => hk.2.2))) | (show (Addr.add _ _).block ≠ _; rw [add_block]; exact Kd.own_blk (Kd.S_away HO_513000.out (fun _ hk => hk.2.2))) | (dsimp only; exact Kd.own_blk (Kd.S_away HO_513000.out (fun _ hk => hk.2.2)))) _).trans (hHeld.2.2.2.2.2.2.2.2.2.2.2.2.2.1)))))))))))), ((cell_far (p := ⟨gb517, _, none⟩) (by first | exact Kd.own_blk (Kd.S_away HO_513000.out (fun _ hk => hk.2.2)) | (rw [add_block]; exact Kd.own_blk (Kd.S_away HO_513000.out (fun _ hk => hk.2.2))) | (show (Addr.add _ _).block ≠ _; rw [add_block]; exact Kd.own_blk (Kd.S_away HO_513000.out (fun _ hk => hk.2.2))) | (dsimp only; exact Kd.own_blk (Kd.S_away HO_513000.out (fun _ hk => hk.2.2)))) _).trans (((cell_far (p := ⟨gb517, _, none⟩) (by first | exact Kd.own_blk (Kd.S_away HO_513000.out (fun _ hk => hk.2.2)) | (rw [add_block]; exact Kd.own_blk (Kd.S_away HO_513000.out (fun _ hk => hk.2.2))) | (show (Addr.add _ _).block ≠ _; rw [add_block]; exact Kd.own_blk (Kd.S_away HO_513000.out (fun _ hk => hk.2.2))) | (dsimp only; exact Kd.own_blk (Kd.S_away HO_513000.out (fun _ hk => hk.2.2)))) _).trans (((cell_far (p := ⟨gb517, _, none⟩) (by first | exact Kd.own_blk (Kd.S_away HO_513000.out (fun _ hk => hk.2.2)) | (rw [add_block]; exact Kd.own_blk (Kd.S_away HO_513000.out (fun _ hk => hk.2.2))) | (show (Addr.add _ _).block ≠ _; rw [add_block]; exact Kd.own_blk (Kd.S_away HO_513000.out (fun _ hk => hk.2.2))) | (dsimp only; exact Kd.own_blk (Kd.S_away HO_513000.out (fun _ hk => hk.2.2)))) _).trans (((cell_far (p := ⟨gb517, _, none⟩) (by first | exact Kd.own_blk (Kd.S_away HO_513000.out (fun _ hk => hk.2.2)) | (rw [add_block]; exact Kd.own_blk (Kd.S_away HO_513000.out (fun _ hk => hk.2.2))) | (show (Addr.add _ _).block ≠ _; rw [add_block]; exact Kd.own_blk (Kd.S_away HO_513000.out (fun _ hk => hk.2.2))) | (dsimp only; exact Kd.own_blk (Kd.S_away HO_513000.out (fun _ hk => hk.2.2)))) _).trans (((cell_far (p := ⟨gb517, _, none⟩) (by first | exact Kd.own_blk (Kd.S_away HO_513000.out (fun _ hk => hk.2.2)) | (rw [add_block]; exact Kd.own_blk (Kd.S_away HO_513000.out (fun _ hk => hk.2.2))) | (show (Addr.add _ _).block ≠ _; rw [add_block]; exact Kd.own_blk (Kd.S_away HO_513000.out (fun _ hk => hk.2.2))) | (dsimp only; exact Kd.own_blk (Kd.S_away HO_513000.out (fun _ hk => hk.2.2)))) _).trans (((cell_far (p := ⟨gb517, _, none⟩) (by first | exact Kd.own_blk (Kd.S_away HO_513000.out (fun _ hk => hk.2.2)) | (rw [add_block]; exact Kd.own_blk (Kd.S_away HO_513000.out (fun _ hk => hk.2.2))) | (show (Addr.add _ _).block ≠ _; rw [add_block]; exact Kd.own_blk (Kd.S_away HO_513000.out (fun _ hk => hk.2.2))) | (dsimp only; exact Kd.own_blk (Kd.S_away HO_513000.out (fun _ hk => hk.2.2)))) _).trans (hHeld.2.2.2.2.2.2.2.2.2.2.2.2.2.2.1)))))))))))), ((cell_far (p := ⟨gb517, _, none⟩) (by first | exact Kd.own_blk (Kd.S_away HO_513000.out (fun _ hk => hk.2.2)) | (rw [add_block]; exact Kd.own_blk (Kd.S_away HO_513000.out (fun _ hk => hk.2.2))) | (show (Addr.add _ _).block ≠ _; rw [add_block]; exact Kd.own_blk (Kd.S_away HO_513000.out (fun _ hk => hk.2.2))) | (dsimp only; exact Kd.own_blk (Kd.S_away HO_513000.out (fun _ hk => hk.2.2)))) _).trans (((cell_far (p := ⟨gb517, _, none⟩) (by first | exact Kd.own_blk (Kd.S_away HO_513000.out (fun _ hk => hk.2.2)) | (rw [add_block]; exact Kd.own_blk (Kd.S_away HO_513000.out (fun _ hk => hk.2.2))) | (show (Addr.add _ _).block ≠ _; rw [add_block]; exact Kd.own_blk (Kd.S_away HO_513000.out (fun _ hk => hk.2.2))) | (dsimp only; exact Kd.own_blk (Kd.S_away HO_513000.out (fun _ hk => hk.2.2)))) _).trans (((cell_far (p := ⟨gb517, _, none⟩) (by first | exact Kd.own_blk (Kd.S_away HO_513000.out (fun _ hk => hk.2.2)) | (rw [add_block]; exact Kd.own_blk (Kd.S_away HO_513000.out (fun _ hk => hk.2.2))) | (show (Addr.add _ _).block ≠ _; rw [add_block]; exact Kd.own_blk (Kd.S_away HO_513000.out (fun _ hk => hk.2.2))) | (dsimp only; exact Kd.own_blk (Kd.S_away HO_513000.out (fun _ hk => hk.2.2)))) _).trans (((cell_far (p := ⟨gb517, _, none⟩) (by first | exact Kd.own_blk (Kd.S_away HO_513000.out (fun _ hk => hk.2.2)) | (rw [add_block]; exact Kd.own_blk (Kd.S_away HO_513000.out (fun _ hk => hk.2.2))) | (show (Addr.add _ _).block ≠ _; rw [add_block]; exact Kd.own_blk (Kd.S_away HO_513000.out (fun _ hk => hk.2.2))) | (dsimp only; exact Kd.own_blk (Kd.S_away HO_513000.out (fun _ hk => hk.2.2)))) _).trans (((cell_far (p := ⟨gb517, _, none⟩) (by first | exact Kd.own_blk (Kd.S_away HO_513000.out (fun _ hk => hk.2.2)) | (rw [add_block]; exact Kd.own_blk (Kd.S_away HO_513000.out (fun _ hk => hk.2.2))) | (show (Addr.add _ _).block ≠ _; rw [add_block]; exact Kd.own_blk (Kd.S_away HO_513000.out (fun _ hk => hk.2.2))) | (dsimp only; exact Kd.own_blk (Kd.S_away HO_513000.out (fun _ hk => hk.2.2)))) _).trans (((cell_far (p := ⟨gb517, _, none⟩) (by first | exact Kd.own_blk (Kd.S_away HO_513000.out (fun _ hk => hk.2.2)) | (rw [add_block]; exact Kd.own_blk (Kd.S_away HO_513000.out (fun _ hk => hk.2.2))) | (show (Addr.add _ _).block ≠ _; rw [add_block]; exact Kd.own_blk (Kd.S_away HO_513000.out (fun _ hk => hk.2.2))) | (dsimp only; exact Kd.own_blk (Kd.S_away HO_513000.out (fun _ hk => hk.2.2)))) _).trans (hHeld.2.2.2.2.2.2.2.2.2.2.2.2.2.2.2.1)))))))))))), ((cell_far (p := ⟨gb517, _, none⟩) (by first | exact Kd.own_blk (Kd.S_away HO_513000.out (fun _ hk => hk.2.2)) | (rw [add_block]; exact Kd.own_blk (Kd.S_away HO_513000.out (fun _ hk => hk.2.2))) | (show (Addr.add _ _).block ≠ _; rw [add_block]; exact Kd.own_blk (Kd.S_away HO_513000.out (fun _ hk => hk.2.2))) | (dsimp only; exact Kd.own_blk (Kd.S_away HO_513000.out (fun _ hk => hk.2.2)))) _).trans (((cell_far (p := ⟨gb517, _, none⟩) (by first | exact Kd.own_blk (Kd.S_away HO_513000.out (fun _ hk => hk.2.2)) | (rw [add_block]; exact Kd.own_blk (Kd.S_away HO_513000.out (fun _ hk => hk.2.2))) | (show (Addr.add _ _).block ≠ _; rw [add_block]; exact Kd.own_blk (Kd.S_away HO_513000.out (fun _ hk => hk.2.2))) | (dsimp only; exact Kd.own_blk (Kd.S_away HO_513000.out (fun _ hk => hk.2.2)))) _).trans (((cell_far (p := ⟨gb517, _, none⟩) (by first | exact Kd.own_blk (Kd.S_away HO_513000.out (fun _ hk => hk.2.2)) | (rw [add_block]; exact Kd.own_blk (Kd.S_away HO_513000.out (fun _ hk => hk.2.2))) | (show (Addr.add _ _).block ≠ _; rw [add_block]; exact Kd.own_blk (Kd.S_away HO_513000.out (fun _ hk => hk.2.2))) | (dsimp only; exact Kd.own_blk (Kd.S_away HO_513000.out (fun _ hk => hk.2.2)))) _).trans (((cell_far (p := ⟨gb517, _, none⟩) (by first | exact Kd.own_blk (Kd.S_away HO_513000.out (fun _ hk => hk.2.2)) | (rw [add_block]; exact Kd.own_blk (Kd.S_away HO_513000.out (fun _ hk => hk.2.2))) | (show (Addr.add _ _).block ≠ _; rw [add_block]; exact Kd.own_blk (Kd.S_away HO_513000.out (fun _ hk => hk.2.2))) | (dsimp only; exact Kd.own_blk (Kd.S_away HO_513000.out (fun _ hk => hk.2.2)))) _).trans (((cell_far (p := ⟨gb517, _, none⟩) (by first | exact Kd.own_blk (Kd.S_away HO_513000.out (fun _ hk => hk.2.2)) | (rw [add_block]; exact Kd.own_blk (Kd.S_away HO_513000.out (fun _ hk => hk.2.2))) | (show (Addr.add _ _).block ≠ _; rw [add_block]; exact Kd.own_blk (Kd.S_away HO_513000.out (fun _ hk => hk.2.2))) | (dsimp only; exact Kd.own_blk (Kd.S_away HO_513000.out (fun _ hk => hk.2.2)))) _).trans (((cell_far (p := ⟨gb517, _, none⟩) (by first | exact Kd.own_blk (Kd.S_away HO_513000.out (fun _ hk => hk.2.2)) | (rw [add_block]; exact Kd.own_blk (Kd.S_away HO_513000.out (fun _ hk => hk.2.2))) | (show (Addr.add _ _).block ≠ _; rw [add_block]; exact Kd.own_blk (Kd.S_away HO_513000.out (fun _ hk => hk.2.2))) | (dsimp only; exact Kd.own_blk (Kd.S_away HO_513000.out (fun _ hk => hk.2.2)))) _).trans (hHeld.2.2.2.2.2.2.2.2.2.2.2.2.2.2.2.2.1)))))))))))), ((cell_far (p := ⟨gb517, _, none⟩) (by first | exact Kd.own_blk (Kd.S_away HO_513000.out (fun _ hk => hk.2.2)) | (rw [add_block]; exact Kd.own_blk (Kd.S_away HO_513000.out (fun _ hk => hk.2.2))) | (show (Addr.add _ _).block ≠ _; rw [add_block]; exact Kd.own_blk (Kd.S_away HO_513000.out (fun _ hk => hk.2.2))) | (dsimp only; exact Kd.own_blk (Kd.S_away HO_513000.out (fun _ hk => hk.2.2)))) _).trans (((cell_far (p := ⟨gb517, _, none⟩) (by first | exact Kd.own_blk (Kd.S_away HO_513000.out (fun _ hk => hk.2.2)) | (rw [add_block]; exact Kd.own_blk (Kd.S_away HO_513000.out (fun _ hk => hk.2.2))) | (show (Addr.add _ _).block ≠ _; rw [add_block]; exact Kd.own_blk (Kd.S_away HO_513000.out (fun _ hk => hk.2.2))) | (dsimp only; exact Kd.own_blk (Kd.S_away HO_513000.out (fun _ hk => hk.2.2)))) _).trans (((cell_far (p := ⟨gb517, _, none⟩) (by first | exact Kd.own_blk (Kd.S_away HO_513000.out (fun _ hk => hk.2.2)) | (rw [add_block]; exact Kd.own_blk (Kd.S_away HO_513000.out (fun _ hk => hk.2.2))) | (show (Addr.add _ _).block ≠ _; rw [add_block]; exact Kd.own_blk (Kd.S_away HO_513000.out (fun _ hk => hk.2.2))) | (dsimp only; exact Kd.own_blk (Kd.S_away HO_513000.out (fun _ hk => hk.2.2)))) _).trans (((cell_far (p := ⟨gb517, _, none⟩) (by first | exact Kd.own_blk (Kd.S_away HO_513000.out (fun _ hk => hk.2.2)) | (rw [add_block]; exact Kd.own_blk (Kd.S_away HO_513000.out (fun _ hk => hk.2.2))) | (show (Addr.add _ _).block ≠ _; rw [add_block]; exact Kd.own_blk (Kd.S_away HO_513000.out (fun _ hk => hk.2.2))) | (dsimp only; exact Kd.own_blk (Kd.S_away HO_513000.out (fun _ hk => hk.2.2)))) _).trans (((cell_far (p := ⟨gb517, _, none⟩) (by first | exact Kd.own_blk (Kd.S_away HO_513000.out (fun _ hk => hk.2.2)) | (rw [add_block]; exact Kd.own_blk (Kd.S_away HO_513000.out (fun _ hk => hk.2.2))) | (show (Addr.add _ _).block ≠ _; rw [add_block]; exact Kd.own_blk (Kd.S_away HO_513000.out (fun _ hk => hk.2.2))) | (dsimp only; exact Kd.own_blk (Kd.S_away HO_513000.out (fun _ hk => hk.2.2)))) _).trans (((cell_far (p := ⟨gb517, _, none⟩) (by first | exact Kd.own_blk (Kd.S_away HO_513000.out (fun _ hk => hk.2.2)) | (rw [add_block]; exact Kd.own_blk (Kd.S_away HO_513000.out (fun _ hk => hk.2.2))) | (show (Addr.add _ _).block ≠ _; rw [add_block]; exact Kd.own_blk (Kd.S_away HO_513000.out (fun _ hk => hk.2.2))) | (dsimp only; exact Kd.own_blk (Kd.S_away HO_513000.out (fun _ hk => hk.2.2)))) _).trans (hHeld.2.2.2.2.2.2.2.2.2.2.2.2.2.2.2.2.2.1)))))))))))), ((cell_far (p := ⟨gb517, _, none⟩) (by first | exact Kd.own_blk (Kd.S_away HO_513000.out (fun _ hk => hk.2.2)) | (rw [add_block]; exact Kd.own_blk (Kd.S_away HO_513000.out (fun _ hk => hk.2.2))) | (show (Addr.add _ _).block ≠ _; rw [add_block]; exact Kd.own_blk (Kd.S_away HO_513000.out (fun _ hk => hk.2.2))) | (dsimp only; exact Kd.own_blk (Kd.S_away HO_513000.out (fun _ hk => hk.2.2)))) _).trans (((cell_far (p := ⟨gb517, _, none⟩) (by first | exact Kd.own_blk (Kd.S_away HO_513000.out (fun _ hk => hk.2.2)) | (rw [add_block]; exact Kd.own_blk (Kd.S_away HO_513000.out (fun _ hk => hk.2.2))) | (show (Addr.add _ _).block ≠ _; rw [add_block]; exact Kd.own_blk (Kd.S_away HO_513000.out (fun _ hk => hk.2.2))) | (dsimp only; exact Kd.own_blk (Kd.S_away HO_513000.out (fun _ hk => hk.2.2)))) _).trans (((cell_far (p := ⟨gb517, _, none⟩) (by first | exact Kd.own_blk (Kd.S_away HO_513000.out (fun _ hk => hk.2.2)) | (rw [add_block]; exact Kd.own_blk (Kd.S_away HO_513000.out (fun _ hk => hk.2.2))) | (show (Addr.add _ _).block ≠ _; rw [add_block]; exact Kd.own_blk (Kd.S_away HO_513000.out (fun _ hk => hk.2.2))) | (dsimp only; exact Kd.own_blk (Kd.S_away HO_513000.out (fun _ hk => hk.2.2)))) _).trans (((cell_far (p := ⟨gb517, _, none⟩) (by first | exact Kd.own_blk (Kd.S_away HO_513000.out (fun _ hk => hk.2.2)) | (rw [add_block]; exact Kd.own_blk (Kd.S_away HO_513000.out (fun _ hk => hk.2.2))) | (show (Addr.add _ _).block ≠ _; rw [add_block]; exact Kd.own_blk (Kd.S_away HO_513000.out (fun _ hk => hk.2.2))) | (dsimp only; exact Kd.own_blk (Kd.S_away HO_513000.out (fun _ hk => hk.2.2)))) _).trans (((cell_far (p := ⟨gb517, _, none⟩) (by first | exact Kd.own_blk (Kd.S_away HO_513000.out (fun _ hk => hk.2.2)) | (rw [add_block]; exact Kd.own_blk (Kd.S_away HO_513000.out (fun _ hk => hk.2.2))) | (show (Addr.add _ _).block ≠ _; rw [add_block]; exact Kd.own_blk (Kd.S_away HO_513000.out (fun _ hk => hk.2.2))) | (dsimp only; exact Kd.own_blk (Kd.S_away HO_513000.out (fun _ hk => hk.2.2)))) _).trans (((cell_far (p := ⟨gb517, _, none⟩) (by first | exact Kd.own_blk (Kd.S_away HO_513000.out (fun _ hk => hk.2.2)) | (rw [add_block]; exact Kd.own_blk (Kd.S_away HO_513000.out (fun _ hk => hk.2.2))) | (show (Addr.add _ _).block ≠ _; rw [add_block]; exact Kd.own_blk (Kd.S_away HO_513000.out (fun _ hk => hk.2.2))) | (dsimp only; exact Kd.own_blk (Kd.S_away HO_513000.out (fun _ hk => hk.2.2)))) _).trans (hHeld.2.2.2.2.2.2.2.2.2.2.2.2.2.2.2.2.2.2))))))))))))⟩ (fun hHeld => ?_)
                  clear hK K
                  refine done_ (done_of HT_.out (by kernel_rfl)) ?_
                  have hnb75 := NB516_494.out
                  have hnc75 := NB494_516.out
                  have hnb76 := NB516_512.out
                  have hnc76 := NB512_516.out
                  have hnb77 := NB516_517.out
                  have hnc77 := NB517_516.out
                  have hcz78_0 : w62.cell? ⟨gb516, 0, none⟩ = some (.int .i64 0) := (blk_cell BK516.out 0).trans rfl
                  have hcz78_1 : w62.cell? ⟨gb516, 1, none⟩ = some (.int .i64 0) := (blk_cell BK516.out 1).trans rfl
                  have hcz78_2 : w62.cell? ⟨gb516, 2, none⟩ = some (.slice none 0 0) := (blk_cell BK516.out 2).trans rfl
                  have hcz78_3 : w62.cell? ⟨gb516, 3, none⟩ = some (.string (⟨#[]⟩ : ByteArray)) := (blk_cell BK516.out 3).trans rfl
                  have hcz78_4 : w62.cell? ⟨gb516, 4, none⟩ = some (.int .i64 0) := (blk_cell BK516.out 4).trans rfl
                  have hcz78_5 : w62.cell? ⟨gb516, 5, none⟩ = some (.int .i64 0) := (blk_cell BK516.out 5).trans rfl
                  have hfz78_0 := blk_frozen BK516.out 0
                  have hfz78_1 := blk_frozen BK516.out 1
                  have hfz78_2 := blk_frozen BK516.out 2
                  have hfz78_3 := blk_frozen BK516.out 3
                  have hfz78_4 := blk_frozen BK516.out 4
                  have hfz78_5 := blk_frozen BK516.out 5
                  have hnb79 := NB517_494.out
                  have hnc79 := NB494_517.out
                  have hnb80 := NB517_512.out
                  have hnc80 := NB512_517.out
                  have hcz81_0 : w62.cell? ⟨gb517, 0, none⟩ = some (.int .i64 0) := (blk_cell BK517.out 0).trans rfl
                  have hcz81_1 : w62.cell? ⟨gb517, 1, none⟩ = some (.int .i64 0) := (blk_cell BK517.out 1).trans rfl
                  have hcz81_2 : w62.cell? ⟨gb517, 2, none⟩ = some (.slice none 0 0) := (blk_cell BK517.out 2).trans rfl
                  have hcz81_3 : w62.cell? ⟨gb517, 3, none⟩ = some (.string (⟨#[]⟩ : ByteArray)) := (blk_cell BK517.out 3).trans rfl
                  have hcz81_4 : w62.cell? ⟨gb517, 4, none⟩ = some (.int .i64 0) := (blk_cell BK517.out 4).trans rfl
                  have hcz81_5 : w62.cell? ⟨gb517, 5, none⟩ = some (.int .i64 0) := (blk_cell BK517.out 5).trans rfl
                  have hfz81_0 := blk_frozen BK517.out 0
                  have hfz81_1 := blk_frozen BK517.out 1
                  have hfz81_2 := blk_frozen BK517.out 2
                  have hfz81_3 := blk_frozen BK517.out 3
                  have hfz81_4 := blk_frozen BK517.out 4
                  have hfz81_5 := blk_frozen BK517.out 5
                  try go_wp2
                  go_roundg k2
                  case measure => have := HJ2.out; have := HK2.out; omega
                  case rel => exact ⟨(wrap64 (x10_2 + 1)), (by first | rfl | (simp; done) | (simp [*]; done)), H', ⟨by have := HJ2.out; have := HK2.out; omega⟩, ⟨by (with_reducible repeat (first | apply Kd.R_alloc | apply Kd.R_drewN | apply Kd.R_drew)); exact Kd.R_mono (Kd.R_far (p := ⟨gb517, 5, none⟩) (Kd.R_far (p := ⟨gb517, 4, none⟩) (Kd.R_far (p := ⟨gb517, 3, none⟩) (Kd.R_far (p := ⟨gb517, 2, none⟩) (Kd.R_far (p := ⟨gb517, 1, none⟩) (Kd.R_far (p := ⟨gb517, 0, none⟩) (Kd.R_far (p := ⟨gb516, 5, none⟩) (Kd.R_far (p := ⟨gb516, 4, none⟩) (Kd.R_far (p := ⟨gb516, 3, none⟩) (Kd.R_far (p := ⟨gb516, 2, none⟩) (Kd.R_far (p := ⟨gb516, 1, none⟩) (Kd.R_far (p := ⟨gb516, 0, none⟩) (Kd.R_types (Kd.R_types HO_5.out BK516.out (by decide)) BK517.out (by decide)) (fun _ hk => hk.1.2) (.int .i64 ((rd_T44 l0_0 (rd t499 x10_2)).f0))) (fun _ hk => hk.1.2) (.int .i64 ((rd_T44 l0_0 (rd t499 x10_2)).f1))) (fun _ hk => hk.1.2) (.slice A514_2 ((rd_T44 l0_0 (rd t499 x10_2)).f2).length c514_2)) (fun _ hk => hk.1.2) (.string ((rd_T44 l0_0 (rd t499 x10_2)).f3))) (fun _ hk => hk.1.2) (.int .i64 ((rd_T44 l0_0 (rd t499 x10_2)).f4))) (fun _ hk => hk.1.2) (.int .i64 ((rd_T44 l0_0 (rd t499 x10_2)).f5))) (fun _ hk => hk.2) (.int .i64 ((rd_T44 t503 x10_2).f0))) (fun _ hk => hk.2) (.int .i64 ((rd_T44 t503 x10_2).f1))) (fun _ hk => hk.2) (.slice A515_2 ((rd_T44 t503 x10_2).f2).length c515_2)) (fun _ hk => hk.2) (.string ((rd_T44 t503 x10_2).f3))) (fun _ hk => hk.2) (.int .i64 ((rd_T44 t503 x10_2).f4))) (fun _ hk => hk.2) (.int .i64 ((rd_T44 t503 x10_2).f5))) (fun _ hk => trivial)⟩, ⟨by (with_reducible repeat (first | apply Kd.S_alloc | apply Kd.S_drewN | apply Kd.S_drew)); exact Kd.S_mono (Kd.S_far (p := ⟨gb517, 5, none⟩) (Kd.S_far (p := ⟨gb517, 4, none⟩) (Kd.S_far (p := ⟨gb517, 3, none⟩) (Kd.S_far (p := ⟨gb517, 2, none⟩) (Kd.S_far (p := ⟨gb517, 1, none⟩) (Kd.S_far (p := ⟨gb517, 0, none⟩) (Kd.S_far (p := ⟨gb516, 5, none⟩) (Kd.S_far (p := ⟨gb516, 4, none⟩) (Kd.S_far (p := ⟨gb516, 3, none⟩) (Kd.S_far (p := ⟨gb516, 2, none⟩) (Kd.S_far (p := ⟨gb516, 1, none⟩) (Kd.S_far (p := ⟨gb516, 0, none⟩) (Kd.S_mono (Kd.S_mono HO_513000.out (fun k_ hk => (⟨hk, hk.2.1⟩ : _ ∧ k_ ≠ gb516))) (fun k_ hk => (⟨hk, hk.1.2.2⟩ : _ ∧ k_ ≠ gb517))) (fun _ hk => hk.1.2) (.int .i64 ((rd_T44 l0_0 (rd t499 x10_2)).f0))) (fun _ hk => hk.1.2) (.int .i64 ((rd_T44 l0_0 (rd t499 x10_2)).f1))) (fun _ hk => hk.1.2) (.slice A514_2 ((rd_T44 l0_0 (rd t499 x10_2)).f2).length c514_2)) (fun _ hk => hk.1.2) (.string ((rd_T44 l0_0 (rd t499 x10_2)).f3))) (fun _ hk => hk.1.2) (.int .i64 ((rd_T44 l0_0 (rd t499 x10_2)).f4))) (fun _ hk => hk.1.2) (.int .i64 ((rd_T44 l0_0 (rd t499 x10_2)).f5))) (fun _ hk => hk.2) (.int .i64 ((rd_T44 t503 x10_2).f0))) (fun _ hk => hk.2) (.int .i64 ((rd_T44 t503 x10_2).f1))) (fun _ hk => hk.2) (.slice A515_2 ((rd_T44 t503 x10_2).f2).length c515_2)) (fun _ hk => hk.2) (.string ((rd_T44 t503 x10_2).f3))) (fun _ hk => hk.2) (.int .i64 ((rd_T44 t503 x10_2).f4))) (fun _ hk => hk.2) (.int .i64 ((rd_T44 t503 x10_2).f5))) (fun _ hk => hk.1.1.1)⟩, ⟨by (with_reducible repeat (first | refine blk_drewN ?_ _ | refine blk_drew ?_ | refine blk_alloc ?_ _)); refine blk_far ?_ NB494_517.out _; (with_reducible repeat (first | refine blk_drewN ?_ _ | refine blk_drew ?_ | refine blk_alloc ?_ _)); refine blk_far ?_ NB494_517.out _; (with_reducible repeat (first | refine blk_drewN ?_ _ | refine blk_drew ?_ | refine blk_alloc ?_ _)); refine blk_far ?_ NB494_517.out _; (with_reducible repeat (first | refine blk_drewN ?_ _ | refine blk_drew ?_ | refine blk_alloc ?_ _)); refine blk_far ?_ NB494_517.out _; (with_reducible repeat (first | refine blk_drewN ?_ _ | refine blk_drew ?_ | refine blk_alloc ?_ _)); refine blk_far ?_ NB494_517.out _; (with_reducible repeat (first | refine blk_drewN ?_ _ | refine blk_drew ?_ | refine blk_alloc ?_ _)); refine blk_far ?_ NB494_517.out _; (with_reducible repeat (first | refine blk_drewN ?_ _ | refine blk_drew ?_ | refine blk_alloc ?_ _)); refine blk_far ?_ NB494_516.out _; (with_reducible repeat (first | refine blk_drewN ?_ _ | refine blk_drew ?_ | refine blk_alloc ?_ _)); refine blk_far ?_ NB494_516.out _; (with_reducible repeat (first | refine blk_drewN ?_ _ | refine blk_drew ?_ | refine blk_alloc ?_ _)); refine blk_far ?_ NB494_516.out _; (with_reducible repeat (first | refine blk_drewN ?_ _ | refine blk_drew ?_ | refine blk_alloc ?_ _)); refine blk_far ?_ NB494_516.out _; (with_reducible repeat (first | refine blk_drewN ?_ _ | refine blk_drew ?_ | refine blk_alloc ?_ _)); refine blk_far ?_ NB494_516.out _; (with_reducible repeat (first | refine blk_drewN ?_ _ | refine blk_drew ?_ | refine blk_alloc ?_ _)); refine blk_far ?_ NB494_516.out _; (with_reducible repeat (first | refine blk_drewN ?_ _ | refine blk_drew ?_ | refine blk_alloc ?_ _)); exact BK494.out⟩, ⟨by (with_reducible repeat (first | refine blk_drewN ?_ _ | refine blk_drew ?_ | refine blk_alloc ?_ _)); refine blk_far ?_ NB512_517.out _; (with_reducible repeat (first | refine blk_drewN ?_ _ | refine blk_drew ?_ | refine blk_alloc ?_ _)); refine blk_far ?_ NB512_517.out _; (with_reducible repeat (first | refine blk_drewN ?_ _ | refine blk_drew ?_ | refine blk_alloc ?_ _)); refine blk_far ?_ NB512_517.out _; (with_reducible repeat (first | refine blk_drewN ?_ _ | refine blk_drew ?_ | refine blk_alloc ?_ _)); refine blk_far ?_ NB512_517.out _; (with_reducible repeat (first | refine blk_drewN ?_ _ | refine blk_drew ?_ | refine blk_alloc ?_ _)); refine blk_far ?_ NB512_517.out _; (with_reducible repeat (first | refine blk_drewN ?_ _ | refine blk_drew ?_ | refine blk_alloc ?_ _)); refine blk_far ?_ NB512_517.out _; (with_reducible repeat (first | refine blk_drewN ?_ _ | refine blk_drew ?_ | refine blk_alloc ?_ _)); refine blk_far ?_ NB512_516.out _; (with_reducible repeat (first | refine blk_drewN ?_ _ | refine blk_drew ?_ | refine blk_alloc ?_ _)); refine blk_far ?_ NB512_516.out _; (with_reducible repeat (first | refine blk_drewN ?_ _ | refine blk_drew ?_ | refine blk_alloc ?_ _)); refine blk_far ?_ NB512_516.out _; (with_reducible repeat (first | refine blk_drewN ?_ _ | refine blk_drew ?_ | refine blk_alloc ?_ _)); refine blk_far ?_ NB512_516.out _; (with_reducible repeat (first | refine blk_drewN ?_ _ | refine blk_drew ?_ | refine blk_alloc ?_ _)); refine blk_far ?_ NB512_516.out _; (with_reducible repeat (first | refine blk_drewN ?_ _ | refine blk_drew ?_ | refine blk_alloc ?_ _)); refine blk_far ?_ NB512_516.out _; (with_reducible repeat (first | refine blk_drewN ?_ _ | refine blk_drew ?_ | refine blk_alloc ?_ _)); exact BK512.out⟩, ⟨by repeat (first | (with_reducible first | exact HB.out | apply below_alloc | apply pw_below_drewN | apply below_drew1 | refine below_set ?_ GE494.out | refine below_set ?_ GE512.out | refine below_set ?_ GE516.out | refine below_set ?_ GE517.out) | exact HB.out)⟩⟩
                 ·rw [if_neg c58] at H
                  exact absurd H (by simp)
                ·rw [if_neg c57] at H
                 exact absurd H (by simp)
               ·rw [if_neg c56] at H
                exact absurd H (by simp)
              ·rw [if_neg c55] at H
               exact absurd H (by simp)
             ·rw [if_neg c54] at H
              exact absurd H (by simp)
            ·rw [if_neg c53] at H
             exact absurd H (by simp)
           ·rw [if_neg c52] at H
            exact absurd H (by simp)
          ·rw [if_neg c51] at H
           exact absurd H (by simp)
         ·rw [if_neg c50] at H
          exact absurd H (by simp)
        ·rw [if_neg c49] at H
         have c49b0 : decide (x10_2 < (t499.length : Int)) = false := decide_eq_false c49
         clear c49
         by_cases c82 : t511 = 0
         ·rw [if_pos c82] at H
          have c82b0 : (t511 == 0) = true := beq_iff_eq.mpr c82
          have c82b1 : (t511 != 0) = false := bne_eq_false_iff_eq.mpr c82
          clear c82
          by_cases c83 : t506 = a0_1
          ·rw [if_pos c83] at H
           have c83b0 : (t506 == a0_1) = true := beq_iff_eq.mpr c83
           have c83b1 : (t506 != a0_1) = false := bne_eq_false_iff_eq.mpr c83
           clear c83
           obtain rfl := Option.some.inj H
           have hnb84 := NB512_494.out
           have hnc84 := NB494_512.out
           have hcz85_0 : wr.cell? ⟨gb512, 0, none⟩ = some (.slice Ao45 t503.length co45) := (blk_cell BK512.out 0).trans rfl
           have hcz85_1 : wr.cell? ⟨gb512, 1, none⟩ = some (.int .i64 t506) := (blk_cell BK512.out 1).trans rfl
           have hcz85_2 : wr.cell? ⟨gb512, 2, none⟩ = some (.int .i64 t507) := (blk_cell BK512.out 2).trans rfl
           have hfz85_0 := blk_frozen BK512.out 0
           have hfz85_1 := blk_frozen BK512.out 1
           have hfz85_2 := blk_frozen BK512.out 2
           have hcz86_0 : wr.cell? ⟨gb494, 0, none⟩ = some (.slice A0_0 l0_0.length c0_0) := (blk_cell BK494.out 0).trans rfl
           have hcz86_1 : wr.cell? ⟨gb494, 1, none⟩ = some (.int .i64 a0_1) := (blk_cell BK494.out 1).trans rfl
           have hcz86_2 : wr.cell? ⟨gb494, 2, none⟩ = some (.int .i64 a0_2) := (blk_cell BK494.out 2).trans rfl
           have hfz86_0 := blk_frozen BK494.out 0
           have hfz86_1 := blk_frozen BK494.out 1
           have hfz86_2 := blk_frozen BK494.out 2
           go_wp2
           go_ret
           exact ⟨by first | rfl | (simp [errW_none, errW_some] <;> rfl) | (simp [*, errW_none, errW_some] <;> rfl), by repeat (first | (with_reducible first | exact HB.out | apply below_alloc | apply pw_below_drewN | apply below_drew1 | refine below_set ?_ GE494.out | refine below_set ?_ GE512.out) | exact HB.out)⟩
          ·rw [if_neg c83] at H
           exact absurd H (by simp)
         ·rw [if_neg c82] at H
          have c82b0 : (t511 == 0) = false := beq_eq_false_iff_ne.mpr c82
          have c82b1 : (t511 != 0) = true := bne_iff_ne.mpr c82
          obtain rfl := Option.some.inj H
          go_wp2
          go_ret
          exact ⟨by first | rfl | (simp [errW_none, errW_some] <;> rfl) | (simp [*, errW_none, errW_some] <;> rfl), by repeat (first | (with_reducible first | exact HB.out | apply below_alloc | apply pw_below_drewN | apply below_drew1 | refine below_set ?_ GE494.out | refine below_set ?_ GE512.out) | exact HB.out)⟩
     ·rw [if_neg c39] at H
      exact absurd H (by simp)
    ·rw [if_neg c38] at H
     exact absurd H (by simp)
end Go.Proofs.Ytlmejfcfdhinlaa.PMove
