import Derived.Test.YtednpcfhefibdaaPSnapx0
import Derived.Test.YtednpcfhefibdaaPSnapx8
namespace Go.Proofs.Ytednpcfhefibdaa.PSnap
open Go.RowKit Go.Proofs.YtednpcfhefibdaaW.PrintWords Go.Proofs.YtednpcfhefibdaaW.PrintLast Go.Proofs.YtednpcfhefibdaaW.PrintMore
attribute [local go_sem] max2_int min2_int max_two min_two max_three min_three max_four min_four
set_option linter.unusedVariables false
set_option linter.unusedSimpArgs false
attribute [local go_sem] setCell_drewN
mutual
def anamnesisref03_Same.j0 : Nat → Bool → List (S41) → Int → Int → List (S41) → Int → Int → Option (Bool)
 | 0, _, _, _, _, _, _, _ => none
 | k + 1, x26, x176000, x176001, x176002, x177000, x177001, x177002 => if x26 = true then (some false) else (anamnesisref03_Same.l0 k 0 x176000 x176001 x176002 x177000 x177001 x177002)
def anamnesisref03_Same.l0 : Nat → Int → List (S41) → Int → Int → List (S41) → Int → Int → Option (Bool)
 | 0, _, _, _, _, _, _, _ => none
 | k + 1, x5, x176000, x176001, x176002, x177000, x177001, x177002 => if x5 < (x176000.length : Int) then (if 0 ≤ x5 then (if x5 < (x177000.length : Int) then ((anamnesisref03_One.f k ((rd_T41 x176000 x5).f0) ((rd_T41 x176000 x5).f1) ((rd_T41 x176000 x5).f2) ((rd_T41 x176000 x5).f3) ((rd_T41 x176000 x5).f4) ((rd_T41 x176000 x5).f5) ((rd_T41 x177000 x5).f0) ((rd_T41 x177000 x5).f1) ((rd_T41 x177000 x5).f2) ((rd_T41 x177000 x5).f3) ((rd_T41 x177000 x5).f4) ((rd_T41 x177000 x5).f5)).bind fun t179 => (if t179 = true then (anamnesisref03_Same.l0 k (wrap64 (x5 + 1)) x176000 x176001 x176002 x177000 x177001 x177002) else (some false))) else (none)) else (none)) else (some true)
end
def anamnesisref03_Same.f (k : Nat) (l0_0 : List (S41)) (a0_1 : Int) (a0_2 : Int) (l1_0 : List (S41)) (a1_1 : Int) (a1_2 : Int) : Option (Bool) := if a0_1 = a1_1 then (if a0_2 = a1_2 then (anamnesisref03_Same.j0 k ((l0_0.length : Int) != (l1_0.length : Int)) l0_0 a0_1 a0_2 l1_0 a1_1 a1_2) else (anamnesisref03_Same.j0 k true l0_0 a0_1 a0_2 l1_0 a1_1 a1_2)) else (anamnesisref03_Same.j0 k true l0_0 a0_1 a0_2 l1_0 a1_1 a1_2)
theorem anamnesisref03_Same.mono_l : ∀ k, (∀ y0 y1 y2 y3 y4 y5 y6, LeO (anamnesisref03_Same.j0 k y0 y1 y2 y3 y4 y5 y6) (anamnesisref03_Same.j0 (k + 1) y0 y1 y2 y3 y4 y5 y6)) ∧ (∀ y0 y1 y2 y3 y4 y5 y6, LeO (anamnesisref03_Same.l0 k y0 y1 y2 y3 y4 y5 y6) (anamnesisref03_Same.l0 (k + 1) y0 y1 y2 y3 y4 y5 y6))
 | 0 => ⟨fun _ _ _ _ _ _ _ r h => by simp [anamnesisref03_Same.j0] at h, fun _ _ _ _ _ _ _ r h => by simp [anamnesisref03_Same.l0] at h⟩
 | k + 1 => by
  obtain ⟨ih0, ih1⟩ := anamnesisref03_Same.mono_l k
  refine ⟨?_, ?_⟩
  ·intro y0 y1 y2 y3 y4 y5 y6
   unfold anamnesisref03_Same.j0
   repeat' first
   | (with_reducible exact ih0 _ _ _ _ _ _ _)
   | (with_reducible exact ih1 _ _ _ _ _ _ _)
   | (with_reducible exact anamnesisref03_One.mono _ _ _ _ _ _ _ _ _ _ _ _ _)
   | (with_reducible exact LeO.refl _)
   | (with_reducible exact LeO.none _)
   | (with_reducible refine LeO.ite ?_ ?_)
   | (with_reducible refine LeO.bind ?_ (fun _ => ?_))
   | exact ih0 _ _ _ _ _ _ _
   | exact ih1 _ _ _ _ _ _ _
   | exact anamnesisref03_One.mono _ _ _ _ _ _ _ _ _ _ _ _ _
   | exact LeO.none _
   | refine LeO.ite ?_ ?_
   | refine LeO.bind ?_ (fun _ => ?_)
  ·intro y0 y1 y2 y3 y4 y5 y6
   unfold anamnesisref03_Same.l0
   repeat' first
   | (with_reducible exact ih0 _ _ _ _ _ _ _)
   | (with_reducible exact ih1 _ _ _ _ _ _ _)
   | (with_reducible exact anamnesisref03_One.mono _ _ _ _ _ _ _ _ _ _ _ _ _)
   | (with_reducible exact LeO.refl _)
   | (with_reducible exact LeO.none _)
   | (with_reducible refine LeO.ite ?_ ?_)
   | (with_reducible refine LeO.bind ?_ (fun _ => ?_))
   | exact ih0 _ _ _ _ _ _ _
   | exact ih1 _ _ _ _ _ _ _
   | exact anamnesisref03_One.mono _ _ _ _ _ _ _ _ _ _ _ _ _
   | exact LeO.none _
   | refine LeO.ite ?_ ?_
   | refine LeO.bind ?_ (fun _ => ?_)
theorem anamnesisref03_Same.mono : ∀ a0 a1 a2 a3 a4 a5 k, LeO (anamnesisref03_Same.f k a0 a1 a2 a3 a4 a5) (anamnesisref03_Same.f (k + 1) a0 a1 a2 a3 a4 a5) := by
 intro a0 a1 a2 a3 a4 a5 k
 obtain ⟨ih0, ih1⟩ := anamnesisref03_Same.mono_l k
 unfold anamnesisref03_Same.f
 repeat' first
   | (with_reducible exact ih0 _ _ _ _ _ _ _)
   | (with_reducible exact ih1 _ _ _ _ _ _ _)
   | (with_reducible exact anamnesisref03_One.mono _ _ _ _ _ _ _ _ _ _ _ _ _)
   | (with_reducible exact LeO.refl _)
   | (with_reducible exact LeO.none _)
   | (with_reducible refine LeO.ite ?_ ?_)
   | (with_reducible refine LeO.bind ?_ (fun _ => ?_))
   | exact ih0 _ _ _ _ _ _ _
   | exact ih1 _ _ _ _ _ _ _
   | exact anamnesisref03_One.mono _ _ _ _ _ _ _ _ _ _ _ _ _
   | exact LeO.none _
   | refine LeO.ite ?_ ?_
   | refine LeO.bind ?_ (fun _ => ?_)
def anamnesisref03_Same.T6 : Bool × List (List Nat × List Nat) := (true, [([], []), ([0], [0]), ([], []), ([1, 2], [1, 2]), ([3], [3]), ([], []), ([5], [5]), ([], []), ([6, 7], [6, 7]), ([8], [8]), ([4, 9], [4, 9]), ([10], [10])])
def anamnesisref03_Same.B6 : List Nat := [0, 1, 0, 7, 15, 0, 32, 0, 224, 480, 1023, 2047]
theorem anamnesisref03_Same.tab6 : rtab .any (opsOf Try.f14 6) = anamnesisref03_Same.T6 := by kernel_rfl
theorem anamnesisref03_Same.bits6 : waitsOk anamnesisref03_Same.T6.2 anamnesisref03_Same.B6 = true := by kernel_rfl
set_option maxHeartbeats 8000000 in
set_option maxRecDepth 100000 in
theorem anamnesisref03_Same.calls (k : Nat) (A0_0 : Option Addr) (c0_0 : Nat) (l0_0 : List (S41)) (a0_1 : Int) (a0_2 : Int) (A1_0 : Option Addr) (c1_0 : Nat) (l1_0 : List (S41)) (a1_1 : Int) (a1_2 : Int) (r : Bool) (w : World) (hr0_0 : Kd.C k41 w A0_0 l0_0.length l0_0) (hc0_0 : l0_0.length ≤ c0_0) (hr1_0 : Kd.C k41 w A1_0 l1_0.length l1_0) (hc1_0 : l1_0.length ≤ c1_0) (h : anamnesisref03_Same.f k l0_0 a0_1 a0_2 l1_0 a1_1 a1_2 = some r) :
  Calls Try.prog 14 #[.agg #[.slice A0_0 l0_0.length c0_0, .int .i64 a0_1, .int .i64 a0_2], .agg #[.slice A1_0 l1_0.length c1_0, .int .i64 a1_1, .int .i64 a1_2]] w fun e w' => e = .returned (.bool r) ∧ Below w.heap.size w w' := by
 have hu24 := Try.underlying24
 have hu41 := Try.underlying41
 have HR0_0 := Aside0.mk hr0_0
 have HC0_0 := Aside0.mk hc0_0
 clear hr0_0 hc0_0
 have HR1_0 := Aside0.mk hr1_0
 have HC1_0 := Aside0.mk hc1_0
 clear hr1_0 hc1_0
 have HB := Aside0.mk (Below.refl w.heap.size w)
 have H : (if a0_1 = a1_1 then (if a0_2 = a1_2 then (anamnesisref03_Same.j0 k ((l0_0.length : Int) != (l1_0.length : Int)) l0_0 a0_1 a0_2 l1_0 a1_1 a1_2) else (anamnesisref03_Same.j0 k true l0_0 a0_1 a0_2 l1_0 a1_1 a1_2)) else (anamnesisref03_Same.j0 k true l0_0 a0_1 a0_2 l1_0 a1_1 a1_2)) = some r := h
 clear h
 have HC3 := Aside0.mk H
 clear H
 go_enter Try.func14, Try.ntmps14
 go_upto_region 1 with (first | ((with_reducible refine gate_dst (N := 2) rfl ?_); (try (refine gate_guard (by rfl) ?_; dsimp only)); refine box_event ?hg (N := 2) ?hd (cs := #[.slice A0_0 l0_0.length c0_0, .int .i64 a0_1, .int .i64 a0_2]) (t := 24) ?hr ?_; (case hd => rfl); (case hg => rfl); (case hr => first | (go_simp; done) | (go_simp; rfl)); intro gb175 hg w4 hbox hb; have n0_ := Aside0.mk (below_step (by repeat (first | (with_reducible first | exact HB.out | apply below_alloc | apply pw_below_drewN | apply below_drew1) | exact HB.out)) hb); have n1_ := Aside0.mk (hbox); have n2_ := Aside0.mk ((by rw [hg]; exact (below_size (by repeat (first | (with_reducible first | exact HB.out | apply below_alloc | apply pw_below_drewN | apply below_drew1) | exact HB.out))) : w.heap.size ≤ gb175)); have n3_ := Aside0.mk ((by rw [hg]; exact (below_size (by repeat (first | (with_reducible first | exact HB.out | apply below_alloc | apply pw_below_drewN | apply below_drew1) | exact HB.out))) : w.heap.size ≤ gb175)); clear HB; have HB := n0_; have BK175 := n1_; have GW175 := n2_; have GE175 := n3_; clear n0_ n1_ n2_ n3_; clear hb hbox hg) | ((with_reducible refine gate_dst (N := 3) rfl ?_); (try (refine gate_guard (by rfl) ?_; dsimp only)); refine box_event ?hg (N := 3) ?hd (cs := #[.slice A1_0 l1_0.length c1_0, .int .i64 a1_1, .int .i64 a1_2]) (t := 24) ?hr ?_; (case hd => rfl); (case hg => rfl); (case hr => first | (go_simp; done) | (go_simp; rfl)); intro gb176 hg w5 hbox hb; have n0_ := Aside0.mk (blk_below (g := gb175) (o := .cells #[.slice A0_0 l0_0.length c0_0, .int .i64 a0_1, .int .i64 a0_2] 24 (0, 0)) (by (with_reducible repeat (first | refine blk_drewN ?_ _ | refine blk_drew ?_ | refine blk_alloc ?_ _)); exact BK175.out) hb); have n1_ := Aside0.mk (below_step (by repeat (first | (with_reducible first | exact HB.out | apply below_alloc | apply pw_below_drewN | apply below_drew1 | refine below_set ?_ GE175.out) | exact HB.out)) hb); have n2_ := Aside0.mk (hbox); have n3_ := Aside0.mk ((by rw [hg]; exact (below_size (by repeat (first | (with_reducible first | exact HB.out | apply below_alloc | apply pw_below_drewN | apply below_drew1 | refine below_set ?_ GE175.out) | exact HB.out))) : w.heap.size ≤ gb176)); have n4_ := Aside0.mk ((by rw [hg]; exact (below_size (by repeat (first | (with_reducible first | exact HB.out | apply below_alloc | apply pw_below_drewN | apply below_drew1 | refine below_set ?_ GE175.out) | exact HB.out))) : w.heap.size ≤ gb176)); have n5_ := Aside0.mk ((by rw [hg]; exact Nat.ne_of_lt (blk_lt (g := gb175) (o := .cells #[.slice A0_0 l0_0.length c0_0, .int .i64 a0_1, .int .i64 a0_2] 24 (0, 0)) (by (with_reducible repeat (first | refine blk_drewN ?_ _ | refine blk_drew ?_ | refine blk_alloc ?_ _)); exact BK175.out)) : gb175 ≠ gb176)); have n6_ := Aside0.mk ((by rw [hg]; exact Nat.ne_of_gt (blk_lt (g := gb175) (o := .cells #[.slice A0_0 l0_0.length c0_0, .int .i64 a0_1, .int .i64 a0_2] 24 (0, 0)) (by (with_reducible repeat (first | refine blk_drewN ?_ _ | refine blk_drew ?_ | refine blk_alloc ?_ _)); exact BK175.out)) : gb176 ≠ gb175)); clear BK175; clear HB; have BK175 := n0_; have HB := n1_; have BK176 := n2_; have GW176 := n3_; have GE176 := n4_; have NB175_176 := n5_; have NB176_175 := n6_; clear n0_ n1_ n2_ n3_ n4_ n5_ n6_; clear hb hbox hg))
 (try simp only [Act.put, List.setIfInBounds_toArray, List.set_cons_zero, List.set_cons_succ])
 go_cut [26] (fun v26 wc => ∃ (kq : Nat) (x26_2 : Bool), v26 = .bool x26_2 ∧ Aside0 (anamnesisref03_Same.j0 kq x26_2 l0_0 a0_1 a0_2 l1_0 a1_1 a1_2 = some r) ∧ Aside0 (kq ≤ k) ∧ Aside0 (wc.heap[gb175]? = some (.cells #[(.slice A0_0 l0_0.length c0_0), .int .i64 a0_1, .int .i64 a0_2] 24 (0, 0))) ∧ Aside0 (wc.heap[gb176]? = some (.cells #[(.slice A1_0 l1_0.length c1_0), .int .i64 a1_1, .int .i64 a1_2] 24 (0, 0))) ∧ Aside0 (Below w.heap.size w wc))
 case first =>
  have H := HC3.out
  clear HC3
  by_cases c6 : a0_1 = a1_1
  ·rw [if_pos c6] at H
   have c6b0 : (a0_1 == a1_1) = true := beq_iff_eq.mpr c6
   have c6b1 : (a0_1 != a1_1) = false := bne_eq_false_iff_eq.mpr c6
   clear c6
   (first | rw [c6b0] | (simp only [i64_w, i32_w]; rw [c6b0]) | skip)
   by_cases c7 : a0_2 = a1_2
   ·rw [if_pos c7] at H
    have c7b0 : (a0_2 == a1_2) = true := beq_iff_eq.mpr c7
    have c7b1 : (a0_2 != a1_2) = false := bne_eq_false_iff_eq.mpr c7
    clear c7
    have H' := Aside0.mk H
    clear H
    have hnb8 := NB175_176.out
    have hnc8 := NB176_175.out
    have hcz9_0 : w5.cell? ⟨gb175, 0, none⟩ = some (.slice A0_0 l0_0.length c0_0) := (blk_cell BK175.out 0).trans rfl
    have hcz9_1 : w5.cell? ⟨gb175, 1, none⟩ = some (.int .i64 a0_1) := (blk_cell BK175.out 1).trans rfl
    have hcz9_2 : w5.cell? ⟨gb175, 2, none⟩ = some (.int .i64 a0_2) := (blk_cell BK175.out 2).trans rfl
    have hfz9_0 := blk_frozen BK175.out 0
    have hfz9_1 := blk_frozen BK175.out 1
    have hfz9_2 := blk_frozen BK175.out 2
    have hcz10_0 : w5.cell? ⟨gb176, 0, none⟩ = some (.slice A1_0 l1_0.length c1_0) := (blk_cell BK176.out 0).trans rfl
    have hcz10_1 : w5.cell? ⟨gb176, 1, none⟩ = some (.int .i64 a1_1) := (blk_cell BK176.out 1).trans rfl
    have hcz10_2 : w5.cell? ⟨gb176, 2, none⟩ = some (.int .i64 a1_2) := (blk_cell BK176.out 2).trans rfl
    have hfz10_0 := blk_frozen BK176.out 0
    have hfz10_1 := blk_frozen BK176.out 1
    have hfz10_2 := blk_frozen BK176.out 2
    go_wp2
    go_meet
    case rel => exact ⟨_, (((l0_0.length : Int) != (l1_0.length : Int))), (by first | rfl | (simp; done) | (simp [*]; done)), H', ⟨by first | omega | exact Nat.le_refl _⟩, ⟨by (with_reducible repeat (first | refine blk_drewN ?_ _ | refine blk_drew ?_ | refine blk_alloc ?_ _)); exact BK175.out⟩, ⟨by (with_reducible repeat (first | refine blk_drewN ?_ _ | refine blk_drew ?_ | refine blk_alloc ?_ _)); exact BK176.out⟩, ⟨by repeat (first | (with_reducible first | exact HB.out | apply below_alloc | apply pw_below_drewN | apply below_drew1 | refine below_set ?_ GE175.out | refine below_set ?_ GE176.out) | exact HB.out)⟩⟩
   ·rw [if_neg c7] at H
    have c7b0 : (a0_2 == a1_2) = false := beq_eq_false_iff_ne.mpr c7
    have c7b1 : (a0_2 != a1_2) = true := bne_iff_ne.mpr c7
    have H' := Aside0.mk H
    clear H
    have hnb11 := NB175_176.out
    have hnc11 := NB176_175.out
    have hcz12_0 : w5.cell? ⟨gb175, 0, none⟩ = some (.slice A0_0 l0_0.length c0_0) := (blk_cell BK175.out 0).trans rfl
    have hcz12_1 : w5.cell? ⟨gb175, 1, none⟩ = some (.int .i64 a0_1) := (blk_cell BK175.out 1).trans rfl
    have hcz12_2 : w5.cell? ⟨gb175, 2, none⟩ = some (.int .i64 a0_2) := (blk_cell BK175.out 2).trans rfl
    have hfz12_0 := blk_frozen BK175.out 0
    have hfz12_1 := blk_frozen BK175.out 1
    have hfz12_2 := blk_frozen BK175.out 2
    have hcz13_0 : w5.cell? ⟨gb176, 0, none⟩ = some (.slice A1_0 l1_0.length c1_0) := (blk_cell BK176.out 0).trans rfl
    have hcz13_1 : w5.cell? ⟨gb176, 1, none⟩ = some (.int .i64 a1_1) := (blk_cell BK176.out 1).trans rfl
    have hcz13_2 : w5.cell? ⟨gb176, 2, none⟩ = some (.int .i64 a1_2) := (blk_cell BK176.out 2).trans rfl
    have hfz13_0 := blk_frozen BK176.out 0
    have hfz13_1 := blk_frozen BK176.out 1
    have hfz13_2 := blk_frozen BK176.out 2
    go_wp2
    go_meet
    case rel => exact ⟨_, (true), (by first | rfl | (simp; done) | (simp [*]; done)), H', ⟨by first | omega | exact Nat.le_refl _⟩, ⟨by (with_reducible repeat (first | refine blk_drewN ?_ _ | refine blk_drew ?_ | refine blk_alloc ?_ _)); exact BK175.out⟩, ⟨by (with_reducible repeat (first | refine blk_drewN ?_ _ | refine blk_drew ?_ | refine blk_alloc ?_ _)); exact BK176.out⟩, ⟨by repeat (first | (with_reducible first | exact HB.out | apply below_alloc | apply pw_below_drewN | apply below_drew1 | refine below_set ?_ GE175.out | refine below_set ?_ GE176.out) | exact HB.out)⟩⟩
  ·rw [if_neg c6] at H
   have c6b0 : (a0_1 == a1_1) = false := beq_eq_false_iff_ne.mpr c6
   have c6b1 : (a0_1 != a1_1) = true := bne_iff_ne.mpr c6
   (first | rw [c6b0] | (simp only [i64_w, i32_w]; rw [c6b0]) | skip)
   have H' := Aside0.mk H
   clear H
   have hnb14 := NB175_176.out
   have hnc14 := NB176_175.out
   have hcz15_0 : w5.cell? ⟨gb175, 0, none⟩ = some (.slice A0_0 l0_0.length c0_0) := (blk_cell BK175.out 0).trans rfl
   have hcz15_1 : w5.cell? ⟨gb175, 1, none⟩ = some (.int .i64 a0_1) := (blk_cell BK175.out 1).trans rfl
   have hcz15_2 : w5.cell? ⟨gb175, 2, none⟩ = some (.int .i64 a0_2) := (blk_cell BK175.out 2).trans rfl
   have hfz15_0 := blk_frozen BK175.out 0
   have hfz15_1 := blk_frozen BK175.out 1
   have hfz15_2 := blk_frozen BK175.out 2
   have hcz16_0 : w5.cell? ⟨gb176, 0, none⟩ = some (.slice A1_0 l1_0.length c1_0) := (blk_cell BK176.out 0).trans rfl
   have hcz16_1 : w5.cell? ⟨gb176, 1, none⟩ = some (.int .i64 a1_1) := (blk_cell BK176.out 1).trans rfl
   have hcz16_2 : w5.cell? ⟨gb176, 2, none⟩ = some (.int .i64 a1_2) := (blk_cell BK176.out 2).trans rfl
   have hfz16_0 := blk_frozen BK176.out 0
   have hfz16_1 := blk_frozen BK176.out 1
   have hfz16_2 := blk_frozen BK176.out 2
   go_wp2
   go_meet
   case rel => exact ⟨_, (true), (by first | rfl | (simp; done) | (simp [*]; done)), H', ⟨by first | omega | exact Nat.le_refl _⟩, ⟨by (with_reducible repeat (first | refine blk_drewN ?_ _ | refine blk_drew ?_ | refine blk_alloc ?_ _)); exact BK175.out⟩, ⟨by (with_reducible repeat (first | refine blk_drewN ?_ _ | refine blk_drew ?_ | refine blk_alloc ?_ _)); exact BK176.out⟩, ⟨by repeat (first | (with_reducible first | exact HB.out | apply below_alloc | apply pw_below_drewN | apply below_drew1 | refine below_set ?_ GE175.out | refine below_set ?_ GE176.out) | exact HB.out)⟩⟩
 case rest =>
  clear HC3
  try clear c1
  try clear p2
  try clear c6
  try clear c6b0
  try clear c6b1
  try clear c7
  try clear c7b0
  try clear c7b1
  try clear c8
  try clear c11
  try clear c14
  try clear hcz10_0
  try clear hcz10_1
  try clear hcz10_2
  try clear hcz12_0
  try clear hcz12_1
  try clear hcz12_2
  try clear hcz13_0
  try clear hcz13_1
  try clear hcz13_2
  try clear hcz15_0
  try clear hcz15_1
  try clear hcz15_2
  try clear hcz16_0
  try clear hcz16_1
  try clear hcz16_2
  try clear hcz9_0
  try clear hcz9_1
  try clear hcz9_2
  try clear hfz10_0
  try clear hfz10_1
  try clear hfz10_2
  try clear hfz12_0
  try clear hfz12_1
  try clear hfz12_2
  try clear hfz13_0
  try clear hfz13_1
  try clear hfz13_2
  try clear hfz15_0
  try clear hfz15_1
  try clear hfz15_2
  try clear hfz16_0
  try clear hfz16_1
  try clear hfz16_2
  try clear hfz9_0
  try clear hfz9_1
  try clear hfz9_2
  obtain ⟨kq, x26_2, rfl, HA, HJ2, BK175, BK176, HB⟩ := hcut
  cases kq with
  | zero => exact absurd HA.out (by simp [anamnesisref03_Same.j0])
  | succ kj2 =>
   have H := HA.out
   clear HA
   simp only [anamnesisref03_Same.j0] at H
   by_cases c17 : x26_2 = true
   ·subst c17
    have H1 : (some false) = some r := by rw [if_pos rfl] at H; exact H
    clear H
    have H := H1
    clear H1
    obtain rfl := Option.some.inj H
    go_wp2
    go_ret
    exact ⟨by first | rfl | (simp [errW_none, errW_some] <;> rfl) | (simp [*, errW_none, errW_some] <;> rfl), by repeat (first | (with_reducible first | exact HB.out | apply below_alloc | apply pw_below_drewN | apply below_drew1 | refine below_set ?_ GE175.out | refine below_set ?_ GE176.out) | exact HB.out)⟩
   ·replace c17 := Bool.eq_false_iff.mpr c17
    subst c17
    have H1 : (anamnesisref03_Same.l0 kj2 0 l0_0 a0_1 a0_2 l1_0 a1_1 a1_2) = some r := by rw [if_neg (show ¬ (false = true) by decide)] at H; exact H
    clear H
    have H := H1
    clear H1
    have H' := Aside0.mk H
    clear H
    go_wp2
    go_loopg [5] kj2 (fun kq v5 w' => ∃ (x5_2 : Int), v5 = .int .i64 x5_2 ∧ Aside0 (anamnesisref03_Same.l0 kq x5_2 l0_0 a0_1 a0_2 l1_0 a1_1 a1_2 = some r) ∧ Aside0 (kq ≤ kj2) ∧ Aside0 (w'.heap[gb175]? = some (.cells #[(.slice A0_0 l0_0.length c0_0), .int .i64 a0_1, .int .i64 a0_2] 24 (0, 0))) ∧ Aside0 (w'.heap[gb176]? = some (.cells #[(.slice A1_0 l1_0.length c1_0), .int .i64 a1_1, .int .i64 a1_2] 24 (0, 0))) ∧ Aside0 (Below w.heap.size w w'))
    case atStart => exact ⟨(0), (by first | rfl | (simp; done) | (simp [*]; done)), H', ⟨Nat.le_refl _⟩, ⟨by (with_reducible repeat (first | refine blk_drewN ?_ _ | refine blk_drew ?_ | refine blk_alloc ?_ _)); exact BK175.out⟩, ⟨by (with_reducible repeat (first | refine blk_drewN ?_ _ | refine blk_drew ?_ | refine blk_alloc ?_ _)); exact BK176.out⟩, ⟨by repeat (first | (with_reducible first | exact HB.out | apply below_alloc | apply pw_below_drewN | apply below_drew1 | refine below_set ?_ GE175.out | refine below_set ?_ GE176.out) | exact HB.out)⟩⟩
    case round =>
     clear H'
     try clear c1
     try clear p2
     try clear c6
     try clear c6b0
     try clear c6b1
     try clear c7
     try clear c7b0
     try clear c7b1
     try clear c8
     try clear c11
     try clear c14
     try clear c17
     try clear hcz10_0
     try clear hcz10_1
     try clear hcz10_2
     try clear hcz12_0
     try clear hcz12_1
     try clear hcz12_2
     try clear hcz13_0
     try clear hcz13_1
     try clear hcz13_2
     try clear hcz15_0
     try clear hcz15_1
     try clear hcz15_2
     try clear hcz16_0
     try clear hcz16_1
     try clear hcz16_2
     try clear hcz9_0
     try clear hcz9_1
     try clear hcz9_2
     try clear hfz10_0
     try clear hfz10_1
     try clear hfz10_2
     try clear hfz12_0
     try clear hfz12_1
     try clear hfz12_2
     try clear hfz13_0
     try clear hfz13_1
     try clear hfz13_2
     try clear hfz15_0
     try clear hfz15_1
     try clear hfz15_2
     try clear hfz16_0
     try clear hfz16_1
     try clear hfz16_2
     try clear hfz9_0
     try clear hfz9_1
     try clear hfz9_2
     try clear p2
     obtain ⟨x5_2, rfl, HA, HK2, BK175, BK176, HB⟩ := hrel
     cases gk with
     | zero => exact absurd HA.out (by simp [anamnesisref03_Same.l0])
     | succ k2 =>
      have H := HA.out
      clear HA
      simp only [anamnesisref03_Same.l0] at H
      by_cases c18 : x5_2 < (l0_0.length : Int)
      ·rw [if_pos c18] at H
       have c18b0 : decide (x5_2 < (l0_0.length : Int)) = true := decide_eq_true c18
       clear c18
       by_cases c19 : 0 ≤ x5_2
       ·rw [if_pos c19] at H
        have c19b0 : decide (0 ≤ x5_2) = true := decide_eq_true c19
        clear c19
        by_cases c20 : x5_2 < (l1_0.length : Int)
        ·rw [if_pos c20] at H
         have c20b0 : decide (x5_2 < (l1_0.length : Int)) = true := decide_eq_true c20
         clear c20
         replace H := Option.bind_eq_some_iff.mp H
         obtain ⟨t179, A210, H⟩ := H
         replace H : (if t179 = true then (anamnesisref03_Same.l0 k2 (wrap64 (x5_2 + 1)) l0_0 a0_1 a0_2 l1_0 a1_1 a1_2) else (some false)) = some r := H
         have A21 := Aside0.mk A210
         clear A210
         by_cases c22 : t179 = true
         ·subst c22
          have H1 : (anamnesisref03_Same.l0 k2 (wrap64 (x5_2 + 1)) l0_0 a0_1 a0_2 l1_0 a1_1 a1_2) = some r := by rw [if_pos rfl] at H; exact H
          clear H
          have H := H1
          clear H1
          have H' := Aside0.mk H
          clear H
          have hnb23 := NB175_176.out
          have hnc23 := NB176_175.out
          have hcz24_0 : wr.cell? ⟨gb175, 0, none⟩ = some (.slice A0_0 l0_0.length c0_0) := (blk_cell BK175.out 0).trans rfl
          have hcz24_1 : wr.cell? ⟨gb175, 1, none⟩ = some (.int .i64 a0_1) := (blk_cell BK175.out 1).trans rfl
          have hcz24_2 : wr.cell? ⟨gb175, 2, none⟩ = some (.int .i64 a0_2) := (blk_cell BK175.out 2).trans rfl
          have hfz24_0 := blk_frozen BK175.out 0
          have hfz24_1 := blk_frozen BK175.out 1
          have hfz24_2 := blk_frozen BK175.out 2
          try go_wp2
          have n0_ := Aside0.mk (blk_drew BK175.out)
          have n1_ := Aside0.mk (blk_drew BK176.out)
          have n2_ := Aside0.mk (below_drew1 HB.out)
          clear BK175
          clear BK176
          clear HB
          have BK175 := n0_
          have BK176 := n1_
          have HB := n2_
          clear n0_ n1_ n2_
          have p177 : 0 ≤ (x5_2 : Int) := of_decide_eq_true (by first | (with_reducible assumption) | assumption)
          have q177 : x5_2 < (l0_0.length : Int) := of_decide_eq_true (by first | (with_reducible assumption) | assumption)
          obtain ⟨ad177, A177_2, c177_2, e177, hx177_0, hx177_1, hx177_2, hx177_3, hx177_4, hx177_5, hl177_2, hi177_2⟩ := at_T41 HR0_0.out x5_2 p177 q177
          have hw177_5 := hx177_5
          have hw177_4 := hx177_4
          have hw177_3 := hx177_3
          have hw177_2 := hx177_2
          have hw177_1 := hx177_1
          have hw177_0 := hx177_0
          cases e177
          replace hx177_0 := (HB.out.cell (World.block_lt_of_cell? w _ hx177_0)).trans hx177_0
          replace hx177_1 := (HB.out.cell (World.block_lt_of_cell? w _ hx177_1)).trans hx177_1
          replace hx177_2 := (HB.out.cell (World.block_lt_of_cell? w _ hx177_2)).trans hx177_2
          replace hx177_3 := (HB.out.cell (World.block_lt_of_cell? w _ hx177_3)).trans hx177_3
          replace hx177_4 := (HB.out.cell (World.block_lt_of_cell? w _ hx177_4)).trans hx177_4
          replace hx177_5 := (HB.out.cell (World.block_lt_of_cell? w _ hx177_5)).trans hx177_5
          have HR177_2 := Aside0.mk hi177_2
          have HC177_2 := Aside0.mk hl177_2
          clear hi177_2 hl177_2
          replace p177 := eq_true p177
          replace q177 := eq_true q177
          have p178 : 0 ≤ (x5_2 : Int) := of_decide_eq_true (by first | (with_reducible assumption) | assumption)
          have q178 : x5_2 < (l1_0.length : Int) := of_decide_eq_true (by first | (with_reducible assumption) | assumption)
          obtain ⟨ad178, A178_2, c178_2, e178, hx178_0, hx178_1, hx178_2, hx178_3, hx178_4, hx178_5, hl178_2, hi178_2⟩ := at_T41 HR1_0.out x5_2 p178 q178
          have hw178_5 := hx178_5
          have hw178_4 := hx178_4
          have hw178_3 := hx178_3
          have hw178_2 := hx178_2
          have hw178_1 := hx178_1
          have hw178_0 := hx178_0
          cases e178
          replace hx178_0 := (HB.out.cell (World.block_lt_of_cell? w _ hx178_0)).trans hx178_0
          replace hx178_1 := (HB.out.cell (World.block_lt_of_cell? w _ hx178_1)).trans hx178_1
          replace hx178_2 := (HB.out.cell (World.block_lt_of_cell? w _ hx178_2)).trans hx178_2
          replace hx178_3 := (HB.out.cell (World.block_lt_of_cell? w _ hx178_3)).trans hx178_3
          replace hx178_4 := (HB.out.cell (World.block_lt_of_cell? w _ hx178_4)).trans hx178_4
          replace hx178_5 := (HB.out.cell (World.block_lt_of_cell? w _ hx178_5)).trans hx178_5
          have HR178_2 := Aside0.mk hi178_2
          have HC178_2 := Aside0.mk hl178_2
          clear hi178_2 hl178_2
          replace p178 := eq_true p178
          replace q178 := eq_true q178
          refine start_ (n := 12) (S := fun w' => w'.cell? ⟨gb175, 0, none⟩ = some (.slice (some ad177) l0_0.length c0_0) ∧ w'.cell? ⟨gb175, 1, none⟩ = some (.int .i64 a0_1) ∧ w'.cell? ⟨gb175, 2, none⟩ = some (.int .i64 a0_2) ∧ w'.cell? ⟨gb176, 0, none⟩ = some (.slice (some ad178) l1_0.length c1_0) ∧ w'.cell? ⟨gb176, 1, none⟩ = some (.int .i64 a1_1) ∧ w'.cell? ⟨gb176, 2, none⟩ = some (.int .i64 a1_2) ∧ w'.cell? (ad177.add ((x5_2).toNat * 6)) = some (.int .i64 ((rd_T41 l0_0 x5_2).f0)) ∧ w'.cell? ⟨(ad177.add ((x5_2).toNat * 6)).block, (ad177.add ((x5_2).toNat * 6)).off + 1, none⟩ = some (.int .i64 ((rd_T41 l0_0 x5_2).f1)) ∧ w'.cell? ⟨(ad177.add ((x5_2).toNat * 6)).block, (ad177.add ((x5_2).toNat * 6)).off + 2, none⟩ = some (.slice A177_2 ((rd_T41 l0_0 x5_2).f2).length c177_2) ∧ w'.cell? ⟨(ad177.add ((x5_2).toNat * 6)).block, (ad177.add ((x5_2).toNat * 6)).off + 3, none⟩ = some (.string ((rd_T41 l0_0 x5_2).f3)) ∧ w'.cell? ⟨(ad177.add ((x5_2).toNat * 6)).block, (ad177.add ((x5_2).toNat * 6)).off + 4, none⟩ = some (.int .i64 ((rd_T41 l0_0 x5_2).f4)) ∧ w'.cell? ⟨(ad177.add ((x5_2).toNat * 6)).block, (ad177.add ((x5_2).toNat * 6)).off + 5, none⟩ = some (.int .i64 ((rd_T41 l0_0 x5_2).f5)) ∧ w'.cell? (ad178.add ((x5_2).toNat * 6)) = some (.int .i64 ((rd_T41 l1_0 x5_2).f0)) ∧ w'.cell? ⟨(ad178.add ((x5_2).toNat * 6)).block, (ad178.add ((x5_2).toNat * 6)).off + 1, none⟩ = some (.int .i64 ((rd_T41 l1_0 x5_2).f1)) ∧ w'.cell? ⟨(ad178.add ((x5_2).toNat * 6)).block, (ad178.add ((x5_2).toNat * 6)).off + 2, none⟩ = some (.slice A178_2 ((rd_T41 l1_0 x5_2).f2).length c178_2) ∧ w'.cell? ⟨(ad178.add ((x5_2).toNat * 6)).block, (ad178.add ((x5_2).toNat * 6)).off + 3, none⟩ = some (.string ((rd_T41 l1_0 x5_2).f3)) ∧ w'.cell? ⟨(ad178.add ((x5_2).toNat * 6)).block, (ad178.add ((x5_2).toNat * 6)).off + 4, none⟩ = some (.int .i64 ((rd_T41 l1_0 x5_2).f4)) ∧ w'.cell? ⟨(ad178.add ((x5_2).toNat * 6)).block, (ad178.add ((x5_2).toNat * 6)).off + 5, none⟩ = some (.int .i64 ((rd_T41 l1_0 x5_2).f5))) (ds := []) #[false, false, false, false, false, false, false, false, false, false, false, false] (by kernel_rfl) rfl rfl ⟨(blk_cell BK175.out 0).trans rfl, (blk_cell BK175.out 1).trans rfl, (blk_cell BK175.out 2).trans rfl, (blk_cell BK176.out 0).trans rfl, (blk_cell BK176.out 1).trans rfl, (blk_cell BK176.out 2).trans rfl, ((HB.out.cell (World.block_lt_of_cell? w _ hw177_0)).trans hw177_0), ((HB.out.cell (World.block_lt_of_cell? w _ hw177_1)).trans hw177_1), ((HB.out.cell (World.block_lt_of_cell? w _ hw177_2)).trans hw177_2), ((HB.out.cell (World.block_lt_of_cell? w _ hw177_3)).trans hw177_3), ((HB.out.cell (World.block_lt_of_cell? w _ hw177_4)).trans hw177_4), ((HB.out.cell (World.block_lt_of_cell? w _ hw177_5)).trans hw177_5), ((HB.out.cell (World.block_lt_of_cell? w _ hw178_0)).trans hw178_0), ((HB.out.cell (World.block_lt_of_cell? w _ hw178_1)).trans hw178_1), ((HB.out.cell (World.block_lt_of_cell? w _ hw178_2)).trans hw178_2), ((HB.out.cell (World.block_lt_of_cell? w _ hw178_3)).trans hw178_3), ((HB.out.cell (World.block_lt_of_cell? w _ hw178_4)).trans hw178_4), ((HB.out.cell (World.block_lt_of_cell? w _ hw178_5)).trans hw178_5)⟩ (fun hHeld => ?_); refine with_tabW anamnesisref03_Same.tab6 anamnesisref03_Same.bits6 (fun HT_ HW_ => ?_)
          generalize wr.drew = w25 at BK175 BK176 HB HR177_2 HR178_2 hx177_0 hx177_1 hx177_2 hx177_3 hx177_4 hx177_5 hx178_0 hx178_1 hx178_2 hx178_3 hx178_4 hx178_5 hHeld ⊢
          refine pure1 (i := 0) (N := some 34) #[true, false, false, false, false, false, false, false, false, false, false, false] HT_.out ?_
          refine pure1 (i := 2) (N := some 36) #[true, false, true, false, false, false, false, false, false, false, false, false] HT_.out ?_
          refine pure1 (i := 5) (N := some 39) #[true, false, true, false, false, true, false, false, false, false, false, false] HT_.out ?_
          refine pure1 (i := 7) (N := some 41) #[true, false, true, false, false, true, false, true, false, false, false, false] HT_.out ?_
          refine take1 (i := 1) (N := some 35) #[true, true, true, false, false, true, false, true, false, false, false, false] HT_.out HW_.out hHeld ?_
          refine pure1 (i := 3) (N := some 37) #[true, true, true, true, false, true, false, true, false, false, false, false] HT_.out ?_
          refine take1 (i := 4) (N := some 38) #[true, true, true, true, true, true, false, true, false, false, false, false] HT_.out HW_.out hHeld ?_
          refine take1 (i := 6) (N := some 40) #[true, true, true, true, true, true, true, true, false, false, false, false] HT_.out HW_.out hHeld ?_
          refine pure1 (i := 8) (N := some 42) #[true, true, true, true, true, true, true, true, true, false, false, false] HT_.out ?_
          refine take1 (i := 9) (N := some 43) #[true, true, true, true, true, true, true, true, true, true, false, false] HT_.out HW_.out hHeld ?_
          refine one_ (i := 10) (N := some 44) #[true, true, true, true, true, true, true, true, true, true, true, false] rfl rfl (one_of HT_.out (by kernel_rfl)) (by decide) (fun K hK => ?_)
          refine goes_ Try.func36 (by kernel_rfl) rfl #[.agg #[.int .i64 ((rd_T41 l0_0 x5_2).f0), .int .i64 ((rd_T41 l0_0 x5_2).f1), .slice A177_2 ((rd_T41 l0_0 x5_2).f2).length c177_2, .string ((rd_T41 l0_0 x5_2).f3), .int .i64 ((rd_T41 l0_0 x5_2).f4), .int .i64 ((rd_T41 l0_0 x5_2).f5)], .agg #[.int .i64 ((rd_T41 l1_0 x5_2).f0), .int .i64 ((rd_T41 l1_0 x5_2).f1), .slice A178_2 ((rd_T41 l1_0 x5_2).f2).length c178_2, .string ((rd_T41 l1_0 x5_2).f3), .int .i64 ((rd_T41 l1_0 x5_2).f4), .int .i64 ((rd_T41 l1_0 x5_2).f5)]] (by rfl) rfl rfl (by (try simp only [List.map_toArray, List.map_cons, List.map_nil]); first | done | rfl | (simp only [List.length_drop, List.length_take]; rfl)) ?_
          with_reducible refine (anamnesisref03_One.calls k2 ((rd_T41 l0_0 x5_2).f0) ((rd_T41 l0_0 x5_2).f1) _ _ ((rd_T41 l0_0 x5_2).f2) ((rd_T41 l0_0 x5_2).f3) ((rd_T41 l0_0 x5_2).f4) ((rd_T41 l0_0 x5_2).f5) ((rd_T41 l1_0 x5_2).f0) ((rd_T41 l1_0 x5_2).f1) _ _ ((rd_T41 l1_0 x5_2).f2) ((rd_T41 l1_0 x5_2).f3) ((rd_T41 l1_0 x5_2).f4) ((rd_T41 l1_0 x5_2).f5) true _ ?side1 ?side2 ?side3 ?side4 A21.out).mono ?_
          (case side1 => repeat (first | exact (Kd.C_below HR177_2.out HB.out) | (with_reducible refine Kd.C_alloc ?_ _) | (with_reducible refine Kd.C_drewN ?_ _) | (with_reducible refine Kd.C_drew ?_)))
          (case side2 => exact HC177_2.out)
          (case side3 => repeat (first | exact (Kd.C_below HR178_2.out HB.out) | (with_reducible refine Kd.C_alloc ?_ _) | (with_reducible refine Kd.C_drewN ?_ _) | (with_reducible refine Kd.C_drew ?_)))
          (case side4 => exact HC178_2.out)
          rintro e w26 ⟨rfl, hb⟩
          refine ⟨_, rfl, ?_⟩
          have n0_ := Aside0.mk (blk_below (g := gb175) (o := .cells #[.slice (some ad177) l0_0.length c0_0, .int .i64 a0_1, .int .i64 a0_2] 24 (0, 0)) (by (with_reducible repeat (first | refine blk_drewN ?_ _ | refine blk_drew ?_ | refine blk_alloc ?_ _)); exact BK175.out) hb)
          have n1_ := Aside0.mk (blk_below (g := gb176) (o := .cells #[.slice (some ad178) l1_0.length c1_0, .int .i64 a1_1, .int .i64 a1_2] 24 (0, 0)) (by (with_reducible repeat (first | refine blk_drewN ?_ _ | refine blk_drew ?_ | refine blk_alloc ?_ _)); exact BK176.out) hb)
          have n2_ := Aside0.mk (below_step (by repeat (first | (with_reducible first | exact HB.out | apply below_alloc | apply pw_below_drewN | apply below_drew1 | refine below_set ?_ GE175.out | refine below_set ?_ GE176.out) | exact HB.out)) hb)
          clear BK175
          clear BK176
          clear HB
          have BK175 := n0_
          have BK176 := n1_
          have HB := n2_
          clear n0_ n1_ n2_
          (try clear hb)
          (try clear hb2)
          (try clear hk)
          (try clear hi)
          refine hK.out _ _ ⟨(blk_cell BK175.out 0).trans rfl, (blk_cell BK175.out 1).trans rfl, (blk_cell BK175.out 2).trans rfl, (blk_cell BK176.out 0).trans rfl, (blk_cell BK176.out 1).trans rfl, (blk_cell BK176.out 2).trans rfl, ((HB.out.cell (World.block_lt_of_cell? w _ hw177_0)).trans hw177_0), ((HB.out.cell (World.block_lt_of_cell? w _ hw177_1)).trans hw177_1), ((HB.out.cell (World.block_lt_of_cell? w _ hw177_2)).trans hw177_2), ((HB.out.cell (World.block_lt_of_cell? w _ hw177_3)).trans hw177_3), ((HB.out.cell (World.block_lt_of_cell? w _ hw177_4)).trans hw177_4), ((HB.out.cell (World.block_lt_of_cell? w _ hw177_5)).trans hw177_5), ((HB.out.cell (World.block_lt_of_cell? w _ hw178_0)).trans hw178_0), ((HB.out.cell (World.block_lt_of_cell? w _ hw178_1)).trans hw178_1), ((HB.out.cell (World.block_lt_of_cell? w _ hw178_2)).trans hw178_2), ((HB.out.cell (World.block_lt_of_cell? w _ hw178_3)).trans hw178_3), ((HB.out.cell (World.block_lt_of_cell? w _ hw178_4)).trans hw178_4), ((HB.out.cell (World.block_lt_of_cell? w _ hw178_5)).trans hw178_5)⟩ (fun hHeld => ?_)
          clear hK K
          refine norm_ (a' := ?_) ?_ ?_
          rotate_left
          ·show Act.put _ (some 44) _ = _
           simp only [Act.put, List.setIfInBounds_toArray, List.set_cons_zero, List.set_cons_succ, i64_w, i32_w]
           rfl
          refine pure1 (i := 11) (N := some 45) #[true, true, true, true, true, true, true, true, true, true, true, true] HT_.out ?_
          refine done_ (done_of HT_.out (by kernel_rfl)) ?_
          try go_wp2
          go_roundg k2
          case measure => have := HJ2.out; have := HK2.out; omega
          case rel => exact ⟨(wrap64 (x5_2 + 1)), (by first | rfl | (simp; done) | (simp [*]; done)), H', ⟨by have := HJ2.out; have := HK2.out; omega⟩, ⟨by (with_reducible repeat (first | refine blk_drewN ?_ _ | refine blk_drew ?_ | refine blk_alloc ?_ _)); exact BK175.out⟩, ⟨by (with_reducible repeat (first | refine blk_drewN ?_ _ | refine blk_drew ?_ | refine blk_alloc ?_ _)); exact BK176.out⟩, ⟨by repeat (first | (with_reducible first | exact HB.out | apply below_alloc | apply pw_below_drewN | apply below_drew1 | refine below_set ?_ GE175.out | refine below_set ?_ GE176.out) | exact HB.out)⟩⟩
         ·replace c22 := Bool.eq_false_iff.mpr c22
          subst c22
          have H1 : (some false) = some r := by rw [if_neg (show ¬ (false = true) by decide)] at H; exact H
          clear H
          have H := H1
          clear H1
          obtain rfl := Option.some.inj H
          have hnb27 := NB175_176.out
          have hnc27 := NB176_175.out
          have hcz28_0 : wr.cell? ⟨gb175, 0, none⟩ = some (.slice A0_0 l0_0.length c0_0) := (blk_cell BK175.out 0).trans rfl
          have hcz28_1 : wr.cell? ⟨gb175, 1, none⟩ = some (.int .i64 a0_1) := (blk_cell BK175.out 1).trans rfl
          have hcz28_2 : wr.cell? ⟨gb175, 2, none⟩ = some (.int .i64 a0_2) := (blk_cell BK175.out 2).trans rfl
          have hfz28_0 := blk_frozen BK175.out 0
          have hfz28_1 := blk_frozen BK175.out 1
          have hfz28_2 := blk_frozen BK175.out 2
          try go_wp2
          have n0_ := Aside0.mk (blk_drew BK175.out)
          have n1_ := Aside0.mk (blk_drew BK176.out)
          have n2_ := Aside0.mk (below_drew1 HB.out)
          clear BK175
          clear BK176
          clear HB
          have BK175 := n0_
          have BK176 := n1_
          have HB := n2_
          clear n0_ n1_ n2_
          have p177 : 0 ≤ (x5_2 : Int) := of_decide_eq_true (by first | (with_reducible assumption) | assumption)
          have q177 : x5_2 < (l0_0.length : Int) := of_decide_eq_true (by first | (with_reducible assumption) | assumption)
          obtain ⟨ad177, A177_2, c177_2, e177, hx177_0, hx177_1, hx177_2, hx177_3, hx177_4, hx177_5, hl177_2, hi177_2⟩ := at_T41 HR0_0.out x5_2 p177 q177
          have hw177_5 := hx177_5
          have hw177_4 := hx177_4
          have hw177_3 := hx177_3
          have hw177_2 := hx177_2
          have hw177_1 := hx177_1
          have hw177_0 := hx177_0
          cases e177
          replace hx177_0 := (HB.out.cell (World.block_lt_of_cell? w _ hx177_0)).trans hx177_0
          replace hx177_1 := (HB.out.cell (World.block_lt_of_cell? w _ hx177_1)).trans hx177_1
          replace hx177_2 := (HB.out.cell (World.block_lt_of_cell? w _ hx177_2)).trans hx177_2
          replace hx177_3 := (HB.out.cell (World.block_lt_of_cell? w _ hx177_3)).trans hx177_3
          replace hx177_4 := (HB.out.cell (World.block_lt_of_cell? w _ hx177_4)).trans hx177_4
          replace hx177_5 := (HB.out.cell (World.block_lt_of_cell? w _ hx177_5)).trans hx177_5
          have HR177_2 := Aside0.mk hi177_2
          have HC177_2 := Aside0.mk hl177_2
          clear hi177_2 hl177_2
          replace p177 := eq_true p177
          replace q177 := eq_true q177
          have p178 : 0 ≤ (x5_2 : Int) := of_decide_eq_true (by first | (with_reducible assumption) | assumption)
          have q178 : x5_2 < (l1_0.length : Int) := of_decide_eq_true (by first | (with_reducible assumption) | assumption)
          obtain ⟨ad178, A178_2, c178_2, e178, hx178_0, hx178_1, hx178_2, hx178_3, hx178_4, hx178_5, hl178_2, hi178_2⟩ := at_T41 HR1_0.out x5_2 p178 q178
          have hw178_5 := hx178_5
          have hw178_4 := hx178_4
          have hw178_3 := hx178_3
          have hw178_2 := hx178_2
          have hw178_1 := hx178_1
          have hw178_0 := hx178_0
          cases e178
          replace hx178_0 := (HB.out.cell (World.block_lt_of_cell? w _ hx178_0)).trans hx178_0
          replace hx178_1 := (HB.out.cell (World.block_lt_of_cell? w _ hx178_1)).trans hx178_1
          replace hx178_2 := (HB.out.cell (World.block_lt_of_cell? w _ hx178_2)).trans hx178_2
          replace hx178_3 := (HB.out.cell (World.block_lt_of_cell? w _ hx178_3)).trans hx178_3
          replace hx178_4 := (HB.out.cell (World.block_lt_of_cell? w _ hx178_4)).trans hx178_4
          replace hx178_5 := (HB.out.cell (World.block_lt_of_cell? w _ hx178_5)).trans hx178_5
          have HR178_2 := Aside0.mk hi178_2
          have HC178_2 := Aside0.mk hl178_2
          clear hi178_2 hl178_2
          replace p178 := eq_true p178
          replace q178 := eq_true q178
          refine start_ (n := 12) (S := fun w' => w'.cell? ⟨gb175, 0, none⟩ = some (.slice (some ad177) l0_0.length c0_0) ∧ w'.cell? ⟨gb175, 1, none⟩ = some (.int .i64 a0_1) ∧ w'.cell? ⟨gb175, 2, none⟩ = some (.int .i64 a0_2) ∧ w'.cell? ⟨gb176, 0, none⟩ = some (.slice (some ad178) l1_0.length c1_0) ∧ w'.cell? ⟨gb176, 1, none⟩ = some (.int .i64 a1_1) ∧ w'.cell? ⟨gb176, 2, none⟩ = some (.int .i64 a1_2) ∧ w'.cell? (ad177.add ((x5_2).toNat * 6)) = some (.int .i64 ((rd_T41 l0_0 x5_2).f0)) ∧ w'.cell? ⟨(ad177.add ((x5_2).toNat * 6)).block, (ad177.add ((x5_2).toNat * 6)).off + 1, none⟩ = some (.int .i64 ((rd_T41 l0_0 x5_2).f1)) ∧ w'.cell? ⟨(ad177.add ((x5_2).toNat * 6)).block, (ad177.add ((x5_2).toNat * 6)).off + 2, none⟩ = some (.slice A177_2 ((rd_T41 l0_0 x5_2).f2).length c177_2) ∧ w'.cell? ⟨(ad177.add ((x5_2).toNat * 6)).block, (ad177.add ((x5_2).toNat * 6)).off + 3, none⟩ = some (.string ((rd_T41 l0_0 x5_2).f3)) ∧ w'.cell? ⟨(ad177.add ((x5_2).toNat * 6)).block, (ad177.add ((x5_2).toNat * 6)).off + 4, none⟩ = some (.int .i64 ((rd_T41 l0_0 x5_2).f4)) ∧ w'.cell? ⟨(ad177.add ((x5_2).toNat * 6)).block, (ad177.add ((x5_2).toNat * 6)).off + 5, none⟩ = some (.int .i64 ((rd_T41 l0_0 x5_2).f5)) ∧ w'.cell? (ad178.add ((x5_2).toNat * 6)) = some (.int .i64 ((rd_T41 l1_0 x5_2).f0)) ∧ w'.cell? ⟨(ad178.add ((x5_2).toNat * 6)).block, (ad178.add ((x5_2).toNat * 6)).off + 1, none⟩ = some (.int .i64 ((rd_T41 l1_0 x5_2).f1)) ∧ w'.cell? ⟨(ad178.add ((x5_2).toNat * 6)).block, (ad178.add ((x5_2).toNat * 6)).off + 2, none⟩ = some (.slice A178_2 ((rd_T41 l1_0 x5_2).f2).length c178_2) ∧ w'.cell? ⟨(ad178.add ((x5_2).toNat * 6)).block, (ad178.add ((x5_2).toNat * 6)).off + 3, none⟩ = some (.string ((rd_T41 l1_0 x5_2).f3)) ∧ w'.cell? ⟨(ad178.add ((x5_2).toNat * 6)).block, (ad178.add ((x5_2).toNat * 6)).off + 4, none⟩ = some (.int .i64 ((rd_T41 l1_0 x5_2).f4)) ∧ w'.cell? ⟨(ad178.add ((x5_2).toNat * 6)).block, (ad178.add ((x5_2).toNat * 6)).off + 5, none⟩ = some (.int .i64 ((rd_T41 l1_0 x5_2).f5))) (ds := []) #[false, false, false, false, false, false, false, false, false, false, false, false] (by kernel_rfl) rfl rfl ⟨(blk_cell BK175.out 0).trans rfl, (blk_cell BK175.out 1).trans rfl, (blk_cell BK175.out 2).trans rfl, (blk_cell BK176.out 0).trans rfl, (blk_cell BK176.out 1).trans rfl, (blk_cell BK176.out 2).trans rfl, ((HB.out.cell (World.block_lt_of_cell? w _ hw177_0)).trans hw177_0), ((HB.out.cell (World.block_lt_of_cell? w _ hw177_1)).trans hw177_1), ((HB.out.cell (World.block_lt_of_cell? w _ hw177_2)).trans hw177_2), ((HB.out.cell (World.block_lt_of_cell? w _ hw177_3)).trans hw177_3), ((HB.out.cell (World.block_lt_of_cell? w _ hw177_4)).trans hw177_4), ((HB.out.cell (World.block_lt_of_cell? w _ hw177_5)).trans hw177_5), ((HB.out.cell (World.block_lt_of_cell? w _ hw178_0)).trans hw178_0), ((HB.out.cell (World.block_lt_of_cell? w _ hw178_1)).trans hw178_1), ((HB.out.cell (World.block_lt_of_cell? w _ hw178_2)).trans hw178_2), ((HB.out.cell (World.block_lt_of_cell? w _ hw178_3)).trans hw178_3), ((HB.out.cell (World.block_lt_of_cell? w _ hw178_4)).trans hw178_4), ((HB.out.cell (World.block_lt_of_cell? w _ hw178_5)).trans hw178_5)⟩ (fun hHeld => ?_); refine with_tabW anamnesisref03_Same.tab6 anamnesisref03_Same.bits6 (fun HT_ HW_ => ?_)
          generalize wr.drew = w29 at BK175 BK176 HB HR177_2 HR178_2 hx177_0 hx177_1 hx177_2 hx177_3 hx177_4 hx177_5 hx178_0 hx178_1 hx178_2 hx178_3 hx178_4 hx178_5 hHeld ⊢
          refine pure1 (i := 0) (N := some 34) #[true, false, false, false, false, false, false, false, false, false, false, false] HT_.out ?_
          refine pure1 (i := 2) (N := some 36) #[true, false, true, false, false, false, false, false, false, false, false, false] HT_.out ?_
          refine pure1 (i := 5) (N := some 39) #[true, false, true, false, false, true, false, false, false, false, false, false] HT_.out ?_
          refine pure1 (i := 7) (N := some 41) #[true, false, true, false, false, true, false, true, false, false, false, false] HT_.out ?_
          refine take1 (i := 1) (N := some 35) #[true, true, true, false, false, true, false, true, false, false, false, false] HT_.out HW_.out hHeld ?_
          refine pure1 (i := 3) (N := some 37) #[true, true, true, true, false, true, false, true, false, false, false, false] HT_.out ?_
          refine take1 (i := 4) (N := some 38) #[true, true, true, true, true, true, false, true, false, false, false, false] HT_.out HW_.out hHeld ?_
          refine take1 (i := 6) (N := some 40) #[true, true, true, true, true, true, true, true, false, false, false, false] HT_.out HW_.out hHeld ?_
          refine pure1 (i := 8) (N := some 42) #[true, true, true, true, true, true, true, true, true, false, false, false] HT_.out ?_
          refine take1 (i := 9) (N := some 43) #[true, true, true, true, true, true, true, true, true, true, false, false] HT_.out HW_.out hHeld ?_
          refine one_ (i := 10) (N := some 44) #[true, true, true, true, true, true, true, true, true, true, true, false] rfl rfl (one_of HT_.out (by kernel_rfl)) (by decide) (fun K hK => ?_)
          refine goes_ Try.func36 (by kernel_rfl) rfl #[.agg #[.int .i64 ((rd_T41 l0_0 x5_2).f0), .int .i64 ((rd_T41 l0_0 x5_2).f1), .slice A177_2 ((rd_T41 l0_0 x5_2).f2).length c177_2, .string ((rd_T41 l0_0 x5_2).f3), .int .i64 ((rd_T41 l0_0 x5_2).f4), .int .i64 ((rd_T41 l0_0 x5_2).f5)], .agg #[.int .i64 ((rd_T41 l1_0 x5_2).f0), .int .i64 ((rd_T41 l1_0 x5_2).f1), .slice A178_2 ((rd_T41 l1_0 x5_2).f2).length c178_2, .string ((rd_T41 l1_0 x5_2).f3), .int .i64 ((rd_T41 l1_0 x5_2).f4), .int .i64 ((rd_T41 l1_0 x5_2).f5)]] (by rfl) rfl rfl (by (try simp only [List.map_toArray, List.map_cons, List.map_nil]); first | done | rfl | (simp only [List.length_drop, List.length_take]; rfl)) ?_
          with_reducible refine (anamnesisref03_One.calls k2 ((rd_T41 l0_0 x5_2).f0) ((rd_T41 l0_0 x5_2).f1) _ _ ((rd_T41 l0_0 x5_2).f2) ((rd_T41 l0_0 x5_2).f3) ((rd_T41 l0_0 x5_2).f4) ((rd_T41 l0_0 x5_2).f5) ((rd_T41 l1_0 x5_2).f0) ((rd_T41 l1_0 x5_2).f1) _ _ ((rd_T41 l1_0 x5_2).f2) ((rd_T41 l1_0 x5_2).f3) ((rd_T41 l1_0 x5_2).f4) ((rd_T41 l1_0 x5_2).f5) false _ ?side1 ?side2 ?side3 ?side4 A21.out).mono ?_
          (case side1 => repeat (first | exact (Kd.C_below HR177_2.out HB.out) | (with_reducible refine Kd.C_alloc ?_ _) | (with_reducible refine Kd.C_drewN ?_ _) | (with_reducible refine Kd.C_drew ?_)))
          (case side2 => exact HC177_2.out)
          (case side3 => repeat (first | exact (Kd.C_below HR178_2.out HB.out) | (with_reducible refine Kd.C_alloc ?_ _) | (with_reducible refine Kd.C_drewN ?_ _) | (with_reducible refine Kd.C_drew ?_)))
          (case side4 => exact HC178_2.out)
          rintro e w30 ⟨rfl, hb⟩
          refine ⟨_, rfl, ?_⟩
          have n0_ := Aside0.mk (blk_below (g := gb175) (o := .cells #[.slice (some ad177) l0_0.length c0_0, .int .i64 a0_1, .int .i64 a0_2] 24 (0, 0)) (by (with_reducible repeat (first | refine blk_drewN ?_ _ | refine blk_drew ?_ | refine blk_alloc ?_ _)); exact BK175.out) hb)
          have n1_ := Aside0.mk (blk_below (g := gb176) (o := .cells #[.slice (some ad178) l1_0.length c1_0, .int .i64 a1_1, .int .i64 a1_2] 24 (0, 0)) (by (with_reducible repeat (first | refine blk_drewN ?_ _ | refine blk_drew ?_ | refine blk_alloc ?_ _)); exact BK176.out) hb)
          have n2_ := Aside0.mk (below_step (by repeat (first | (with_reducible first | exact HB.out | apply below_alloc | apply pw_below_drewN | apply below_drew1 | refine below_set ?_ GE175.out | refine below_set ?_ GE176.out) | exact HB.out)) hb)
          clear BK175
          clear BK176
          clear HB
          have BK175 := n0_
          have BK176 := n1_
          have HB := n2_
          clear n0_ n1_ n2_
          (try clear hb)
          (try clear hb2)
          (try clear hk)
          (try clear hi)
          refine hK.out _ _ ⟨(blk_cell BK175.out 0).trans rfl, (blk_cell BK175.out 1).trans rfl, (blk_cell BK175.out 2).trans rfl, (blk_cell BK176.out 0).trans rfl, (blk_cell BK176.out 1).trans rfl, (blk_cell BK176.out 2).trans rfl, ((HB.out.cell (World.block_lt_of_cell? w _ hw177_0)).trans hw177_0), ((HB.out.cell (World.block_lt_of_cell? w _ hw177_1)).trans hw177_1), ((HB.out.cell (World.block_lt_of_cell? w _ hw177_2)).trans hw177_2), ((HB.out.cell (World.block_lt_of_cell? w _ hw177_3)).trans hw177_3), ((HB.out.cell (World.block_lt_of_cell? w _ hw177_4)).trans hw177_4), ((HB.out.cell (World.block_lt_of_cell? w _ hw177_5)).trans hw177_5), ((HB.out.cell (World.block_lt_of_cell? w _ hw178_0)).trans hw178_0), ((HB.out.cell (World.block_lt_of_cell? w _ hw178_1)).trans hw178_1), ((HB.out.cell (World.block_lt_of_cell? w _ hw178_2)).trans hw178_2), ((HB.out.cell (World.block_lt_of_cell? w _ hw178_3)).trans hw178_3), ((HB.out.cell (World.block_lt_of_cell? w _ hw178_4)).trans hw178_4), ((HB.out.cell (World.block_lt_of_cell? w _ hw178_5)).trans hw178_5)⟩ (fun hHeld => ?_)
          clear hK K
          refine norm_ (a' := ?_) ?_ ?_
          rotate_left
          ·show Act.put _ (some 44) _ = _
           simp only [Act.put, List.setIfInBounds_toArray, List.set_cons_zero, List.set_cons_succ, i64_w, i32_w]
           rfl
          refine pure1 (i := 11) (N := some 45) #[true, true, true, true, true, true, true, true, true, true, true, true] HT_.out ?_
          refine done_ (done_of HT_.out (by kernel_rfl)) ?_
          try go_wp2
          go_ret
          exact ⟨by first | rfl | (simp [errW_none, errW_some] <;> rfl) | (simp [*, errW_none, errW_some] <;> rfl), by repeat (first | (with_reducible first | exact HB.out | apply below_alloc | apply pw_below_drewN | apply below_drew1 | refine below_set ?_ GE175.out | refine below_set ?_ GE176.out) | exact HB.out)⟩
        ·rw [if_neg c20] at H
         exact absurd H (by simp)
       ·rw [if_neg c19] at H
        exact absurd H (by simp)
      ·rw [if_neg c18] at H
       have c18b0 : decide (x5_2 < (l0_0.length : Int)) = false := decide_eq_false c18
       clear c18
       obtain rfl := Option.some.inj H
       have hnb31 := NB175_176.out
       have hnc31 := NB176_175.out
       have hcz32_0 : wr.cell? ⟨gb175, 0, none⟩ = some (.slice A0_0 l0_0.length c0_0) := (blk_cell BK175.out 0).trans rfl
       have hcz32_1 : wr.cell? ⟨gb175, 1, none⟩ = some (.int .i64 a0_1) := (blk_cell BK175.out 1).trans rfl
       have hcz32_2 : wr.cell? ⟨gb175, 2, none⟩ = some (.int .i64 a0_2) := (blk_cell BK175.out 2).trans rfl
       have hfz32_0 := blk_frozen BK175.out 0
       have hfz32_1 := blk_frozen BK175.out 1
       have hfz32_2 := blk_frozen BK175.out 2
       go_wp2
       go_ret
       exact ⟨by first | rfl | (simp [errW_none, errW_some] <;> rfl) | (simp [*, errW_none, errW_some] <;> rfl), by repeat (first | (with_reducible first | exact HB.out | apply below_alloc | apply pw_below_drewN | apply below_drew1 | refine below_set ?_ GE175.out | refine below_set ?_ GE176.out) | exact HB.out)⟩
def anamnesisref07_May.f (a0 : Int) : Option (Bool) := if a0 ≥ 0 then (some (decide (a0 < 4294967296))) else (some false)
set_option maxHeartbeats 8000000 in
set_option maxRecDepth 100000 in
theorem anamnesisref07_May.calls (a0 : Int) (r : Bool) (w : World) (h : anamnesisref07_May.f a0 = some r) :
  Calls Try.prog 40 #[.int .i64 a0] w fun e w' => e = .returned (.bool r) ∧ Drawn0 w w' := by
 have H : (if a0 ≥ 0 then (some (decide (a0 < 4294967296))) else (some false)) = some r := h
 clear h
 by_cases c2 : a0 ≥ 0
 ·rw [if_pos c2] at H
  have c2b0 : decide (0 ≤ a0) = true := decide_eq_true c2
  clear c2
  obtain rfl := Option.some.inj H
  go_enter Try.func40, Try.ntmps40
  go_wp2
  go_ret
  exact ⟨by first | rfl | (simp; done) | (simp [*]; done), by repeat (first | exact Drawn0.refl _ | apply Drawn0.step)⟩
 ·rw [if_neg c2] at H
  have c2b0 : decide (0 ≤ a0) = false := decide_eq_false c2
  clear c2
  obtain rfl := Option.some.inj H
  go_enter Try.func40, Try.ntmps40
  go_wp2
  go_ret
  exact ⟨by first | rfl | (simp; done) | (simp [*]; done), by repeat (first | exact Drawn0.refl _ | apply Drawn0.step)⟩
def anamnesisref07_Bytes.f (a0 : Int) : Option (ByteArray) := (anamnesisref07_May.f a0).bind fun t180 => (if t180 = true then (some (strOfNums (([(Int.tmod a0 256) % 256, (Int.tmod (wrap64 (Int.tdiv a0 256)) 256) % 256, (Int.tmod (wrap64 (Int.tdiv a0 65536)) 256) % 256, (wrap64 (Int.tdiv a0 16777216)) % 256] : List Int)))) else (some (⟨#[]⟩ : ByteArray)))
set_option maxHeartbeats 8000000 in
set_option maxRecDepth 100000 in
theorem anamnesisref07_Bytes.calls (a0 : Int) (r : ByteArray) (w : World) (h : anamnesisref07_Bytes.f a0 = some r) :
  Calls Try.prog 18 #[.int .i64 a0] w fun e w' => e = .returned (.string r) ∧ Below w.heap.size w w' := by
 have HB := Aside0.mk (Below.refl w.heap.size w)
 have H : ((anamnesisref07_May.f a0).bind fun t180 => (if t180 = true then (some (strOfNums (([(Int.tmod a0 256) % 256, (Int.tmod (wrap64 (Int.tdiv a0 256)) 256) % 256, (Int.tmod (wrap64 (Int.tdiv a0 65536)) 256) % 256, (wrap64 (Int.tdiv a0 16777216)) % 256] : List Int)))) else (some (⟨#[]⟩ : ByteArray)))) = some r := h
 clear h
 replace H := Option.bind_eq_some_iff.mp H
 obtain ⟨t180, A20, H⟩ := H
 replace H : (if t180 = true then (some (strOfNums (([(Int.tmod a0 256) % 256, (Int.tmod (wrap64 (Int.tdiv a0 256)) 256) % 256, (Int.tmod (wrap64 (Int.tdiv a0 65536)) 256) % 256, (wrap64 (Int.tdiv a0 16777216)) % 256] : List Int)))) else (some (⟨#[]⟩ : ByteArray))) = some r := H
 have A2 := Aside0.mk A20
 clear A20
 by_cases c3 : t180 = true
 ·subst c3
  have H1 : (some (strOfNums (([(Int.tmod a0 256) % 256, (Int.tmod (wrap64 (Int.tdiv a0 256)) 256) % 256, (Int.tmod (wrap64 (Int.tdiv a0 65536)) 256) % 256, (wrap64 (Int.tdiv a0 16777216)) % 256] : List Int)))) = some r := by rw [if_pos rfl] at H; exact H
  clear H
  have H := H1
  clear H1
  obtain ⟨y181, hy181⟩ : ∃ y_ : List Int, y_ = (([(Int.tmod a0 256) % 256, (Int.tmod (wrap64 (Int.tdiv a0 256)) 256) % 256, (Int.tmod (wrap64 (Int.tdiv a0 65536)) 256) % 256, (wrap64 (Int.tdiv a0 16777216)) % 256] : List Int)) := ⟨_, rfl⟩
  replace H : (some (strOfNums y181)) = some r := by first | (rw [hy181]; with_reducible exact H) | (have H2_ := (Option.bind_some _ _).symm.trans H; rw [hy181]; with_reducible exact H2_) | (have H2_ := (Option.bind_some _ _).symm.trans H; with_reducible exact H2_) | with_reducible exact H | (rw [hy181]; exact H) | exact H
  have Ny181 := Aside0.mk hy181
  clear hy181
  obtain rfl := Option.some.inj H
  go_enter Try.func18, Try.ntmps18
  go_wp2_with (first | ((with_reducible refine gate_callee (f := 40) rfl ?_); refine goesL_ (some 4) rfl rfl Try.func40 (by kernel_rfl) rfl #[.int .i64 a0] rfl (by (try simp only [List.map_toArray, List.map_cons, List.map_nil]); first | done | rfl | (simp only [List.length_drop, List.length_take]; rfl)) ?_; (with_reducible refine (anamnesisref07_May.calls a0 true _ A2.out).mono ?_); rintro e w' ⟨rfl, ⟨nd, rfl⟩⟩; refine ⟨_, rfl, ?_⟩) | ((with_reducible refine gate_dst (N := 20) rfl ?_); refine Kd.R_lit (Kd.int .u8) _ 5 ?hg (N := 20) ?hd (xs := ([(Int.tmod a0 256) % 256, (Int.tmod (wrap64 (Int.tdiv a0 256)) 256) % 256, (Int.tmod (wrap64 (Int.tdiv a0 65536)) 256) % 256, (wrap64 (Int.tdiv a0 16777216)) % 256] : List Int)) (inner := [.int .u8 ((Int.tmod a0 256) % 256), .int .u8 ((Int.tmod (wrap64 (Int.tdiv a0 256)) 256) % 256), .int .u8 ((Int.tmod (wrap64 (Int.tdiv a0 65536)) 256) % 256), .int .u8 ((wrap64 (Int.tdiv a0 16777216)) % 256)]) (ok := fun _ => True) (okp := fun _ => True) ?hr ?hp (fun _ hk => hk) trivial (Below.refl _ _) (Nat.le_refl _) (by simp) ?_; (case hd => rfl); (case hg => rfl); (case hr => first | (go_simp; done) | (go_simp; rfl)); (case hp => exact (Reps.one (show Kd.M (Kd.int .u8) _ _ _ ((Int.tmod a0 256) % 256) [.int .u8 ((Int.tmod a0 256) % 256)] from rfl) (Reps.one (show Kd.M (Kd.int .u8) _ _ _ ((Int.tmod (wrap64 (Int.tdiv a0 256)) 256) % 256) [.int .u8 ((Int.tmod (wrap64 (Int.tdiv a0 256)) 256) % 256)] from rfl) (Reps.one (show Kd.M (Kd.int .u8) _ _ _ ((Int.tmod (wrap64 (Int.tdiv a0 65536)) 256) % 256) [.int .u8 ((Int.tmod (wrap64 (Int.tdiv a0 65536)) 256) % 256)] from rfl) (Reps.one (show Kd.M (Kd.int .u8) _ _ _ ((wrap64 (Int.tdiv a0 16777216)) % 256) [.int .u8 ((wrap64 (Int.tdiv a0 16777216)) % 256)] from rfl) (Reps.none _ _)))))); intro v182 w4 ho5 hb hg_ hnew_; clear hg_ hnew_; (first | rw [← Ny181.out] at ho5 | (simp only [Int.reduceToNat] at ho5; rw [← Ny181.out] at ho5)); have n0_ := Aside0.mk (Kd.R_lower ho5 (below_size (by repeat (first | (with_reducible first | exact HB.out | apply below_alloc | apply pw_below_drewN | apply below_drew1) | exact HB.out)))); have n1_ := Aside0.mk (below_step (by repeat (first | (with_reducible first | exact HB.out | apply below_alloc | apply pw_below_drewN | apply below_drew1) | exact HB.out)) hb); clear HB; have HO183 := n0_; have HB := n1_; clear n0_ n1_; clear hb ho5; have hcv6 := own_string (P := Try.prog) Try.underlying36 Try.underlying5 Try.underlying9 (Kd.own_of_R HO183.out)))
  go_ret
  exact ⟨by first | rfl | (simp [errW_none, errW_some] <;> rfl) | (simp [*, errW_none, errW_some] <;> rfl), by repeat (first | (with_reducible first | exact HB.out | apply below_alloc | apply pw_below_drewN | apply below_drew1) | exact HB.out)⟩
 ·replace c3 := Bool.eq_false_iff.mpr c3
  subst c3
  have H1 : (some (⟨#[]⟩ : ByteArray)) = some r := by rw [if_neg (show ¬ (false = true) by decide)] at H; exact H
  clear H
  have H := H1
  clear H1
  obtain rfl := Option.some.inj H
  go_enter Try.func18, Try.ntmps18
  go_wp2_with (first | ((with_reducible refine gate_callee (f := 40) rfl ?_); refine goesL_ (some 4) rfl rfl Try.func40 (by kernel_rfl) rfl #[.int .i64 a0] rfl (by (try simp only [List.map_toArray, List.map_cons, List.map_nil]); first | done | rfl | (simp only [List.length_drop, List.length_take]; rfl)) ?_; (with_reducible refine (anamnesisref07_May.calls a0 false _ A2.out).mono ?_); rintro e w' ⟨rfl, ⟨nd, rfl⟩⟩; refine ⟨_, rfl, ?_⟩))
  go_ret
  exact ⟨by first | rfl | (simp [errW_none, errW_some] <;> rfl) | (simp [*, errW_none, errW_some] <;> rfl), by repeat (first | (with_reducible first | exact HB.out | apply below_alloc | apply pw_below_drewN | apply below_drew1) | exact HB.out)⟩
def anamnesisref07_bit.f (a0 : Int) (a1 : Int) : Option (Int) := if (Int.tmod a0 2) = a1 then (some (wrap64 (Int.tdiv a0 2))) else (some (Go.bits .xor .i64 (wrap64 (Int.tdiv a0 2)) 3988292384))
set_option maxHeartbeats 8000000 in
set_option maxRecDepth 100000 in
theorem anamnesisref07_bit.calls (a0 : Int) (a1 : Int) (r : Int) (w : World) (h : anamnesisref07_bit.f a0 a1 = some r) :
  Calls Try.prog 59 #[.int .i64 a0, .int .i64 a1] w fun e w' => e = .returned (.int .i64 r) ∧ Drawn0 w w' := by
 have H : (if (Int.tmod a0 2) = a1 then (some (wrap64 (Int.tdiv a0 2))) else (some (Go.bits .xor .i64 (wrap64 (Int.tdiv a0 2)) 3988292384))) = some r := h
 clear h
 by_cases c3 : (Int.tmod a0 2) = a1
 ·rw [if_pos c3] at H
  have c3b0 : ((Int.tmod a0 2) == a1) = true := beq_iff_eq.mpr c3
  have c3b1 : ((Int.tmod a0 2) != a1) = false := bne_eq_false_iff_eq.mpr c3
  clear c3
  obtain rfl := Option.some.inj H
  go_enter Try.func59, Try.ntmps59
  go_wp2
  go_ret
  exact ⟨by first | rfl | (simp; done) | (simp [*]; done), by repeat (first | exact Drawn0.refl _ | apply Drawn0.step)⟩
 ·rw [if_neg c3] at H
  have c3b0 : ((Int.tmod a0 2) == a1) = false := beq_eq_false_iff_ne.mpr c3
  have c3b1 : ((Int.tmod a0 2) != a1) = true := bne_iff_ne.mpr c3
  obtain rfl := Option.some.inj H
  go_enter Try.func59, Try.ntmps59
  go_wp2
  go_ret
  exact ⟨by first | rfl | (simp; done) | (simp [*]; done), by repeat (first | exact Drawn0.refl _ | apply Drawn0.step)⟩
end Go.Proofs.Ytednpcfhefibdaa.PSnap
