import Derived.Test.YtlmejfcfdhinlaaPMovex0
import Derived.Test.YtlmejfcfdhinlaaPMovex6
namespace Go.Proofs.Ytlmejfcfdhinlaa.PMove
open Go.RowKit Go.Proofs.YtlmejfcfdhinlaaW.PrintWords Go.Proofs.YtlmejfcfdhinlaaW.PrintLast Go.Proofs.YtlmejfcfdhinlaaW.PrintMore
attribute [local go_sem] max2_int min2_int max_two min_two max_three min_three max_four min_four
set_option linter.unusedVariables false
set_option linter.unusedSimpArgs false
attribute [local go_sem] setCell_drewN
mutual
def anamnesisref03_Same.j0 : Nat → Bool → List (S44) → Int → Int → List (S44) → Int → Int → Option (Bool)
 | 0, _, _, _, _, _, _, _ => none
 | k + 1, x26, x173000, x173001, x173002, x174000, x174001, x174002 => if x26 = true then (some false) else (anamnesisref03_Same.l0 k 0 x173000 x173001 x173002 x174000 x174001 x174002)
def anamnesisref03_Same.l0 : Nat → Int → List (S44) → Int → Int → List (S44) → Int → Int → Option (Bool)
 | 0, _, _, _, _, _, _, _ => none
 | k + 1, x5, x173000, x173001, x173002, x174000, x174001, x174002 => if x5 < (x173000.length : Int) then (if 0 ≤ x5 then (if x5 < (x174000.length : Int) then ((anamnesisref03_One.f k ((rd_T44 x173000 x5).f0) ((rd_T44 x173000 x5).f1) ((rd_T44 x173000 x5).f2) ((rd_T44 x173000 x5).f3) ((rd_T44 x173000 x5).f4) ((rd_T44 x173000 x5).f5) ((rd_T44 x174000 x5).f0) ((rd_T44 x174000 x5).f1) ((rd_T44 x174000 x5).f2) ((rd_T44 x174000 x5).f3) ((rd_T44 x174000 x5).f4) ((rd_T44 x174000 x5).f5)).bind fun t176 => (if t176 = true then (anamnesisref03_Same.l0 k (wrap64 (x5 + 1)) x173000 x173001 x173002 x174000 x174001 x174002) else (some false))) else (none)) else (none)) else (some true)
end
def anamnesisref03_Same.f (k : Nat) (l0_0 : List (S44)) (a0_1 : Int) (a0_2 : Int) (l1_0 : List (S44)) (a1_1 : Int) (a1_2 : Int) : Option (Bool) := if a0_1 = a1_1 then (if a0_2 = a1_2 then (anamnesisref03_Same.j0 k ((l0_0.length : Int) != (l1_0.length : Int)) l0_0 a0_1 a0_2 l1_0 a1_1 a1_2) else (anamnesisref03_Same.j0 k true l0_0 a0_1 a0_2 l1_0 a1_1 a1_2)) else (anamnesisref03_Same.j0 k true l0_0 a0_1 a0_2 l1_0 a1_1 a1_2)
theorem anamnesisref03_Same.mono_l : ∀ k, (∀ y0 y1 y2 y3 y4 y5 y6, LeO (anamnesisref03_Same.j0 k y0 y1 y2 y3 y4 y5 y6) (anamnesisref03_Same.j0 (k + 1) y0 y1 y2 y3 y4 y5 y6)) ∧ (∀ y0 y1 y2 y3 y4 y5 y6, LeO (anamnesisref03_Same.l0 k y0 y1 y2 y3 y4 y5 y6) (anamnesisref03_Same.l0 (k + 1) y0 y1 y2 y3 y4 y5 y6))
 | 0 => ⟨fun _ _ _ _ _ _ _ r h => by simp [anamnesisref03_Same.j0] at h, fun _ _ _ _ _ _ _ r h => by simp [anamnesisref03_Same.l0] at h⟩
 | k + 1 => by
  obtain ⟨ih0, ih1⟩ := anamnesisref03_Same.mono_l k
  refine ⟨?_, ?_⟩
  ·intro y0 y1 y2 y3 y4 y5 y6
   unfold anamnesisref03_Same.j0
   repeat' first
   | (with_reducible exact ih0 _ _ _ _ _ _ _)
   | (with_reducible exact ih1 _ _ _ _ _ _ _)
   | (with_reducible exact anamnesisref03_One.mono _ _ _ _ _ _ _ _ _ _ _ _ _)
   | (with_reducible exact LeO.refl _)
   | (with_reducible exact LeO.none _)
   | (with_reducible refine LeO.ite ?_ ?_)
   | (with_reducible refine LeO.bind ?_ (fun _ => ?_))
   | exact ih0 _ _ _ _ _ _ _
   | exact ih1 _ _ _ _ _ _ _
   | exact anamnesisref03_One.mono _ _ _ _ _ _ _ _ _ _ _ _ _
   | exact LeO.none _
   | refine LeO.ite ?_ ?_
   | refine LeO.bind ?_ (fun _ => ?_)
  ·intro y0 y1 y2 y3 y4 y5 y6
   unfold anamnesisref03_Same.l0
   repeat' first
   | (with_reducible exact ih0 _ _ _ _ _ _ _)
   | (with_reducible exact ih1 _ _ _ _ _ _ _)
   | (with_reducible exact anamnesisref03_One.mono _ _ _ _ _ _ _ _ _ _ _ _ _)
   | (with_reducible exact LeO.refl _)
   | (with_reducible exact LeO.none _)
   | (with_reducible refine LeO.ite ?_ ?_)
   | (with_reducible refine LeO.bind ?_ (fun _ => ?_))
   | exact ih0 _ _ _ _ _ _ _
   | exact ih1 _ _ _ _ _ _ _
   | exact anamnesisref03_One.mono _ _ _ _ _ _ _ _ _ _ _ _ _
   | exact LeO.none _
   | refine LeO.ite ?_ ?_
   | refine LeO.bind ?_ (fun _ => ?_)
theorem anamnesisref03_Same.mono : ∀ a0 a1 a2 a3 a4 a5 k, LeO (anamnesisref03_Same.f k a0 a1 a2 a3 a4 a5) (anamnesisref03_Same.f (k + 1) a0 a1 a2 a3 a4 a5) := by
 intro a0 a1 a2 a3 a4 a5 k
 obtain ⟨ih0, ih1⟩ := anamnesisref03_Same.mono_l k
 unfold anamnesisref03_Same.f
 repeat' first
   | (with_reducible exact ih0 _ _ _ _ _ _ _)
   | (with_reducible exact ih1 _ _ _ _ _ _ _)
   | (with_reducible exact anamnesisref03_One.mono _ _ _ _ _ _ _ _ _ _ _ _ _)
   | (with_reducible exact LeO.refl _)
   | (with_reducible exact LeO.none _)
   | (with_reducible refine LeO.ite ?_ ?_)
   | (with_reducible refine LeO.bind ?_ (fun _ => ?_))
   | exact ih0 _ _ _ _ _ _ _
   | exact ih1 _ _ _ _ _ _ _
   | exact anamnesisref03_One.mono _ _ _ _ _ _ _ _ _ _ _ _ _
   | exact LeO.none _
   | refine LeO.ite ?_ ?_
   | refine LeO.bind ?_ (fun _ => ?_)
def anamnesisref03_Same.T6 : Bool × List (List Nat × List Nat) := (true, [([], []), ([0], [0]), ([], []), ([1, 2], [1, 2]), ([3], [3]), ([], []), ([5], [5]), ([], []), ([6, 7], [6, 7]), ([8], [8]), ([4, 9], [4, 9]), ([10], [10])])
def anamnesisref03_Same.B6 : List Nat := [0, 1, 0, 7, 15, 0, 32, 0, 224, 480, 1023, 2047]
theorem anamnesisref03_Same.tab6 : rtab .any (opsOf Try.f17 6) = anamnesisref03_Same.T6 := by kernel_rfl
theorem anamnesisref03_Same.bits6 : waitsOk anamnesisref03_Same.T6.2 anamnesisref03_Same.B6 = true := by kernel_rfl
set_option maxHeartbeats 8000000 in
set_option maxRecDepth 100000 in
theorem anamnesisref03_Same.calls (k : Nat) (A0_0 : Option Addr) (c0_0 : Nat) (l0_0 : List (S44)) (a0_1 : Int) (a0_2 : Int) (A1_0 : Option Addr) (c1_0 : Nat) (l1_0 : List (S44)) (a1_1 : Int) (a1_2 : Int) (r : Bool) (w : World) (hr0_0 : Kd.C k44 w A0_0 l0_0.length l0_0) (hc0_0 : l0_0.length ≤ c0_0) (hr1_0 : Kd.C k44 w A1_0 l1_0.length l1_0) (hc1_0 : l1_0.length ≤ c1_0) (h : anamnesisref03_Same.f k l0_0 a0_1 a0_2 l1_0 a1_1 a1_2 = some r) :
  Calls Try.prog 17 #[.agg #[.slice A0_0 l0_0.length c0_0, .int .i64 a0_1, .int .i64 a0_2], .agg #[.slice A1_0 l1_0.length c1_0, .int .i64 a1_1, .int .i64 a1_2]] w fun e w' => e = .returned (.bool r) ∧ Below w.heap.size w w' := by
 have hu24 := Try.underlying24
 have hu44 := Try.underlying44
 have HR0_0 := Aside0.mk hr0_0
 have HC0_0 := Aside0.mk hc0_0
 clear hr0_0 hc0_0
 have HR1_0 := Aside0.mk hr1_0
 have HC1_0 := Aside0.mk hc1_0
 clear hr1_0 hc1_0
 have HB := Aside0.mk (Below.refl w.heap.size w)
 have H : (if a0_1 = a1_1 then (if a0_2 = a1_2 then (anamnesisref03_Same.j0 k ((l0_0.length : Int) != (l1_0.length : Int)) l0_0 a0_1 a0_2 l1_0 a1_1 a1_2) else (anamnesisref03_Same.j0 k true l0_0 a0_1 a0_2 l1_0 a1_1 a1_2)) else (anamnesisref03_Same.j0 k true l0_0 a0_1 a0_2 l1_0 a1_1 a1_2)) = some r := h
 clear h
 have HC3 := Aside0.mk H
 clear H
 go_enter Try.func17, Try.ntmps17
 go_upto_region 1 with (first | ((with_reducible refine gate_dst (N := 2) rfl ?_); (try (refine gate_guard (by rfl) ?_; dsimp only)); refine box_event ?hg (N := 2) ?hd (cs := #[.slice A0_0 l0_0.length c0_0, .int .i64 a0_1, .int .i64 a0_2]) (t := 24) ?hr ?_; (case hd => rfl); (case hg => rfl); (case hr => first | (go_simp; done) | (go_simp; rfl)); intro gb172 hg w4 hbox hb; have n0_ := Aside0.mk (below_step (by repeat (first | (with_reducible first | exact HB.out | apply below_alloc | apply pw_below_drewN | apply below_drew1) | exact HB.out)) hb); have n1_ := Aside0.mk (hbox); have n2_ := Aside0.mk ((by rw [hg]; exact (below_size (by repeat (first | (with_reducible first | exact HB.out | apply below_alloc | apply pw_below_drewN | apply below_drew1) | exact HB.out))) : w.heap.size ≤ gb172)); have n3_ := Aside0.mk ((by rw [hg]; exact (below_size (by repeat (first | (with_reducible first | exact HB.out | apply below_alloc | apply pw_below_drewN | apply below_drew1) | exact HB.out))) : w.heap.size ≤ gb172)); clear HB; have HB := n0_; have BK172 := n1_; have GW172 := n2_; have GE172 := n3_; clear n0_ n1_ n2_ n3_; clear hb hbox hg) | ((with_reducible refine gate_dst (N := 3) rfl ?_); (try (refine gate_guard (by rfl) ?_; dsimp only)); refine box_event ?hg (N := 3) ?hd (cs := #[.slice A1_0 l1_0.length c1_0, .int .i64 a1_1, .int .i64 a1_2]) (t := 24) ?hr ?_; (case hd => rfl); (case hg => rfl); (case hr => first | (go_simp; done) | (go_simp; rfl)); intro gb173 hg w5 hbox hb; have n0_ := Aside0.mk (blk_below (g := gb172) (o := .cells #[.slice A0_0 l0_0.length c0_0, .int .i64 a0_1, .int .i64 a0_2] 24 (0, 0)) (by (with_reducible repeat (first | refine blk_drewN ?_ _ | refine blk_drew ?_ | refine blk_alloc ?_ _)); exact BK172.out) hb); have n1_ := Aside0.mk (below_step (by repeat (first | (with_reducible first | exact HB.out | apply below_alloc | apply pw_below_drewN | apply below_drew1 | refine below_set ?_ GE172.out) | exact HB.out)) hb); have n2_ := Aside0.mk (hbox); have n3_ := Aside0.mk ((by rw [hg]; exact (below_size (by repeat (first | (with_reducible first | exact HB.out | apply below_alloc | apply pw_below_drewN | apply below_drew1 | refine below_set ?_ GE172.out) | exact HB.out))) : w.heap.size ≤ gb173)); have n4_ := Aside0.mk ((by rw [hg]; exact (below_size (by repeat (first | (with_reducible first | exact HB.out | apply below_alloc | apply pw_below_drewN | apply below_drew1 | refine below_set ?_ GE172.out) | exact HB.out))) : w.heap.size ≤ gb173)); have n5_ := Aside0.mk ((by rw [hg]; exact Nat.ne_of_lt (blk_lt (g := gb172) (o := .cells #[.slice A0_0 l0_0.length c0_0, .int .i64 a0_1, .int .i64 a0_2] 24 (0, 0)) (by (with_reducible repeat (first | refine blk_drewN ?_ _ | refine blk_drew ?_ | refine blk_alloc ?_ _)); exact BK172.out)) : gb172 ≠ gb173)); have n6_ := Aside0.mk ((by rw [hg]; exact Nat.ne_of_gt (blk_lt (g := gb172) (o := .cells #[.slice A0_0 l0_0.length c0_0, .int .i64 a0_1, .int .i64 a0_2] 24 (0, 0)) (by (with_reducible repeat (first | refine blk_drewN ?_ _ | refine blk_drew ?_ | refine blk_alloc ?_ _)); exact BK172.out)) : gb173 ≠ gb172)); clear BK172; clear HB; have BK172 := n0_; have HB := n1_; have BK173 := n2_; have GW173 := n3_; have GE173 := n4_; have NB172_173 := n5_; have NB173_172 := n6_; clear n0_ n1_ n2_ n3_ n4_ n5_ n6_; clear hb hbox hg))
 (try simp only [Act.put, List.setIfInBounds_toArray, List.set_cons_zero, List.set_cons_succ])
 go_cut [26] (fun v26 wc => ∃ (kq : Nat) (x26_2 : Bool), v26 = .bool x26_2 ∧ Aside0 (anamnesisref03_Same.j0 kq x26_2 l0_0 a0_1 a0_2 l1_0 a1_1 a1_2 = some r) ∧ Aside0 (kq ≤ k) ∧ Aside0 (wc.heap[gb172]? = some (.cells #[(.slice A0_0 l0_0.length c0_0), .int .i64 a0_1, .int .i64 a0_2] 24 (0, 0))) ∧ Aside0 (wc.heap[gb173]? = some (.cells #[(.slice A1_0 l1_0.length c1_0), .int .i64 a1_1, .int .i64 a1_2] 24 (0, 0))) ∧ Aside0 (Below w.heap.size w wc))
 case first =>
  have H := HC3.out
  clear HC3
  by_cases c6 : a0_1 = a1_1
  ·rw [if_pos c6] at H
   have c6b0 : (a0_1 == a1_1) = true := beq_iff_eq.mpr c6
   have c6b1 : (a0_1 != a1_1) = false := bne_eq_false_iff_eq.mpr c6
   clear c6
   (first | rw [c6b0] | (simp only [i64_w, i32_w]; rw [c6b0]) | skip)
   by_cases c7 : a0_2 = a1_2
   ·rw [if_pos c7] at H
    have c7b0 : (a0_2 == a1_2) = true := beq_iff_eq.mpr c7
    have c7b1 : (a0_2 != a1_2) = false := bne_eq_false_iff_eq.mpr c7
    clear c7
    have H' := Aside0.mk H
    clear H
    have hnb8 := NB172_173.out
    have hnc8 := NB173_172.out
    have hcz9_0 : w5.cell? ⟨gb172, 0, none⟩ = some (.slice A0_0 l0_0.length c0_0) := (blk_cell BK172.out 0).trans rfl
    have hcz9_1 : w5.cell? ⟨gb172, 1, none⟩ = some (.int .i64 a0_1) := (blk_cell BK172.out 1).trans rfl
    have hcz9_2 : w5.cell? ⟨gb172, 2, none⟩ = some (.int .i64 a0_2) := (blk_cell BK172.out 2).trans rfl
    have hfz9_0 := blk_frozen BK172.out 0
    have hfz9_1 := blk_frozen BK172.out 1
    have hfz9_2 := blk_frozen BK172.out 2
    have hcz10_0 : w5.cell? ⟨gb173, 0, none⟩ = some (.slice A1_0 l1_0.length c1_0) := (blk_cell BK173.out 0).trans rfl
    have hcz10_1 : w5.cell? ⟨gb173, 1, none⟩ = some (.int .i64 a1_1) := (blk_cell BK173.out 1).trans rfl
    have hcz10_2 : w5.cell? ⟨gb173, 2, none⟩ = some (.int .i64 a1_2) := (blk_cell BK173.out 2).trans rfl
    have hfz10_0 := blk_frozen BK173.out 0
    have hfz10_1 := blk_frozen BK173.out 1
    have hfz10_2 := blk_frozen BK173.out 2
    go_wp2
    go_meet
    case rel => exact ⟨_, (((l0_0.length : Int) != (l1_0.length : Int))), (by first | rfl | (simp; done) | (simp [*]; done)), H', ⟨by first | omega | exact Nat.le_refl _⟩, ⟨by (with_reducible repeat (first | refine blk_drewN ?_ _ | refine blk_drew ?_ | refine blk_alloc ?_ _)); exact BK172.out⟩, ⟨by (with_reducible repeat (first | refine blk_drewN ?_ _ | refine blk_drew ?_ | refine blk_alloc ?_ _)); exact BK173.out⟩, ⟨by repeat (first | (with_reducible first | exact HB.out | apply below_alloc | apply pw_below_drewN | apply below_drew1 | refine below_set ?_ GE172.out | refine below_set ?_ GE173.out) | exact HB.out)⟩⟩
   ·rw [if_neg c7] at H
    have c7b0 : (a0_2 == a1_2) = false := beq_eq_false_iff_ne.mpr c7
    have c7b1 : (a0_2 != a1_2) = true := bne_iff_ne.mpr c7
    have H' := Aside0.mk H
    clear H
    have hnb11 := NB172_173.out
    have hnc11 := NB173_172.out
    have hcz12_0 : w5.cell? ⟨gb172, 0, none⟩ = some (.slice A0_0 l0_0.length c0_0) := (blk_cell BK172.out 0).trans rfl
    have hcz12_1 : w5.cell? ⟨gb172, 1, none⟩ = some (.int .i64 a0_1) := (blk_cell BK172.out 1).trans rfl
    have hcz12_2 : w5.cell? ⟨gb172, 2, none⟩ = some (.int .i64 a0_2) := (blk_cell BK172.out 2).trans rfl
    have hfz12_0 := blk_frozen BK172.out 0
    have hfz12_1 := blk_frozen BK172.out 1
    have hfz12_2 := blk_frozen BK172.out 2
    have hcz13_0 : w5.cell? ⟨gb173, 0, none⟩ = some (.slice A1_0 l1_0.length c1_0) := (blk_cell BK173.out 0).trans rfl
    have hcz13_1 : w5.cell? ⟨gb173, 1, none⟩ = some (.int .i64 a1_1) := (blk_cell BK173.out 1).trans rfl
    have hcz13_2 : w5.cell? ⟨gb173, 2, none⟩ = some (.int .i64 a1_2) := (blk_cell BK173.out 2).trans rfl
    have hfz13_0 := blk_frozen BK173.out 0
    have hfz13_1 := blk_frozen BK173.out 1
    have hfz13_2 := blk_frozen BK173.out 2
    go_wp2
    go_meet
    case rel => exact ⟨_, (true), (by first | rfl | (simp; done) | (simp [*]; done)), H', ⟨by first | omega | exact Nat.le_refl _⟩, ⟨by (with_reducible repeat (first | refine blk_drewN ?_ _ | refine blk_drew ?_ | refine blk_alloc ?_ _)); exact BK172.out⟩, ⟨by (with_reducible repeat (first | refine blk_drewN ?_ _ | refine blk_drew ?_ | refine blk_alloc ?_ _)); exact BK173.out⟩, ⟨by repeat (first | (with_reducible first | exact HB.out | apply below_alloc | apply pw_below_drewN | apply below_drew1 | refine below_set ?_ GE172.out | refine below_set ?_ GE173.out) | exact HB.out)⟩⟩
  ·rw [if_neg c6] at H
   have c6b0 : (a0_1 == a1_1) = false := beq_eq_false_iff_ne.mpr c6
   have c6b1 : (a0_1 != a1_1) = true := bne_iff_ne.mpr c6
   (first | rw [c6b0] | (simp only [i64_w, i32_w]; rw [c6b0]) | skip)
   have H' := Aside0.mk H
   clear H
   have hnb14 := NB172_173.out
   have hnc14 := NB173_172.out
   have hcz15_0 : w5.cell? ⟨gb172, 0, none⟩ = some (.slice A0_0 l0_0.length c0_0) := (blk_cell BK172.out 0).trans rfl
   have hcz15_1 : w5.cell? ⟨gb172, 1, none⟩ = some (.int .i64 a0_1) := (blk_cell BK172.out 1).trans rfl
   have hcz15_2 : w5.cell? ⟨gb172, 2, none⟩ = some (.int .i64 a0_2) := (blk_cell BK172.out 2).trans rfl
   have hfz15_0 := blk_frozen BK172.out 0
   have hfz15_1 := blk_frozen BK172.out 1
   have hfz15_2 := blk_frozen BK172.out 2
   have hcz16_0 : w5.cell? ⟨gb173, 0, none⟩ = some (.slice A1_0 l1_0.length c1_0) := (blk_cell BK173.out 0).trans rfl
   have hcz16_1 : w5.cell? ⟨gb173, 1, none⟩ = some (.int .i64 a1_1) := (blk_cell BK173.out 1).trans rfl
   have hcz16_2 : w5.cell? ⟨gb173, 2, none⟩ = some (.int .i64 a1_2) := (blk_cell BK173.out 2).trans rfl
   have hfz16_0 := blk_frozen BK173.out 0
   have hfz16_1 := blk_frozen BK173.out 1
   have hfz16_2 := blk_frozen BK173.out 2
   go_wp2
   go_meet
   case rel => exact ⟨_, (true), (by first | rfl | (simp; done) | (simp [*]; done)), H', ⟨by first | omega | exact Nat.le_refl _⟩, ⟨by (with_reducible repeat (first | refine blk_drewN ?_ _ | refine blk_drew ?_ | refine blk_alloc ?_ _)); exact BK172.out⟩, ⟨by (with_reducible repeat (first | refine blk_drewN ?_ _ | refine blk_drew ?_ | refine blk_alloc ?_ _)); exact BK173.out⟩, ⟨by repeat (first | (with_reducible first | exact HB.out | apply below_alloc | apply pw_below_drewN | apply below_drew1 | refine below_set ?_ GE172.out | refine below_set ?_ GE173.out) | exact HB.out)⟩⟩
 case rest =>
  clear HC3
  try clear c1
  try clear p2
  try clear c6
  try clear c6b0
  try clear c6b1
  try clear c7
  try clear c7b0
  try clear c7b1
  try clear c8
  try clear c11
  try clear c14
  try clear hcz10_0
  try clear hcz10_1
  try clear hcz10_2
  try clear hcz12_0
  try clear hcz12_1
  try clear hcz12_2
  try clear hcz13_0
  try clear hcz13_1
  try clear hcz13_2
  try clear hcz15_0
  try clear hcz15_1
  try clear hcz15_2
  try clear hcz16_0
  try clear hcz16_1
  try clear hcz16_2
  try clear hcz9_0
  try clear hcz9_1
  try clear hcz9_2
  try clear hfz10_0
  try clear hfz10_1
  try clear hfz10_2
  try clear hfz12_0
  try clear hfz12_1
  try clear hfz12_2
  try clear hfz13_0
  try clear hfz13_1
  try clear hfz13_2
  try clear hfz15_0
  try clear hfz15_1
  try clear hfz15_2
  try clear hfz16_0
  try clear hfz16_1
  try clear hfz16_2
  try clear hfz9_0
  try clear hfz9_1
  try clear hfz9_2
  obtain ⟨kq, x26_2, rfl, HA, HJ2, BK172, BK173, HB⟩ := hcut
  cases kq with
  | zero => exact absurd HA.out (by simp [anamnesisref03_Same.j0])
  | succ kj2 =>
   have H := HA.out
   clear HA
   simp only [anamnesisref03_Same.j0] at H
   by_cases c17 : x26_2 = true
   ·subst c17
    have H1 : (some false) = some r := by rw [if_pos rfl] at H; exact H
    clear H
    have H := H1
    clear H1
    obtain rfl := Option.some.inj H
    go_wp2
    go_ret
    exact ⟨by first | rfl | (simp [errW_none, errW_some] <;> rfl) | (simp [*, errW_none, errW_some] <;> rfl), by repeat (first | (with_reducible first | exact HB.out | apply below_alloc | apply pw_below_drewN | apply below_drew1 | refine below_set ?_ GE172.out | refine below_set ?_ GE173.out) | exact HB.out)⟩
   ·replace c17 := Bool.eq_false_iff.mpr c17
    subst c17
    have H1 : (anamnesisref03_Same.l0 kj2 0 l0_0 a0_1 a0_2 l1_0 a1_1 a1_2) = some r := by rw [if_neg (show ¬ (false = true) by decide)] at H; exact H
    clear H
    have H := H1
    clear H1
    have H' := Aside0.mk H
    clear H
    go_wp2
    go_loopg [5] kj2 (fun kq v5 w' => ∃ (x5_2 : Int), v5 = .int .i64 x5_2 ∧ Aside0 (anamnesisref03_Same.l0 kq x5_2 l0_0 a0_1 a0_2 l1_0 a1_1 a1_2 = some r) ∧ Aside0 (kq ≤ kj2) ∧ Aside0 (w'.heap[gb172]? = some (.cells #[(.slice A0_0 l0_0.length c0_0), .int .i64 a0_1, .int .i64 a0_2] 24 (0, 0))) ∧ Aside0 (w'.heap[gb173]? = some (.cells #[(.slice A1_0 l1_0.length c1_0), .int .i64 a1_1, .int .i64 a1_2] 24 (0, 0))) ∧ Aside0 (Below w.heap.size w w'))
    case atStart => exact ⟨(0), (by first | rfl | (simp; done) | (simp [*]; done)), H', ⟨Nat.le_refl _⟩, ⟨by (with_reducible repeat (first | refine blk_drewN ?_ _ | refine blk_drew ?_ | refine blk_alloc ?_ _)); exact BK172.out⟩, ⟨by (with_reducible repeat (first | refine blk_drewN ?_ _ | refine blk_drew ?_ | refine blk_alloc ?_ _)); exact BK173.out⟩, ⟨by repeat (first | (with_reducible first | exact HB.out | apply below_alloc | apply pw_below_drewN | apply below_drew1 | refine below_set ?_ GE172.out | refine below_set ?_ GE173.out) | exact HB.out)⟩⟩
    case round =>
     clear H'
     try clear c1
     try clear p2
     try clear c6
     try clear c6b0
     try clear c6b1
     try clear c7
     try clear c7b0
     try clear c7b1
     try clear c8
     try clear c11
     try clear c14
     try clear c17
     try clear hcz10_0
     try clear hcz10_1
     try clear hcz10_2
     try clear hcz12_0
     try clear hcz12_1
     try clear hcz12_2
     try clear hcz13_0
     try clear hcz13_1
     try clear hcz13_2
     try clear hcz15_0
     try clear hcz15_1
     try clear hcz15_2
     try clear hcz16_0
     try clear hcz16_1
     try clear hcz16_2
     try clear hcz9_0
     try clear hcz9_1
     try clear hcz9_2
     try clear hfz10_0
     try clear hfz10_1
     try clear hfz10_2
     try clear hfz12_0
     try clear hfz12_1
     try clear hfz12_2
     try clear hfz13_0
     try clear hfz13_1
     try clear hfz13_2
     try clear hfz15_0
     try clear hfz15_1
     try clear hfz15_2
     try clear hfz16_0
     try clear hfz16_1
     try clear hfz16_2
     try clear hfz9_0
     try clear hfz9_1
     try clear hfz9_2
     try clear p2
     obtain ⟨x5_2, rfl, HA, HK2, BK172, BK173, HB⟩ := hrel
     cases gk with
     | zero => exact absurd HA.out (by simp [anamnesisref03_Same.l0])
     | succ k2 =>
      have H := HA.out
      clear HA
      simp only [anamnesisref03_Same.l0] at H
      by_cases c18 : x5_2 < (l0_0.length : Int)
      ·rw [if_pos c18] at H
       have c18b0 : decide (x5_2 < (l0_0.length : Int)) = true := decide_eq_true c18
       clear c18
       by_cases c19 : 0 ≤ x5_2
       ·rw [if_pos c19] at H
        have c19b0 : decide (0 ≤ x5_2) = true := decide_eq_true c19
        clear c19
        by_cases c20 : x5_2 < (l1_0.length : Int)
        ·rw [if_pos c20] at H
         have c20b0 : decide (x5_2 < (l1_0.length : Int)) = true := decide_eq_true c20
         clear c20
         replace H := Option.bind_eq_some_iff.mp H
         obtain ⟨t176, A210, H⟩ := H
         replace H : (if t176 = true then (anamnesisref03_Same.l0 k2 (wrap64 (x5_2 + 1)) l0_0 a0_1 a0_2 l1_0 a1_1 a1_2) else (some false)) = some r := H
         have A21 := Aside0.mk A210
         clear A210
         by_cases c22 : t176 = true
         ·subst c22
          have H1 : (anamnesisref03_Same.l0 k2 (wrap64 (x5_2 + 1)) l0_0 a0_1 a0_2 l1_0 a1_1 a1_2) = some r := by rw [if_pos rfl] at H; exact H
          clear H
          have H := H1
          clear H1
          have H' := Aside0.mk H
          clear H
          have hnb23 := NB172_173.out
          have hnc23 := NB173_172.out
          have hcz24_0 : wr.cell? ⟨gb172, 0, none⟩ = some (.slice A0_0 l0_0.length c0_0) := (blk_cell BK172.out 0).trans rfl
          have hcz24_1 : wr.cell? ⟨gb172, 1, none⟩ = some (.int .i64 a0_1) := (blk_cell BK172.out 1).trans rfl
          have hcz24_2 : wr.cell? ⟨gb172, 2, none⟩ = some (.int .i64 a0_2) := (blk_cell BK172.out 2).trans rfl
          have hfz24_0 := blk_frozen BK172.out 0
          have hfz24_1 := blk_frozen BK172.out 1
          have hfz24_2 := blk_frozen BK172.out 2
          try go_wp2
          have n0_ := Aside0.mk (blk_drew BK172.out)
          have n1_ := Aside0.mk (blk_drew BK173.out)
          have n2_ := Aside0.mk (below_drew1 HB.out)
          clear BK172
          clear BK173
          clear HB
          have BK172 := n0_
          have BK173 := n1_
          have HB := n2_
          clear n0_ n1_ n2_
          have p174 : 0 ≤ (x5_2 : Int) := of_decide_eq_true (by first | (with_reducible assumption) | assumption)
          have q174 : x5_2 < (l0_0.length : Int) := of_decide_eq_true (by first | (with_reducible assumption) | assumption)
          obtain ⟨ad174, A174_2, c174_2, e174, hx174_0, hx174_1, hx174_2, hx174_3, hx174_4, hx174_5, hl174_2, hi174_2⟩ := at_T44 HR0_0.out x5_2 p174 q174
          have hw174_5 := hx174_5
          have hw174_4 := hx174_4
          have hw174_3 := hx174_3
          have hw174_2 := hx174_2
          have hw174_1 := hx174_1
          have hw174_0 := hx174_0
          cases e174
          replace hx174_0 := (HB.out.cell (World.block_lt_of_cell? w _ hx174_0)).trans hx174_0
          replace hx174_1 := (HB.out.cell (World.block_lt_of_cell? w _ hx174_1)).trans hx174_1
          replace hx174_2 := (HB.out.cell (World.block_lt_of_cell? w _ hx174_2)).trans hx174_2
          replace hx174_3 := (HB.out.cell (World.block_lt_of_cell? w _ hx174_3)).trans hx174_3
          replace hx174_4 := (HB.out.cell (World.block_lt_of_cell? w _ hx174_4)).trans hx174_4
          replace hx174_5 := (HB.out.cell (World.block_lt_of_cell? w _ hx174_5)).trans hx174_5
          have HR174_2 := Aside0.mk hi174_2
          have HC174_2 := Aside0.mk hl174_2
          clear hi174_2 hl174_2
          replace p174 := eq_true p174
          replace q174 := eq_true q174
          have p175 : 0 ≤ (x5_2 : Int) := of_decide_eq_true (by first | (with_reducible assumption) | assumption)
          have q175 : x5_2 < (l1_0.length : Int) := of_decide_eq_true (by first | (with_reducible assumption) | assumption)
          obtain ⟨ad175, A175_2, c175_2, e175, hx175_0, hx175_1, hx175_2, hx175_3, hx175_4, hx175_5, hl175_2, hi175_2⟩ := at_T44 HR1_0.out x5_2 p175 q175
          have hw175_5 := hx175_5
          have hw175_4 := hx175_4
          have hw175_3 := hx175_3
          have hw175_2 := hx175_2
          have hw175_1 := hx175_1
          have hw175_0 := hx175_0
          cases e175
          replace hx175_0 := (HB.out.cell (World.block_lt_of_cell? w _ hx175_0)).trans hx175_0
          replace hx175_1 := (HB.out.cell (World.block_lt_of_cell? w _ hx175_1)).trans hx175_1
          replace hx175_2 := (HB.out.cell (World.block_lt_of_cell? w _ hx175_2)).trans hx175_2
          replace hx175_3 := (HB.out.cell (World.block_lt_of_cell? w _ hx175_3)).trans hx175_3
          replace hx175_4 := (HB.out.cell (World.block_lt_of_cell? w _ hx175_4)).trans hx175_4
          replace hx175_5 := (HB.out.cell (World.block_lt_of_cell? w _ hx175_5)).trans hx175_5
          have HR175_2 := Aside0.mk hi175_2
          have HC175_2 := Aside0.mk hl175_2
          clear hi175_2 hl175_2
          replace p175 := eq_true p175
          replace q175 := eq_true q175
          refine start_ (n := 12) (S := fun w' => w'.cell? ⟨gb172, 0, none⟩ = some (.slice (some ad174) l0_0.length c0_0) ∧ w'.cell? ⟨gb172, 1, none⟩ = some (.int .i64 a0_1) ∧ w'.cell? ⟨gb172, 2, none⟩ = some (.int .i64 a0_2) ∧ w'.cell? ⟨gb173, 0, none⟩ = some (.slice (some ad175) l1_0.length c1_0) ∧ w'.cell? ⟨gb173, 1, none⟩ = some (.int .i64 a1_1) ∧ w'.cell? ⟨gb173, 2, none⟩ = some (.int .i64 a1_2) ∧ w'.cell? (ad174.add ((x5_2).toNat * 6)) = some (.int .i64 ((rd_T44 l0_0 x5_2).f0)) ∧ w'.cell? ⟨(ad174.add ((x5_2).toNat * 6)).block, (ad174.add ((x5_2).toNat * 6)).off + 1, none⟩ = some (.int .i64 ((rd_T44 l0_0 x5_2).f1)) ∧ w'.cell? ⟨(ad174.add ((x5_2).toNat * 6)).block, (ad174.add ((x5_2).toNat * 6)).off + 2, none⟩ = some (.slice A174_2 ((rd_T44 l0_0 x5_2).f2).length c174_2) ∧ w'.cell? ⟨(ad174.add ((x5_2).toNat * 6)).block, (ad174.add ((x5_2).toNat * 6)).off + 3, none⟩ = some (.string ((rd_T44 l0_0 x5_2).f3)) ∧ w'.cell? ⟨(ad174.add ((x5_2).toNat * 6)).block, (ad174.add ((x5_2).toNat * 6)).off + 4, none⟩ = some (.int .i64 ((rd_T44 l0_0 x5_2).f4)) ∧ w'.cell? ⟨(ad174.add ((x5_2).toNat * 6)).block, (ad174.add ((x5_2).toNat * 6)).off + 5, none⟩ = some (.int .i64 ((rd_T44 l0_0 x5_2).f5)) ∧ w'.cell? (ad175.add ((x5_2).toNat * 6)) = some (.int .i64 ((rd_T44 l1_0 x5_2).f0)) ∧ w'.cell? ⟨(ad175.add ((x5_2).toNat * 6)).block, (ad175.add ((x5_2).toNat * 6)).off + 1, none⟩ = some (.int .i64 ((rd_T44 l1_0 x5_2).f1)) ∧ w'.cell? ⟨(ad175.add ((x5_2).toNat * 6)).block, (ad175.add ((x5_2).toNat * 6)).off + 2, none⟩ = some (.slice A175_2 ((rd_T44 l1_0 x5_2).f2).length c175_2) ∧ w'.cell? ⟨(ad175.add ((x5_2).toNat * 6)).block, (ad175.add ((x5_2).toNat * 6)).off + 3, none⟩ = some (.string ((rd_T44 l1_0 x5_2).f3)) ∧ w'.cell? ⟨(ad175.add ((x5_2).toNat * 6)).block, (ad175.add ((x5_2).toNat * 6)).off + 4, none⟩ = some (.int .i64 ((rd_T44 l1_0 x5_2).f4)) ∧ w'.cell? ⟨(ad175.add ((x5_2).toNat * 6)).block, (ad175.add ((x5_2).toNat * 6)).off + 5, none⟩ = some (.int .i64 ((rd_T44 l1_0 x5_2).f5))) (ds := []) #[false, false, false, false, false, false, false, false, false, false, false, false] (by kernel_rfl) rfl rfl ⟨(blk_cell BK172.out 0).trans rfl, (blk_cell BK172.out 1).trans rfl, (blk_cell BK172.out 2).trans rfl, (blk_cell BK173.out 0).trans rfl, (blk_cell BK173.out 1).trans rfl, (blk_cell BK173.out 2).trans rfl, ((HB.out.cell (World.block_lt_of_cell? w _ hw174_0)).trans hw174_0), ((HB.out.cell (World.block_lt_of_cell? w _ hw174_1)).trans hw174_1), ((HB.out.cell (World.block_lt_of_cell? w _ hw174_2)).trans hw174_2), ((HB.out.cell (World.block_lt_of_cell? w _ hw174_3)).trans hw174_3), ((HB.out.cell (World.block_lt_of_cell? w _ hw174_4)).trans hw174_4), ((HB.out.cell (World.block_lt_of_cell? w _ hw174_5)).trans hw174_5), ((HB.out.cell (World.block_lt_of_cell? w _ hw175_0)).trans hw175_0), ((HB.out.cell (World.block_lt_of_cell? w _ hw175_1)).trans hw175_1), ((HB.out.cell (World.block_lt_of_cell? w _ hw175_2)).trans hw175_2), ((HB.out.cell (World.block_lt_of_cell? w _ hw175_3)).trans hw175_3), ((HB.out.cell (World.block_lt_of_cell? w _ hw175_4)).trans hw175_4), ((HB.out.cell (World.block_lt_of_cell? w _ hw175_5)).trans hw175_5)⟩ (fun hHeld => ?_); refine with_tabW anamnesisref03_Same.tab6 anamnesisref03_Same.bits6 (fun HT_ HW_ => ?_)
          generalize wr.drew = w25 at BK172 BK173 HB HR174_2 HR175_2 hx174_0 hx174_1 hx174_2 hx174_3 hx174_4 hx174_5 hx175_0 hx175_1 hx175_2 hx175_3 hx175_4 hx175_5 hHeld ⊢
          refine pure1 (i := 0) (N := some 34) #[true, false, false, false, false, false, false, false, false, false, false, false] HT_.out ?_
          refine pure1 (i := 2) (N := some 36) #[true, false, true, false, false, false, false, false, false, false, false, false] HT_.out ?_
          refine pure1 (i := 5) (N := some 39) #[true, false, true, false, false, true, false, false, false, false, false, false] HT_.out ?_
          refine pure1 (i := 7) (N := some 41) #[true, false, true, false, false, true, false, true, false, false, false, false] HT_.out ?_
          refine take1 (i := 1) (N := some 35) #[true, true, true, false, false, true, false, true, false, false, false, false] HT_.out HW_.out hHeld ?_
          refine pure1 (i := 3) (N := some 37) #[true, true, true, true, false, true, false, true, false, false, false, false] HT_.out ?_
          refine take1 (i := 4) (N := some 38) #[true, true, true, true, true, true, false, true, false, false, false, false] HT_.out HW_.out hHeld ?_
          refine take1 (i := 6) (N := some 40) #[true, true, true, true, true, true, true, true, false, false, false, false] HT_.out HW_.out hHeld ?_
          refine pure1 (i := 8) (N := some 42) #[true, true, true, true, true, true, true, true, true, false, false, false] HT_.out ?_
          refine take1 (i := 9) (N := some 43) #[true, true, true, true, true, true, true, true, true, true, false, false] HT_.out HW_.out hHeld ?_
          refine one_ (i := 10) (N := some 44) #[true, true, true, true, true, true, true, true, true, true, true, false] rfl rfl (one_of HT_.out (by kernel_rfl)) (by decide) (fun K hK => ?_)
          refine goes_ Try.func36 (by kernel_rfl) rfl #[.agg #[.int .i64 ((rd_T44 l0_0 x5_2).f0), .int .i64 ((rd_T44 l0_0 x5_2).f1), .slice A174_2 ((rd_T44 l0_0 x5_2).f2).length c174_2, .string ((rd_T44 l0_0 x5_2).f3), .int .i64 ((rd_T44 l0_0 x5_2).f4), .int .i64 ((rd_T44 l0_0 x5_2).f5)], .agg #[.int .i64 ((rd_T44 l1_0 x5_2).f0), .int .i64 ((rd_T44 l1_0 x5_2).f1), .slice A175_2 ((rd_T44 l1_0 x5_2).f2).length c175_2, .string ((rd_T44 l1_0 x5_2).f3), .int .i64 ((rd_T44 l1_0 x5_2).f4), .int .i64 ((rd_T44 l1_0 x5_2).f5)]] (by rfl) rfl rfl (by (try simp only [List.map_toArray, List.map_cons, List.map_nil]); first | done | rfl | (simp only [List.length_drop, List.length_take]; rfl)) ?_
          with_reducible refine (anamnesisref03_One.calls k2 ((rd_T44 l0_0 x5_2).f0) ((rd_T44 l0_0 x5_2).f1) _ _ ((rd_T44 l0_0 x5_2).f2) ((rd_T44 l0_0 x5_2).f3) ((rd_T44 l0_0 x5_2).f4) ((rd_T44 l0_0 x5_2).f5) ((rd_T44 l1_0 x5_2).f0) ((rd_T44 l1_0 x5_2).f1) _ _ ((rd_T44 l1_0 x5_2).f2) ((rd_T44 l1_0 x5_2).f3) ((rd_T44 l1_0 x5_2).f4) ((rd_T44 l1_0 x5_2).f5) true _ ?side1 ?side2 ?side3 ?side4 A21.out).mono ?_
          (case side1 => repeat (first | exact (Kd.C_below HR174_2.out HB.out) | (with_reducible refine Kd.C_alloc ?_ _) | (with_reducible refine Kd.C_drewN ?_ _) | (with_reducible refine Kd.C_drew ?_)))
          (case side2 => exact HC174_2.out)
          (case side3 => repeat (first | exact (Kd.C_below HR175_2.out HB.out) | (with_reducible refine Kd.C_alloc ?_ _) | (with_reducible refine Kd.C_drewN ?_ _) | (with_reducible refine Kd.C_drew ?_)))
          (case side4 => exact HC175_2.out)
          rintro e w26 ⟨rfl, hb⟩
          refine ⟨_, rfl, ?_⟩
          have n0_ := Aside0.mk (blk_below (g := gb172) (o := .cells #[.slice (some ad174) l0_0.length c0_0, .int .i64 a0_1, .int .i64 a0_2] 24 (0, 0)) (by (with_reducible repeat (first | refine blk_drewN ?_ _ | refine blk_drew ?_ | refine blk_alloc ?_ _)); exact BK172.out) hb)
          have n1_ := Aside0.mk (blk_below (g := gb173) (o := .cells #[.slice (some ad175) l1_0.length c1_0, .int .i64 a1_1, .int .i64 a1_2] 24 (0, 0)) (by (with_reducible repeat (first | refine blk_drewN ?_ _ | refine blk_drew ?_ | refine blk_alloc ?_ _)); exact BK173.out) hb)
          have n2_ := Aside0.mk (below_step (by repeat (first | (with_reducible first | exact HB.out | apply below_alloc | apply pw_below_drewN | apply below_drew1 | refine below_set ?_ GE172.out | refine below_set ?_ GE173.out) | exact HB.out)) hb)
          clear BK172
          clear BK173
          clear HB
          have BK172 := n0_
          have BK173 := n1_
          have HB := n2_
          clear n0_ n1_ n2_
          (try clear hb)
          (try clear hb2)
          (try clear hk)
          (try clear hi)
          refine hK.out _ _ ⟨(blk_cell BK172.out 0).trans rfl, (blk_cell BK172.out 1).trans rfl, (blk_cell BK172.out 2).trans rfl, (blk_cell BK173.out 0).trans rfl, (blk_cell BK173.out 1).trans rfl, (blk_cell BK173.out 2).trans rfl, ((HB.out.cell (World.block_lt_of_cell? w _ hw174_0)).trans hw174_0), ((HB.out.cell (World.block_lt_of_cell? w _ hw174_1)).trans hw174_1), ((HB.out.cell (World.block_lt_of_cell? w _ hw174_2)).trans hw174_2), ((HB.out.cell (World.block_lt_of_cell? w _ hw174_3)).trans hw174_3), ((HB.out.cell (World.block_lt_of_cell? w _ hw174_4)).trans hw174_4), ((HB.out.cell (World.block_lt_of_cell? w _ hw174_5)).trans hw174_5), ((HB.out.cell (World.block_lt_of_cell? w _ hw175_0)).trans hw175_0), ((HB.out.cell (World.block_lt_of_cell? w _ hw175_1)).trans hw175_1), ((HB.out.cell (World.block_lt_of_cell? w _ hw175_2)).trans hw175_2), ((HB.out.cell (World.block_lt_of_cell? w _ hw175_3)).trans hw175_3), ((HB.out.cell (World.block_lt_of_cell? w _ hw175_4)).trans hw175_4), ((HB.out.cell (World.block_lt_of_cell? w _ hw175_5)).trans hw175_5)⟩ (fun hHeld => ?_)
          clear hK K
          refine norm_ (a' := ?_) ?_ ?_
          rotate_left
          ·show Act.put _ (some 44) _ = _
           simp only [Act.put, List.setIfInBounds_toArray, List.set_cons_zero, List.set_cons_succ, i64_w, i32_w]
           rfl
          refine pure1 (i := 11) (N := some 45) #[true, true, true, true, true, true, true, true, true, true, true, true] HT_.out ?_
          refine done_ (done_of HT_.out (by kernel_rfl)) ?_
          try go_wp2
          go_roundg k2
          case measure => have := HJ2.out; have := HK2.out; omega
          case rel => exact ⟨(wrap64 (x5_2 + 1)), (by first | rfl | (simp; done) | (simp [*]; done)), H', ⟨by have := HJ2.out; have := HK2.out; omega⟩, ⟨by (with_reducible repeat (first | refine blk_drewN ?_ _ | refine blk_drew ?_ | refine blk_alloc ?_ _)); exact BK172.out⟩, ⟨by (with_reducible repeat (first | refine blk_drewN ?_ _ | refine blk_drew ?_ | refine blk_alloc ?_ _)); exact BK173.out⟩, ⟨by repeat (first | (with_reducible first | exact HB.out | apply below_alloc | apply pw_below_drewN | apply below_drew1 | refine below_set ?_ GE172.out | refine below_set ?_ GE173.out) | exact HB.out)⟩⟩
         ·replace c22 := Bool.eq_false_iff.mpr c22
          subst c22
          have H1 : (some false) = some r := by rw [if_neg (show ¬ (false = true) by decide)] at H; exact H
          clear H
          have H := H1
          clear H1
          obtain rfl := Option.some.inj H
          have hnb27 := NB172_173.out
          have hnc27 := NB173_172.out
          have hcz28_0 : wr.cell? ⟨gb172, 0, none⟩ = some (.slice A0_0 l0_0.length c0_0) := (blk_cell BK172.out 0).trans rfl
          have hcz28_1 : wr.cell? ⟨gb172, 1, none⟩ = some (.int .i64 a0_1) := (blk_cell BK172.out 1).trans rfl
          have hcz28_2 : wr.cell? ⟨gb172, 2, none⟩ = some (.int .i64 a0_2) := (blk_cell BK172.out 2).trans rfl
          have hfz28_0 := blk_frozen BK172.out 0
          have hfz28_1 := blk_frozen BK172.out 1
          have hfz28_2 := blk_frozen BK172.out 2
          try go_wp2
          have n0_ := Aside0.mk (blk_drew BK172.out)
          have n1_ := Aside0.mk (blk_drew BK173.out)
          have n2_ := Aside0.mk (below_drew1 HB.out)
          clear BK172
          clear BK173
          clear HB
          have BK172 := n0_
          have BK173 := n1_
          have HB := n2_
          clear n0_ n1_ n2_
          have p174 : 0 ≤ (x5_2 : Int) := of_decide_eq_true (by first | (with_reducible assumption) | assumption)
          have q174 : x5_2 < (l0_0.length : Int) := of_decide_eq_true (by first | (with_reducible assumption) | assumption)
          obtain ⟨ad174, A174_2, c174_2, e174, hx174_0, hx174_1, hx174_2, hx174_3, hx174_4, hx174_5, hl174_2, hi174_2⟩ := at_T44 HR0_0.out x5_2 p174 q174
          have hw174_5 := hx174_5
          have hw174_4 := hx174_4
          have hw174_3 := hx174_3
          have hw174_2 := hx174_2
          have hw174_1 := hx174_1
          have hw174_0 := hx174_0
          cases e174
          replace hx174_0 := (HB.out.cell (World.block_lt_of_cell? w _ hx174_0)).trans hx174_0
          replace hx174_1 := (HB.out.cell (World.block_lt_of_cell? w _ hx174_1)).trans hx174_1
          replace hx174_2 := (HB.out.cell (World.block_lt_of_cell? w _ hx174_2)).trans hx174_2
          replace hx174_3 := (HB.out.cell (World.block_lt_of_cell? w _ hx174_3)).trans hx174_3
          replace hx174_4 := (HB.out.cell (World.block_lt_of_cell? w _ hx174_4)).trans hx174_4
          replace hx174_5 := (HB.out.cell (World.block_lt_of_cell? w _ hx174_5)).trans hx174_5
          have HR174_2 := Aside0.mk hi174_2
          have HC174_2 := Aside0.mk hl174_2
          clear hi174_2 hl174_2
          replace p174 := eq_true p174
          replace q174 := eq_true q174
          have p175 : 0 ≤ (x5_2 : Int) := of_decide_eq_true (by first | (with_reducible assumption) | assumption)
          have q175 : x5_2 < (l1_0.length : Int) := of_decide_eq_true (by first | (with_reducible assumption) | assumption)
          obtain ⟨ad175, A175_2, c175_2, e175, hx175_0, hx175_1, hx175_2, hx175_3, hx175_4, hx175_5, hl175_2, hi175_2⟩ := at_T44 HR1_0.out x5_2 p175 q175
          have hw175_5 := hx175_5
          have hw175_4 := hx175_4
          have hw175_3 := hx175_3
          have hw175_2 := hx175_2
          have hw175_1 := hx175_1
          have hw175_0 := hx175_0
          cases e175
          replace hx175_0 := (HB.out.cell (World.block_lt_of_cell? w _ hx175_0)).trans hx175_0
          replace hx175_1 := (HB.out.cell (World.block_lt_of_cell? w _ hx175_1)).trans hx175_1
          replace hx175_2 := (HB.out.cell (World.block_lt_of_cell? w _ hx175_2)).trans hx175_2
          replace hx175_3 := (HB.out.cell (World.block_lt_of_cell? w _ hx175_3)).trans hx175_3
          replace hx175_4 := (HB.out.cell (World.block_lt_of_cell? w _ hx175_4)).trans hx175_4
          replace hx175_5 := (HB.out.cell (World.block_lt_of_cell? w _ hx175_5)).trans hx175_5
          have HR175_2 := Aside0.mk hi175_2
          have HC175_2 := Aside0.mk hl175_2
          clear hi175_2 hl175_2
          replace p175 := eq_true p175
          replace q175 := eq_true q175
          refine start_ (n := 12) (S := fun w' => w'.cell? ⟨gb172, 0, none⟩ = some (.slice (some ad174) l0_0.length c0_0) ∧ w'.cell? ⟨gb172, 1, none⟩ = some (.int .i64 a0_1) ∧ w'.cell? ⟨gb172, 2, none⟩ = some (.int .i64 a0_2) ∧ w'.cell? ⟨gb173, 0, none⟩ = some (.slice (some ad175) l1_0.length c1_0) ∧ w'.cell? ⟨gb173, 1, none⟩ = some (.int .i64 a1_1) ∧ w'.cell? ⟨gb173, 2, none⟩ = some (.int .i64 a1_2) ∧ w'.cell? (ad174.add ((x5_2).toNat * 6)) = some (.int .i64 ((rd_T44 l0_0 x5_2).f0)) ∧ w'.cell? ⟨(ad174.add ((x5_2).toNat * 6)).block, (ad174.add ((x5_2).toNat * 6)).off + 1, none⟩ = some (.int .i64 ((rd_T44 l0_0 x5_2).f1)) ∧ w'.cell? ⟨(ad174.add ((x5_2).toNat * 6)).block, (ad174.add ((x5_2).toNat * 6)).off + 2, none⟩ = some (.slice A174_2 ((rd_T44 l0_0 x5_2).f2).length c174_2) ∧ w'.cell? ⟨(ad174.add ((x5_2).toNat * 6)).block, (ad174.add ((x5_2).toNat * 6)).off + 3, none⟩ = some (.string ((rd_T44 l0_0 x5_2).f3)) ∧ w'.cell? ⟨(ad174.add ((x5_2).toNat * 6)).block, (ad174.add ((x5_2).toNat * 6)).off + 4, none⟩ = some (.int .i64 ((rd_T44 l0_0 x5_2).f4)) ∧ w'.cell? ⟨(ad174.add ((x5_2).toNat * 6)).block, (ad174.add ((x5_2).toNat * 6)).off + 5, none⟩ = some (.int .i64 ((rd_T44 l0_0 x5_2).f5)) ∧ w'.cell? (ad175.add ((x5_2).toNat * 6)) = some (.int .i64 ((rd_T44 l1_0 x5_2).f0)) ∧ w'.cell? ⟨(ad175.add ((x5_2).toNat * 6)).block, (ad175.add ((x5_2).toNat * 6)).off + 1, none⟩ = some (.int .i64 ((rd_T44 l1_0 x5_2).f1)) ∧ w'.cell? ⟨(ad175.add ((x5_2).toNat * 6)).block, (ad175.add ((x5_2).toNat * 6)).off + 2, none⟩ = some (.slice A175_2 ((rd_T44 l1_0 x5_2).f2).length c175_2) ∧ w'.cell? ⟨(ad175.add ((x5_2).toNat * 6)).block, (ad175.add ((x5_2).toNat * 6)).off + 3, none⟩ = some (.string ((rd_T44 l1_0 x5_2).f3)) ∧ w'.cell? ⟨(ad175.add ((x5_2).toNat * 6)).block, (ad175.add ((x5_2).toNat * 6)).off + 4, none⟩ = some (.int .i64 ((rd_T44 l1_0 x5_2).f4)) ∧ w'.cell? ⟨(ad175.add ((x5_2).toNat * 6)).block, (ad175.add ((x5_2).toNat * 6)).off + 5, none⟩ = some (.int .i64 ((rd_T44 l1_0 x5_2).f5))) (ds := []) #[false, false, false, false, false, false, false, false, false, false, false, false] (by kernel_rfl) rfl rfl ⟨(blk_cell BK172.out 0).trans rfl, (blk_cell BK172.out 1).trans rfl, (blk_cell BK172.out 2).trans rfl, (blk_cell BK173.out 0).trans rfl, (blk_cell BK173.out 1).trans rfl, (blk_cell BK173.out 2).trans rfl, ((HB.out.cell (World.block_lt_of_cell? w _ hw174_0)).trans hw174_0), ((HB.out.cell (World.block_lt_of_cell? w _ hw174_1)).trans hw174_1), ((HB.out.cell (World.block_lt_of_cell? w _ hw174_2)).trans hw174_2), ((HB.out.cell (World.block_lt_of_cell? w _ hw174_3)).trans hw174_3), ((HB.out.cell (World.block_lt_of_cell? w _ hw174_4)).trans hw174_4), ((HB.out.cell (World.block_lt_of_cell? w _ hw174_5)).trans hw174_5), ((HB.out.cell (World.block_lt_of_cell? w _ hw175_0)).trans hw175_0), ((HB.out.cell (World.block_lt_of_cell? w _ hw175_1)).trans hw175_1), ((HB.out.cell (World.block_lt_of_cell? w _ hw175_2)).trans hw175_2), ((HB.out.cell (World.block_lt_of_cell? w _ hw175_3)).trans hw175_3), ((HB.out.cell (World.block_lt_of_cell? w _ hw175_4)).trans hw175_4), ((HB.out.cell (World.block_lt_of_cell? w _ hw175_5)).trans hw175_5)⟩ (fun hHeld => ?_); refine with_tabW anamnesisref03_Same.tab6 anamnesisref03_Same.bits6 (fun HT_ HW_ => ?_)
          generalize wr.drew = w29 at BK172 BK173 HB HR174_2 HR175_2 hx174_0 hx174_1 hx174_2 hx174_3 hx174_4 hx174_5 hx175_0 hx175_1 hx175_2 hx175_3 hx175_4 hx175_5 hHeld ⊢
          refine pure1 (i := 0) (N := some 34) #[true, false, false, false, false, false, false, false, false, false, false, false] HT_.out ?_
          refine pure1 (i := 2) (N := some 36) #[true, false, true, false, false, false, false, false, false, false, false, false] HT_.out ?_
          refine pure1 (i := 5) (N := some 39) #[true, false, true, false, false, true, false, false, false, false, false, false] HT_.out ?_
          refine pure1 (i := 7) (N := some 41) #[true, false, true, false, false, true, false, true, false, false, false, false] HT_.out ?_
          refine take1 (i := 1) (N := some 35) #[true, true, true, false, false, true, false, true, false, false, false, false] HT_.out HW_.out hHeld ?_
          refine pure1 (i := 3) (N := some 37) #[true, true, true, true, false, true, false, true, false, false, false, false] HT_.out ?_
          refine take1 (i := 4) (N := some 38) #[true, true, true, true, true, true, false, true, false, false, false, false] HT_.out HW_.out hHeld ?_
          refine take1 (i := 6) (N := some 40) #[true, true, true, true, true, true, true, true, false, false, false, false] HT_.out HW_.out hHeld ?_
          refine pure1 (i := 8) (N := some 42) #[true, true, true, true, true, true, true, true, true, false, false, false] HT_.out ?_
          refine take1 (i := 9) (N := some 43) #[true, true, true, true, true, true, true, true, true, true, false, false] HT_.out HW_.out hHeld ?_
          refine one_ (i := 10) (N := some 44) #[true, true, true, true, true, true, true, true, true, true, true, false] rfl rfl (one_of HT_.out (by kernel_rfl)) (by decide) (fun K hK => ?_)
          refine goes_ Try.func36 (by kernel_rfl) rfl #[.agg #[.int .i64 ((rd_T44 l0_0 x5_2).f0), .int .i64 ((rd_T44 l0_0 x5_2).f1), .slice A174_2 ((rd_T44 l0_0 x5_2).f2).length c174_2, .string ((rd_T44 l0_0 x5_2).f3), .int .i64 ((rd_T44 l0_0 x5_2).f4), .int .i64 ((rd_T44 l0_0 x5_2).f5)], .agg #[.int .i64 ((rd_T44 l1_0 x5_2).f0), .int .i64 ((rd_T44 l1_0 x5_2).f1), .slice A175_2 ((rd_T44 l1_0 x5_2).f2).length c175_2, .string ((rd_T44 l1_0 x5_2).f3), .int .i64 ((rd_T44 l1_0 x5_2).f4), .int .i64 ((rd_T44 l1_0 x5_2).f5)]] (by rfl) rfl rfl (by (try simp only [List.map_toArray, List.map_cons, List.map_nil]); first | done | rfl | (simp only [List.length_drop, List.length_take]; rfl)) ?_
          with_reducible refine (anamnesisref03_One.calls k2 ((rd_T44 l0_0 x5_2).f0) ((rd_T44 l0_0 x5_2).f1) _ _ ((rd_T44 l0_0 x5_2).f2) ((rd_T44 l0_0 x5_2).f3) ((rd_T44 l0_0 x5_2).f4) ((rd_T44 l0_0 x5_2).f5) ((rd_T44 l1_0 x5_2).f0) ((rd_T44 l1_0 x5_2).f1) _ _ ((rd_T44 l1_0 x5_2).f2) ((rd_T44 l1_0 x5_2).f3) ((rd_T44 l1_0 x5_2).f4) ((rd_T44 l1_0 x5_2).f5) false _ ?side1 ?side2 ?side3 ?side4 A21.out).mono ?_
          (case side1 => repeat (first | exact (Kd.C_below HR174_2.out HB.out) | (with_reducible refine Kd.C_alloc ?_ _) | (with_reducible refine Kd.C_drewN ?_ _) | (with_reducible refine Kd.C_drew ?_)))
          (case side2 => exact HC174_2.out)
          (case side3 => repeat (first | exact (Kd.C_below HR175_2.out HB.out) | (with_reducible refine Kd.C_alloc ?_ _) | (with_reducible refine Kd.C_drewN ?_ _) | (with_reducible refine Kd.C_drew ?_)))
          (case side4 => exact HC175_2.out)
          rintro e w30 ⟨rfl, hb⟩
          refine ⟨_, rfl, ?_⟩
          have n0_ := Aside0.mk (blk_below (g := gb172) (o := .cells #[.slice (some ad174) l0_0.length c0_0, .int .i64 a0_1, .int .i64 a0_2] 24 (0, 0)) (by (with_reducible repeat (first | refine blk_drewN ?_ _ | refine blk_drew ?_ | refine blk_alloc ?_ _)); exact BK172.out) hb)
          have n1_ := Aside0.mk (blk_below (g := gb173) (o := .cells #[.slice (some ad175) l1_0.length c1_0, .int .i64 a1_1, .int .i64 a1_2] 24 (0, 0)) (by (with_reducible repeat (first | refine blk_drewN ?_ _ | refine blk_drew ?_ | refine blk_alloc ?_ _)); exact BK173.out) hb)
          have n2_ := Aside0.mk (below_step (by repeat (first | (with_reducible first | exact HB.out | apply below_alloc | apply pw_below_drewN | apply below_drew1 | refine below_set ?_ GE172.out | refine below_set ?_ GE173.out) | exact HB.out)) hb)
          clear BK172
          clear BK173
          clear HB
          have BK172 := n0_
          have BK173 := n1_
          have HB := n2_
          clear n0_ n1_ n2_
          (try clear hb)
          (try clear hb2)
          (try clear hk)
          (try clear hi)
          refine hK.out _ _ ⟨(blk_cell BK172.out 0).trans rfl, (blk_cell BK172.out 1).trans rfl, (blk_cell BK172.out 2).trans rfl, (blk_cell BK173.out 0).trans rfl, (blk_cell BK173.out 1).trans rfl, (blk_cell BK173.out 2).trans rfl, ((HB.out.cell (World.block_lt_of_cell? w _ hw174_0)).trans hw174_0), ((HB.out.cell (World.block_lt_of_cell? w _ hw174_1)).trans hw174_1), ((HB.out.cell (World.block_lt_of_cell? w _ hw174_2)).trans hw174_2), ((HB.out.cell (World.block_lt_of_cell? w _ hw174_3)).trans hw174_3), ((HB.out.cell (World.block_lt_of_cell? w _ hw174_4)).trans hw174_4), ((HB.out.cell (World.block_lt_of_cell? w _ hw174_5)).trans hw174_5), ((HB.out.cell (World.block_lt_of_cell? w _ hw175_0)).trans hw175_0), ((HB.out.cell (World.block_lt_of_cell? w _ hw175_1)).trans hw175_1), ((HB.out.cell (World.block_lt_of_cell? w _ hw175_2)).trans hw175_2), ((HB.out.cell (World.block_lt_of_cell? w _ hw175_3)).trans hw175_3), ((HB.out.cell (World.block_lt_of_cell? w _ hw175_4)).trans hw175_4), ((HB.out.cell (World.block_lt_of_cell? w _ hw175_5)).trans hw175_5)⟩ (fun hHeld => ?_)
          clear hK K
          refine norm_ (a' := ?_) ?_ ?_
          rotate_left
          ·show Act.put _ (some 44) _ = _
           simp only [Act.put, List.setIfInBounds_toArray, List.set_cons_zero, List.set_cons_succ, i64_w, i32_w]
           rfl
          refine pure1 (i := 11) (N := some 45) #[true, true, true, true, true, true, true, true, true, true, true, true] HT_.out ?_
          refine done_ (done_of HT_.out (by kernel_rfl)) ?_
          try go_wp2
          go_ret
          exact ⟨by first | rfl | (simp [errW_none, errW_some] <;> rfl) | (simp [*, errW_none, errW_some] <;> rfl), by repeat (first | (with_reducible first | exact HB.out | apply below_alloc | apply pw_below_drewN | apply below_drew1 | refine below_set ?_ GE172.out | refine below_set ?_ GE173.out) | exact HB.out)⟩
        ·rw [if_neg c20] at H
         exact absurd H (by simp)
       ·rw [if_neg c19] at H
        exact absurd H (by simp)
      ·rw [if_neg c18] at H
       have c18b0 : decide (x5_2 < (l0_0.length : Int)) = false := decide_eq_false c18
       clear c18
       obtain rfl := Option.some.inj H
       have hnb31 := NB172_173.out
       have hnc31 := NB173_172.out
       have hcz32_0 : wr.cell? ⟨gb172, 0, none⟩ = some (.slice A0_0 l0_0.length c0_0) := (blk_cell BK172.out 0).trans rfl
       have hcz32_1 : wr.cell? ⟨gb172, 1, none⟩ = some (.int .i64 a0_1) := (blk_cell BK172.out 1).trans rfl
       have hcz32_2 : wr.cell? ⟨gb172, 2, none⟩ = some (.int .i64 a0_2) := (blk_cell BK172.out 2).trans rfl
       have hfz32_0 := blk_frozen BK172.out 0
       have hfz32_1 := blk_frozen BK172.out 1
       have hfz32_2 := blk_frozen BK172.out 2
       go_wp2
       go_ret
       exact ⟨by first | rfl | (simp [errW_none, errW_some] <;> rfl) | (simp [*, errW_none, errW_some] <;> rfl), by repeat (first | (with_reducible first | exact HB.out | apply below_alloc | apply pw_below_drewN | apply below_drew1 | refine below_set ?_ GE172.out | refine below_set ?_ GE173.out) | exact HB.out)⟩
def anamnesislaw05_three.f  : Option ((List (S44)) × Int × Int) := some ((([(⟨0, 0, ([] : List Int), (⟨#[]⟩ : ByteArray), 0, 0⟩ : S44), (⟨0, 0, (([4] : List Int)), (⟨#[]⟩ : ByteArray), 0, 0⟩ : S44), (⟨0, 0, (([4, 5, 0] : List Int)), (⟨#[]⟩ : ByteArray), 0, 9⟩ : S44)] : List (S44))), 3, 7)
set_option maxHeartbeats 8000000 in
set_option maxRecDepth 100000 in
theorem anamnesislaw05_three.calls  (r1 : List (S44)) (r2 : Int) (r3 : Int) (w : World) (h : anamnesislaw05_three.f  = some (r1, r2, r3)) :
  Calls Try.prog 25 #[] w fun e w' => ∃ v0_ : Value, e = .returned (.agg #[v0_, .int .i64 r2, .int .i64 r3]) ∧ Kd.N k44 44 w' w.heap.size (fun k_ => (w.heap.size ≤ k_)) v0_ r1 ∧ Below w.heap.size w w' := by
 have hu24 := Try.underlying24
 have hu44 := Try.underlying44
 have HB := Aside0.mk (Below.refl w.heap.size w)
 have H : (some ((([(⟨0, 0, ([] : List Int), (⟨#[]⟩ : ByteArray), 0, 0⟩ : S44), (⟨0, 0, (([4] : List Int)), (⟨#[]⟩ : ByteArray), 0, 0⟩ : S44), (⟨0, 0, (([4, 5, 0] : List Int)), (⟨#[]⟩ : ByteArray), 0, 9⟩ : S44)] : List (S44))), 3, 7)) = some (r1, r2, r3) := h
 clear h
 obtain ⟨y178, hy178⟩ : ∃ y_ : List Int, y_ = (([4] : List Int)) := ⟨_, rfl⟩
 replace H : (some ((([(⟨0, 0, ([] : List Int), (⟨#[]⟩ : ByteArray), 0, 0⟩ : S44), (⟨0, 0, y178, (⟨#[]⟩ : ByteArray), 0, 0⟩ : S44), (⟨0, 0, (([4, 5, 0] : List Int)), (⟨#[]⟩ : ByteArray), 0, 9⟩ : S44)] : List (S44))), 3, 7)) = some (r1, r2, r3) := by first | (rw [hy178]; with_reducible exact H) | (have H2_ := (Option.bind_some _ _).symm.trans H; rw [hy178]; with_reducible exact H2_) | (have H2_ := (Option.bind_some _ _).symm.trans H; with_reducible exact H2_) | with_reducible exact H | (rw [hy178]; exact H) | exact H
 have Ny178 := Aside0.mk hy178
 clear hy178
 obtain ⟨y181, hy181⟩ : ∃ y_ : List Int, y_ = (([4, 5, 0] : List Int)) := ⟨_, rfl⟩
 replace H : (some ((([(⟨0, 0, ([] : List Int), (⟨#[]⟩ : ByteArray), 0, 0⟩ : S44), (⟨0, 0, y178, (⟨#[]⟩ : ByteArray), 0, 0⟩ : S44), (⟨0, 0, y181, (⟨#[]⟩ : ByteArray), 0, 9⟩ : S44)] : List (S44))), 3, 7)) = some (r1, r2, r3) := by first | (rw [hy181]; with_reducible exact H) | (have H2_ := (Option.bind_some _ _).symm.trans H; rw [hy181]; with_reducible exact H2_) | (have H2_ := (Option.bind_some _ _).symm.trans H; with_reducible exact H2_) | with_reducible exact H | (rw [hy181]; exact H) | exact H
 have Ny181 := Aside0.mk hy181
 clear hy181
 obtain ⟨y184, hy184⟩ : ∃ y_ : List (S44), y_ = (([(⟨0, 0, ([] : List Int), (⟨#[]⟩ : ByteArray), 0, 0⟩ : S44), (⟨0, 0, y178, (⟨#[]⟩ : ByteArray), 0, 0⟩ : S44), (⟨0, 0, y181, (⟨#[]⟩ : ByteArray), 0, 9⟩ : S44)] : List (S44))) := ⟨_, rfl⟩
 replace H : (some (y184, 3, 7)) = some (r1, r2, r3) := by first | (rw [hy184]; with_reducible exact H) | (have H2_ := (Option.bind_some _ _).symm.trans H; rw [hy184]; with_reducible exact H2_) | (have H2_ := (Option.bind_some _ _).symm.trans H; with_reducible exact H2_) | with_reducible exact H | (rw [hy184]; exact H) | exact H
 have Ny184 := Aside0.mk hy184
 clear hy184
 simp only [Option.some.injEq, Prod.mk.injEq] at H
 obtain ⟨rfl, rfl, rfl⟩ := H
 go_enter Try.func25, Try.ntmps25
 go_wp2_with (first | ((with_reducible refine gate_dst (N := 0) rfl ?_); refine box_event ?hg (N := 0) ?hd (cs := #[.slice none 0 0, .int .i64 0, .int .i64 0]) (t := 24) ?hr ?_; (case hd => rfl); (case hg => rfl); (case hr => first | (go_simp; done) | (go_simp; rfl)); intro gb177 hg w1 hbox hb; have n0_ := Aside0.mk (below_step (by repeat (first | (with_reducible first | exact HB.out | apply below_alloc | apply pw_below_drewN | apply below_drew1) | exact HB.out)) hb); have n1_ := Aside0.mk (hbox); have n2_ := Aside0.mk ((by rw [hg]; exact (below_size (by repeat (first | (with_reducible first | exact HB.out | apply below_alloc | apply pw_below_drewN | apply below_drew1) | exact HB.out))) : w.heap.size ≤ gb177)); have n3_ := Aside0.mk ((by rw [hg]; exact (below_size (by repeat (first | (with_reducible first | exact HB.out | apply below_alloc | apply pw_below_drewN | apply below_drew1) | exact HB.out))) : w.heap.size ≤ gb177)); clear HB; have HB := n0_; have BK177 := n1_; have GW177 := n2_; have GE177 := n3_; clear n0_ n1_ n2_ n3_; clear hb hbox hg) | ((with_reducible refine gate_dst (N := 2) rfl ?_); refine Kd.R_lit (Kd.int .i64) _ 3 ?hg (N := 2) ?hd (xs := ([4] : List Int)) (inner := [.int .i64 4]) (ok := fun _ => True) (okp := fun _ => True) ?hr ?hp (fun _ hk => hk) trivial (Below.refl _ _) (Nat.le_refl _) (by simp) ?_; (case hd => rfl); (case hg => rfl); (case hr => first | (go_simp; done) | (go_simp; rfl)); (case hp => exact (Reps.one (show Kd.M (Kd.int .i64) _ _ _ 4 [.int .i64 4] from rfl) (Reps.none _ _))); intro v179 w2 ho3 hb hg_ hnew_; clear hg_ hnew_; (first | rw [← Ny178.out] at ho3 | (simp only [Int.reduceToNat] at ho3; rw [← Ny178.out] at ho3)); have n0_ := Aside0.mk (Kd.R_lower (Kd.R_newM (M := fun k_ => (w.heap.size ≤ k_)) ho3 (below_size (by repeat (first | (with_reducible first | exact HB.out | apply below_alloc | apply pw_below_drewN | apply below_drew1 | refine below_set ?_ GE177.out) | exact HB.out))) (fun k_ h_ => h_)) (below_size (by repeat (first | (with_reducible first | exact HB.out | apply below_alloc | apply pw_below_drewN | apply below_drew1 | refine below_set ?_ GE177.out) | exact HB.out)))); have n1_ := Aside0.mk (blk_below (g := gb177) (o := .cells #[.slice none 0 0, .int .i64 0, .int .i64 0] 24 (0, 0)) (by (with_reducible repeat (first | refine blk_drewN ?_ _ | refine blk_drew ?_ | refine blk_alloc ?_ _)); exact BK177.out) hb); have n2_ := Aside0.mk (below_step (by repeat (first | (with_reducible first | exact HB.out | apply below_alloc | apply pw_below_drewN | apply below_drew1 | refine below_set ?_ GE177.out) | exact HB.out)) hb); clear BK177; clear HB; have HO180 := n0_; have BK177 := n1_; have HB := n2_; clear n0_ n1_ n2_; clear hb ho3; obtain ⟨Ao4, co4, eo4⟩ := Kd.R_slice HO180.out; subst eo4) | ((with_reducible refine gate_dst (N := 4) rfl ?_); refine Kd.R_lit (Kd.int .i64) _ 3 ?hg (N := 4) ?hd (xs := ([4, 5, 0] : List Int)) (inner := [.int .i64 4, .int .i64 5, .int .i64 0]) (ok := fun _ => True) (okp := fun _ => True) ?hr ?hp (fun _ hk => hk) trivial (Below.refl _ _) (Nat.le_refl _) (by simp) ?_; (case hd => rfl); (case hg => rfl); (case hr => first | (go_simp; done) | (go_simp; rfl)); (case hp => exact (Reps.one (show Kd.M (Kd.int .i64) _ _ _ 4 [.int .i64 4] from rfl) (Reps.one (show Kd.M (Kd.int .i64) _ _ _ 5 [.int .i64 5] from rfl) (Reps.one (show Kd.M (Kd.int .i64) _ _ _ 0 [.int .i64 0] from rfl) (Reps.none _ _))))); intro v182 w5 ho6 hb hg_ hnew_; clear hg_ hnew_; (first | rw [← Ny181.out] at ho6 | (simp only [Int.reduceToNat] at ho6; rw [← Ny181.out] at ho6)); have n0_ := Aside0.mk (Kd.R_elder' (by (with_reducible repeat (first | apply Kd.R_alloc | apply Kd.R_drewN | apply Kd.R_drew)); exact HO180.out) (Kd.R_base ho6) hb); have n1_ := Aside0.mk (Kd.R_lower (Kd.R_new' (Kd.R_newM (M := fun k_ => (w.heap.size ≤ k_)) ho6 (below_size (by repeat (first | (with_reducible first | exact HB.out | apply below_alloc | apply pw_below_drewN | apply below_drew1 | refine below_set ?_ GE177.out) | exact HB.out))) (fun k_ h_ => h_)) (Kd.R_lt (by (with_reducible repeat (first | apply Kd.R_alloc | apply Kd.R_drewN | apply Kd.R_drew)); exact HO180.out))) (below_size (by repeat (first | (with_reducible first | exact HB.out | apply below_alloc | apply pw_below_drewN | apply below_drew1 | refine below_set ?_ GE177.out) | exact HB.out)))); have n2_ := Aside0.mk (blk_below (g := gb177) (o := .cells #[.slice none 0 0, .int .i64 0, .int .i64 0] 24 (0, 0)) (by (with_reducible repeat (first | refine blk_drewN ?_ _ | refine blk_drew ?_ | refine blk_alloc ?_ _)); exact BK177.out) hb); have n3_ := Aside0.mk (below_step (by repeat (first | (with_reducible first | exact HB.out | apply below_alloc | apply pw_below_drewN | apply below_drew1 | refine below_set ?_ GE177.out) | exact HB.out)) hb); clear HO180; clear BK177; clear HB; have HO180 := n0_; have HO183 := n1_; have BK177 := n2_; have HB := n3_; clear n0_ n1_ n2_ n3_; clear hb ho6; obtain ⟨Ao7, co7, eo7⟩ := Kd.R_slice HO183.out; subst eo7) | ((with_reducible refine gate_dst (N := 6) rfl ?_); refine Kd.N_lit k44 _ 44 ?hg (N' := 6) ?hd (xs := ([(⟨0, 0, ([] : List Int), (⟨#[]⟩ : ByteArray), 0, 0⟩ : S44), (⟨0, 0, y178, (⟨#[]⟩ : ByteArray), 0, 0⟩ : S44), (⟨0, 0, y181, (⟨#[]⟩ : ByteArray), 0, 9⟩ : S44)] : List (S44))) (inner := [.int .i64 0, .int .i64 0, .slice none 0 0, .string (⟨#[]⟩ : ByteArray), .int .i64 0, .int .i64 0, .int .i64 0, .int .i64 0, .slice Ao4 y178.length co4, .string (⟨#[]⟩ : ByteArray), .int .i64 0, .int .i64 0, .int .i64 0, .int .i64 0, .slice Ao7 y181.length co7, .string (⟨#[]⟩ : ByteArray), .int .i64 0, .int .i64 9]) (ok := (fun k_ => (w.heap.size ≤ k_) ∧ k_ ≠ gb177)) (okp := (fun k_ => (w.heap.size ≤ k_) ∧ k_ ≠ gb177)) ?hr ?hp (fun _ hk => hk) ((show ∀ k_, w5.heap.size ≤ k_ → (fun k_ => (w.heap.size ≤ k_) ∧ k_ ≠ gb177) k_ from fun k_ hk => ⟨(Nat.le_trans (below_size (by repeat (first | (with_reducible first | exact HB.out | apply below_alloc | apply pw_below_drewN | apply below_drew1 | refine below_set ?_ GE177.out) | exact HB.out))) hk), Kd.freshB (g := gb177) (o := .cells #[.slice none 0 0, .int .i64 0, .int .i64 0] 24 (0, 0)) (by (with_reducible repeat (first | refine blk_drewN ?_ _ | refine blk_drew ?_ | refine blk_alloc ?_ _)); exact BK177.out) k_ hk⟩) _ (Nat.le_refl _)) (Below.refl _ _) (Nat.le_refl _) (by simp) ?_; (case hd => rfl); (case hg => rfl); (case hr => first | (go_simp; done) | (go_simp; rfl)); (case hp => exact (Reps.c6 (show Kd.FK k44 _ _ (⟨0, 0, ([] : List Int), (⟨#[]⟩ : ByteArray), 0, 0⟩ : S44) [.int .i64 0, .int .i64 0, .slice none 0 0, .string (⟨#[]⟩ : ByteArray), .int .i64 0, .int .i64 0] from (k44_mkF _ _ (⟨0, 0, ([] : List Int), (⟨#[]⟩ : ByteArray), 0, 0⟩ : S44) (Nat.le_refl _) (Kd.F_nil _ _ _))) (Reps.c6 (show Kd.FK k44 _ _ (⟨0, 0, y178, (⟨#[]⟩ : ByteArray), 0, 0⟩ : S44) [.int .i64 0, .int .i64 0, .slice Ao4 y178.length co4, .string (⟨#[]⟩ : ByteArray), .int .i64 0, .int .i64 0] from (k44_mkF _ _ (⟨0, 0, y178, (⟨#[]⟩ : ByteArray), 0, 0⟩ : S44) (Kd.R_reads' (Kd.R_mono (ok' := (fun k_ => (w.heap.size ≤ k_) ∧ k_ ≠ gb177)) (Kd.R_types (HO180.out) BK177.out (by decide)) (fun k_ hk => ⟨hk.1.1.1, hk.2⟩))).2.1 (Kd.R_F (Kd.R_mono (ok' := (fun k_ => (w.heap.size ≤ k_) ∧ k_ ≠ gb177)) (Kd.R_types (HO180.out) BK177.out (by decide)) (fun k_ hk => ⟨hk.1.1.1, hk.2⟩))))) (Reps.c6 (show Kd.FK k44 _ _ (⟨0, 0, y181, (⟨#[]⟩ : ByteArray), 0, 9⟩ : S44) [.int .i64 0, .int .i64 0, .slice Ao7 y181.length co7, .string (⟨#[]⟩ : ByteArray), .int .i64 0, .int .i64 9] from (k44_mkF _ _ (⟨0, 0, y181, (⟨#[]⟩ : ByteArray), 0, 9⟩ : S44) (Kd.R_reads' (Kd.R_mono (ok' := (fun k_ => (w.heap.size ≤ k_) ∧ k_ ≠ gb177)) (Kd.R_types (HO183.out) BK177.out (by decide)) (fun k_ hk => ⟨hk.1.1.1, hk.2⟩))).2.1 (Kd.R_F (Kd.R_mono (ok' := (fun k_ => (w.heap.size ≤ k_) ∧ k_ ≠ gb177)) (Kd.R_types (HO183.out) BK177.out (by decide)) (fun k_ hk => ⟨hk.1.1.1, hk.2⟩))))) (Reps.none _ _))))); intro v185 w8 ho9 hb hg_ hnew_; clear hg_ hnew_; (first | rw [← Ny184.out] at ho9 | (simp only [Int.reduceToNat] at ho9; rw [← Ny184.out] at ho9)); have n0_ := Aside0.mk (Kd.N_lower ho9 (below_size (by repeat (first | (with_reducible first | exact HB.out | apply below_alloc | apply pw_below_drewN | apply below_drew1 | refine below_set ?_ GE177.out) | exact HB.out)))); have n1_ := Aside0.mk (blk_below (g := gb177) (o := .cells #[.slice none 0 0, .int .i64 0, .int .i64 0] 24 (0, 0)) (by (with_reducible repeat (first | refine blk_drewN ?_ _ | refine blk_drew ?_ | refine blk_alloc ?_ _)); exact BK177.out) hb); have n2_ := Aside0.mk (below_step (by repeat (first | (with_reducible first | exact HB.out | apply below_alloc | apply pw_below_drewN | apply below_drew1 | refine below_set ?_ GE177.out) | exact HB.out)) hb); clear BK177; clear HB; clear HO180; clear HO183; have HO186 := n0_; have BK177 := n1_; have HB := n2_; clear n0_ n1_ n2_; clear hb ho9; obtain ⟨Ao10, co10, eo10⟩ := Kd.N_slice HO186.out; subst eo10; have hcz11_0 : w8.cell? ⟨gb177, 0, none⟩ = some (.slice none 0 0) := (blk_cell BK177.out 0).trans rfl; have hcz11_1 : w8.cell? ⟨gb177, 1, none⟩ = some (.int .i64 0) := (blk_cell BK177.out 1).trans rfl; have hcz11_2 : w8.cell? ⟨gb177, 2, none⟩ = some (.int .i64 0) := (blk_cell BK177.out 2).trans rfl; have hfz11_0 := blk_frozen BK177.out 0; have hfz11_1 := blk_frozen BK177.out 1; have hfz11_2 := blk_frozen BK177.out 2))
 refine bodyPost_ret (results_cell_row rfl _ _ gb177 24 #[.slice Ao10 y184.length co10, .int .i64 3, .int .i64 7] (0, 0) _ rfl (by (with_reducible repeat (first | refine blk_drewN ?_ _ | refine blk_drew ?_ | refine blk_alloc ?_ _)); refine blk_put (cs := #[.slice Ao10 y184.length co10, .int .i64 3, .int .i64 0]) ?_ 2 _ rfl; (with_reducible repeat (first | refine blk_drewN ?_ _ | refine blk_drew ?_ | refine blk_alloc ?_ _)); refine blk_put (cs := #[.slice Ao10 y184.length co10, .int .i64 0, .int .i64 0]) ?_ 1 _ rfl; (with_reducible repeat (first | refine blk_drewN ?_ _ | refine blk_drew ?_ | refine blk_alloc ?_ _)); refine blk_put (cs := #[.slice none 0 0, .int .i64 0, .int .i64 0]) ?_ 0 _ rfl; (with_reducible repeat (first | refine blk_drewN ?_ _ | refine blk_drew ?_ | refine blk_alloc ?_ _)); exact BK177.out) Try.underlying24 rfl (by kernel_rfl)) rfl ?_
 exact ⟨_, by first | rfl | (simp [errW_none, errW_some] <;> rfl) | (simp [*, errW_none, errW_some] <;> rfl), by (with_reducible repeat (first | apply Kd.N_alloc | apply Kd.N_drewN | apply Kd.N_drew)); exact Kd.N_mono (Kd.N_far (p := ⟨gb177, 2, none⟩) (Kd.N_far (p := ⟨gb177, 1, none⟩) (Kd.N_far (p := ⟨gb177, 0, none⟩) (Kd.N_mono HO186.out (fun k_ hk => (⟨hk, hk.2⟩ : _ ∧ k_ ≠ gb177))) (fun _ hk => hk.2) (.slice Ao10 y184.length co10)) (fun _ hk => hk.2) (.int .i64 3)) (fun _ hk => hk.2) (.int .i64 7)) (fun _ hk => hk.1.1), by repeat (first | (with_reducible first | exact HB.out | apply below_alloc | apply pw_below_drewN | apply below_drew1 | refine below_set ?_ GE177.out) | exact HB.out)⟩
end Go.Proofs.Ytlmejfcfdhinlaa.PMove
