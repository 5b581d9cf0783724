import Derived.Test.YtednpcfhefibdaaPSnapx0
import Derived.Test.YtednpcfhefibdaaPSnapx9
import Derived.Test.YtednpcfhefibdaaPSnapx10
import Derived.Test.YtednpcfhefibdaaPSnapx11
namespace Go.Proofs.Ytednpcfhefibdaa.PSnap
open Go.RowKit Go.Proofs.YtednpcfhefibdaaW.PrintWords Go.Proofs.YtednpcfhefibdaaW.PrintLast Go.Proofs.YtednpcfhefibdaaW.PrintMore
attribute [local go_sem] max2_int min2_int max_two min_two max_three min_three max_four min_four
set_option linter.unusedVariables false
set_option linter.unusedSimpArgs false
attribute [local go_sem] setCell_drewN
def anamnesisref03_May.l0 : Nat → Int → List (S41) → Int → Int → Option (Bool)
 | 0, _, _, _, _ => none
 | k + 1, x3, x260000, x260001, x260002 => if x3 < (x260000.length : Int) then (if 0 ≤ x3 then ((anamnesisref03_obj.f k x260000 x260001 x260002 ((rd_T41 x260000 x3).f0) ((rd_T41 x260000 x3).f1) ((rd_T41 x260000 x3).f2) ((rd_T41 x260000 x3).f3) ((rd_T41 x260000 x3).f4) ((rd_T41 x260000 x3).f5)).bind fun t261 => (if t261 = true then (anamnesisref03_May.l0 k (wrap64 (x3 + 1)) x260000 x260001 x260002) else (some false))) else (none)) else (if x260001 ≥ 1 then (if x260001 ≤ 256 then (if (x260000.length : Int) ≤ x260001 then ((anamnesisref03_hash.f x260002).bind fun t262 => (some t262)) else (some false)) else (some false)) else (some false))
def anamnesisref03_May.f (k : Nat) (l0_0 : List (S41)) (a0_1 : Int) (a0_2 : Int) : Option (Bool) := anamnesisref03_May.l0 k 0 l0_0 a0_1 a0_2
theorem anamnesisref03_May.mono_l : ∀ k, (∀ y0 y1 y2 y3, LeO (anamnesisref03_May.l0 k y0 y1 y2 y3) (anamnesisref03_May.l0 (k + 1) y0 y1 y2 y3))
 | 0 => fun _ _ _ _ r h => by simp [anamnesisref03_May.l0] at h
 | k + 1 => by
  have ih0 := anamnesisref03_May.mono_l k
  ·intro y0 y1 y2 y3
   unfold anamnesisref03_May.l0
   repeat' first
   | (with_reducible exact ih0 _ _ _ _)
   | (with_reducible exact anamnesisref03_obj.mono _ _ _ _ _ _ _ _ _ _)
   | (with_reducible exact LeO.refl _)
   | (with_reducible exact LeO.none _)
   | (with_reducible refine LeO.ite ?_ ?_)
   | (with_reducible refine LeO.bind ?_ (fun _ => ?_))
   | exact ih0 _ _ _ _
   | exact anamnesisref03_obj.mono _ _ _ _ _ _ _ _ _ _
   | exact LeO.none _
   | refine LeO.ite ?_ ?_
   | refine LeO.bind ?_ (fun _ => ?_)
theorem anamnesisref03_May.mono : ∀ a0 a1 a2 k, LeO (anamnesisref03_May.f k a0 a1 a2) (anamnesisref03_May.f (k + 1) a0 a1 a2) := by
 intro a0 a1 a2 k
 have ih0 := anamnesisref03_May.mono_l k
 unfold anamnesisref03_May.f
 repeat' first
   | (with_reducible exact ih0 _ _ _ _)
   | (with_reducible exact anamnesisref03_obj.mono _ _ _ _ _ _ _ _ _ _)
   | (with_reducible exact LeO.refl _)
   | (with_reducible exact LeO.none _)
   | (with_reducible refine LeO.ite ?_ ?_)
   | (with_reducible refine LeO.bind ?_ (fun _ => ?_))
   | exact ih0 _ _ _ _
   | exact anamnesisref03_obj.mono _ _ _ _ _ _ _ _ _ _
   | exact LeO.none _
   | refine LeO.ite ?_ ?_
   | refine LeO.bind ?_ (fun _ => ?_)
def anamnesisref03_May.T4 : Bool × List (List Nat × List Nat) := (true, [([], []), ([], []), ([1], [1]), ([], []), ([2, 3], [2, 3]), ([4], [4]), ([0, 5], [0, 5]), ([6], [6])])
def anamnesisref03_May.B4 : List Nat := [0, 0, 2, 0, 14, 30, 63, 127]
theorem anamnesisref03_May.tab4 : rtab .any (opsOf Try.f17 4) = anamnesisref03_May.T4 := by kernel_rfl
theorem anamnesisref03_May.bits4 : waitsOk anamnesisref03_May.T4.2 anamnesisref03_May.B4 = true := by kernel_rfl
set_option maxHeartbeats 8000000 in
set_option maxRecDepth 100000 in
theorem anamnesisref03_May.calls (k : Nat) (A0_0 : Option Addr) (c0_0 : Nat) (l0_0 : List (S41)) (a0_1 : Int) (a0_2 : Int) (r : Bool) (w : World) (hr0_0 : Kd.C k41 w A0_0 l0_0.length l0_0) (hc0_0 : l0_0.length ≤ c0_0) (h : anamnesisref03_May.f k l0_0 a0_1 a0_2 = some r) :
  Calls Try.prog 17 #[.agg #[.slice A0_0 l0_0.length c0_0, .int .i64 a0_1, .int .i64 a0_2]] w fun e w' => e = .returned (.bool r) ∧ Below w.heap.size w w' := by
 have hu24 := Try.underlying24
 have hu41 := Try.underlying41
 have HR0_0 := Aside0.mk hr0_0
 have HC0_0 := Aside0.mk hc0_0
 clear hr0_0 hc0_0
 have HB := Aside0.mk (Below.refl w.heap.size w)
 have H : (anamnesisref03_May.l0 k 0 l0_0 a0_1 a0_2) = some r := h
 clear h
 have H' := Aside0.mk H
 clear H
 go_enter Try.func17, Try.ntmps17
 go_wp2_with (first | ((with_reducible refine gate_dst (N := 1) rfl ?_); (try (refine gate_guard (by rfl) ?_; dsimp only)); refine box_event ?hg (N := 1) ?hd (cs := #[.slice A0_0 l0_0.length c0_0, .int .i64 a0_1, .int .i64 a0_2]) (t := 24) ?hr ?_; (case hd => rfl); (case hg => rfl); (case hr => first | (go_simp; done) | (go_simp; rfl)); intro gb259 hg w2 hbox hb; have n0_ := Aside0.mk (below_step (by repeat (first | (with_reducible first | exact HB.out | apply below_alloc | apply pw_below_drewN | apply below_drew1) | exact HB.out)) hb); have n1_ := Aside0.mk (hbox); have n2_ := Aside0.mk ((by rw [hg]; exact (below_size (by repeat (first | (with_reducible first | exact HB.out | apply below_alloc | apply pw_below_drewN | apply below_drew1) | exact HB.out))) : w.heap.size ≤ gb259)); have n3_ := Aside0.mk ((by rw [hg]; exact (below_size (by repeat (first | (with_reducible first | exact HB.out | apply below_alloc | apply pw_below_drewN | apply below_drew1) | exact HB.out))) : w.heap.size ≤ gb259)); clear HB; have HB := n0_; have BK259 := n1_; have GW259 := n2_; have GE259 := n3_; clear n0_ n1_ n2_ n3_; clear hb hbox hg))
 go_loopg [3] k (fun kq v3 w' => ∃ (x3_1 : Int), v3 = .int .i64 x3_1 ∧ Aside0 (anamnesisref03_May.l0 kq x3_1 l0_0 a0_1 a0_2 = some r) ∧ Aside0 (kq ≤ k) ∧ Aside0 (w'.heap[gb259]? = some (.cells #[(.slice A0_0 l0_0.length c0_0), .int .i64 a0_1, .int .i64 a0_2] 24 (0, 0))) ∧ Aside0 (Below w.heap.size w w'))
 case atStart => exact ⟨(0), (by first | rfl | (simp; done) | (simp [*]; done)), H', ⟨Nat.le_refl _⟩, ⟨by (with_reducible repeat (first | refine blk_drewN ?_ _ | refine blk_drew ?_ | refine blk_alloc ?_ _)); exact BK259.out⟩, ⟨by repeat (first | (with_reducible first | exact HB.out | apply below_alloc | apply pw_below_drewN | apply below_drew1 | refine below_set ?_ GE259.out) | exact HB.out)⟩⟩
 case round =>
  clear H'
  try clear c1
  try clear p2
  obtain ⟨x3_1, rfl, HA, HK1, BK259, HB⟩ := hrel
  cases gk with
  | zero => exact absurd HA.out (by simp [anamnesisref03_May.l0])
  | succ k1 =>
   have H := HA.out
   clear HA
   simp only [anamnesisref03_May.l0] at H
   by_cases c3 : x3_1 < (l0_0.length : Int)
   ·rw [if_pos c3] at H
    have c3b0 : decide (x3_1 < (l0_0.length : Int)) = true := decide_eq_true c3
    clear c3
    by_cases c4 : 0 ≤ x3_1
    ·rw [if_pos c4] at H
     have c4b0 : decide (0 ≤ x3_1) = true := decide_eq_true c4
     clear c4
     replace H := Option.bind_eq_some_iff.mp H
     obtain ⟨t261, A50, H⟩ := H
     replace H : (if t261 = true then (anamnesisref03_May.l0 k1 (wrap64 (x3_1 + 1)) l0_0 a0_1 a0_2) else (some false)) = some r := H
     have A5 := Aside0.mk A50
     clear A50
     by_cases c6 : t261 = true
     ·subst c6
      have H1 : (anamnesisref03_May.l0 k1 (wrap64 (x3_1 + 1)) l0_0 a0_1 a0_2) = some r := by rw [if_pos rfl] at H; exact H
      clear H
      have H := H1
      clear H1
      have H' := Aside0.mk H
      clear H
      have hcz7_0 : wr.cell? ⟨gb259, 0, none⟩ = some (.slice A0_0 l0_0.length c0_0) := (blk_cell BK259.out 0).trans rfl
      have hcz7_1 : wr.cell? ⟨gb259, 1, none⟩ = some (.int .i64 a0_1) := (blk_cell BK259.out 1).trans rfl
      have hcz7_2 : wr.cell? ⟨gb259, 2, none⟩ = some (.int .i64 a0_2) := (blk_cell BK259.out 2).trans rfl
      have hfz7_0 := blk_frozen BK259.out 0
      have hfz7_1 := blk_frozen BK259.out 1
      have hfz7_2 := blk_frozen BK259.out 2
      try go_wp2
      have n0_ := Aside0.mk (blk_drew BK259.out)
      have n1_ := Aside0.mk (below_drew1 HB.out)
      clear BK259
      clear HB
      have BK259 := n0_
      have HB := n1_
      clear n0_ n1_
      have p260 : 0 ≤ (x3_1 : Int) := of_decide_eq_true (by first | (with_reducible assumption) | assumption)
      have q260 : x3_1 < (l0_0.length : Int) := of_decide_eq_true (by first | (with_reducible assumption) | assumption)
      obtain ⟨ad260, A260_2, c260_2, e260, hx260_0, hx260_1, hx260_2, hx260_3, hx260_4, hx260_5, hl260_2, hi260_2⟩ := at_T41 HR0_0.out x3_1 p260 q260
      have hw260_5 := hx260_5
      have hw260_4 := hx260_4
      have hw260_3 := hx260_3
      have hw260_2 := hx260_2
      have hw260_1 := hx260_1
      have hw260_0 := hx260_0
      cases e260
      replace hx260_0 := (HB.out.cell (World.block_lt_of_cell? w _ hx260_0)).trans hx260_0
      replace hx260_1 := (HB.out.cell (World.block_lt_of_cell? w _ hx260_1)).trans hx260_1
      replace hx260_2 := (HB.out.cell (World.block_lt_of_cell? w _ hx260_2)).trans hx260_2
      replace hx260_3 := (HB.out.cell (World.block_lt_of_cell? w _ hx260_3)).trans hx260_3
      replace hx260_4 := (HB.out.cell (World.block_lt_of_cell? w _ hx260_4)).trans hx260_4
      replace hx260_5 := (HB.out.cell (World.block_lt_of_cell? w _ hx260_5)).trans hx260_5
      have HR260_2 := Aside0.mk hi260_2
      have HC260_2 := Aside0.mk hl260_2
      clear hi260_2 hl260_2
      replace p260 := eq_true p260
      replace q260 := eq_true q260
      refine start_ (n := 8) (S := fun w' => w'.cell? ⟨gb259, 0, none⟩ = some (.slice (some ad260) l0_0.length c0_0) ∧ w'.cell? ⟨gb259, 1, none⟩ = some (.int .i64 a0_1) ∧ w'.cell? ⟨gb259, 2, none⟩ = some (.int .i64 a0_2) ∧ w'.cell? (ad260.add ((x3_1).toNat * 6)) = some (.int .i64 ((rd_T41 l0_0 x3_1).f0)) ∧ w'.cell? ⟨(ad260.add ((x3_1).toNat * 6)).block, (ad260.add ((x3_1).toNat * 6)).off + 1, none⟩ = some (.int .i64 ((rd_T41 l0_0 x3_1).f1)) ∧ w'.cell? ⟨(ad260.add ((x3_1).toNat * 6)).block, (ad260.add ((x3_1).toNat * 6)).off + 2, none⟩ = some (.slice A260_2 ((rd_T41 l0_0 x3_1).f2).length c260_2) ∧ w'.cell? ⟨(ad260.add ((x3_1).toNat * 6)).block, (ad260.add ((x3_1).toNat * 6)).off + 3, none⟩ = some (.string ((rd_T41 l0_0 x3_1).f3)) ∧ w'.cell? ⟨(ad260.add ((x3_1).toNat * 6)).block, (ad260.add ((x3_1).toNat * 6)).off + 4, none⟩ = some (.int .i64 ((rd_T41 l0_0 x3_1).f4)) ∧ w'.cell? ⟨(ad260.add ((x3_1).toNat * 6)).block, (ad260.add ((x3_1).toNat * 6)).off + 5, none⟩ = some (.int .i64 ((rd_T41 l0_0 x3_1).f5))) (ds := []) #[false, false, false, false, false, false, false, false] (by kernel_rfl) rfl rfl ⟨(blk_cell BK259.out 0).trans rfl, (blk_cell BK259.out 1).trans rfl, (blk_cell BK259.out 2).trans rfl, ((HB.out.cell (World.block_lt_of_cell? w _ hw260_0)).trans hw260_0), ((HB.out.cell (World.block_lt_of_cell? w _ hw260_1)).trans hw260_1), ((HB.out.cell (World.block_lt_of_cell? w _ hw260_2)).trans hw260_2), ((HB.out.cell (World.block_lt_of_cell? w _ hw260_3)).trans hw260_3), ((HB.out.cell (World.block_lt_of_cell? w _ hw260_4)).trans hw260_4), ((HB.out.cell (World.block_lt_of_cell? w _ hw260_5)).trans hw260_5)⟩ (fun hHeld => ?_); refine with_tabW anamnesisref03_May.tab4 anamnesisref03_May.bits4 (fun HT_ HW_ => ?_)
      generalize wr.drew = w8 at BK259 HB HR260_2 hx260_0 hx260_1 hx260_2 hx260_3 hx260_4 hx260_5 hHeld ⊢
      refine pure1 (i := 1) (N := some 12) #[false, true, false, false, false, false, false, false] HT_.out ?_
      refine pure1 (i := 3) (N := some 14) #[false, true, false, true, false, false, false, false] HT_.out ?_
      refine take1 (i := 0) (N := some 11) #[true, true, false, true, false, false, false, false] HT_.out HW_.out hHeld ?_
      refine take1 (i := 2) (N := some 13) #[true, true, true, true, false, false, false, false] HT_.out HW_.out hHeld ?_
      refine pure1 (i := 4) (N := some 15) #[true, true, true, true, true, false, false, false] HT_.out ?_
      refine take1 (i := 5) (N := some 16) #[true, true, true, true, true, true, false, false] HT_.out HW_.out hHeld ?_
      refine one_ (i := 6) (N := some 17) #[true, true, true, true, true, true, true, false] rfl rfl (one_of HT_.out (by kernel_rfl)) (by decide) (fun K hK => ?_)
      refine goes_ Try.func38 (by kernel_rfl) rfl #[.agg #[.slice (some ad260) l0_0.length c0_0, .int .i64 a0_1, .int .i64 a0_2], .agg #[.int .i64 ((rd_T41 l0_0 x3_1).f0), .int .i64 ((rd_T41 l0_0 x3_1).f1), .slice A260_2 ((rd_T41 l0_0 x3_1).f2).length c260_2, .string ((rd_T41 l0_0 x3_1).f3), .int .i64 ((rd_T41 l0_0 x3_1).f4), .int .i64 ((rd_T41 l0_0 x3_1).f5)]] (by rfl) rfl rfl (by (try simp only [List.map_toArray, List.map_cons, List.map_nil]); first | done | rfl | (simp only [List.length_drop, List.length_take]; rfl)) ?_
      with_reducible refine (anamnesisref03_obj.calls k1 _ _ l0_0 a0_1 a0_2 ((rd_T41 l0_0 x3_1).f0) ((rd_T41 l0_0 x3_1).f1) _ _ ((rd_T41 l0_0 x3_1).f2) ((rd_T41 l0_0 x3_1).f3) ((rd_T41 l0_0 x3_1).f4) ((rd_T41 l0_0 x3_1).f5) true _ ?side1 ?side2 ?side3 ?side4 A5.out).mono ?_
      (case side1 => repeat (first | exact (Kd.C_below HR0_0.out HB.out) | (with_reducible refine Kd.C_alloc ?_ _) | (with_reducible refine Kd.C_drewN ?_ _) | (with_reducible refine Kd.C_drew ?_)))
      (case side2 => exact HC0_0.out)
      (case side3 => repeat (first | exact (Kd.C_below HR260_2.out HB.out) | (with_reducible refine Kd.C_alloc ?_ _) | (with_reducible refine Kd.C_drewN ?_ _) | (with_reducible refine Kd.C_drew ?_)))
      (case side4 => exact HC260_2.out)
      rintro e w9 ⟨rfl, hb⟩
      refine ⟨_, rfl, ?_⟩
      have n0_ := Aside0.mk (blk_below (g := gb259) (o := .cells #[.slice (some ad260) l0_0.length c0_0, .int .i64 a0_1, .int .i64 a0_2] 24 (0, 0)) (by (with_reducible repeat (first | refine blk_drewN ?_ _ | refine blk_drew ?_ | refine blk_alloc ?_ _)); exact BK259.out) hb)
      have n1_ := Aside0.mk (below_step (by repeat (first | (with_reducible first | exact HB.out | apply below_alloc | apply pw_below_drewN | apply below_drew1 | refine below_set ?_ GE259.out) | exact HB.out)) hb)
      clear BK259
      clear HB
      have BK259 := n0_
      have HB := n1_
      clear n0_ n1_
      (try clear hb)
      (try clear hb2)
      (try clear hk)
      (try clear hi)
      refine hK.out _ _ ⟨(blk_cell BK259.out 0).trans rfl, (blk_cell BK259.out 1).trans rfl, (blk_cell BK259.out 2).trans rfl, ((HB.out.cell (World.block_lt_of_cell? w _ hw260_0)).trans hw260_0), ((HB.out.cell (World.block_lt_of_cell? w _ hw260_1)).trans hw260_1), ((HB.out.cell (World.block_lt_of_cell? w _ hw260_2)).trans hw260_2), ((HB.out.cell (World.block_lt_of_cell? w _ hw260_3)).trans hw260_3), ((HB.out.cell (World.block_lt_of_cell? w _ hw260_4)).trans hw260_4), ((HB.out.cell (World.block_lt_of_cell? w _ hw260_5)).trans hw260_5)⟩ (fun hHeld => ?_)
      clear hK K
      refine norm_ (a' := ?_) ?_ ?_
      rotate_left
      ·show Act.put _ (some 17) _ = _
       simp only [Act.put, List.setIfInBounds_toArray, List.set_cons_zero, List.set_cons_succ, i64_w, i32_w]
       rfl
      refine pure1 (i := 7) (N := some 18) #[true, true, true, true, true, true, true, true] HT_.out ?_
      refine done_ (done_of HT_.out (by kernel_rfl)) ?_
      try go_wp2
      go_roundg k1
      case measure => have := HK1.out; omega
      case rel => exact ⟨(wrap64 (x3_1 + 1)), (by first | rfl | (simp; done) | (simp [*]; done)), H', ⟨by have := HK1.out; omega⟩, ⟨by (with_reducible repeat (first | refine blk_drewN ?_ _ | refine blk_drew ?_ | refine blk_alloc ?_ _)); exact BK259.out⟩, ⟨by repeat (first | (with_reducible first | exact HB.out | apply below_alloc | apply pw_below_drewN | apply below_drew1 | refine below_set ?_ GE259.out) | exact HB.out)⟩⟩
     ·replace c6 := Bool.eq_false_iff.mpr c6
      subst c6
      have H1 : (some false) = some r := by rw [if_neg (show ¬ (false = true) by decide)] at H; exact H
      clear H
      have H := H1
      clear H1
      obtain rfl := Option.some.inj H
      have hcz10_0 : wr.cell? ⟨gb259, 0, none⟩ = some (.slice A0_0 l0_0.length c0_0) := (blk_cell BK259.out 0).trans rfl
      have hcz10_1 : wr.cell? ⟨gb259, 1, none⟩ = some (.int .i64 a0_1) := (blk_cell BK259.out 1).trans rfl
      have hcz10_2 : wr.cell? ⟨gb259, 2, none⟩ = some (.int .i64 a0_2) := (blk_cell BK259.out 2).trans rfl
      have hfz10_0 := blk_frozen BK259.out 0
      have hfz10_1 := blk_frozen BK259.out 1
      have hfz10_2 := blk_frozen BK259.out 2
      try go_wp2
      have n0_ := Aside0.mk (blk_drew BK259.out)
      have n1_ := Aside0.mk (below_drew1 HB.out)
      clear BK259
      clear HB
      have BK259 := n0_
      have HB := n1_
      clear n0_ n1_
      have p260 : 0 ≤ (x3_1 : Int) := of_decide_eq_true (by first | (with_reducible assumption) | assumption)
      have q260 : x3_1 < (l0_0.length : Int) := of_decide_eq_true (by first | (with_reducible assumption) | assumption)
      obtain ⟨ad260, A260_2, c260_2, e260, hx260_0, hx260_1, hx260_2, hx260_3, hx260_4, hx260_5, hl260_2, hi260_2⟩ := at_T41 HR0_0.out x3_1 p260 q260
      have hw260_5 := hx260_5
      have hw260_4 := hx260_4
      have hw260_3 := hx260_3
      have hw260_2 := hx260_2
      have hw260_1 := hx260_1
      have hw260_0 := hx260_0
      cases e260
      replace hx260_0 := (HB.out.cell (World.block_lt_of_cell? w _ hx260_0)).trans hx260_0
      replace hx260_1 := (HB.out.cell (World.block_lt_of_cell? w _ hx260_1)).trans hx260_1
      replace hx260_2 := (HB.out.cell (World.block_lt_of_cell? w _ hx260_2)).trans hx260_2
      replace hx260_3 := (HB.out.cell (World.block_lt_of_cell? w _ hx260_3)).trans hx260_3
      replace hx260_4 := (HB.out.cell (World.block_lt_of_cell? w _ hx260_4)).trans hx260_4
      replace hx260_5 := (HB.out.cell (World.block_lt_of_cell? w _ hx260_5)).trans hx260_5
      have HR260_2 := Aside0.mk hi260_2
      have HC260_2 := Aside0.mk hl260_2
      clear hi260_2 hl260_2
      replace p260 := eq_true p260
      replace q260 := eq_true q260
      refine start_ (n := 8) (S := fun w' => w'.cell? ⟨gb259, 0, none⟩ = some (.slice (some ad260) l0_0.length c0_0) ∧ w'.cell? ⟨gb259, 1, none⟩ = some (.int .i64 a0_1) ∧ w'.cell? ⟨gb259, 2, none⟩ = some (.int .i64 a0_2) ∧ w'.cell? (ad260.add ((x3_1).toNat * 6)) = some (.int .i64 ((rd_T41 l0_0 x3_1).f0)) ∧ w'.cell? ⟨(ad260.add ((x3_1).toNat * 6)).block, (ad260.add ((x3_1).toNat * 6)).off + 1, none⟩ = some (.int .i64 ((rd_T41 l0_0 x3_1).f1)) ∧ w'.cell? ⟨(ad260.add ((x3_1).toNat * 6)).block, (ad260.add ((x3_1).toNat * 6)).off + 2, none⟩ = some (.slice A260_2 ((rd_T41 l0_0 x3_1).f2).length c260_2) ∧ w'.cell? ⟨(ad260.add ((x3_1).toNat * 6)).block, (ad260.add ((x3_1).toNat * 6)).off + 3, none⟩ = some (.string ((rd_T41 l0_0 x3_1).f3)) ∧ w'.cell? ⟨(ad260.add ((x3_1).toNat * 6)).block, (ad260.add ((x3_1).toNat * 6)).off + 4, none⟩ = some (.int .i64 ((rd_T41 l0_0 x3_1).f4)) ∧ w'.cell? ⟨(ad260.add ((x3_1).toNat * 6)).block, (ad260.add ((x3_1).toNat * 6)).off + 5, none⟩ = some (.int .i64 ((rd_T41 l0_0 x3_1).f5))) (ds := []) #[false, false, false, false, false, false, false, false] (by kernel_rfl) rfl rfl ⟨(blk_cell BK259.out 0).trans rfl, (blk_cell BK259.out 1).trans rfl, (blk_cell BK259.out 2).trans rfl, ((HB.out.cell (World.block_lt_of_cell? w _ hw260_0)).trans hw260_0), ((HB.out.cell (World.block_lt_of_cell? w _ hw260_1)).trans hw260_1), ((HB.out.cell (World.block_lt_of_cell? w _ hw260_2)).trans hw260_2), ((HB.out.cell (World.block_lt_of_cell? w _ hw260_3)).trans hw260_3), ((HB.out.cell (World.block_lt_of_cell? w _ hw260_4)).trans hw260_4), ((HB.out.cell (World.block_lt_of_cell? w _ hw260_5)).trans hw260_5)⟩ (fun hHeld => ?_); refine with_tabW anamnesisref03_May.tab4 anamnesisref03_May.bits4 (fun HT_ HW_ => ?_)
      generalize wr.drew = w11 at BK259 HB HR260_2 hx260_0 hx260_1 hx260_2 hx260_3 hx260_4 hx260_5 hHeld ⊢
      refine pure1 (i := 1) (N := some 12) #[false, true, false, false, false, false, false, false] HT_.out ?_
      refine pure1 (i := 3) (N := some 14) #[false, true, false, true, false, false, false, false] HT_.out ?_
      refine take1 (i := 0) (N := some 11) #[true, true, false, true, false, false, false, false] HT_.out HW_.out hHeld ?_
      refine take1 (i := 2) (N := some 13) #[true, true, true, true, false, false, false, false] HT_.out HW_.out hHeld ?_
      refine pure1 (i := 4) (N := some 15) #[true, true, true, true, true, false, false, false] HT_.out ?_
      refine take1 (i := 5) (N := some 16) #[true, true, true, true, true, true, false, false] HT_.out HW_.out hHeld ?_
      refine one_ (i := 6) (N := some 17) #[true, true, true, true, true, true, true, false] rfl rfl (one_of HT_.out (by kernel_rfl)) (by decide) (fun K hK => ?_)
      refine goes_ Try.func38 (by kernel_rfl) rfl #[.agg #[.slice (some ad260) l0_0.length c0_0, .int .i64 a0_1, .int .i64 a0_2], .agg #[.int .i64 ((rd_T41 l0_0 x3_1).f0), .int .i64 ((rd_T41 l0_0 x3_1).f1), .slice A260_2 ((rd_T41 l0_0 x3_1).f2).length c260_2, .string ((rd_T41 l0_0 x3_1).f3), .int .i64 ((rd_T41 l0_0 x3_1).f4), .int .i64 ((rd_T41 l0_0 x3_1).f5)]] (by rfl) rfl rfl (by (try simp only [List.map_toArray, List.map_cons, List.map_nil]); first | done | rfl | (simp only [List.length_drop, List.length_take]; rfl)) ?_
      with_reducible refine (anamnesisref03_obj.calls k1 _ _ l0_0 a0_1 a0_2 ((rd_T41 l0_0 x3_1).f0) ((rd_T41 l0_0 x3_1).f1) _ _ ((rd_T41 l0_0 x3_1).f2) ((rd_T41 l0_0 x3_1).f3) ((rd_T41 l0_0 x3_1).f4) ((rd_T41 l0_0 x3_1).f5) false _ ?side1 ?side2 ?side3 ?side4 A5.out).mono ?_
      (case side1 => repeat (first | exact (Kd.C_below HR0_0.out HB.out) | (with_reducible refine Kd.C_alloc ?_ _) | (with_reducible refine Kd.C_drewN ?_ _) | (with_reducible refine Kd.C_drew ?_)))
      (case side2 => exact HC0_0.out)
      (case side3 => repeat (first | exact (Kd.C_below HR260_2.out HB.out) | (with_reducible refine Kd.C_alloc ?_ _) | (with_reducible refine Kd.C_drewN ?_ _) | (with_reducible refine Kd.C_drew ?_)))
      (case side4 => exact HC260_2.out)
      rintro e w12 ⟨rfl, hb⟩
      refine ⟨_, rfl, ?_⟩
      have n0_ := Aside0.mk (blk_below (g := gb259) (o := .cells #[.slice (some ad260) l0_0.length c0_0, .int .i64 a0_1, .int .i64 a0_2] 24 (0, 0)) (by (with_reducible repeat (first | refine blk_drewN ?_ _ | refine blk_drew ?_ | refine blk_alloc ?_ _)); exact BK259.out) hb)
      have n1_ := Aside0.mk (below_step (by repeat (first | (with_reducible first | exact HB.out | apply below_alloc | apply pw_below_drewN | apply below_drew1 | refine below_set ?_ GE259.out) | exact HB.out)) hb)
      clear BK259
      clear HB
      have BK259 := n0_
      have HB := n1_
      clear n0_ n1_
      (try clear hb)
      (try clear hb2)
      (try clear hk)
      (try clear hi)
      refine hK.out _ _ ⟨(blk_cell BK259.out 0).trans rfl, (blk_cell BK259.out 1).trans rfl, (blk_cell BK259.out 2).trans rfl, ((HB.out.cell (World.block_lt_of_cell? w _ hw260_0)).trans hw260_0), ((HB.out.cell (World.block_lt_of_cell? w _ hw260_1)).trans hw260_1), ((HB.out.cell (World.block_lt_of_cell? w _ hw260_2)).trans hw260_2), ((HB.out.cell (World.block_lt_of_cell? w _ hw260_3)).trans hw260_3), ((HB.out.cell (World.block_lt_of_cell? w _ hw260_4)).trans hw260_4), ((HB.out.cell (World.block_lt_of_cell? w _ hw260_5)).trans hw260_5)⟩ (fun hHeld => ?_)
      clear hK K
      refine norm_ (a' := ?_) ?_ ?_
      rotate_left
      ·show Act.put _ (some 17) _ = _
       simp only [Act.put, List.setIfInBounds_toArray, List.set_cons_zero, List.set_cons_succ, i64_w, i32_w]
       rfl
      refine pure1 (i := 7) (N := some 18) #[true, true, true, true, true, true, true, true] HT_.out ?_
      refine done_ (done_of HT_.out (by kernel_rfl)) ?_
      try go_wp2
      go_ret
      exact ⟨by first | rfl | (simp [errW_none, errW_some] <;> rfl) | (simp [*, errW_none, errW_some] <;> rfl), by repeat (first | (with_reducible first | exact HB.out | apply below_alloc | apply pw_below_drewN | apply below_drew1 | refine below_set ?_ GE259.out) | exact HB.out)⟩
    ·rw [if_neg c4] at H
     exact absurd H (by simp)
   ·rw [if_neg c3] at H
    have c3b0 : decide (x3_1 < (l0_0.length : Int)) = false := decide_eq_false c3
    clear c3
    by_cases c13 : a0_1 ≥ 1
    ·rw [if_pos c13] at H
     have c13b0 : decide (1 ≤ a0_1) = true := decide_eq_true c13
     clear c13
     by_cases c14 : a0_1 ≤ 256
     ·rw [if_pos c14] at H
      have c14b0 : decide (a0_1 ≤ 256) = true := decide_eq_true c14
      clear c14
      by_cases c15 : (l0_0.length : Int) ≤ a0_1
      ·rw [if_pos c15] at H
       have c15b0 : decide ((l0_0.length : Int) ≤ a0_1) = true := decide_eq_true c15
       clear c15
       replace H := Option.bind_eq_some_iff.mp H
       obtain ⟨t262, A160, H⟩ := H
       replace H : (some t262) = some r := H
       have A16 := Aside0.mk A160
       clear A160
       obtain rfl := Option.some.inj H
       have hcz17_0 : wr.cell? ⟨gb259, 0, none⟩ = some (.slice A0_0 l0_0.length c0_0) := (blk_cell BK259.out 0).trans rfl
       have hcz17_1 : wr.cell? ⟨gb259, 1, none⟩ = some (.int .i64 a0_1) := (blk_cell BK259.out 1).trans rfl
       have hcz17_2 : wr.cell? ⟨gb259, 2, none⟩ = some (.int .i64 a0_2) := (blk_cell BK259.out 2).trans rfl
       have hfz17_0 := blk_frozen BK259.out 0
       have hfz17_1 := blk_frozen BK259.out 1
       have hfz17_2 := blk_frozen BK259.out 2
       go_wp2_with (first | (go_at_call 39; (with_reducible refine (anamnesisref03_hash.calls a0_2 t262 _ A16.out).mono ?_); rintro e w' ⟨rfl, ⟨nd, rfl⟩⟩))
       go_ret
       exact ⟨by first | rfl | (simp [errW_none, errW_some] <;> rfl) | (simp [*, errW_none, errW_some] <;> rfl), by repeat (first | (with_reducible first | exact HB.out | apply below_alloc | apply pw_below_drewN | apply below_drew1 | refine below_set ?_ GE259.out) | exact HB.out)⟩
      ·rw [if_neg c15] at H
       have c15b0 : decide ((l0_0.length : Int) ≤ a0_1) = false := decide_eq_false c15
       clear c15
       obtain rfl := Option.some.inj H
       have hcz18_0 : wr.cell? ⟨gb259, 0, none⟩ = some (.slice A0_0 l0_0.length c0_0) := (blk_cell BK259.out 0).trans rfl
       have hcz18_1 : wr.cell? ⟨gb259, 1, none⟩ = some (.int .i64 a0_1) := (blk_cell BK259.out 1).trans rfl
       have hcz18_2 : wr.cell? ⟨gb259, 2, none⟩ = some (.int .i64 a0_2) := (blk_cell BK259.out 2).trans rfl
       have hfz18_0 := blk_frozen BK259.out 0
       have hfz18_1 := blk_frozen BK259.out 1
       have hfz18_2 := blk_frozen BK259.out 2
       go_wp2
       go_ret
       exact ⟨by first | rfl | (simp [errW_none, errW_some] <;> rfl) | (simp [*, errW_none, errW_some] <;> rfl), by repeat (first | (with_reducible first | exact HB.out | apply below_alloc | apply pw_below_drewN | apply below_drew1 | refine below_set ?_ GE259.out) | exact HB.out)⟩
     ·rw [if_neg c14] at H
      have c14b0 : decide (a0_1 ≤ 256) = false := decide_eq_false c14
      clear c14
      obtain rfl := Option.some.inj H
      have hcz19_0 : wr.cell? ⟨gb259, 0, none⟩ = some (.slice A0_0 l0_0.length c0_0) := (blk_cell BK259.out 0).trans rfl
      have hcz19_1 : wr.cell? ⟨gb259, 1, none⟩ = some (.int .i64 a0_1) := (blk_cell BK259.out 1).trans rfl
      have hcz19_2 : wr.cell? ⟨gb259, 2, none⟩ = some (.int .i64 a0_2) := (blk_cell BK259.out 2).trans rfl
      have hfz19_0 := blk_frozen BK259.out 0
      have hfz19_1 := blk_frozen BK259.out 1
      have hfz19_2 := blk_frozen BK259.out 2
      go_wp2
      go_ret
      exact ⟨by first | rfl | (simp [errW_none, errW_some] <;> rfl) | (simp [*, errW_none, errW_some] <;> rfl), by repeat (first | (with_reducible first | exact HB.out | apply below_alloc | apply pw_below_drewN | apply below_drew1 | refine below_set ?_ GE259.out) | exact HB.out)⟩
    ·rw [if_neg c13] at H
     have c13b0 : decide (1 ≤ a0_1) = false := decide_eq_false c13
     clear c13
     obtain rfl := Option.some.inj H
     have hcz20_0 : wr.cell? ⟨gb259, 0, none⟩ = some (.slice A0_0 l0_0.length c0_0) := (blk_cell BK259.out 0).trans rfl
     have hcz20_1 : wr.cell? ⟨gb259, 1, none⟩ = some (.int .i64 a0_1) := (blk_cell BK259.out 1).trans rfl
     have hcz20_2 : wr.cell? ⟨gb259, 2, none⟩ = some (.int .i64 a0_2) := (blk_cell BK259.out 2).trans rfl
     have hfz20_0 := blk_frozen BK259.out 0
     have hfz20_1 := blk_frozen BK259.out 1
     have hfz20_2 := blk_frozen BK259.out 2
     go_wp2
     go_ret
     exact ⟨by first | rfl | (simp [errW_none, errW_some] <;> rfl) | (simp [*, errW_none, errW_some] <;> rfl), by repeat (first | (with_reducible first | exact HB.out | apply below_alloc | apply pw_below_drewN | apply below_drew1 | refine below_set ?_ GE259.out) | exact HB.out)⟩
end Go.Proofs.Ytednpcfhefibdaa.PSnap
