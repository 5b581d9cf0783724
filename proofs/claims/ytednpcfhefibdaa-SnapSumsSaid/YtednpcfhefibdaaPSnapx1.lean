import Derived.Test.YtednpcfhefibdaaPSnapx0
namespace Go.Proofs.Ytednpcfhefibdaa.PSnap
open Go.RowKit Go.Proofs.YtednpcfhefibdaaW.PrintWords Go.Proofs.YtednpcfhefibdaaW.PrintLast Go.Proofs.YtednpcfhefibdaaW.PrintMore
attribute [local go_sem] max2_int min2_int max_two min_two max_three min_three max_four min_four
set_option linter.unusedVariables false
set_option linter.unusedSimpArgs false
attribute [local go_sem] setCell_drewN
def anamnesisref03_Small.l0 : Nat → Int → Int → List (S41) → Int → Int → Option (Bool)
 | 0, _, _, _, _, _ => none
 | k + 1, x3, x4, x102000, x102001, x102002 => if x4 < (x102000.length : Int) then (if x3 < 5000 then (if 0 ≤ x4 then (anamnesisref03_Small.l0 k (wrap64 (x3 + (wrap64 ((wrap64 (1 + (((rd_T41 x102000 x4).f2).length : Int))) + (((rd_T41 x102000 x4).f3).size : Int))))) (wrap64 (x4 + 1)) x102000 x102001 x102002) else (none)) else (if (x102000.length : Int) ≤ 300 then (some (decide (x3 < 5000))) else (some false))) else (if (x102000.length : Int) ≤ 300 then (some (decide (x3 < 5000))) else (some false))
def anamnesisref03_Small.f (k : Nat) (l0_0 : List (S41)) (a0_1 : Int) (a0_2 : Int) : Option (Bool) := anamnesisref03_Small.l0 k 0 0 l0_0 a0_1 a0_2
theorem anamnesisref03_Small.mono_l : ∀ k, (∀ y0 y1 y2 y3 y4, LeO (anamnesisref03_Small.l0 k y0 y1 y2 y3 y4) (anamnesisref03_Small.l0 (k + 1) y0 y1 y2 y3 y4))
 | 0 => fun _ _ _ _ _ r h => by simp [anamnesisref03_Small.l0] at h
 | k + 1 => by
  have ih0 := anamnesisref03_Small.mono_l k
  ·intro y0 y1 y2 y3 y4
   unfold anamnesisref03_Small.l0
   repeat' first
   | (with_reducible exact ih0 _ _ _ _ _)
   | (with_reducible exact LeO.refl _)
   | (with_reducible exact LeO.none _)
   | (with_reducible refine LeO.ite ?_ ?_)
   | (with_reducible refine LeO.bind ?_ (fun _ => ?_))
   | exact ih0 _ _ _ _ _
   | exact LeO.none _
   | refine LeO.ite ?_ ?_
   | refine LeO.bind ?_ (fun _ => ?_)
theorem anamnesisref03_Small.mono : ∀ a0 a1 a2 k, LeO (anamnesisref03_Small.f k a0 a1 a2) (anamnesisref03_Small.f (k + 1) a0 a1 a2) := by
 intro a0 a1 a2 k
 have ih0 := anamnesisref03_Small.mono_l k
 unfold anamnesisref03_Small.f
 repeat' first
   | (with_reducible exact ih0 _ _ _ _ _)
   | (with_reducible exact LeO.refl _)
   | (with_reducible exact LeO.none _)
   | (with_reducible refine LeO.ite ?_ ?_)
   | (with_reducible refine LeO.bind ?_ (fun _ => ?_))
   | exact ih0 _ _ _ _ _
   | exact LeO.none _
   | refine LeO.ite ?_ ?_
   | refine LeO.bind ?_ (fun _ => ?_)
set_option maxHeartbeats 8000000 in
set_option maxRecDepth 100000 in
theorem anamnesisref03_Small.calls (k : Nat) (A0_0 : Option Addr) (c0_0 : Nat) (l0_0 : List (S41)) (a0_1 : Int) (a0_2 : Int) (r : Bool) (w : World) (hr0_0 : Kd.C k41 w A0_0 l0_0.length l0_0) (hc0_0 : l0_0.length ≤ c0_0) (h : anamnesisref03_Small.f k l0_0 a0_1 a0_2 = some r) :
  Calls Try.prog 8 #[.agg #[.slice A0_0 l0_0.length c0_0, .int .i64 a0_1, .int .i64 a0_2]] w fun e w' => e = .returned (.bool r) ∧ Below w.heap.size w w' := by
 have hu24 := Try.underlying24
 have HR0_0 := Aside0.mk hr0_0
 have HC0_0 := Aside0.mk hc0_0
 clear hr0_0 hc0_0
 have HB := Aside0.mk (Below.refl w.heap.size w)
 have H : (anamnesisref03_Small.l0 k 0 0 l0_0 a0_1 a0_2) = some r := h
 clear h
 have H' := Aside0.mk H
 clear H
 go_enter Try.func8, Try.ntmps8
 go_wp2_with (first | ((with_reducible refine gate_dst (N := 1) rfl ?_); refine box_event ?hg (N := 1) ?hd (cs := #[.slice A0_0 l0_0.length c0_0, .int .i64 a0_1, .int .i64 a0_2]) (t := 24) ?hr ?_; (case hd => rfl); (case hg => rfl); (case hr => first | (go_simp; done) | (go_simp; rfl)); intro gb101 hg w2 hbox hb; have n0_ := Aside0.mk (below_step (by repeat (first | (with_reducible first | exact HB.out | apply below_alloc | apply pw_below_drewN | apply below_drew1) | exact HB.out)) hb); have n1_ := Aside0.mk (hbox); have n2_ := Aside0.mk ((by rw [hg]; exact (below_size (by repeat (first | (with_reducible first | exact HB.out | apply below_alloc | apply pw_below_drewN | apply below_drew1) | exact HB.out))) : w.heap.size ≤ gb101)); have n3_ := Aside0.mk ((by rw [hg]; exact (below_size (by repeat (first | (with_reducible first | exact HB.out | apply below_alloc | apply pw_below_drewN | apply below_drew1) | exact HB.out))) : w.heap.size ≤ gb101)); clear HB; have HB := n0_; have BK101 := n1_; have GW101 := n2_; have GE101 := n3_; clear n0_ n1_ n2_ n3_; clear hb hbox hg))
 repeat (go_quiet (first | ((with_reducible refine gate_dst (N := 1) rfl ?_); refine box_event ?hg (N := 1) ?hd (cs := #[.slice A0_0 l0_0.length c0_0, .int .i64 a0_1, .int .i64 a0_2]) (t := 24) ?hr ?_; (case hd => rfl); (case hg => rfl); (case hr => first | (go_simp; done) | (go_simp; rfl)); intro gb101 hg w2 hbox hb; have n0_ := Aside0.mk (below_step (by repeat (first | (with_reducible first | exact HB.out | apply below_alloc | apply pw_below_drewN | apply below_drew1) | exact HB.out)) hb); have n1_ := Aside0.mk (hbox); have n2_ := Aside0.mk ((by rw [hg]; exact (below_size (by repeat (first | (with_reducible first | exact HB.out | apply below_alloc | apply pw_below_drewN | apply below_drew1) | exact HB.out))) : w.heap.size ≤ gb101)); have n3_ := Aside0.mk ((by rw [hg]; exact (below_size (by repeat (first | (with_reducible first | exact HB.out | apply below_alloc | apply pw_below_drewN | apply below_drew1) | exact HB.out))) : w.heap.size ≤ gb101)); clear HB; have HB := n0_; have BK101 := n1_; have GW101 := n2_; have GE101 := n3_; clear n0_ n1_ n2_ n3_; clear hb hbox hg)); try go_wp2_with (first | ((with_reducible refine gate_dst (N := 1) rfl ?_); refine box_event ?hg (N := 1) ?hd (cs := #[.slice A0_0 l0_0.length c0_0, .int .i64 a0_1, .int .i64 a0_2]) (t := 24) ?hr ?_; (case hd => rfl); (case hg => rfl); (case hr => first | (go_simp; done) | (go_simp; rfl)); intro gb101 hg w2 hbox hb; have n0_ := Aside0.mk (below_step (by repeat (first | (with_reducible first | exact HB.out | apply below_alloc | apply pw_below_drewN | apply below_drew1) | exact HB.out)) hb); have n1_ := Aside0.mk (hbox); have n2_ := Aside0.mk ((by rw [hg]; exact (below_size (by repeat (first | (with_reducible first | exact HB.out | apply below_alloc | apply pw_below_drewN | apply below_drew1) | exact HB.out))) : w.heap.size ≤ gb101)); have n3_ := Aside0.mk ((by rw [hg]; exact (below_size (by repeat (first | (with_reducible first | exact HB.out | apply below_alloc | apply pw_below_drewN | apply below_drew1) | exact HB.out))) : w.heap.size ≤ gb101)); clear HB; have HB := n0_; have BK101 := n1_; have GW101 := n2_; have GE101 := n3_; clear n0_ n1_ n2_ n3_; clear hb hbox hg)))
 go_loopg [3, 4] k (fun kq v3 v4 w' => ∃ (x3_1 : Int) (x4_1 : Int), v3 = .int .i64 x3_1 ∧ v4 = .int .i64 x4_1 ∧ Aside0 (anamnesisref03_Small.l0 kq x3_1 x4_1 l0_0 a0_1 a0_2 = some r) ∧ Aside0 (kq ≤ k) ∧ Aside0 (w'.heap[gb101]? = some (.cells #[(.slice A0_0 l0_0.length c0_0), .int .i64 a0_1, .int .i64 a0_2] 24 (0, 0))) ∧ Aside0 (Below w.heap.size w w'))
 case atStart => exact ⟨(0), (0), (by first | rfl | (simp; done) | (simp [*]; done)), (by first | rfl | (simp; done) | (simp [*]; done)), H', ⟨Nat.le_refl _⟩, ⟨by (with_reducible repeat (first | refine blk_drewN ?_ _ | refine blk_drew ?_ | refine blk_alloc ?_ _)); exact BK101.out⟩, ⟨by repeat (first | (with_reducible first | exact HB.out | apply below_alloc | apply pw_below_drewN | apply below_drew1 | refine below_set ?_ GE101.out) | exact HB.out)⟩⟩
 case round =>
  clear H'
  try clear p2
  obtain ⟨x3_1, x4_1, rfl, rfl, HA, HK1, BK101, HB⟩ := hrel
  cases gk with
  | zero => exact absurd HA.out (by simp [anamnesisref03_Small.l0])
  | succ k1 =>
   have H := HA.out
   clear HA
   simp only [anamnesisref03_Small.l0] at H
   by_cases c3 : x4_1 < (l0_0.length : Int)
   ·rw [if_pos c3] at H
    have c3b0 : decide (x4_1 < (l0_0.length : Int)) = true := decide_eq_true c3
    clear c3
    by_cases c4 : x3_1 < 5000
    ·rw [if_pos c4] at H
     have c4b0 : decide (x3_1 < 5000) = true := decide_eq_true c4
     clear c4
     by_cases c5 : 0 ≤ x4_1
     ·rw [if_pos c5] at H
      have c5b0 : decide (0 ≤ x4_1) = true := decide_eq_true c5
      clear c5
      have H' := Aside0.mk H
      clear H
      have hcz6_0 : wr.cell? ⟨gb101, 0, none⟩ = some (.slice A0_0 l0_0.length c0_0) := (blk_cell BK101.out 0).trans rfl
      have hcz6_1 : wr.cell? ⟨gb101, 1, none⟩ = some (.int .i64 a0_1) := (blk_cell BK101.out 1).trans rfl
      have hcz6_2 : wr.cell? ⟨gb101, 2, none⟩ = some (.int .i64 a0_2) := (blk_cell BK101.out 2).trans rfl
      have hfz6_0 := blk_frozen BK101.out 0
      have hfz6_1 := blk_frozen BK101.out 1
      have hfz6_2 := blk_frozen BK101.out 2
      have p102 : 0 ≤ (x4_1 : Int) := of_decide_eq_true (by first | (with_reducible assumption) | assumption)
      have q102 : x4_1 < (l0_0.length : Int) := of_decide_eq_true (by first | (with_reducible assumption) | assumption)
      obtain ⟨ad102, A102_2, c102_2, e102, hx102_0, hx102_1, hx102_2, hx102_3, hx102_4, hx102_5, hl102_2, hi102_2⟩ := at_T41 HR0_0.out x4_1 p102 q102
      cases e102
      replace hx102_0 := (HB.out.cell (World.block_lt_of_cell? w _ hx102_0)).trans hx102_0
      replace hx102_1 := (HB.out.cell (World.block_lt_of_cell? w _ hx102_1)).trans hx102_1
      replace hx102_2 := (HB.out.cell (World.block_lt_of_cell? w _ hx102_2)).trans hx102_2
      replace hx102_3 := (HB.out.cell (World.block_lt_of_cell? w _ hx102_3)).trans hx102_3
      replace hx102_4 := (HB.out.cell (World.block_lt_of_cell? w _ hx102_4)).trans hx102_4
      replace hx102_5 := (HB.out.cell (World.block_lt_of_cell? w _ hx102_5)).trans hx102_5
      have HR102_2 := Aside0.mk hi102_2
      have HC102_2 := Aside0.mk hl102_2
      clear hi102_2 hl102_2
      replace p102 := eq_true p102
      replace q102 := eq_true q102
      have p103 : 0 ≤ (x4_1 : Int) := of_decide_eq_true (by first | (with_reducible assumption) | assumption)
      have q103 : x4_1 < (l0_0.length : Int) := of_decide_eq_true (by first | (with_reducible assumption) | assumption)
      obtain ⟨ad103, A103_2, c103_2, e103, hx103_0, hx103_1, hx103_2, hx103_3, hx103_4, hx103_5, hl103_2, hi103_2⟩ := at_T41 HR0_0.out x4_1 p103 q103
      obtain rfl : ad102 = ad103 := (by injection e103)
      replace hx103_0 := (HB.out.cell (World.block_lt_of_cell? w _ hx103_0)).trans hx103_0
      replace hx103_1 := (HB.out.cell (World.block_lt_of_cell? w _ hx103_1)).trans hx103_1
      replace hx103_2 := (HB.out.cell (World.block_lt_of_cell? w _ hx103_2)).trans hx103_2
      replace hx103_3 := (HB.out.cell (World.block_lt_of_cell? w _ hx103_3)).trans hx103_3
      replace hx103_4 := (HB.out.cell (World.block_lt_of_cell? w _ hx103_4)).trans hx103_4
      replace hx103_5 := (HB.out.cell (World.block_lt_of_cell? w _ hx103_5)).trans hx103_5
      have HR103_2 := Aside0.mk hi103_2
      have HC103_2 := Aside0.mk hl103_2
      clear hi103_2 hl103_2
      replace p103 := eq_true p103
      replace q103 := eq_true q103
      have ea_ := Option.some.inj (hx102_2.symm.trans hx103_2)
      injection ea_ with ea_ en_ ec_
      subst ea_
      subst ec_
      clear en_
      go_wp2
      repeat (go_quiet (fail); try go_wp2)
      go_roundg k1
      case measure => have := HK1.out; omega
      case rel => exact ⟨(wrap64 (x3_1 + (wrap64 ((wrap64 (1 + (((rd_T41 l0_0 x4_1).f2).length : Int))) + (((rd_T41 l0_0 x4_1).f3).size : Int))))), (wrap64 (x4_1 + 1)), (by first | rfl | (simp; done) | (simp [*]; done)), (by first | rfl | (simp; done) | (simp [*]; done)), H', ⟨by have := HK1.out; omega⟩, ⟨by (with_reducible repeat (first | refine blk_drewN ?_ _ | refine blk_drew ?_ | refine blk_alloc ?_ _)); exact BK101.out⟩, ⟨by repeat (first | (with_reducible first | exact HB.out | apply below_alloc | apply pw_below_drewN | apply below_drew1 | refine below_set ?_ GE101.out) | exact HB.out)⟩⟩
     ·rw [if_neg c5] at H
      exact absurd H (by simp)
    ·rw [if_neg c4] at H
     have c4b0 : decide (x3_1 < 5000) = false := decide_eq_false c4
     clear c4
     by_cases c7 : (l0_0.length : Int) ≤ 300
     ·rw [if_pos c7] at H
      have c7b0 : decide ((l0_0.length : Int) ≤ 300) = true := decide_eq_true c7
      have c7b1 : decide (l0_0.length ≤ 300) = true := decide_eq_true (by omega)
      clear c7
      obtain rfl := Option.some.inj H
      have hcz8_0 : wr.cell? ⟨gb101, 0, none⟩ = some (.slice A0_0 l0_0.length c0_0) := (blk_cell BK101.out 0).trans rfl
      have hcz8_1 : wr.cell? ⟨gb101, 1, none⟩ = some (.int .i64 a0_1) := (blk_cell BK101.out 1).trans rfl
      have hcz8_2 : wr.cell? ⟨gb101, 2, none⟩ = some (.int .i64 a0_2) := (blk_cell BK101.out 2).trans rfl
      have hfz8_0 := blk_frozen BK101.out 0
      have hfz8_1 := blk_frozen BK101.out 1
      have hfz8_2 := blk_frozen BK101.out 2
      go_wp2
      repeat (go_quiet (fail); try go_wp2)
      go_ret
      exact ⟨by first | rfl | (simp [errW_none, errW_some] <;> rfl) | (simp [*, errW_none, errW_some] <;> rfl), by repeat (first | (with_reducible first | exact HB.out | apply below_alloc | apply pw_below_drewN | apply below_drew1 | refine below_set ?_ GE101.out) | exact HB.out)⟩
     ·rw [if_neg c7] at H
      have c7b0 : decide ((l0_0.length : Int) ≤ 300) = false := decide_eq_false c7
      have c7b1 : decide (l0_0.length ≤ 300) = false := decide_eq_false (by omega)
      clear c7
      obtain rfl := Option.some.inj H
      have hcz9_0 : wr.cell? ⟨gb101, 0, none⟩ = some (.slice A0_0 l0_0.length c0_0) := (blk_cell BK101.out 0).trans rfl
      have hcz9_1 : wr.cell? ⟨gb101, 1, none⟩ = some (.int .i64 a0_1) := (blk_cell BK101.out 1).trans rfl
      have hcz9_2 : wr.cell? ⟨gb101, 2, none⟩ = some (.int .i64 a0_2) := (blk_cell BK101.out 2).trans rfl
      have hfz9_0 := blk_frozen BK101.out 0
      have hfz9_1 := blk_frozen BK101.out 1
      have hfz9_2 := blk_frozen BK101.out 2
      go_wp2
      repeat (go_quiet (fail); try go_wp2)
      go_ret
      exact ⟨by first | rfl | (simp [errW_none, errW_some] <;> rfl) | (simp [*, errW_none, errW_some] <;> rfl), by repeat (first | (with_reducible first | exact HB.out | apply below_alloc | apply pw_below_drewN | apply below_drew1 | refine below_set ?_ GE101.out) | exact HB.out)⟩
   ·rw [if_neg c3] at H
    have c3b0 : decide (x4_1 < (l0_0.length : Int)) = false := decide_eq_false c3
    clear c3
    by_cases c10 : (l0_0.length : Int) ≤ 300
    ·rw [if_pos c10] at H
     have c10b0 : decide ((l0_0.length : Int) ≤ 300) = true := decide_eq_true c10
     have c10b1 : decide (l0_0.length ≤ 300) = true := decide_eq_true (by omega)
     clear c10
     obtain rfl := Option.some.inj H
     have hcz11_0 : wr.cell? ⟨gb101, 0, none⟩ = some (.slice A0_0 l0_0.length c0_0) := (blk_cell BK101.out 0).trans rfl
     have hcz11_1 : wr.cell? ⟨gb101, 1, none⟩ = some (.int .i64 a0_1) := (blk_cell BK101.out 1).trans rfl
     have hcz11_2 : wr.cell? ⟨gb101, 2, none⟩ = some (.int .i64 a0_2) := (blk_cell BK101.out 2).trans rfl
     have hfz11_0 := blk_frozen BK101.out 0
     have hfz11_1 := blk_frozen BK101.out 1
     have hfz11_2 := blk_frozen BK101.out 2
     go_wp2
     repeat (go_quiet (fail); try go_wp2)
     go_ret
     exact ⟨by first | rfl | (simp [errW_none, errW_some] <;> rfl) | (simp [*, errW_none, errW_some] <;> rfl), by repeat (first | (with_reducible first | exact HB.out | apply below_alloc | apply pw_below_drewN | apply below_drew1 | refine below_set ?_ GE101.out) | exact HB.out)⟩
    ·rw [if_neg c10] at H
     have c10b0 : decide ((l0_0.length : Int) ≤ 300) = false := decide_eq_false c10
     have c10b1 : decide (l0_0.length ≤ 300) = false := decide_eq_false (by omega)
     clear c10
     obtain rfl := Option.some.inj H
     have hcz12_0 : wr.cell? ⟨gb101, 0, none⟩ = some (.slice A0_0 l0_0.length c0_0) := (blk_cell BK101.out 0).trans rfl
     have hcz12_1 : wr.cell? ⟨gb101, 1, none⟩ = some (.int .i64 a0_1) := (blk_cell BK101.out 1).trans rfl
     have hcz12_2 : wr.cell? ⟨gb101, 2, none⟩ = some (.int .i64 a0_2) := (blk_cell BK101.out 2).trans rfl
     have hfz12_0 := blk_frozen BK101.out 0
     have hfz12_1 := blk_frozen BK101.out 1
     have hfz12_2 := blk_frozen BK101.out 2
     go_wp2
     repeat (go_quiet (fail); try go_wp2)
     go_ret
     exact ⟨by first | rfl | (simp [errW_none, errW_some] <;> rfl) | (simp [*, errW_none, errW_some] <;> rfl), by repeat (first | (with_reducible first | exact HB.out | apply below_alloc | apply pw_below_drewN | apply below_drew1 | refine below_set ?_ GE101.out) | exact HB.out)⟩
def crc_may.f (a0 : Int) : Option (Bool) := if a0 ≥ 0 then (some (decide (a0 ≤ 4294967295))) else (some false)
set_option maxHeartbeats 8000000 in
set_option maxRecDepth 100000 in
theorem crc_may.calls (a0 : Int) (r : Bool) (w : World) (h : crc_may.f a0 = some r) :
  Calls Try.prog 42 #[.int .i64 a0] w fun e w' => e = .returned (.bool r) ∧ Drawn0 w w' := by
 have H : (if a0 ≥ 0 then (some (decide (a0 ≤ 4294967295))) else (some false)) = some r := h
 clear h
 by_cases c2 : a0 ≥ 0
 ·rw [if_pos c2] at H
  have c2b0 : decide (0 ≤ a0) = true := decide_eq_true c2
  clear c2
  obtain rfl := Option.some.inj H
  go_enter Try.func42, Try.ntmps42
  go_wp2
  go_ret
  exact ⟨by first | rfl | (simp; done) | (simp [*]; done), by repeat (first | exact Drawn0.refl _ | apply Drawn0.step)⟩
 ·rw [if_neg c2] at H
  have c2b0 : decide (0 ≤ a0) = false := decide_eq_false c2
  clear c2
  obtain rfl := Option.some.inj H
  go_enter Try.func42, Try.ntmps42
  go_wp2
  go_ret
  exact ⟨by first | rfl | (simp; done) | (simp [*]; done), by repeat (first | exact Drawn0.refl _ | apply Drawn0.step)⟩
def crc_Bytes.f (a0 : Int) : Option (ByteArray) := (crc_may.f a0).bind fun t104 => (if t104 = true then (some (strOfNums (([(a0) % 256, (a0 / 256) % 256, (a0 / 65536) % 256, (a0 / 16777216) % 256] : List Int)))) else (some (⟨#[]⟩ : ByteArray)))
set_option maxHeartbeats 8000000 in
set_option maxRecDepth 100000 in
theorem crc_Bytes.calls (a0 : Int) (r : ByteArray) (w : World) (h : crc_Bytes.f a0 = some r) :
  Calls Try.prog 20 #[.int .i64 a0] w fun e w' => e = .returned (.string r) ∧ Below w.heap.size w w' := by
 have HB := Aside0.mk (Below.refl w.heap.size w)
 have H : ((crc_may.f a0).bind fun t104 => (if t104 = true then (some (strOfNums (([(a0) % 256, (a0 / 256) % 256, (a0 / 65536) % 256, (a0 / 16777216) % 256] : List Int)))) else (some (⟨#[]⟩ : ByteArray)))) = some r := h
 clear h
 replace H := Option.bind_eq_some_iff.mp H
 obtain ⟨t104, A20, H⟩ := H
 replace H : (if t104 = true then (some (strOfNums (([(a0) % 256, (a0 / 256) % 256, (a0 / 65536) % 256, (a0 / 16777216) % 256] : List Int)))) else (some (⟨#[]⟩ : ByteArray))) = some r := H
 have A2 := Aside0.mk A20
 clear A20
 by_cases c3 : t104 = true
 ·subst c3
  have H1 : (some (strOfNums (([(a0) % 256, (a0 / 256) % 256, (a0 / 65536) % 256, (a0 / 16777216) % 256] : List Int)))) = some r := by rw [if_pos rfl] at H; exact H
  clear H
  have H := H1
  clear H1
  obtain ⟨y105, hy105⟩ : ∃ y_ : List Int, y_ = (([(a0) % 256, (a0 / 256) % 256, (a0 / 65536) % 256, (a0 / 16777216) % 256] : List Int)) := ⟨_, rfl⟩
  replace H : (some (strOfNums y105)) = some r := by first | (rw [hy105]; with_reducible exact H) | (have H2_ := (Option.bind_some _ _).symm.trans H; rw [hy105]; with_reducible exact H2_) | (have H2_ := (Option.bind_some _ _).symm.trans H; with_reducible exact H2_) | with_reducible exact H | (rw [hy105]; exact H) | exact H
  have Ny105 := Aside0.mk hy105
  clear hy105
  obtain rfl := Option.some.inj H
  go_enter Try.func20, Try.ntmps20
  go_wp2_with (first | ((with_reducible refine gate_callee (f := 42) rfl ?_); refine goesL_ (some 4) rfl rfl Try.func42 (by kernel_rfl) rfl #[.int .i64 a0] rfl (by (try simp only [List.map_toArray, List.map_cons, List.map_nil]); first | done | rfl | (simp only [List.length_drop, List.length_take]; rfl)) ?_; (with_reducible refine (crc_may.calls a0 true _ A2.out).mono ?_); rintro e w' ⟨rfl, ⟨nd, rfl⟩⟩; refine ⟨_, rfl, ?_⟩) | ((with_reducible refine gate_dst (N := 17) rfl ?_); refine Kd.R_lit (Kd.int .u8) _ 5 ?hg (N := 17) ?hd (xs := ([(a0) % 256, (a0 / 256) % 256, (a0 / 65536) % 256, (a0 / 16777216) % 256] : List Int)) (inner := [.int .u8 ((a0) % 256), .int .u8 ((a0 / 256) % 256), .int .u8 ((a0 / 65536) % 256), .int .u8 ((a0 / 16777216) % 256)]) (ok := fun _ => True) (okp := fun _ => True) ?hr ?hp (fun _ hk => hk) trivial (Below.refl _ _) (Nat.le_refl _) (by simp) ?_; (case hd => rfl); (case hg => rfl); (case hr => first | (go_simp; done) | (go_simp; rfl)); (case hp => exact (Reps.one (show Kd.M (Kd.int .u8) _ _ _ ((a0) % 256) [.int .u8 ((a0) % 256)] from rfl) (Reps.one (show Kd.M (Kd.int .u8) _ _ _ ((a0 / 256) % 256) [.int .u8 ((a0 / 256) % 256)] from rfl) (Reps.one (show Kd.M (Kd.int .u8) _ _ _ ((a0 / 65536) % 256) [.int .u8 ((a0 / 65536) % 256)] from rfl) (Reps.one (show Kd.M (Kd.int .u8) _ _ _ ((a0 / 16777216) % 256) [.int .u8 ((a0 / 16777216) % 256)] from rfl) (Reps.none _ _)))))); intro v106 w4 ho5 hb hg_ hnew_; clear hg_ hnew_; (first | rw [← Ny105.out] at ho5 | (simp only [Int.reduceToNat] at ho5; rw [← Ny105.out] at ho5)); have n0_ := Aside0.mk (Kd.R_lower ho5 (below_size (by repeat (first | (with_reducible first | exact HB.out | apply below_alloc | apply pw_below_drewN | apply below_drew1) | exact HB.out)))); have n1_ := Aside0.mk (below_step (by repeat (first | (with_reducible first | exact HB.out | apply below_alloc | apply pw_below_drewN | apply below_drew1) | exact HB.out)) hb); clear HB; have HO107 := n0_; have HB := n1_; clear n0_ n1_; clear hb ho5; have hcv6 := own_string (P := Try.prog) Try.underlying36 Try.underlying5 Try.underlying9 (Kd.own_of_R HO107.out)))
  go_ret
  exact ⟨by first | rfl | (simp [errW_none, errW_some] <;> rfl) | (simp [*, errW_none, errW_some] <;> rfl), by repeat (first | (with_reducible first | exact HB.out | apply below_alloc | apply pw_below_drewN | apply below_drew1) | exact HB.out)⟩
 ·replace c3 := Bool.eq_false_iff.mpr c3
  subst c3
  have H1 : (some (⟨#[]⟩ : ByteArray)) = some r := by rw [if_neg (show ¬ (false = true) by decide)] at H; exact H
  clear H
  have H := H1
  clear H1
  obtain rfl := Option.some.inj H
  go_enter Try.func20, Try.ntmps20
  go_wp2_with (first | ((with_reducible refine gate_callee (f := 42) rfl ?_); refine goesL_ (some 4) rfl rfl Try.func42 (by kernel_rfl) rfl #[.int .i64 a0] rfl (by (try simp only [List.map_toArray, List.map_cons, List.map_nil]); first | done | rfl | (simp only [List.length_drop, List.length_take]; rfl)) ?_; (with_reducible refine (crc_may.calls a0 false _ A2.out).mono ?_); rintro e w' ⟨rfl, ⟨nd, rfl⟩⟩; refine ⟨_, rfl, ?_⟩))
  go_ret
  exact ⟨by first | rfl | (simp [errW_none, errW_some] <;> rfl) | (simp [*, errW_none, errW_some] <;> rfl), by repeat (first | (with_reducible first | exact HB.out | apply below_alloc | apply pw_below_drewN | apply below_drew1) | exact HB.out)⟩
def crcStep (x : Int) : Int := if Go.bits .and .u32 x 1 = 1 then Go.bits .xor .u32 (x / 2) 3988292384 else x / 2
def crcIter : Int → Nat → Int
 | x, 0 => x
 | x, n + 1 => crcIter (crcStep x) n
def crcT (i : Nat) : Int := crcIter i 8
theorem crcIter_succ (x : Int) (n : Nat) : crcIter x (n + 1) = crcStep (crcIter x n) := by
 induction n generalizing x with
 | zero => rfl
 | succ n ih => exact ih (crcStep x)
set_option maxHeartbeats 4000000 in
set_option maxRecDepth 100000 in
theorem table_calls (w : World) :
  Calls Try.prog 60 #[] w fun e w' => ∃ cs : Array Value, e = .returned (.agg cs) ∧ cs.size = 256 ∧ (∀ j : Nat, j < 256 → cs[j]? = some (.int .u32 (crcT j))) ∧ Below w.heap.size w w' := by
 go_enter Try.func60, Try.ntmps60
 go_wp2
 have HB := Aside0.mk (((Below.refl w.heap.size w).alloc (Nat.le_refl _) (.cells Try.zeroCells88 88)).alloc (by simp) (.cells Try.zeroCells88 88))
 have HR := Aside0.mk ((Lib.alloc_old (w.alloc (.cells Try.zeroCells88 88)) (.cells Try.zeroCells88 88) w.heap.size (by simp)).trans (heap_alloc_new w (.cells Try.zeroCells88 88)))
 have HT : Aside0 (((w.alloc (.cells Try.zeroCells88 88)).alloc (.cells Try.zeroCells88 88)).heap[w.heap.size + 1]? = some (.cells Try.zeroCells88 88 (0, 0))) := ⟨by
  have := heap_alloc_new (w.alloc (.cells Try.zeroCells88 88)) (.cells Try.zeroCells88 88)
  simpa using this⟩
 generalize (w.alloc (Obj.cells Try.zeroCells88 88)).alloc (Obj.cells Try.zeroCells88 88) = w1 at HB HR HT ⊢
 go_loopg [2, 3, 4] 256 (fun gg _ _ s4 wr => ∃ (i : Nat) (cs : Array Value), i ≤ 256 ∧ 256 - i ≤ gg ∧ s4 = .int .i64 i ∧ Aside0 (cs.size = 256 ∧ ∀ j : Nat, j < i → cs[j]? = some (.int .u32 (crcT j))) ∧ Aside0 (wr.heap[w.heap.size + 1]? = some (.cells cs 88 (0, 0))) ∧ Aside0 (wr.heap[w.heap.size]? = some (.cells Try.zeroCells88 88 (0, 0))) ∧ Aside0 (Below w.heap.size w wr))
 case atStart => exact ⟨0, _, by omega, by omega, by simp [goInt], ⟨Try.zeroCells88_size, fun j h => by omega⟩, HT, HR, HB⟩
 case round =>
  clear HT HR HB
  obtain ⟨i, cs, hi, hgg, rfl, HC, HT, HR, HB⟩ := hrel
  by_cases hlt : i < 256
  ·have hltz : decide ((i : Int) < 256) = true := decide_eq_true (by omega)
   go_wp2
   go_loopg [3, 9] 8 (fun gq s3 s9 wq => ∃ n : Nat, n ≤ 8 ∧ 8 - n ≤ gq ∧ s3 = .int .u32 (crcIter i n) ∧ s9 = .int .i64 n ∧ wq = wr)
   case atStart => exact ⟨0, by omega, by omega, rfl, by simp [goInt], rfl⟩
   case round =>
    obtain ⟨n, hn, hgq, rfl, rfl, rfl⟩ := hrel
    by_cases hn8 : n < 8
    ·have hn8z : decide ((n : Int) < 8) = true := decide_eq_true (by omega)
     by_cases hx : Go.bits .and .u32 (crcIter i n) 1 = 1
     ·have hxz : decide (Go.bits .and .u32 (crcIter i n) 1 = 1) = true := decide_eq_true hx
      go_wp2
      go_roundg (8 - (n + 1))
      case measure => omega
      case rel =>
       refine ⟨n + 1, by omega, by omega, ?_, ?_, rfl⟩
       ·rw [crcIter_succ, crcStep, if_pos hx]
       ·first | rfl | (simp [goInt]; done) | (rw [show wrap64 ((n : Int) + 1) = ((n + 1 : Nat) : Int) from by unfold wrap64; omega])
     ·have hxz : decide (Go.bits .and .u32 (crcIter i n) 1 = 1) = false := decide_eq_false hx
      go_wp2
      go_roundg (8 - (n + 1))
      case measure => omega
      case rel =>
       refine ⟨n + 1, by omega, by omega, ?_, ?_, rfl⟩
       ·rw [crcIter_succ, crcStep, if_neg hx]
       ·first | rfl | (simp [goInt]; done) | (rw [show wrap64 ((n : Int) + 1) = ((n + 1 : Nat) : Int) from by unfold wrap64; omega])
    ·have hn8z : decide ((n : Int) < 8) = false := decide_eq_false (by omega)
     have hn8e : n = 8 := by omega
     subst hn8e
     have hfc : wr.cell? ⟨w.heap.size + 1, i, none⟩ = some cs[i]! := by
      rw [cell_of_row _ _ i cs 88 (0, 0) HT.out]
      have : i < cs.size := by have := HC.out.1; omega
      simp [this]
     have hff : wr.frozen? ⟨w.heap.size + 1, i, none⟩ = false := blk_frozen HT.out i
     go_wp2
     have HT2 : Aside0 ((wr.setCell ⟨w.heap.size + 1, i, none⟩ (.int .u32 (crcIter i 8))).heap[w.heap.size + 1]? = some (.cells (cs.setIfInBounds i (.int .u32 (crcT i))) 88 (0, 0))) := ⟨blk_set HT.out i _⟩
     have HR2 : Aside0 ((wr.setCell ⟨w.heap.size + 1, i, none⟩ (.int .u32 (crcIter i 8))).heap[w.heap.size]? = some (.cells Try.zeroCells88 88 (0, 0))) := ⟨blk_far HR.out (p := ⟨w.heap.size + 1, i, none⟩) (by simp) _⟩
     have HB2 : Aside0 (Below w.heap.size w (wr.setCell ⟨w.heap.size + 1, i, none⟩ (.int .u32 (crcIter i 8)))) := ⟨below_set HB.out (by omega)⟩
     go_roundg (256 - (i + 1))
     case measure => omega
     case rel =>
      refine ⟨i + 1, _, by omega, by omega, ?_, ⟨?_, fun j hj => ?_⟩, HT2, HR2, HB2⟩
      ·first | rfl | (simp [goInt]; done) | (rw [show wrap64 ((i : Int) + 1) = ((i + 1 : Nat) : Int) from by unfold wrap64; omega])
      ·simpa using HC.out.1
      ·by_cases hji : j = i
       ·subst hji
        have : j < cs.size := by have := HC.out.1; omega
        simp [this]
       ·rw [Array.getElem?_setIfInBounds_ne (by omega)]
        exact HC.out.2 j (by omega)
  ·have hltz : decide ((i : Int) < 256) = false := decide_eq_false (by omega)
   have hi256 : i = 256 := by omega
   subst hi256
   go_wp2
   have hi88 : (Try.prog.info? 88).map (·.size) = some 256 := by kernel_rfl
   refine wp_load_row 88 (.tmp 1) rfl (w.heap.size + 1) rfl 88 cs (0, 0) _ HT.out Try.underlying88 rfl (by rw [hi88, HC.out.1]) ?_
   have hsz : cs.size = 256 := HC.out.1
   have hone : ∀ v ∈ cs.toList, v.oneCell' = true := fun v hv => by
    obtain ⟨j, hj, rfl⟩ := List.getElem_of_mem hv
    have hj2 : j < 256 := by simpa [hsz] using hj
    have h1 := HC.out.2 j hj2
    rw [Array.getElem?_eq_getElem (by omega)] at h1
    rw [Array.getElem_toList, Option.some.inj h1]
    rfl
   have hst : (storeCells ⟨w.heap.size, 0, none⟩ cs.toList).run Try.prog wr = .ok () (wr.setRow w.heap.size cs) := by
    have := run_storeCells_from (P := Try.prog) w.heap.size 88 cs.toList 0 Try.zeroCells88 wr HR.out (by simp [hsz, Try.zeroCells88_size]) hone
    simpa using this
   go_wp2
   try (rw [hst]; simp only [Result.andThen]; rw [Oper.upon_skip]; go_wp2)
   refine bodyPost_ret (v := .agg cs) (results_cell_row rfl _ _ w.heap.size 88 cs (0, 0) _ rfl (setRow_heap wr w.heap.size _ cs 88 (0, 0) HR.out) Try.underlying88 rfl (by rw [hi88, hsz])) rfl ⟨cs, rfl, hsz, HC.out.2, below_setRow HB.out (Nat.le_refl _) cs⟩
def crcByte (x b : Int) : Int := Go.bits .xor .u32 (x / 256) (crcT (Go.bits .xor .u8 (x % 256) b).toNat)
theorem bits8 (op : BinOp) (a b : Int) : 0 ≤ Go.bits op .u8 a b ∧ Go.bits op .u8 a b < 256 := by
 unfold Go.bits
 split <;> (simp only [IntKind.wrap, IntKind.bits, IntKind.signed]; first | omega | (simp; omega))
def crcNot (x : Int) : Int := Go.bits .xor .u32 IntKind.u32.max x
def crcFold (x : Int) (l : List UInt8) : Int := l.foldl (fun x b => crcByte x (b.toNat : Int)) x
def crcS (a : Int) (s : ByteArray) : Int := wrap64 (crcNot (crcFold (crcNot a) s.data.toList))
set_option maxHeartbeats 4000000 in
set_option maxRecDepth 100000 in
theorem More_calls (a0 : Int) (s : ByteArray) (w : World) (h0 : 0 ≤ a0) (h1 : a0 ≤ 4294967295) (hs : s.size ≤ 4611686018427387904) :
  Calls Try.prog 43 #[.int .i64 a0, .string s] w fun e w' => e = .returned (.int .i64 (crcS a0 s)) ∧ Below w.heap.size w w' := by
 have hmay := Aside0.mk (fun W => crc_may.calls a0 true W (by unfold crc_may.f; rw [if_pos h0]; simp [h1]))
 go_enter Try.func43, Try.ntmps43
 go_wp2_with (first | (go_at_call 42; refine (hmay.out _).mono ?_; rintro e w' ⟨rfl, ⟨nd, rfl⟩⟩) | (go_at_call 60; refine (table_calls _).mono ?_))
 rintro e w1 ⟨cs, rfl, hsz, hcs, hB⟩
 have hone : cs.all (·.oneCell') = true := by
  rw [Array.all_eq_true]
  intro j hj
  have h2 := hcs j (by omega)
  rw [Array.getElem?_eq_getElem (by omega)] at h2
  rw [Option.some.inj h2]
  rfl
 have hi88 : (Try.prog.info? 88).map (·.size) = some 256 := by kernel_rfl
 have hst := run_storeCells_new (P := Try.prog) w1 88 Try.zeroCells88 cs (by rw [hi88, hsz]) (by rw [hsz, Try.zeroCells88_size]) hone
 go_wp2
 have HG := Aside0.mk (heap_alloc_new w1 (.cells cs 88))
 have HB : Aside0 (Below w.heap.size w (w1.alloc (.cells cs 88))) := ⟨below_step (pw_below_drewN (Below.refl w.heap.size w) nd) (hB.alloc hB.size (.cells cs 88))⟩
 clear hst hone hB
 generalize hG : w1.heap.size = G at HG HB ⊢
 generalize w1.alloc (.cells cs 88) = w2 at HG HB ⊢
 have HCS := Aside0.mk hcs
 clear hcs
 go_loopg [6, 7, 17] s.size (fun gg s6 _ s17 wr => ∃ (j : Nat), j ≤ s.size ∧ s.size - j ≤ gg ∧ s6 = .int .u32 (crcFold (crcNot a0) (s.data.toList.take j)) ∧ s17 = .int .i64 j ∧ Aside0 (wr.heap[G]? = some (.cells cs 88 (0, 0))) ∧ Aside0 (Below w.heap.size w wr))
 case atStart => exact ⟨0, by omega, by omega, rfl, by simp [goInt], HG, HB⟩
 case round =>
  clear HG HB
  obtain ⟨j, hj, hgg, rfl, rfl, HG, HB⟩ := hrel
  generalize hx : crcFold (crcNot a0) (s.data.toList.take j) = x
  by_cases hlt : j < s.size
  ·have hltz : decide ((j : Int) < (s.size : Int)) = true := decide_eq_true (by omega)
   have p7 : (0 ≤ (j : Int)) = True := eq_true (by omega)
   have q7 : ((j : Int) < (s.size : Int)) = True := eq_true (by omega)
   obtain ⟨b0, b1⟩ := bits8 .xor (x % 256) ((s[j].toNat : Nat) : Int)
   have hc : wr.cell? ⟨G, (Go.bits .xor .u8 (x % 256) ((s[j].toNat : Nat) : Int)).toNat, none⟩ = some (.int .u32 (crcT (Go.bits .xor .u8 (x % 256) ((s[j].toNat : Nat) : Int)).toNat)) := by
    rw [cell_of_row _ _ _ cs 88 (0, 0) HG.out]
    exact HCS.out _ (by omega)
   have hnext : Go.bits .xor .u32 (x / 256) (crcT (Go.bits .xor .u8 (x % 256) ((s[j].toNat : Nat) : Int)).toNat) = crcFold (crcNot a0) (s.data.toList.take (j + 1)) := by
    rw [List.take_succ_eq_append_getElem (by simpa using hlt), crcFold, List.foldl_append]
    show _ = crcByte (crcFold (crcNot a0) (s.data.toList.take j)) _
    rw [hx]
    rfl
   replace b0 := eq_true b0
   replace b1 := eq_true b1
   go_wp2
   go_roundg (s.size - (j + 1))
   case measure => omega
   case rel =>
    refine ⟨j + 1, by omega, by omega, ?_, ?_, HG, HB⟩
    ·rw [← hnext]
    ·first | rfl | (simp [goInt]; done) | (rw [show wrap64 ((j : Int) + 1) = ((j + 1 : Nat) : Int) from by unfold wrap64; omega])
  ·have hltz : decide ((j : Int) < (s.size : Int)) = false := decide_eq_false (by omega)
   have hjs : j = s.size := by omega
   go_wp2
   go_ret
   refine ⟨?_, HB.out⟩
   rw [crcS, ← hx, List.take_of_length_le (by simp [hjs])]
   rfl
def crc_More.f (a0 : Int) (a1 : ByteArray) : Option Int := if 0 ≤ a0 then (if a0 ≤ 4294967295 then (if a1.size ≤ 4611686018427387904 then some (crcS a0 a1) else none) else none) else none
theorem crc_More.calls (a0 : Int) (a1 : ByteArray) (r : Int) (w : World) (h : crc_More.f a0 a1 = some r) :
  Calls Try.prog 43 #[.int .i64 a0, .string a1] w fun e w' => e = .returned (.int .i64 r) ∧ Below w.heap.size w w' := by
 unfold crc_More.f at h
 split at h
 case isFalse => cases h
 split at h
 case isFalse => cases h
 split at h
 case isFalse => cases h
 rename_i h0 h1 h2
 obtain rfl := Option.some.inj h
 exact More_calls a0 a1 w h0 h1 h2
def crc_Of.f (a0 : ByteArray) : Option (Int) := (crc_More.f 0 a0).bind fun t108 => (some t108)
set_option maxHeartbeats 8000000 in
set_option maxRecDepth 100000 in
theorem crc_Of.calls (a0 : ByteArray) (r : Int) (w : World) (h : crc_Of.f a0 = some r) :
  Calls Try.prog 21 #[.string a0] w fun e w' => e = .returned (.int .i64 r) ∧ Below w.heap.size w w' := by
 have HB := Aside0.mk (Below.refl w.heap.size w)
 have H : ((crc_More.f 0 a0).bind fun t108 => (some t108)) = some r := h
 clear h
 replace H := Option.bind_eq_some_iff.mp H
 obtain ⟨t108, A20, H⟩ := H
 replace H : (some t108) = some r := H
 have A2 := Aside0.mk A20
 clear A20
 obtain rfl := Option.some.inj H
 go_enter Try.func21, Try.ntmps21
 go_wp2_with (first | ((with_reducible refine gate_callee (f := 43) rfl ?_); refine goesL_ (some 4) rfl rfl Try.func43 (by kernel_rfl) rfl #[.int .i64 0, .string a0] rfl (by (try simp only [List.map_toArray, List.map_cons, List.map_nil]); first | done | rfl | (simp only [List.length_drop, List.length_take]; rfl)) ?_; (with_reducible refine (crc_More.calls 0 a0 t108 _ A2.out).mono ?_); rintro e w3 ⟨rfl, hb⟩; refine ⟨_, rfl, ?_⟩; have n0_ := Aside0.mk (below_step (by repeat (first | (with_reducible first | exact HB.out | apply below_alloc | apply pw_below_drewN | apply below_drew1) | exact HB.out)) hb); clear HB; have HB := n0_; clear n0_; (try clear hb); (try clear hb2); (try clear hk); (try clear hi)))
 go_ret
 exact ⟨by first | rfl | (simp [errW_none, errW_some] <;> rfl) | (simp [*, errW_none, errW_some] <;> rfl), by repeat (first | (with_reducible first | exact HB.out | apply below_alloc | apply pw_below_drewN | apply below_drew1) | exact HB.out)⟩
def heap_in.f (a0 : Int) (a1 : Int) : Option (Bool) := if a0 ≥ 0 then (some (decide (a0 ≤ a1))) else (some false)
set_option maxHeartbeats 8000000 in
set_option maxRecDepth 100000 in
theorem heap_in.calls (a0 : Int) (a1 : Int) (r : Bool) (w : World) (h : heap_in.f a0 a1 = some r) :
  Calls Try.prog 62 #[.int .i64 a0, .int .i64 a1] w fun e w' => e = .returned (.bool r) ∧ Drawn0 w w' := by
 have H : (if a0 ≥ 0 then (some (decide (a0 ≤ a1))) else (some false)) = some r := h
 clear h
 by_cases c3 : a0 ≥ 0
 ·rw [if_pos c3] at H
  have c3b0 : decide (0 ≤ a0) = true := decide_eq_true c3
  clear c3
  obtain rfl := Option.some.inj H
  go_enter Try.func62, Try.ntmps62
  go_wp2
  go_ret
  exact ⟨by first | rfl | (simp; done) | (simp [*]; done), by repeat (first | exact Drawn0.refl _ | apply Drawn0.step)⟩
 ·rw [if_neg c3] at H
  have c3b0 : decide (0 ≤ a0) = false := decide_eq_false c3
  clear c3
  obtain rfl := Option.some.inj H
  go_enter Try.func62, Try.ntmps62
  go_wp2
  go_ret
  exact ⟨by first | rfl | (simp; done) | (simp [*]; done), by repeat (first | exact Drawn0.refl _ | apply Drawn0.step)⟩
def value_object.f (a0 : Int) : Option (Bool) := if a0 ≥ 0 then (some (decide (a0 < 1048576))) else (some false)
set_option maxHeartbeats 8000000 in
set_option maxRecDepth 100000 in
theorem value_object.calls (a0 : Int) (r : Bool) (w : World) (h : value_object.f a0 = some r) :
  Calls Try.prog 66 #[.int .i64 a0] w fun e w' => e = .returned (.bool r) ∧ Drawn0 w w' := by
 have H : (if a0 ≥ 0 then (some (decide (a0 < 1048576))) else (some false)) = some r := h
 clear h
 by_cases c2 : a0 ≥ 0
 ·rw [if_pos c2] at H
  have c2b0 : decide (0 ≤ a0) = true := decide_eq_true c2
  clear c2
  obtain rfl := Option.some.inj H
  go_enter Try.func66, Try.ntmps66
  go_wp2
  go_ret
  exact ⟨by first | rfl | (simp; done) | (simp [*]; done), by repeat (first | exact Drawn0.refl _ | apply Drawn0.step)⟩
 ·rw [if_neg c2] at H
  have c2b0 : decide (0 ≤ a0) = false := decide_eq_false c2
  clear c2
  obtain rfl := Option.some.inj H
  go_enter Try.func66, Try.ntmps66
  go_wp2
  go_ret
  exact ⟨by first | rfl | (simp; done) | (simp [*]; done), by repeat (first | exact Drawn0.refl _ | apply Drawn0.step)⟩
def value_At.f (a0 : Int) : Option (Int × Bool) := if (Go.bits .and .i64 a0 1) = 0 then ((value_object.f (a0 / 2)).bind fun t109 => (if t109 = true then (some (a0 / 2, true)) else (some (0, false)))) else (some (0, false))
set_option maxHeartbeats 8000000 in
set_option maxRecDepth 100000 in
theorem value_At.calls (a0 : Int) (r1 : Int) (r2 : Bool) (w : World) (h : value_At.f a0 = some (r1, r2)) :
  Calls Try.prog 52 #[.int .i64 a0] w fun e w' => e = .returned (.tuple #[.int .i64 r1, .bool r2]) ∧ Drawn0 w w' := by
 have H : (if (Go.bits .and .i64 a0 1) = 0 then ((value_object.f (a0 / 2)).bind fun t109 => (if t109 = true then (some (a0 / 2, true)) else (some (0, false)))) else (some (0, false))) = some (r1, r2) := h
 clear h
 by_cases c2 : (Go.bits .and .i64 a0 1) = 0
 ·rw [if_pos c2] at H
  have c2b0 : ((Go.bits .and .i64 a0 1) == 0) = true := beq_iff_eq.mpr c2
  have c2b1 : ((Go.bits .and .i64 a0 1) != 0) = false := bne_eq_false_iff_eq.mpr c2
  clear c2
  replace H := Option.bind_eq_some_iff.mp H
  obtain ⟨t109, A30, H⟩ := H
  replace H : (if t109 = true then (some (a0 / 2, true)) else (some (0, false))) = some (r1, r2) := H
  have A3 := Aside0.mk A30
  clear A30
  by_cases c4 : t109 = true
  ·subst c4
   have H1 : (some (a0 / 2, true)) = some (r1, r2) := by rw [if_pos rfl] at H; exact H
   clear H
   have H := H1
   clear H1
   simp only [Option.some.injEq, Prod.mk.injEq] at H
   obtain ⟨rfl, rfl⟩ := H
   go_enter Try.func52, Try.ntmps52
   go_wp2_with (first | (go_at_call 66; (with_reducible refine (value_object.calls (a0 / 2) true _ A3.out).mono ?_); rintro e w' ⟨rfl, ⟨nd, rfl⟩⟩))
   go_ret2
   exact ⟨by first | rfl | (simp; done) | (simp [*]; done), by repeat (first | exact Drawn0.refl _ | apply Drawn0.step)⟩
  ·replace c4 := Bool.eq_false_iff.mpr c4
   subst c4
   have H1 : (some (0, false)) = some (r1, r2) := by rw [if_neg (show ¬ (false = true) by decide)] at H; exact H
   clear H
   have H := H1
   clear H1
   simp only [Option.some.injEq, Prod.mk.injEq] at H
   obtain ⟨rfl, rfl⟩ := H
   go_enter Try.func52, Try.ntmps52
   go_wp2_with (first | (go_at_call 66; (with_reducible refine (value_object.calls (a0 / 2) false _ A3.out).mono ?_); rintro e w' ⟨rfl, ⟨nd, rfl⟩⟩))
   go_ret2
   exact ⟨by first | rfl | (simp; done) | (simp [*]; done), by repeat (first | exact Drawn0.refl _ | apply Drawn0.step)⟩
 ·rw [if_neg c2] at H
  have c2b0 : ((Go.bits .and .i64 a0 1) == 0) = false := beq_eq_false_iff_ne.mpr c2
  have c2b1 : ((Go.bits .and .i64 a0 1) != 0) = true := bne_iff_ne.mpr c2
  simp only [Option.some.injEq, Prod.mk.injEq] at H
  obtain ⟨rfl, rfl⟩ := H
  go_enter Try.func52, Try.ntmps52
  go_wp2
  go_ret2
  exact ⟨by first | rfl | (simp; done) | (simp [*]; done), by repeat (first | exact Drawn0.refl _ | apply Drawn0.step)⟩
def heap_objects_ref.f (a0 : Int) (a1 : Int) : Option (Int) := (value_At.f a1).bind fun bt110 => (if bt110.2 = true then (if bt110.1 < a0 then (some bt110.1) else (some (-1))) else (some (-1)))
set_option maxHeartbeats 8000000 in
set_option maxRecDepth 100000 in
theorem heap_objects_ref.calls (a0 : Int) (a1 : Int) (r : Int) (w : World) (h : heap_objects_ref.f a0 a1 = some r) :
  Calls Try.prog 73 #[.int .i64 a0, .int .i64 a1] w fun e w' => e = .returned (.int .i64 r) ∧ Drawn0 w w' := by
 have H : ((value_At.f a1).bind fun bt110 => (if bt110.2 = true then (if bt110.1 < a0 then (some bt110.1) else (some (-1))) else (some (-1)))) = some r := h
 clear h
 replace H := Option.bind_eq_some_iff.mp H
 obtain ⟨⟨t110, t111⟩, A30, H⟩ := H
 replace H : (if t111 = true then (if t110 < a0 then (some t110) else (some (-1))) else (some (-1))) = some r := H
 have A3 := Aside0.mk A30
 clear A30
 by_cases c4 : t111 = true
 ·subst c4
  have H1 : (if t110 < a0 then (some t110) else (some (-1))) = some r := by rw [if_pos rfl] at H; exact H
  clear H
  have H := H1
  clear H1
  by_cases c5 : t110 < a0
  ·rw [if_pos c5] at H
   have c5b0 : decide (t110 < a0) = true := decide_eq_true c5
   clear c5
   obtain rfl := Option.some.inj H
   go_enter Try.func73, Try.ntmps73
   go_wp2_with (first | ((with_reducible refine gate_callee (f := 52) rfl ?_); refine goesL_ (some 9) rfl rfl Try.func52 (by kernel_rfl) rfl #[.int .i64 a1] rfl (by (try simp only [List.map_toArray, List.map_cons, List.map_nil]); first | done | rfl | (simp only [List.length_drop, List.length_take]; rfl)) ?_; (with_reducible refine (value_At.calls a1 t110 true _ A3.out).mono ?_); rintro e w' ⟨rfl, ⟨nd, rfl⟩⟩; refine ⟨_, rfl, ?_⟩))
   go_ret
   exact ⟨by first | rfl | (simp; done) | (simp [*]; done), by repeat (first | exact Drawn0.refl _ | apply Drawn0.step)⟩
  ·rw [if_neg c5] at H
   have c5b0 : decide (t110 < a0) = false := decide_eq_false c5
   clear c5
   obtain rfl := Option.some.inj H
   go_enter Try.func73, Try.ntmps73
   go_wp2_with (first | ((with_reducible refine gate_callee (f := 52) rfl ?_); refine goesL_ (some 9) rfl rfl Try.func52 (by kernel_rfl) rfl #[.int .i64 a1] rfl (by (try simp only [List.map_toArray, List.map_cons, List.map_nil]); first | done | rfl | (simp only [List.length_drop, List.length_take]; rfl)) ?_; (with_reducible refine (value_At.calls a1 t110 true _ A3.out).mono ?_); rintro e w' ⟨rfl, ⟨nd, rfl⟩⟩; refine ⟨_, rfl, ?_⟩))
   go_ret
   exact ⟨by first | rfl | (simp; done) | (simp [*]; done), by repeat (first | exact Drawn0.refl _ | apply Drawn0.step)⟩
 ·replace c4 := Bool.eq_false_iff.mpr c4
  subst c4
  have H1 : (some (-1)) = some r := by rw [if_neg (show ¬ (false = true) by decide)] at H; exact H
  clear H
  have H := H1
  clear H1
  obtain rfl := Option.some.inj H
  go_enter Try.func73, Try.ntmps73
  go_wp2_with (first | ((with_reducible refine gate_callee (f := 52) rfl ?_); refine goesL_ (some 9) rfl rfl Try.func52 (by kernel_rfl) rfl #[.int .i64 a1] rfl (by (try simp only [List.map_toArray, List.map_cons, List.map_nil]); first | done | rfl | (simp only [List.length_drop, List.length_take]; rfl)) ?_; (with_reducible refine (value_At.calls a1 t110 false _ A3.out).mono ?_); rintro e w' ⟨rfl, ⟨nd, rfl⟩⟩; refine ⟨_, rfl, ?_⟩))
  go_ret
  exact ⟨by first | rfl | (simp; done) | (simp [*]; done), by repeat (first | exact Drawn0.refl _ | apply Drawn0.step)⟩
def value_small.f (a0 : Int) : Option (Bool) := if a0 ≥ (-1073741824) then (some (decide (a0 ≤ 1073741823))) else (some false)
set_option maxHeartbeats 8000000 in
set_option maxRecDepth 100000 in
theorem value_small.calls (a0 : Int) (r : Bool) (w : World) (h : value_small.f a0 = some r) :
  Calls Try.prog 78 #[.int .i64 a0] w fun e w' => e = .returned (.bool r) ∧ Drawn0 w w' := by
 have H : (if a0 ≥ (-1073741824) then (some (decide (a0 ≤ 1073741823))) else (some false)) = some r := h
 clear h
 by_cases c2 : a0 ≥ (-1073741824)
 ·rw [if_pos c2] at H
  have c2b0 : decide ((-1073741824) ≤ a0) = true := decide_eq_true c2
  clear c2
  obtain rfl := Option.some.inj H
  go_enter Try.func78, Try.ntmps78
  go_wp2
  go_ret
  exact ⟨by first | rfl | (simp; done) | (simp [*]; done), by repeat (first | exact Drawn0.refl _ | apply Drawn0.step)⟩
 ·rw [if_neg c2] at H
  have c2b0 : decide ((-1073741824) ≤ a0) = false := decide_eq_false c2
  clear c2
  obtain rfl := Option.some.inj H
  go_enter Try.func78, Try.ntmps78
  go_wp2
  go_ret
  exact ⟨by first | rfl | (simp; done) | (simp [*]; done), by repeat (first | exact Drawn0.refl _ | apply Drawn0.step)⟩
def value_N.f (a0 : Int) : Option (Int × Bool) := if (Go.bits .and .i64 a0 1) = 1 then ((value_small.f (a0 / 2)).bind fun t112 => (if t112 = true then (some (a0 / 2, true)) else (some (0, false)))) else (some (0, false))
set_option maxHeartbeats 8000000 in
set_option maxRecDepth 100000 in
theorem value_N.calls (a0 : Int) (r1 : Int) (r2 : Bool) (w : World) (h : value_N.f a0 = some (r1, r2)) :
  Calls Try.prog 67 #[.int .i64 a0] w fun e w' => e = .returned (.tuple #[.int .i64 r1, .bool r2]) ∧ Drawn0 w w' := by
 have H : (if (Go.bits .and .i64 a0 1) = 1 then ((value_small.f (a0 / 2)).bind fun t112 => (if t112 = true then (some (a0 / 2, true)) else (some (0, false)))) else (some (0, false))) = some (r1, r2) := h
 clear h
 by_cases c2 : (Go.bits .and .i64 a0 1) = 1
 ·rw [if_pos c2] at H
  have c2b0 : ((Go.bits .and .i64 a0 1) == 1) = true := beq_iff_eq.mpr c2
  have c2b1 : ((Go.bits .and .i64 a0 1) != 1) = false := bne_eq_false_iff_eq.mpr c2
  clear c2
  replace H := Option.bind_eq_some_iff.mp H
  obtain ⟨t112, A30, H⟩ := H
  replace H : (if t112 = true then (some (a0 / 2, true)) else (some (0, false))) = some (r1, r2) := H
  have A3 := Aside0.mk A30
  clear A30
  by_cases c4 : t112 = true
  ·subst c4
   have H1 : (some (a0 / 2, true)) = some (r1, r2) := by rw [if_pos rfl] at H; exact H
   clear H
   have H := H1
   clear H1
   simp only [Option.some.injEq, Prod.mk.injEq] at H
   obtain ⟨rfl, rfl⟩ := H
   go_enter Try.func67, Try.ntmps67
   go_wp2_with (first | (go_at_call 78; (with_reducible refine (value_small.calls (a0 / 2) true _ A3.out).mono ?_); rintro e w' ⟨rfl, ⟨nd, rfl⟩⟩))
   go_ret2
   exact ⟨by first | rfl | (simp; done) | (simp [*]; done), by repeat (first | exact Drawn0.refl _ | apply Drawn0.step)⟩
  ·replace c4 := Bool.eq_false_iff.mpr c4
   subst c4
   have H1 : (some (0, false)) = some (r1, r2) := by rw [if_neg (show ¬ (false = true) by decide)] at H; exact H
   clear H
   have H := H1
   clear H1
   simp only [Option.some.injEq, Prod.mk.injEq] at H
   obtain ⟨rfl, rfl⟩ := H
   go_enter Try.func67, Try.ntmps67
   go_wp2_with (first | (go_at_call 78; (with_reducible refine (value_small.calls (a0 / 2) false _ A3.out).mono ?_); rintro e w' ⟨rfl, ⟨nd, rfl⟩⟩))
   go_ret2
   exact ⟨by first | rfl | (simp; done) | (simp [*]; done), by repeat (first | exact Drawn0.refl _ | apply Drawn0.step)⟩
 ·rw [if_neg c2] at H
  have c2b0 : ((Go.bits .and .i64 a0 1) == 1) = false := beq_eq_false_iff_ne.mpr c2
  have c2b1 : ((Go.bits .and .i64 a0 1) != 1) = true := bne_iff_ne.mpr c2
  simp only [Option.some.injEq, Prod.mk.injEq] at H
  obtain ⟨rfl, rfl⟩ := H
  go_enter Try.func67, Try.ntmps67
  go_wp2
  go_ret2
  exact ⟨by first | rfl | (simp; done) | (simp [*]; done), by repeat (first | exact Drawn0.refl _ | apply Drawn0.step)⟩
def heap_objects_has.f (a0 : Int) (a1 : Int) : Option (Bool) := (value_N.f a1).bind fun bt113 => (if bt113.2 = true then (some true) else ((heap_objects_ref.f a0 a1).bind fun t115 => (some (decide (t115 ≥ 0)))))
set_option maxHeartbeats 8000000 in
set_option maxRecDepth 100000 in
theorem heap_objects_has.calls (a0 : Int) (a1 : Int) (r : Bool) (w : World) (h : heap_objects_has.f a0 a1 = some r) :
  Calls Try.prog 77 #[.int .i64 a0, .int .i64 a1] w fun e w' => e = .returned (.bool r) ∧ Drawn0 w w' := by
 have H : ((value_N.f a1).bind fun bt113 => (if bt113.2 = true then (some true) else ((heap_objects_ref.f a0 a1).bind fun t115 => (some (decide (t115 ≥ 0)))))) = some r := h
 clear h
 replace H := Option.bind_eq_some_iff.mp H
 obtain ⟨⟨t113, t114⟩, A30, H⟩ := H
 replace H : (if t114 = true then (some true) else ((heap_objects_ref.f a0 a1).bind fun t115 => (some (decide (t115 ≥ 0))))) = some r := H
 have A3 := Aside0.mk A30
 clear A30
 by_cases c4 : t114 = true
 ·subst c4
  have H1 : (some true) = some r := by rw [if_pos rfl] at H; exact H
  clear H
  have H := H1
  clear H1
  obtain rfl := Option.some.inj H
  go_enter Try.func77, Try.ntmps77
  go_wp2_with (first | ((with_reducible refine gate_callee (f := 67) rfl ?_); refine goesL_ (some 9) rfl rfl Try.func67 (by kernel_rfl) rfl #[.int .i64 a1] rfl (by (try simp only [List.map_toArray, List.map_cons, List.map_nil]); first | done | rfl | (simp only [List.length_drop, List.length_take]; rfl)) ?_; (with_reducible refine (value_N.calls a1 t113 true _ A3.out).mono ?_); rintro e w' ⟨rfl, ⟨nd, rfl⟩⟩; refine ⟨_, rfl, ?_⟩))
  go_ret
  exact ⟨by first | rfl | (simp; done) | (simp [*]; done), by repeat (first | exact Drawn0.refl _ | apply Drawn0.step)⟩
 ·replace c4 := Bool.eq_false_iff.mpr c4
  subst c4
  have H1 : ((heap_objects_ref.f a0 a1).bind fun t115 => (some (decide (t115 ≥ 0)))) = some r := by rw [if_neg (show ¬ (false = true) by decide)] at H; exact H
  clear H
  have H := H1
  clear H1
  replace H := Option.bind_eq_some_iff.mp H
  obtain ⟨t115, A50, H⟩ := H
  replace H : (some (decide (t115 ≥ 0))) = some r := H
  have A5 := Aside0.mk A50
  clear A50
  obtain rfl := Option.some.inj H
  go_enter Try.func77, Try.ntmps77
  go_wp2_with (first | ((with_reducible refine gate_callee (f := 67) rfl ?_); refine goesL_ (some 9) rfl rfl Try.func67 (by kernel_rfl) rfl #[.int .i64 a1] rfl (by (try simp only [List.map_toArray, List.map_cons, List.map_nil]); first | done | rfl | (simp only [List.length_drop, List.length_take]; rfl)) ?_; (with_reducible refine (value_N.calls a1 t113 false _ A3.out).mono ?_); rintro e w' ⟨rfl, ⟨nd, rfl⟩⟩; refine ⟨_, rfl, ?_⟩) | (go_at_call 73; (with_reducible refine (heap_objects_ref.calls a0 a1 t115 _ A5.out).mono ?_); rintro e w' ⟨rfl, ⟨nd, rfl⟩⟩))
  go_ret
  exact ⟨by first | rfl | (simp; done) | (simp [*]; done), by repeat (first | exact Drawn0.refl _ | apply Drawn0.step)⟩
end Go.Proofs.Ytednpcfhefibdaa.PSnap
