import Derived.Test.YtlmejfcfdhinlaaPMovex0
import Derived.Test.YtlmejfcfdhinlaaPMovex8
namespace Go.Proofs.Ytlmejfcfdhinlaa.PMove
open Go.RowKit Go.Proofs.YtlmejfcfdhinlaaW.PrintWords Go.Proofs.YtlmejfcfdhinlaaW.PrintLast Go.Proofs.YtlmejfcfdhinlaaW.PrintMore
attribute [local go_sem] max2_int min2_int max_two min_two max_three min_three max_four min_four
set_option linter.unusedVariables false
set_option linter.unusedSimpArgs false
attribute [local go_sem] setCell_drewN
mutual
def anamnesisref04_near.l0 : Nat → List Bool → List Bool → Int → List (S44) → Int → Int → Option (List Bool)
 | 0, _, _, _, _, _, _ => none
 | k + 1, x1, x5, x6, x285000, x285001, x285002 => if x6 < (x285000.length : Int) then (if 0 ≤ x6 then (if x6 < (x1.length : Int) then (if rdOf false x1 x6 = true then ((anamnesisref03_Ref.f x285000 x285001 x285002 ((rd_T44 x285000 x6).f0)).bind fun t293 => (if 0 ≤ t293 then (if t293 < (x5.length : Int) then (anamnesisref04_near.l1 k x1 (x5.set (t293 : Int).toNat true) x6 0 x285000 x285001 x285002) else (none)) else (none))) else (anamnesisref04_near.l0 k x1 x5 (wrap64 (x6 + 1)) x285000 x285001 x285002)) else (none)) else (none)) else (some x5)
def anamnesisref04_near.l1 : Nat → List Bool → List Bool → Int → Int → List (S44) → Int → Int → Option (List Bool)
 | 0, _, _, _, _, _, _, _ => none
 | k + 1, x1, x5, x6, x7, x285000, x285001, x285002 => if 0 ≤ x6 then (if x6 < (x285000.length : Int) then (if x7 < (((rd_T44 x285000 x6).f2).length : Int) then (if 0 ≤ x7 then ((anamnesisref03_Ref.f x285000 x285001 x285002 (rd ((rd_T44 x285000 x6).f2) x7)).bind fun t298 => (if t298 ≥ 0 then (if 0 ≤ t298 then (if t298 < (x5.length : Int) then (anamnesisref04_near.l1 k x1 (x5.set (t298 : Int).toNat true) x6 (wrap64 (x7 + 1)) x285000 x285001 x285002) else (none)) else (none)) else (anamnesisref04_near.l1 k x1 x5 x6 (wrap64 (x7 + 1)) x285000 x285001 x285002))) else (none)) else (anamnesisref04_near.l0 k x1 x5 (wrap64 (x6 + 1)) x285000 x285001 x285002)) else (none)) else (none)
end
def anamnesisref04_near.f (k : Nat) (l0_0 : List (S44)) (a0_1 : Int) (a0_2 : Int) (l1 : List Bool) : Option (List Bool) := (some (([] : List Bool) : List Bool)).bind fun y285 => (if y285.length + l1.length < 140737488355328 then (anamnesisref04_near.l0 k l1 (y285 ++ l1) 0 l0_0 a0_1 a0_2) else (none))
theorem anamnesisref04_near.mono_l : ∀ k, (∀ y0 y1 y2 y3 y4 y5, LeO (anamnesisref04_near.l0 k y0 y1 y2 y3 y4 y5) (anamnesisref04_near.l0 (k + 1) y0 y1 y2 y3 y4 y5)) ∧ (∀ y0 y1 y2 y3 y4 y5 y6, LeO (anamnesisref04_near.l1 k y0 y1 y2 y3 y4 y5 y6) (anamnesisref04_near.l1 (k + 1) y0 y1 y2 y3 y4 y5 y6))
 | 0 => ⟨fun _ _ _ _ _ _ r h => by simp [anamnesisref04_near.l0] at h, fun _ _ _ _ _ _ _ r h => by simp [anamnesisref04_near.l1] at h⟩
 | k + 1 => by
  obtain ⟨ih0, ih1⟩ := anamnesisref04_near.mono_l k
  refine ⟨?_, ?_⟩
  ·intro y0 y1 y2 y3 y4 y5
   unfold anamnesisref04_near.l0
   repeat' first
   | (with_reducible exact ih0 _ _ _ _ _ _)
   | (with_reducible exact ih1 _ _ _ _ _ _ _)
   | (with_reducible exact LeO.refl _)
   | (with_reducible exact LeO.none _)
   | (with_reducible refine LeO.ite ?_ ?_)
   | (with_reducible refine LeO.bind ?_ (fun _ => ?_))
   | exact ih0 _ _ _ _ _ _
   | exact ih1 _ _ _ _ _ _ _
   | exact LeO.none _
   | refine LeO.ite ?_ ?_
   | refine LeO.bind ?_ (fun _ => ?_)
  ·intro y0 y1 y2 y3 y4 y5 y6
   unfold anamnesisref04_near.l1
   repeat' first
   | (with_reducible exact ih0 _ _ _ _ _ _)
   | (with_reducible exact ih1 _ _ _ _ _ _ _)
   | (with_reducible exact LeO.refl _)
   | (with_reducible exact LeO.none _)
   | (with_reducible refine LeO.ite ?_ ?_)
   | (with_reducible refine LeO.bind ?_ (fun _ => ?_))
   | exact ih0 _ _ _ _ _ _
   | exact ih1 _ _ _ _ _ _ _
   | exact LeO.none _
   | refine LeO.ite ?_ ?_
   | refine LeO.bind ?_ (fun _ => ?_)
theorem anamnesisref04_near.mono : ∀ a0 a1 a2 a3 k, LeO (anamnesisref04_near.f k a0 a1 a2 a3) (anamnesisref04_near.f (k + 1) a0 a1 a2 a3) := by
 intro a0 a1 a2 a3 k
 obtain ⟨ih0, ih1⟩ := anamnesisref04_near.mono_l k
 unfold anamnesisref04_near.f
 repeat' first
   | (with_reducible exact ih0 _ _ _ _ _ _)
   | (with_reducible exact ih1 _ _ _ _ _ _ _)
   | (with_reducible exact LeO.refl _)
   | (with_reducible exact LeO.none _)
   | (with_reducible refine LeO.ite ?_ ?_)
   | (with_reducible refine LeO.bind ?_ (fun _ => ?_))
   | exact ih0 _ _ _ _ _ _
   | exact ih1 _ _ _ _ _ _ _
   | exact LeO.none _
   | refine LeO.ite ?_ ?_
   | refine LeO.bind ?_ (fun _ => ?_)
def anamnesisref04_near.T6 : Bool × List (List Nat × List Nat) := (true, [([], []), ([], []), ([], []), ([2], [2]), ([], []), ([3, 4], [3, 4]), ([5], [5]), ([6], [6]), ([1, 7], [1, 7]), ([0, 8, 0, 1, 2, 3, 4, 5, 6, 7, 8], [0, 8]), ([9, 8, 0, 1, 2, 3, 4, 5, 6, 7, 8], [9])])
def anamnesisref04_near.B6 : List Nat := [0, 0, 0, 4, 0, 28, 60, 124, 254, 511, 1023]
theorem anamnesisref04_near.tab6 : rtab .any (opsOf Try.f39 6) = anamnesisref04_near.T6 := by kernel_rfl
theorem anamnesisref04_near.bits6 : waitsOk anamnesisref04_near.T6.2 anamnesisref04_near.B6 = true := by kernel_rfl
def anamnesisref04_near.T10 : Bool × List (List Nat × List Nat) := (true, [([], []), ([], []), ([1], [1]), ([], []), ([2, 3], [2, 3]), ([4], [4]), ([5], [5]), ([], []), ([6, 7], [6, 7]), ([8], [8]), ([0, 9], [0, 9]), ([10, 10, 0, 1, 2, 3, 4, 5, 6, 7, 8, 9, 10], [10])])
def anamnesisref04_near.B10 : List Nat := [0, 0, 2, 0, 14, 30, 62, 0, 254, 510, 1023, 2047]
theorem anamnesisref04_near.tab10 : rtab .any (opsOf Try.f39 10) = anamnesisref04_near.T10 := by kernel_rfl
theorem anamnesisref04_near.bits10 : waitsOk anamnesisref04_near.T10.2 anamnesisref04_near.B10 = true := by kernel_rfl
set_option maxHeartbeats 8000000 in
set_option maxRecDepth 100000 in
theorem anamnesisref04_near.calls (k : Nat) (A0_0 : Option Addr) (c0_0 : Nat) (l0_0 : List (S44)) (a0_1 : Int) (a0_2 : Int) (A1 : Option Addr) (c1 : Nat) (l1 : List Bool) (r : List Bool) (w : World) (hr0_0 : Kd.C k44 w A0_0 l0_0.length l0_0) (hc0_0 : l0_0.length ≤ c0_0) (hr1 : Kd.C Kd.bool w A1 l1.length l1) (hc1 : l1.length ≤ c1) (h : anamnesisref04_near.f k l0_0 a0_1 a0_2 l1 = some r) :
  Calls Try.prog 39 #[.agg #[.slice A0_0 l0_0.length c0_0, .int .i64 a0_1, .int .i64 a0_2], .slice A1 l1.length c1] w fun e w' => ∃ v0_ : Value, e = .returned (v0_) ∧ Kd.R Kd.bool 4 w' w.heap.size (fun _ => True) v0_ r ∧ Below w.heap.size w w' := by
 have hu24 := Try.underlying24
 have HR0_0 := Aside0.mk hr0_0
 have HC0_0 := Aside0.mk hc0_0
 clear hr0_0 hc0_0
 have HR1 := Aside0.mk hr1
 have HC1 := Aside0.mk hc1
 clear hr1 hc1
 have HB := Aside0.mk (Below.refl w.heap.size w)
 have H : ((some (([] : List Bool) : List Bool)).bind fun y285 => (if y285.length + l1.length < 140737488355328 then (anamnesisref04_near.l0 k l1 (y285 ++ l1) 0 l0_0 a0_1 a0_2) else (none))) = some r := h
 clear h
 obtain ⟨y285, hy285⟩ : ∃ y_ : List Bool, y_ = (([] : List Bool)) := ⟨_, rfl⟩
 replace H : (if y285.length + l1.length < 140737488355328 then (anamnesisref04_near.l0 k l1 (y285 ++ l1) 0 l0_0 a0_1 a0_2) else (none)) = some r := by first | (rw [hy285]; with_reducible exact H) | (have H2_ := (Option.bind_some _ _).symm.trans H; rw [hy285]; with_reducible exact H2_) | (have H2_ := (Option.bind_some _ _).symm.trans H; with_reducible exact H2_) | with_reducible exact H | (rw [hy285]; exact H) | exact H
 have Ny285 := Aside0.mk hy285
 clear hy285
 by_cases c3 : y285.length + l1.length < 140737488355328
 ·rw [if_pos c3] at H
  have LMc3 := Aside0.mk c3
  clear c3
  obtain ⟨y288, hy288⟩ : ∃ y_ : List Bool, y_ = (y285 ++ l1) := ⟨_, rfl⟩
  replace H : (anamnesisref04_near.l0 k l1 y288 0 l0_0 a0_1 a0_2) = some r := by first | (rw [hy288]; with_reducible exact H) | (have H2_ := (Option.bind_some _ _).symm.trans H; rw [hy288]; with_reducible exact H2_) | (have H2_ := (Option.bind_some _ _).symm.trans H; with_reducible exact H2_) | with_reducible exact H | (rw [hy288]; exact H) | exact H
  have Ny288 := Aside0.mk hy288
  clear hy288
  have H' := Aside0.mk H
  clear H
  go_enter Try.func39, Try.ntmps39
  go_wp2_with (first | ((with_reducible refine gate_dst (N := 2) rfl ?_); refine box_event ?hg (N := 2) ?hd (cs := #[.slice A0_0 l0_0.length c0_0, .int .i64 a0_1, .int .i64 a0_2]) (t := 24) ?hr ?_; (case hd => rfl); (case hg => rfl); (case hr => first | (go_simp; done) | (go_simp; rfl)); intro gb284 hg w4 hbox hb; have n0_ := Aside0.mk (below_step (by repeat (first | (with_reducible first | exact HB.out | apply below_alloc | apply pw_below_drewN | apply below_drew1) | exact HB.out)) hb); have n1_ := Aside0.mk (hbox); have n2_ := Aside0.mk ((by rw [hg]; exact (below_size (by repeat (first | (with_reducible first | exact HB.out | apply below_alloc | apply pw_below_drewN | apply below_drew1) | exact HB.out))) : w.heap.size ≤ gb284)); have n3_ := Aside0.mk ((by rw [hg]; exact (below_size (by repeat (first | (with_reducible first | exact HB.out | apply below_alloc | apply pw_below_drewN | apply below_drew1) | exact HB.out))) : w.heap.size ≤ gb284)); clear HB; have HB := n0_; have BK284 := n1_; have GW284 := n2_; have GE284 := n3_; clear n0_ n1_ n2_ n3_; clear hb hbox hg) | ((with_reducible refine gate_dst (N := 9) rfl ?_); refine Kd.R_lit Kd.bool _ 4 ?hg (N := 9) ?hd (xs := ([] : List Bool)) (inner := []) (ok := fun _ => True) (okp := fun _ => True) ?hr ?hp (fun _ hk => hk) trivial (Below.refl _ _) (Nat.le_refl _) (by simp) ?_; (case hd => rfl); (case hg => rfl); (case hr => first | (go_simp; done) | (go_simp; rfl)); (case hp => exact (Reps.none _ _)); intro v286 w5 ho6 hb hg_ hnew_; clear hg_ hnew_; (first | rw [← Ny285.out] at ho6 | (simp only [Int.reduceToNat] at ho6; rw [← Ny285.out] at ho6)); have n0_ := Aside0.mk (Kd.R_lower ho6 (below_size (by repeat (first | (with_reducible first | exact HB.out | apply below_alloc | apply pw_below_drewN | apply below_drew1 | refine below_set ?_ GE284.out) | exact HB.out)))); have n1_ := Aside0.mk (blk_below (g := gb284) (o := .cells #[.slice A0_0 l0_0.length c0_0, .int .i64 a0_1, .int .i64 a0_2] 24 (0, 0)) (by (with_reducible repeat (first | refine blk_drewN ?_ _ | refine blk_drew ?_ | refine blk_alloc ?_ _)); exact BK284.out) hb); have n2_ := Aside0.mk (below_step (by repeat (first | (with_reducible first | exact HB.out | apply below_alloc | apply pw_below_drewN | apply below_drew1 | refine below_set ?_ GE284.out) | exact HB.out)) hb); clear BK284; clear HB; have HO287 := n0_; have BK284 := n1_; have HB := n2_; clear n0_ n1_ n2_; clear hb ho6) | ((with_reducible refine gate_builtin (b := .append) (xs := #[.tmp 9, .tmp 10]) rfl ?_); at_builtin; refine Kd.R_append_rows Kd.bool (w0 := w) w.heap.size rfl (.tmp 9) (.tmp 10) 58 4 (.bool false) 1 rfl Try.underlying58 info4 rfl (by decide) (by omega) v286 y285 l1 _ _ _ (fun _ => True) (fun _ => False) rfl rfl ?aO ?aR (fun _ _ h => h) (fun _ h => h.elim) ?aF ?aB ?aS ?aL ?_; (case aR => repeat (first | exact (Kd.C_below HR1.out HB.out) | (with_reducible refine Kd.C_alloc ?_ _) | (with_reducible refine Kd.C_drewN ?_ _) | (with_reducible refine Kd.C_drew ?_))); (case aB => exact (by repeat (first | (with_reducible first | exact HB.out | apply below_alloc | apply pw_below_drewN | apply below_drew1 | refine below_set ?_ GE284.out) | exact HB.out))); (case aF => exact (fun _ _ => trivial)); (case aO => exact (by (with_reducible repeat (first | apply Kd.R_alloc | apply Kd.R_drewN | apply Kd.R_drew)); exact HO287.out)); (case aS => exact (below_size (by repeat (first | (with_reducible first | exact HB.out | apply below_alloc | apply pw_below_drewN | apply below_drew1 | refine below_set ?_ GE284.out) | exact HB.out)))); (case aL => have := LMc3.out; omega); intro v289 w7 ho hb hg hat; rw [← Ny288.out] at ho; have n0_ := Aside0.mk (blk_grown (g := gb284) (o := .cells #[.slice A0_0 l0_0.length c0_0, .int .i64 a0_1, .int .i64 a0_2] 24 (0, 0)) (by (with_reducible repeat (first | refine blk_drewN ?_ _ | refine blk_drew ?_ | refine blk_alloc ?_ _)); exact BK284.out) hg (Kd.R_ne HO287.out BK284.out (by decide))); have n1_ := Aside0.mk (hb); have n2_ := Aside0.mk (ho); clear BK284; clear HB; clear HO287; have BK284 := n0_; have HB := n1_; have HO290 := n2_; clear n0_ n1_ n2_; clear ho hb hg hat))
  go_loopg [6] k (fun kq v6 w' => ∃ (x5_1 : List Bool) (x6_1 : Int), v6 = .int .i64 x6_1 ∧ Aside0 (anamnesisref04_near.l0 kq l1 x5_1 x6_1 l0_0 a0_1 a0_2 = some r) ∧ Aside0 (kq ≤ k) ∧ Aside0 (Kd.R Kd.bool 4 w' w.heap.size (fun _ => True) v289 x5_1) ∧ Aside0 (w'.heap[gb284]? = some (.cells #[(.slice A0_0 l0_0.length c0_0), .int .i64 a0_1, .int .i64 a0_2] 24 (0, 0))) ∧ Aside0 (Below w.heap.size w w'))
  case atStart => exact ⟨(y288), (0), (by first | rfl | (simp; done) | (simp [*]; done)), H', ⟨Nat.le_refl _⟩, ⟨by (with_reducible repeat (first | apply Kd.R_alloc | apply Kd.R_drewN | apply Kd.R_drew)); exact HO290.out⟩, ⟨by (with_reducible repeat (first | refine blk_drewN ?_ _ | refine blk_drew ?_ | refine blk_alloc ?_ _)); exact BK284.out⟩, ⟨by repeat (first | (with_reducible first | exact HB.out | apply below_alloc | apply pw_below_drewN | apply below_drew1 | refine below_set ?_ GE284.out) | exact HB.out)⟩⟩
  case round =>
   clear H'
   try clear c1
   try clear p2
   try clear c3
   obtain ⟨x5_1, x6_1, rfl, HA, HK1, HO_5, BK284, HB⟩ := hrel
   cases gk with
   | zero => exact absurd HA.out (by simp [anamnesisref04_near.l0])
   | succ k1 =>
    have H := HA.out
    clear HA
    simp only [anamnesisref04_near.l0] at H
    by_cases c8 : x6_1 < (l0_0.length : Int)
    ·rw [if_pos c8] at H
     have c8b0 : decide (x6_1 < (l0_0.length : Int)) = true := decide_eq_true c8
     clear c8
     by_cases c9 : 0 ≤ x6_1
     ·rw [if_pos c9] at H
      have c9b0 : decide (0 ≤ x6_1) = true := decide_eq_true c9
      clear c9
      by_cases c10 : x6_1 < (l1.length : Int)
      ·rw [if_pos c10] at H
       have c10b0 : decide (x6_1 < (l1.length : Int)) = true := decide_eq_true c10
       clear c10
       obtain ⟨bq11, hbq11⟩ : ∃ b_ : Bool, b_ = (rdOf false l1 x6_1) := ⟨_, rfl⟩
       replace H : (if bq11 = true then ((anamnesisref03_Ref.f l0_0 a0_1 a0_2 ((rd_T44 l0_0 x6_1).f0)).bind fun t293 => (if 0 ≤ t293 then (if t293 < (x5_1.length : Int) then (anamnesisref04_near.l1 k1 l1 (x5_1.set (t293 : Int).toNat true) x6_1 0 l0_0 a0_1 a0_2) else (none)) else (none))) else (anamnesisref04_near.l0 k1 l1 x5_1 (wrap64 (x6_1 + 1)) l0_0 a0_1 a0_2)) = some r := by rw [← hbq11] at H; exact H
       have Nbq11 := Aside0.mk hbq11
       clear hbq11
       by_cases c12 : bq11 = true
       ·subst c12
        have H1 : ((anamnesisref03_Ref.f l0_0 a0_1 a0_2 ((rd_T44 l0_0 x6_1).f0)).bind fun t293 => (if 0 ≤ t293 then (if t293 < (x5_1.length : Int) then (anamnesisref04_near.l1 k1 l1 (x5_1.set (t293 : Int).toNat true) x6_1 0 l0_0 a0_1 a0_2) else (none)) else (none))) = some r := by rw [if_pos rfl] at H; exact H
        clear H
        have H := H1
        clear H1
        replace H := Option.bind_eq_some_iff.mp H
        obtain ⟨t293, A130, H⟩ := H
        replace H : (if 0 ≤ t293 then (if t293 < (x5_1.length : Int) then (anamnesisref04_near.l1 k1 l1 (x5_1.set (t293 : Int).toNat true) x6_1 0 l0_0 a0_1 a0_2) else (none)) else (none)) = some r := H
        have A13 := Aside0.mk A130
        clear A130
        by_cases c14 : 0 ≤ t293
        ·rw [if_pos c14] at H
         have c14b0 : decide (0 ≤ t293) = true := decide_eq_true c14
         clear c14
         by_cases c15 : t293 < (x5_1.length : Int)
         ·rw [if_pos c15] at H
          have c15b0 : decide (t293 < (x5_1.length : Int)) = true := decide_eq_true c15
          clear c15
          obtain ⟨y294, hy294⟩ : ∃ y_ : List Bool, y_ = (x5_1.set (t293 : Int).toNat true) := ⟨_, rfl⟩
          replace H : (anamnesisref04_near.l1 k1 l1 y294 x6_1 0 l0_0 a0_1 a0_2) = some r := by first | (rw [hy294]; with_reducible exact H) | (have H2_ := (Option.bind_some _ _).symm.trans H; rw [hy294]; with_reducible exact H2_) | (have H2_ := (Option.bind_some _ _).symm.trans H; with_reducible exact H2_) | with_reducible exact H | (rw [hy294]; exact H) | exact H
          have Ny294 := Aside0.mk hy294
          clear hy294
          have H' := Aside0.mk H
          clear H
          have hcz17_0 : wr.cell? ⟨gb284, 0, none⟩ = some (.slice A0_0 l0_0.length c0_0) := (blk_cell BK284.out 0).trans rfl
          have hcz17_1 : wr.cell? ⟨gb284, 1, none⟩ = some (.int .i64 a0_1) := (blk_cell BK284.out 1).trans rfl
          have hcz17_2 : wr.cell? ⟨gb284, 2, none⟩ = some (.int .i64 a0_2) := (blk_cell BK284.out 2).trans rfl
          have hfz17_0 := blk_frozen BK284.out 0
          have hfz17_1 := blk_frozen BK284.out 1
          have hfz17_2 := blk_frozen BK284.out 2
          have p291 : 0 ≤ (x6_1 : Int) := of_decide_eq_true (by first | (with_reducible assumption) | assumption)
          have q291 : x6_1 < (l1.length : Int) := of_decide_eq_true (by first | (with_reducible assumption) | assumption)
          obtain ⟨ad291, e291, hx291_0⟩ := Kd.at_bool HR1.out x6_1 p291 q291
          (try rw [← Nbq11.out] at hx291_0)
          cases e291
          replace hx291_0 := (HB.out.cell (World.block_lt_of_cell? w _ hx291_0)).trans hx291_0
          replace p291 := eq_true p291
          replace q291 := eq_true q291
          try go_wp2
          have n0_ := Aside0.mk (Kd.R_drew HO_5.out)
          have n1_ := Aside0.mk (blk_drew BK284.out)
          have n2_ := Aside0.mk (below_drew1 HB.out)
          clear HO_5
          clear BK284
          clear HB
          have HO_5 := n0_
          have BK284 := n1_
          have HB := n2_
          clear n0_ n1_ n2_
          have p292 : 0 ≤ (x6_1 : Int) := of_decide_eq_true (by first | (with_reducible assumption) | assumption)
          have q292 : x6_1 < (l0_0.length : Int) := of_decide_eq_true (by first | (with_reducible assumption) | assumption)
          obtain ⟨ad292, A292_2, c292_2, e292, hx292_0, hx292_1, hx292_2, hx292_3, hx292_4, hx292_5, hl292_2, hi292_2⟩ := at_T44 HR0_0.out x6_1 p292 q292
          have hw292_5 := hx292_5
          have hw292_4 := hx292_4
          have hw292_3 := hx292_3
          have hw292_2 := hx292_2
          have hw292_1 := hx292_1
          have hw292_0 := hx292_0
          cases e292
          replace hx292_0 := (HB.out.cell (World.block_lt_of_cell? w _ hx292_0)).trans hx292_0
          replace hx292_1 := (HB.out.cell (World.block_lt_of_cell? w _ hx292_1)).trans hx292_1
          replace hx292_2 := (HB.out.cell (World.block_lt_of_cell? w _ hx292_2)).trans hx292_2
          replace hx292_3 := (HB.out.cell (World.block_lt_of_cell? w _ hx292_3)).trans hx292_3
          replace hx292_4 := (HB.out.cell (World.block_lt_of_cell? w _ hx292_4)).trans hx292_4
          replace hx292_5 := (HB.out.cell (World.block_lt_of_cell? w _ hx292_5)).trans hx292_5
          have HR292_2 := Aside0.mk hi292_2
          have HC292_2 := Aside0.mk hl292_2
          clear hi292_2 hl292_2
          replace p292 := eq_true p292
          replace q292 := eq_true q292
          refine start_ (n := 11) (S := fun w' => w'.cell? ⟨gb284, 0, none⟩ = some (.slice (some ad292) l0_0.length c0_0) ∧ w'.cell? ⟨gb284, 1, none⟩ = some (.int .i64 a0_1) ∧ w'.cell? ⟨gb284, 2, none⟩ = some (.int .i64 a0_2) ∧ w'.cell? (ad292.add ((x6_1).toNat * 6)) = some (.int .i64 ((rd_T44 l0_0 x6_1).f0)) ∧ w'.cell? ⟨(ad292.add ((x6_1).toNat * 6)).block, (ad292.add ((x6_1).toNat * 6)).off + 1, none⟩ = some (.int .i64 ((rd_T44 l0_0 x6_1).f1)) ∧ w'.cell? ⟨(ad292.add ((x6_1).toNat * 6)).block, (ad292.add ((x6_1).toNat * 6)).off + 2, none⟩ = some (.slice A292_2 ((rd_T44 l0_0 x6_1).f2).length c292_2) ∧ w'.cell? ⟨(ad292.add ((x6_1).toNat * 6)).block, (ad292.add ((x6_1).toNat * 6)).off + 3, none⟩ = some (.string ((rd_T44 l0_0 x6_1).f3)) ∧ w'.cell? ⟨(ad292.add ((x6_1).toNat * 6)).block, (ad292.add ((x6_1).toNat * 6)).off + 4, none⟩ = some (.int .i64 ((rd_T44 l0_0 x6_1).f4)) ∧ w'.cell? ⟨(ad292.add ((x6_1).toNat * 6)).block, (ad292.add ((x6_1).toNat * 6)).off + 5, none⟩ = some (.int .i64 ((rd_T44 l0_0 x6_1).f5))) (ds := [10]) #[false, false, false, false, false, false, false, false, false, false, false] (by kernel_rfl) rfl rfl ⟨(blk_cell BK284.out 0).trans rfl, (blk_cell BK284.out 1).trans rfl, (blk_cell BK284.out 2).trans rfl, ((HB.out.cell (World.block_lt_of_cell? w _ hw292_0)).trans hw292_0), ((HB.out.cell (World.block_lt_of_cell? w _ hw292_1)).trans hw292_1), ((HB.out.cell (World.block_lt_of_cell? w _ hw292_2)).trans hw292_2), ((HB.out.cell (World.block_lt_of_cell? w _ hw292_3)).trans hw292_3), ((HB.out.cell (World.block_lt_of_cell? w _ hw292_4)).trans hw292_4), ((HB.out.cell (World.block_lt_of_cell? w _ hw292_5)).trans hw292_5)⟩ (fun hHeld => ?_); refine with_tabW anamnesisref04_near.tab6 anamnesisref04_near.bits6 (fun HT_ HW_ => ?_)
          generalize wr.drew = w18 at HO_5 BK284 HB HR292_2 hx292_0 hx292_1 hx292_2 hx292_3 hx292_4 hx292_5 hHeld ⊢
          refine pure1 (i := 0) (N := some 24) #[true, false, false, false, false, false, false, false, false, false, false] HT_.out ?_
          refine pure1 (i := 2) (N := some 26) #[true, false, true, false, false, false, false, false, false, false, false] HT_.out ?_
          refine pure1 (i := 4) (N := some 28) #[true, false, true, false, true, false, false, false, false, false, false] HT_.out ?_
          refine take1 (i := 1) (N := some 25) #[true, true, true, false, true, false, false, false, false, false, false] HT_.out HW_.out hHeld ?_
          refine take1 (i := 3) (N := some 27) #[true, true, true, true, true, false, false, false, false, false, false] HT_.out HW_.out hHeld ?_
          refine pure1 (i := 5) (N := some 29) #[true, true, true, true, true, true, false, false, false, false, false] HT_.out ?_
          refine pure1 (i := 6) (N := some 30) #[true, true, true, true, true, true, true, false, false, false, false] HT_.out ?_
          refine take1 (i := 7) (N := some 31) #[true, true, true, true, true, true, true, true, false, false, false] HT_.out HW_.out hHeld ?_
          refine one_ (i := 8) (N := some 32) #[true, true, true, true, true, true, true, true, true, false, false] rfl rfl (one_of HT_.out (by kernel_rfl)) (by decide) (fun K hK => ?_)
          refine goes_ Try.func22 (by kernel_rfl) rfl #[.agg #[.slice (some ad292) l0_0.length c0_0, .int .i64 a0_1, .int .i64 a0_2], .int .i64 ((rd_T44 l0_0 x6_1).f0)] (by rfl) rfl rfl (by (try simp only [List.map_toArray, List.map_cons, List.map_nil]); first | done | rfl | (simp only [List.length_drop, List.length_take]; rfl)) ?_
          with_reducible refine (anamnesisref03_Ref.calls _ _ l0_0 a0_1 a0_2 ((rd_T44 l0_0 x6_1).f0) t293 _ ?side1 ?side2 A13.out).mono ?_
          (case side1 => repeat (first | exact (Kd.C_below HR0_0.out HB.out) | (with_reducible refine Kd.C_alloc ?_ _) | (with_reducible refine Kd.C_drewN ?_ _) | (with_reducible refine Kd.C_drew ?_)))
          (case side2 => exact HC0_0.out)
          rintro e w19 ⟨rfl, hb⟩
          refine ⟨_, rfl, ?_⟩
          have n0_ := Aside0.mk (Kd.R_below (by (with_reducible repeat (first | apply Kd.R_alloc | apply Kd.R_drewN | apply Kd.R_drew)); exact HO_5.out) hb)
          have n1_ := Aside0.mk (blk_below (g := gb284) (o := .cells #[.slice (some ad292) l0_0.length c0_0, .int .i64 a0_1, .int .i64 a0_2] 24 (0, 0)) (by (with_reducible repeat (first | refine blk_drewN ?_ _ | refine blk_drew ?_ | refine blk_alloc ?_ _)); exact BK284.out) hb)
          have n2_ := Aside0.mk (below_step (by repeat (first | (with_reducible first | exact HB.out | apply below_alloc | apply pw_below_drewN | apply below_drew1 | refine below_set ?_ GE284.out) | exact HB.out)) hb)
          clear HO_5
          clear BK284
          clear HB
          have HO_5 := n0_
          have BK284 := n1_
          have HB := n2_
          clear n0_ n1_ n2_
          (try clear hb)
          (try clear hb2)
          (try clear hk)
          (try clear hi)
          have p16 : 0 ≤ (t293 : Int) := of_decide_eq_true (by first | (with_reducible assumption) | assumption)
          have q16 : (t293 : Int) < ((x5_1.length : Int) : Int) := of_decide_eq_true (by first | (with_reducible assumption) | assumption)
          obtain ⟨go16, co16, eo16, gb16, gl16, cl16, HG16⟩ := Kd.R_form HO_5.out (by omega)
          (first | cases eo16 | (injection eo16 with ea_ en_ ec_; (first | subst ea_ | (injection ea_ with ea_; subst ea_)); subst ec_; clear en_))
          have GB16 := Aside0.mk gb16
          have GG16 := Aside0.mk HG16
          clear gb16 gl16 HG16
          obtain ⟨hx16_0, hf16_0⟩ := Kd.R_celln false HO_5.out (t293 : Int) p16 q16
          replace p16 := eq_true p16
          replace q16 := eq_true q16
          have HP20 := Kd.R_putn HO_5.out (t293 : Int) true
          rw [← Ny294.out] at HP20
          have HQ20 := Aside0.mk HP20
          clear HP20
          refine hK.out _ _ ⟨(blk_cell BK284.out 0).trans rfl, (blk_cell BK284.out 1).trans rfl, (blk_cell BK284.out 2).trans rfl, ((HB.out.cell (World.block_lt_of_cell? w _ hw292_0)).trans hw292_0), ((HB.out.cell (World.block_lt_of_cell? w _ hw292_1)).trans hw292_1), ((HB.out.cell (World.block_lt_of_cell? w _ hw292_2)).trans hw292_2), ((HB.out.cell (World.block_lt_of_cell? w _ hw292_3)).trans hw292_3), ((HB.out.cell (World.block_lt_of_cell? w _ hw292_4)).trans hw292_4), ((HB.out.cell (World.block_lt_of_cell? w _ hw292_5)).trans hw292_5)⟩ (fun hHeld => ?_)
          clear hK K
          refine norm_ (a' := ?_) ?_ ?_
          rotate_left
          ·show Act.put _ (some 32) _ = _
           simp only [Act.put, List.setIfInBounds_toArray, List.set_cons_zero, List.set_cons_succ, i64_w, i32_w]
           rfl
          refine pure1 (i := 9) (N := some 33) #[true, true, true, true, true, true, true, true, true, true, false] HT_.out ?_
          refine last_ (i := 10) (N := none) #[true, true, true, true, true, true, true, true, true, true, true] rfl rfl (one_of HT_.out (by kernel_rfl)) (by decide) (fun K hK => ?_)
          refine skip_ (w1 := ?_) (by rfl) rfl ?_ ?_
          rotate_left
          ·go_simp
           rfl
          refine hK.out _ _ ?_
          clear hK K
          refine done_ (done_of HT_.out (by kernel_rfl)) ?_
          try go_wp2
          go_loopg [7] k1 (fun kq v7 w' => ∃ (x5_2 : List Bool) (x7_2 : Int), v7 = .int .i64 x7_2 ∧ Aside0 (anamnesisref04_near.l1 kq l1 x5_2 x6_1 x7_2 l0_0 a0_1 a0_2 = some r) ∧ Aside0 (kq ≤ k1) ∧ Aside0 (Kd.R Kd.bool 4 w' w.heap.size (fun _ => True) (.slice (some ⟨go16, 0, none⟩) x5_1.length co16) x5_2) ∧ Aside0 (w'.heap[gb284]? = some (.cells #[(.slice (some ad292) l0_0.length c0_0), .int .i64 a0_1, .int .i64 a0_2] 24 (0, 0))) ∧ Aside0 (Below w.heap.size w w'))
          case atStart => exact ⟨(y294), (0), (by first | rfl | (simp; done) | (simp [*]; done)), H', ⟨Nat.le_refl _⟩, ⟨by (with_reducible repeat (first | apply Kd.R_alloc | apply Kd.R_drewN | apply Kd.R_drew)); exact HQ20.out⟩, ⟨by (with_reducible repeat (first | refine blk_drewN ?_ _ | refine blk_drew ?_ | refine blk_alloc ?_ _)); refine blk_far ?_ (by have h_ := Kd.R_ne HO_5.out BK284.out (by decide); intro e_; exact h_ (by rw [e_]; rfl)) _; (with_reducible repeat (first | refine blk_drewN ?_ _ | refine blk_drew ?_ | refine blk_alloc ?_ _)); exact BK284.out⟩, ⟨by repeat (first | (with_reducible first | exact HB.out | apply below_alloc | apply pw_below_drewN | apply below_drew1 | refine below_set ?_ GB16.out | refine below_set ?_ GE284.out) | exact HB.out)⟩⟩
          case round =>
           clear H'
           try clear c1
           try clear p1
           try clear q1
           try clear hx1
           try clear c2
           try clear p2
           try clear q2
           try clear hx2
           try clear c3
           try clear p6
           try clear c8
           try clear c8b0
           try clear c9
           try clear c9b0
           try clear c10
           try clear c10b0
           try clear q11
           try clear c12
           try clear c14
           try clear c14b0
           try clear c15
           try clear c15b0
           try clear p16
           try clear q16
           try clear hx16
           try clear hf16
           try clear hcz17_0
           try clear hcz17_1
           try clear hcz17_2
           try clear hfz17_0
           try clear hfz17_1
           try clear hfz17_2
           try clear hx16_0
           try clear hx291_0
           try clear hx292_0
           try clear hx292_1
           try clear hx292_2
           try clear hx292_3
           try clear hx292_4
           try clear hx292_5
           try clear p16
           try clear p2
           try clear p291
           try clear p292
           try clear q16
           try clear q291
           try clear q292
           obtain ⟨x5_2, x7_2, rfl, HA, HK2, HO_5, BK284, HB⟩ := hrel
           have hl5_2 := (Kd.R_reads' HO_5.out).1
           rw [hl5_2] at HO_5
           (try simp only [hl5_2])
           (try simp only [hl5_2] at BK284)
           cases gk with
           | zero => exact absurd HA.out (by simp [anamnesisref04_near.l1])
           | succ k2 =>
            have H := HA.out
            clear HA
            simp only [anamnesisref04_near.l1] at H
            by_cases c21 : 0 ≤ x6_1
            ·rw [if_pos c21] at H
             have c21b0 : decide (0 ≤ x6_1) = true := decide_eq_true c21
             clear c21
             by_cases c22 : x6_1 < (l0_0.length : Int)
             ·rw [if_pos c22] at H
              have c22b0 : decide (x6_1 < (l0_0.length : Int)) = true := decide_eq_true c22
              clear c22
              by_cases c23 : x7_2 < (((rd_T44 l0_0 x6_1).f2).length : Int)
              ·rw [if_pos c23] at H
               have c23b0 : decide (x7_2 < (((rd_T44 l0_0 x6_1).f2).length : Int)) = true := decide_eq_true c23
               clear c23
               by_cases c24 : 0 ≤ x7_2
               ·rw [if_pos c24] at H
                have c24b0 : decide (0 ≤ x7_2) = true := decide_eq_true c24
                clear c24
                replace H := Option.bind_eq_some_iff.mp H
                obtain ⟨t298, A250, H⟩ := H
                replace H : (if t298 ≥ 0 then (if 0 ≤ t298 then (if t298 < (x5_2.length : Int) then (anamnesisref04_near.l1 k2 l1 (x5_2.set (t298 : Int).toNat true) x6_1 (wrap64 (x7_2 + 1)) l0_0 a0_1 a0_2) else (none)) else (none)) else (anamnesisref04_near.l1 k2 l1 x5_2 x6_1 (wrap64 (x7_2 + 1)) l0_0 a0_1 a0_2)) = some r := H
                have A25 := Aside0.mk A250
                clear A250
                by_cases c26 : t298 ≥ 0
                ·rw [if_pos c26] at H
                 have c26b0 : decide (0 ≤ t298) = true := decide_eq_true c26
                 clear c26
                 by_cases c27 : 0 ≤ t298
                 ·rw [if_pos c27] at H
                  have c27b0 : decide (0 ≤ t298) = true := decide_eq_true c27
                  clear c27
                  by_cases c28 : t298 < (x5_2.length : Int)
                  ·rw [if_pos c28] at H
                   have c28b0 : decide (t298 < (x5_2.length : Int)) = true := decide_eq_true c28
                   clear c28
                   obtain ⟨y299, hy299⟩ : ∃ y_ : List Bool, y_ = (x5_2.set (t298 : Int).toNat true) := ⟨_, rfl⟩
                   replace H : (anamnesisref04_near.l1 k2 l1 y299 x6_1 (wrap64 (x7_2 + 1)) l0_0 a0_1 a0_2) = some r := by first | (rw [hy299]; with_reducible exact H) | (have H2_ := (Option.bind_some _ _).symm.trans H; rw [hy299]; with_reducible exact H2_) | (have H2_ := (Option.bind_some _ _).symm.trans H; with_reducible exact H2_) | with_reducible exact H | (rw [hy299]; exact H) | exact H
                   have Ny299 := Aside0.mk hy299
                   clear hy299
                   have H' := Aside0.mk H
                   clear H
                   have hcz30_0 : wr.cell? ⟨gb284, 0, none⟩ = some (.slice (some ad292) l0_0.length c0_0) := (blk_cell BK284.out 0).trans rfl
                   have hcz30_1 : wr.cell? ⟨gb284, 1, none⟩ = some (.int .i64 a0_1) := (blk_cell BK284.out 1).trans rfl
                   have hcz30_2 : wr.cell? ⟨gb284, 2, none⟩ = some (.int .i64 a0_2) := (blk_cell BK284.out 2).trans rfl
                   have hfz30_0 := blk_frozen BK284.out 0
                   have hfz30_1 := blk_frozen BK284.out 1
                   have hfz30_2 := blk_frozen BK284.out 2
                   have p295 : 0 ≤ (x6_1 : Int) := of_decide_eq_true (by first | (with_reducible assumption) | assumption)
                   have q295 : x6_1 < (l0_0.length : Int) := of_decide_eq_true (by first | (with_reducible assumption) | assumption)
                   obtain ⟨ad295, A295_2, c295_2, e295, hx295_0, hx295_1, hx295_2, hx295_3, hx295_4, hx295_5, hl295_2, hi295_2⟩ := at_T44 HR0_0.out x6_1 p295 q295
                   obtain rfl : ad292 = ad295 := (by injection e295)
                   replace hx295_0 := (HB.out.cell (World.block_lt_of_cell? w _ hx295_0)).trans hx295_0
                   replace hx295_1 := (HB.out.cell (World.block_lt_of_cell? w _ hx295_1)).trans hx295_1
                   replace hx295_2 := (HB.out.cell (World.block_lt_of_cell? w _ hx295_2)).trans hx295_2
                   replace hx295_3 := (HB.out.cell (World.block_lt_of_cell? w _ hx295_3)).trans hx295_3
                   replace hx295_4 := (HB.out.cell (World.block_lt_of_cell? w _ hx295_4)).trans hx295_4
                   replace hx295_5 := (HB.out.cell (World.block_lt_of_cell? w _ hx295_5)).trans hx295_5
                   have HR295_2 := Aside0.mk hi295_2
                   have HC295_2 := Aside0.mk hl295_2
                   clear hi295_2 hl295_2
                   replace p295 := eq_true p295
                   replace q295 := eq_true q295
                   try go_wp2
                   have n0_ := Aside0.mk (Kd.R_drew HO_5.out)
                   have n1_ := Aside0.mk (blk_drew BK284.out)
                   have n2_ := Aside0.mk (below_drew1 HB.out)
                   clear HO_5
                   clear BK284
                   clear HB
                   have HO_5 := n0_
                   have BK284 := n1_
                   have HB := n2_
                   clear n0_ n1_ n2_
                   have p296 : 0 ≤ (x6_1 : Int) := of_decide_eq_true (by first | (with_reducible assumption) | assumption)
                   have q296 : x6_1 < (l0_0.length : Int) := of_decide_eq_true (by first | (with_reducible assumption) | assumption)
                   obtain ⟨ad296, A296_2, c296_2, e296, hx296_0, hx296_1, hx296_2, hx296_3, hx296_4, hx296_5, hl296_2, hi296_2⟩ := at_T44 HR0_0.out x6_1 p296 q296
                   have hw296_5 := hx296_5
                   have hw296_4 := hx296_4
                   have hw296_3 := hx296_3
                   have hw296_2 := hx296_2
                   have hw296_1 := hx296_1
                   have hw296_0 := hx296_0
                   obtain rfl : ad292 = ad296 := (by injection e296)
                   replace hx296_0 := (HB.out.cell (World.block_lt_of_cell? w _ hx296_0)).trans hx296_0
                   replace hx296_1 := (HB.out.cell (World.block_lt_of_cell? w _ hx296_1)).trans hx296_1
                   replace hx296_2 := (HB.out.cell (World.block_lt_of_cell? w _ hx296_2)).trans hx296_2
                   replace hx296_3 := (HB.out.cell (World.block_lt_of_cell? w _ hx296_3)).trans hx296_3
                   replace hx296_4 := (HB.out.cell (World.block_lt_of_cell? w _ hx296_4)).trans hx296_4
                   replace hx296_5 := (HB.out.cell (World.block_lt_of_cell? w _ hx296_5)).trans hx296_5
                   have HR296_2 := Aside0.mk hi296_2
                   have HC296_2 := Aside0.mk hl296_2
                   clear hi296_2 hl296_2
                   replace p296 := eq_true p296
                   replace q296 := eq_true q296
                   have p297 : 0 ≤ (x7_2 : Int) := of_decide_eq_true (by first | (with_reducible assumption) | assumption)
                   have q297 : x7_2 < (((rd_T44 l0_0 x6_1).f2).length : Int) := of_decide_eq_true (by first | (with_reducible assumption) | assumption)
                   obtain ⟨ad297, e297, hx297_0⟩ := Kd.at_int HR296_2.out x7_2 p297 q297
                   have hw297_0 := hx297_0
                   cases e297
                   replace hx297_0 := (HB.out.cell (World.block_lt_of_cell? w _ hx297_0)).trans hx297_0
                   replace p297 := eq_true p297
                   replace q297 := eq_true q297
                   refine start_ (n := 12) (S := fun w' => w'.cell? ⟨gb284, 0, none⟩ = some (.slice (some ad292) l0_0.length c0_0) ∧ w'.cell? ⟨gb284, 1, none⟩ = some (.int .i64 a0_1) ∧ w'.cell? ⟨gb284, 2, none⟩ = some (.int .i64 a0_2) ∧ w'.cell? (ad292.add ((x6_1).toNat * 6)) = some (.int .i64 ((rd_T44 l0_0 x6_1).f0)) ∧ w'.cell? ⟨(ad292.add ((x6_1).toNat * 6)).block, (ad292.add ((x6_1).toNat * 6)).off + 1, none⟩ = some (.int .i64 ((rd_T44 l0_0 x6_1).f1)) ∧ w'.cell? ⟨(ad292.add ((x6_1).toNat * 6)).block, (ad292.add ((x6_1).toNat * 6)).off + 2, none⟩ = some (.slice (some ad297) ((rd_T44 l0_0 x6_1).f2).length c296_2) ∧ w'.cell? ⟨(ad292.add ((x6_1).toNat * 6)).block, (ad292.add ((x6_1).toNat * 6)).off + 3, none⟩ = some (.string ((rd_T44 l0_0 x6_1).f3)) ∧ w'.cell? ⟨(ad292.add ((x6_1).toNat * 6)).block, (ad292.add ((x6_1).toNat * 6)).off + 4, none⟩ = some (.int .i64 ((rd_T44 l0_0 x6_1).f4)) ∧ w'.cell? ⟨(ad292.add ((x6_1).toNat * 6)).block, (ad292.add ((x6_1).toNat * 6)).off + 5, none⟩ = some (.int .i64 ((rd_T44 l0_0 x6_1).f5)) ∧ w'.cell? (ad297.add (x7_2).toNat) = some (.int .i64 (rd ((rd_T44 l0_0 x6_1).f2) x7_2))) (ds := []) #[false, false, false, false, false, false, false, false, false, false, false, false] (by kernel_rfl) rfl rfl ⟨(blk_cell BK284.out 0).trans rfl, (blk_cell BK284.out 1).trans rfl, (blk_cell BK284.out 2).trans rfl, ((HB.out.cell (World.block_lt_of_cell? w _ hw296_0)).trans hw296_0), ((HB.out.cell (World.block_lt_of_cell? w _ hw296_1)).trans hw296_1), ((HB.out.cell (World.block_lt_of_cell? w _ hw296_2)).trans hw296_2), ((HB.out.cell (World.block_lt_of_cell? w _ hw296_3)).trans hw296_3), ((HB.out.cell (World.block_lt_of_cell? w _ hw296_4)).trans hw296_4), ((HB.out.cell (World.block_lt_of_cell? w _ hw296_5)).trans hw296_5), ((HB.out.cell (World.block_lt_of_cell? w _ hw297_0)).trans hw297_0)⟩ (fun hHeld => ?_); refine with_tabW anamnesisref04_near.tab10 anamnesisref04_near.bits10 (fun HT_ HW_ => ?_)
                   generalize wr.drew = w31 at HO_5 BK284 HB HR296_2 hx296_0 hx296_1 hx296_2 hx296_3 hx296_4 hx296_5 hx297_0 hHeld ⊢
                   refine pure1 (i := 1) (N := some 46) #[false, true, false, false, false, false, false, false, false, false, false, false] HT_.out ?_
                   refine pure1 (i := 3) (N := some 48) #[false, true, false, true, false, false, false, false, false, false, false, false] HT_.out ?_
                   refine pure1 (i := 7) (N := some 52) #[false, true, false, true, false, false, false, true, false, false, false, false] HT_.out ?_
                   refine take1 (i := 0) (N := some 45) #[true, true, false, true, false, false, false, true, false, false, false, false] HT_.out HW_.out hHeld ?_
                   refine take1 (i := 2) (N := some 47) #[true, true, true, true, false, false, false, true, false, false, false, false] HT_.out HW_.out hHeld ?_
                   refine pure1 (i := 4) (N := some 49) #[true, true, true, true, true, false, false, true, false, false, false, false] HT_.out ?_
                   refine pure1 (i := 5) (N := some 50) #[true, true, true, true, true, true, false, true, false, false, false, false] HT_.out ?_
                   refine take1 (i := 6) (N := some 51) #[true, true, true, true, true, true, true, true, false, false, false, false] HT_.out HW_.out hHeld ?_
                   refine pure1 (i := 8) (N := some 53) #[true, true, true, true, true, true, true, true, true, false, false, false] HT_.out ?_
                   refine take1 (i := 9) (N := some 54) #[true, true, true, true, true, true, true, true, true, true, false, false] HT_.out HW_.out hHeld ?_
                   refine one_ (i := 10) (N := some 55) #[true, true, true, true, true, true, true, true, true, true, true, false] rfl rfl (one_of HT_.out (by kernel_rfl)) (by decide) (fun K hK => ?_)
                   refine goes_ Try.func22 (by kernel_rfl) rfl #[.agg #[.slice (some ad292) l0_0.length c0_0, .int .i64 a0_1, .int .i64 a0_2], .int .i64 (rd ((rd_T44 l0_0 x6_1).f2) x7_2)] (by rfl) rfl rfl (by (try simp only [List.map_toArray, List.map_cons, List.map_nil]); first | done | rfl | (simp only [List.length_drop, List.length_take]; rfl)) ?_
                   with_reducible refine (anamnesisref03_Ref.calls _ _ l0_0 a0_1 a0_2 (rd ((rd_T44 l0_0 x6_1).f2) x7_2) t298 _ ?side1 ?side2 A25.out).mono ?_
                   (case side1 => repeat (first | exact (Kd.C_below HR0_0.out HB.out) | (with_reducible refine Kd.C_alloc ?_ _) | (with_reducible refine Kd.C_drewN ?_ _) | (with_reducible refine Kd.C_drew ?_)))
                   (case side2 => exact HC0_0.out)
                   rintro e w32 ⟨rfl, hb⟩
                   refine ⟨_, rfl, ?_⟩
                   have n0_ := Aside0.mk (Kd.R_below (by (with_reducible repeat (first | apply Kd.R_alloc | apply Kd.R_drewN | apply Kd.R_drew)); exact HO_5.out) hb)
                   have n1_ := Aside0.mk (blk_below (g := gb284) (o := .cells #[.slice (some ad292) l0_0.length c0_0, .int .i64 a0_1, .int .i64 a0_2] 24 (0, 0)) (by (with_reducible repeat (first | refine blk_drewN ?_ _ | refine blk_drew ?_ | refine blk_alloc ?_ _)); exact BK284.out) hb)
                   have n2_ := Aside0.mk (below_step (by repeat (first | (with_reducible first | exact HB.out | apply below_alloc | apply pw_below_drewN | apply below_drew1 | refine below_set ?_ GE284.out) | exact HB.out)) hb)
                   clear HO_5
                   clear BK284
                   clear HB
                   have HO_5 := n0_
                   have BK284 := n1_
                   have HB := n2_
                   clear n0_ n1_ n2_
                   (try clear hb)
                   (try clear hb2)
                   (try clear hk)
                   (try clear hi)
                   refine hK.out _ _ ⟨(blk_cell BK284.out 0).trans rfl, (blk_cell BK284.out 1).trans rfl, (blk_cell BK284.out 2).trans rfl, ((HB.out.cell (World.block_lt_of_cell? w _ hw296_0)).trans hw296_0), ((HB.out.cell (World.block_lt_of_cell? w _ hw296_1)).trans hw296_1), ((HB.out.cell (World.block_lt_of_cell? w _ hw296_2)).trans hw296_2), ((HB.out.cell (World.block_lt_of_cell? w _ hw296_3)).trans hw296_3), ((HB.out.cell (World.block_lt_of_cell? w _ hw296_4)).trans hw296_4), ((HB.out.cell (World.block_lt_of_cell? w _ hw296_5)).trans hw296_5), ((HB.out.cell (World.block_lt_of_cell? w _ hw297_0)).trans hw297_0)⟩ (fun hHeld => ?_)
                   clear hK K
                   refine norm_ (a' := ?_) ?_ ?_
                   rotate_left
                   ·show Act.put _ (some 55) _ = _
                    simp only [Act.put, List.setIfInBounds_toArray, List.set_cons_zero, List.set_cons_succ, i64_w, i32_w]
                    rfl
                   refine pure1 (i := 11) (N := some 8) #[true, true, true, true, true, true, true, true, true, true, true, true] HT_.out ?_
                   refine done_ (done_of HT_.out (by kernel_rfl)) ?_
                   have p29 : 0 ≤ (t298 : Int) := of_decide_eq_true (by first | (with_reducible assumption) | assumption)
                   have q29 : (t298 : Int) < ((x5_2.length : Int) : Int) := of_decide_eq_true (by first | (with_reducible assumption) | assumption)
                   obtain ⟨hx29_0, hf29_0⟩ := Kd.R_celln false HO_5.out (t298 : Int) p29 q29
                   replace p29 := eq_true p29
                   replace q29 := eq_true q29
                   obtain ⟨hy33_, hz33_⟩ := Kd.R_celln false HO_5.out (t298 : Int) (of_decide_eq_true (by first | (with_reducible assumption) | assumption)) (of_decide_eq_true (by first | (with_reducible assumption) | assumption))
                   have HP33 := Kd.R_putg HO_5.out (t298 : Int) true
                   try go_wp2_with (first | ((with_reducible refine gate_store (t := 4) (p := 60) rfl ?_); refine store_event (t := 4) (p := 60) (v := ?vo_w34) (w1 := (w32.setCell ⟨go16, (t298 : Int).toNat, none⟩ (.bool true))) ?hg ?ho ?hn ?hr ?_; (case ho => rfl); (case hg => rfl); (case hn => rfl); (case hr => first | (go_simp; done) | (go_simp; rfl)); intro w34 hw; have hg : w32.grownBy w34 (some go16) := (by rw [hw]; exact HP33.2); have hp_ : Kd.R Kd.bool 4 w34 w.heap.size (fun _ => True) (.slice (some ⟨go16, 0, none⟩) x5_2.length co16) y299 := (by rw [hw, Ny299.out]; exact HP33.1); clear HP33; have n0_ := Aside0.mk (hp_); have n1_ := Aside0.mk (blk_grown (g := gb284) (o := .cells #[.slice (some ad292) l0_0.length c0_0, .int .i64 a0_1, .int .i64 a0_2] 24 (0, 0)) (by (with_reducible repeat (first | refine blk_drewN ?_ _ | refine blk_drew ?_ | refine blk_alloc ?_ _)); exact BK284.out) hg (Kd.R_ne HO_5.out BK284.out (by decide))); have n2_ := Aside0.mk ((by rw [hw]; exact below_set (HB.out) GB16.out : Below w.heap.size w w34)); clear HO_5; clear BK284; clear HB; have HO_5 := n0_; have BK284 := n1_; have HB := n2_; clear n0_ n1_ n2_; clear hg hw hp_))
                   (try simp only [← hl5_2])
                   go_roundg k2
                   case measure => have := HK1.out; have := HK2.out; omega
                   case rel => exact ⟨(y299), (wrap64 (x7_2 + 1)), (by first | rfl | (simp; done) | (simp [*]; done)), H', ⟨by have := HK1.out; have := HK2.out; omega⟩, ⟨by (try simp only [hl5_2]); (with_reducible repeat (first | apply Kd.R_alloc | apply Kd.R_drewN | apply Kd.R_drew)); exact HO_5.out⟩, ⟨by (try simp only [hl5_2]); (with_reducible repeat (first | refine blk_drewN ?_ _ | refine blk_drew ?_ | refine blk_alloc ?_ _)); exact BK284.out⟩, ⟨by repeat (first | (with_reducible first | exact HB.out | apply below_alloc | apply pw_below_drewN | apply below_drew1 | refine below_set ?_ GE284.out) | exact HB.out)⟩⟩
                  ·rw [if_neg c28] at H
                   exact absurd H (by simp)
                 ·rw [if_neg c27] at H
                  exact absurd H (by simp)
                ·rw [if_neg c26] at H
                 have c26b0 : decide (0 ≤ t298) = false := decide_eq_false c26
                 clear c26
                 have H' := Aside0.mk H
                 clear H
                 have hcz35_0 : wr.cell? ⟨gb284, 0, none⟩ = some (.slice (some ad292) l0_0.length c0_0) := (blk_cell BK284.out 0).trans rfl
                 have hcz35_1 : wr.cell? ⟨gb284, 1, none⟩ = some (.int .i64 a0_1) := (blk_cell BK284.out 1).trans rfl
                 have hcz35_2 : wr.cell? ⟨gb284, 2, none⟩ = some (.int .i64 a0_2) := (blk_cell BK284.out 2).trans rfl
                 have hfz35_0 := blk_frozen BK284.out 0
                 have hfz35_1 := blk_frozen BK284.out 1
                 have hfz35_2 := blk_frozen BK284.out 2
                 have p295 : 0 ≤ (x6_1 : Int) := of_decide_eq_true (by first | (with_reducible assumption) | assumption)
                 have q295 : x6_1 < (l0_0.length : Int) := of_decide_eq_true (by first | (with_reducible assumption) | assumption)
                 obtain ⟨ad295, A295_2, c295_2, e295, hx295_0, hx295_1, hx295_2, hx295_3, hx295_4, hx295_5, hl295_2, hi295_2⟩ := at_T44 HR0_0.out x6_1 p295 q295
                 obtain rfl : ad292 = ad295 := (by injection e295)
                 replace hx295_0 := (HB.out.cell (World.block_lt_of_cell? w _ hx295_0)).trans hx295_0
                 replace hx295_1 := (HB.out.cell (World.block_lt_of_cell? w _ hx295_1)).trans hx295_1
                 replace hx295_2 := (HB.out.cell (World.block_lt_of_cell? w _ hx295_2)).trans hx295_2
                 replace hx295_3 := (HB.out.cell (World.block_lt_of_cell? w _ hx295_3)).trans hx295_3
                 replace hx295_4 := (HB.out.cell (World.block_lt_of_cell? w _ hx295_4)).trans hx295_4
                 replace hx295_5 := (HB.out.cell (World.block_lt_of_cell? w _ hx295_5)).trans hx295_5
                 have HR295_2 := Aside0.mk hi295_2
                 have HC295_2 := Aside0.mk hl295_2
                 clear hi295_2 hl295_2
                 replace p295 := eq_true p295
                 replace q295 := eq_true q295
                 try go_wp2
                 have n0_ := Aside0.mk (Kd.R_drew HO_5.out)
                 have n1_ := Aside0.mk (blk_drew BK284.out)
                 have n2_ := Aside0.mk (below_drew1 HB.out)
                 clear HO_5
                 clear BK284
                 clear HB
                 have HO_5 := n0_
                 have BK284 := n1_
                 have HB := n2_
                 clear n0_ n1_ n2_
                 have p296 : 0 ≤ (x6_1 : Int) := of_decide_eq_true (by first | (with_reducible assumption) | assumption)
                 have q296 : x6_1 < (l0_0.length : Int) := of_decide_eq_true (by first | (with_reducible assumption) | assumption)
                 obtain ⟨ad296, A296_2, c296_2, e296, hx296_0, hx296_1, hx296_2, hx296_3, hx296_4, hx296_5, hl296_2, hi296_2⟩ := at_T44 HR0_0.out x6_1 p296 q296
                 have hw296_5 := hx296_5
                 have hw296_4 := hx296_4
                 have hw296_3 := hx296_3
                 have hw296_2 := hx296_2
                 have hw296_1 := hx296_1
                 have hw296_0 := hx296_0
                 obtain rfl : ad292 = ad296 := (by injection e296)
                 replace hx296_0 := (HB.out.cell (World.block_lt_of_cell? w _ hx296_0)).trans hx296_0
                 replace hx296_1 := (HB.out.cell (World.block_lt_of_cell? w _ hx296_1)).trans hx296_1
                 replace hx296_2 := (HB.out.cell (World.block_lt_of_cell? w _ hx296_2)).trans hx296_2
                 replace hx296_3 := (HB.out.cell (World.block_lt_of_cell? w _ hx296_3)).trans hx296_3
                 replace hx296_4 := (HB.out.cell (World.block_lt_of_cell? w _ hx296_4)).trans hx296_4
                 replace hx296_5 := (HB.out.cell (World.block_lt_of_cell? w _ hx296_5)).trans hx296_5
                 have HR296_2 := Aside0.mk hi296_2
                 have HC296_2 := Aside0.mk hl296_2
                 clear hi296_2 hl296_2
                 replace p296 := eq_true p296
                 replace q296 := eq_true q296
                 have p297 : 0 ≤ (x7_2 : Int) := of_decide_eq_true (by first | (with_reducible assumption) | assumption)
                 have q297 : x7_2 < (((rd_T44 l0_0 x6_1).f2).length : Int) := of_decide_eq_true (by first | (with_reducible assumption) | assumption)
                 obtain ⟨ad297, e297, hx297_0⟩ := Kd.at_int HR296_2.out x7_2 p297 q297
                 have hw297_0 := hx297_0
                 cases e297
                 replace hx297_0 := (HB.out.cell (World.block_lt_of_cell? w _ hx297_0)).trans hx297_0
                 replace p297 := eq_true p297
                 replace q297 := eq_true q297
                 refine start_ (n := 12) (S := fun w' => w'.cell? ⟨gb284, 0, none⟩ = some (.slice (some ad292) l0_0.length c0_0) ∧ w'.cell? ⟨gb284, 1, none⟩ = some (.int .i64 a0_1) ∧ w'.cell? ⟨gb284, 2, none⟩ = some (.int .i64 a0_2) ∧ w'.cell? (ad292.add ((x6_1).toNat * 6)) = some (.int .i64 ((rd_T44 l0_0 x6_1).f0)) ∧ w'.cell? ⟨(ad292.add ((x6_1).toNat * 6)).block, (ad292.add ((x6_1).toNat * 6)).off + 1, none⟩ = some (.int .i64 ((rd_T44 l0_0 x6_1).f1)) ∧ w'.cell? ⟨(ad292.add ((x6_1).toNat * 6)).block, (ad292.add ((x6_1).toNat * 6)).off + 2, none⟩ = some (.slice (some ad297) ((rd_T44 l0_0 x6_1).f2).length c296_2) ∧ w'.cell? ⟨(ad292.add ((x6_1).toNat * 6)).block, (ad292.add ((x6_1).toNat * 6)).off + 3, none⟩ = some (.string ((rd_T44 l0_0 x6_1).f3)) ∧ w'.cell? ⟨(ad292.add ((x6_1).toNat * 6)).block, (ad292.add ((x6_1).toNat * 6)).off + 4, none⟩ = some (.int .i64 ((rd_T44 l0_0 x6_1).f4)) ∧ w'.cell? ⟨(ad292.add ((x6_1).toNat * 6)).block, (ad292.add ((x6_1).toNat * 6)).off + 5, none⟩ = some (.int .i64 ((rd_T44 l0_0 x6_1).f5)) ∧ w'.cell? (ad297.add (x7_2).toNat) = some (.int .i64 (rd ((rd_T44 l0_0 x6_1).f2) x7_2))) (ds := []) #[false, false, false, false, false, false, false, false, false, false, false, false] (by kernel_rfl) rfl rfl ⟨(blk_cell BK284.out 0).trans rfl, (blk_cell BK284.out 1).trans rfl, (blk_cell BK284.out 2).trans rfl, ((HB.out.cell (World.block_lt_of_cell? w _ hw296_0)).trans hw296_0), ((HB.out.cell (World.block_lt_of_cell? w _ hw296_1)).trans hw296_1), ((HB.out.cell (World.block_lt_of_cell? w _ hw296_2)).trans hw296_2), ((HB.out.cell (World.block_lt_of_cell? w _ hw296_3)).trans hw296_3), ((HB.out.cell (World.block_lt_of_cell? w _ hw296_4)).trans hw296_4), ((HB.out.cell (World.block_lt_of_cell? w _ hw296_5)).trans hw296_5), ((HB.out.cell (World.block_lt_of_cell? w _ hw297_0)).trans hw297_0)⟩ (fun hHeld => ?_); refine with_tabW anamnesisref04_near.tab10 anamnesisref04_near.bits10 (fun HT_ HW_ => ?_)
                 generalize wr.drew = w36 at HO_5 BK284 HB HR296_2 hx296_0 hx296_1 hx296_2 hx296_3 hx296_4 hx296_5 hx297_0 hHeld ⊢
                 refine pure1 (i := 1) (N := some 46) #[false, true, false, false, false, false, false, false, false, false, false, false] HT_.out ?_
                 refine pure1 (i := 3) (N := some 48) #[false, true, false, true, false, false, false, false, false, false, false, false] HT_.out ?_
                 refine pure1 (i := 7) (N := some 52) #[false, true, false, true, false, false, false, true, false, false, false, false] HT_.out ?_
                 refine take1 (i := 0) (N := some 45) #[true, true, false, true, false, false, false, true, false, false, false, false] HT_.out HW_.out hHeld ?_
                 refine take1 (i := 2) (N := some 47) #[true, true, true, true, false, false, false, true, false, false, false, false] HT_.out HW_.out hHeld ?_
                 refine pure1 (i := 4) (N := some 49) #[true, true, true, true, true, false, false, true, false, false, false, false] HT_.out ?_
                 refine pure1 (i := 5) (N := some 50) #[true, true, true, true, true, true, false, true, false, false, false, false] HT_.out ?_
                 refine take1 (i := 6) (N := some 51) #[true, true, true, true, true, true, true, true, false, false, false, false] HT_.out HW_.out hHeld ?_
                 refine pure1 (i := 8) (N := some 53) #[true, true, true, true, true, true, true, true, true, false, false, false] HT_.out ?_
                 refine take1 (i := 9) (N := some 54) #[true, true, true, true, true, true, true, true, true, true, false, false] HT_.out HW_.out hHeld ?_
                 refine one_ (i := 10) (N := some 55) #[true, true, true, true, true, true, true, true, true, true, true, false] rfl rfl (one_of HT_.out (by kernel_rfl)) (by decide) (fun K hK => ?_)
                 refine goes_ Try.func22 (by kernel_rfl) rfl #[.agg #[.slice (some ad292) l0_0.length c0_0, .int .i64 a0_1, .int .i64 a0_2], .int .i64 (rd ((rd_T44 l0_0 x6_1).f2) x7_2)] (by rfl) rfl rfl (by (try simp only [List.map_toArray, List.map_cons, List.map_nil]); first | done | rfl | (simp only [List.length_drop, List.length_take]; rfl)) ?_
                 with_reducible refine (anamnesisref03_Ref.calls _ _ l0_0 a0_1 a0_2 (rd ((rd_T44 l0_0 x6_1).f2) x7_2) t298 _ ?side1 ?side2 A25.out).mono ?_
                 (case side1 => repeat (first | exact (Kd.C_below HR0_0.out HB.out) | (with_reducible refine Kd.C_alloc ?_ _) | (with_reducible refine Kd.C_drewN ?_ _) | (with_reducible refine Kd.C_drew ?_)))
                 (case side2 => exact HC0_0.out)
                 rintro e w37 ⟨rfl, hb⟩
                 refine ⟨_, rfl, ?_⟩
                 have n0_ := Aside0.mk (Kd.R_below (by (with_reducible repeat (first | apply Kd.R_alloc | apply Kd.R_drewN | apply Kd.R_drew)); exact HO_5.out) hb)
                 have n1_ := Aside0.mk (blk_below (g := gb284) (o := .cells #[.slice (some ad292) l0_0.length c0_0, .int .i64 a0_1, .int .i64 a0_2] 24 (0, 0)) (by (with_reducible repeat (first | refine blk_drewN ?_ _ | refine blk_drew ?_ | refine blk_alloc ?_ _)); exact BK284.out) hb)
                 have n2_ := Aside0.mk (below_step (by repeat (first | (with_reducible first | exact HB.out | apply below_alloc | apply pw_below_drewN | apply below_drew1 | refine below_set ?_ GE284.out) | exact HB.out)) hb)
                 clear HO_5
                 clear BK284
                 clear HB
                 have HO_5 := n0_
                 have BK284 := n1_
                 have HB := n2_
                 clear n0_ n1_ n2_
                 (try clear hb)
                 (try clear hb2)
                 (try clear hk)
                 (try clear hi)
                 refine hK.out _ _ ⟨(blk_cell BK284.out 0).trans rfl, (blk_cell BK284.out 1).trans rfl, (blk_cell BK284.out 2).trans rfl, ((HB.out.cell (World.block_lt_of_cell? w _ hw296_0)).trans hw296_0), ((HB.out.cell (World.block_lt_of_cell? w _ hw296_1)).trans hw296_1), ((HB.out.cell (World.block_lt_of_cell? w _ hw296_2)).trans hw296_2), ((HB.out.cell (World.block_lt_of_cell? w _ hw296_3)).trans hw296_3), ((HB.out.cell (World.block_lt_of_cell? w _ hw296_4)).trans hw296_4), ((HB.out.cell (World.block_lt_of_cell? w _ hw296_5)).trans hw296_5), ((HB.out.cell (World.block_lt_of_cell? w _ hw297_0)).trans hw297_0)⟩ (fun hHeld => ?_)
                 clear hK K
                 refine norm_ (a' := ?_) ?_ ?_
                 rotate_left
                 ·show Act.put _ (some 55) _ = _
                  simp only [Act.put, List.setIfInBounds_toArray, List.set_cons_zero, List.set_cons_succ, i64_w, i32_w]
                  rfl
                 refine pure1 (i := 11) (N := some 8) #[true, true, true, true, true, true, true, true, true, true, true, true] HT_.out ?_
                 refine done_ (done_of HT_.out (by kernel_rfl)) ?_
                 try go_wp2
                 (try simp only [← hl5_2])
                 go_roundg k2
                 case measure => have := HK1.out; have := HK2.out; omega
                 case rel => exact ⟨(x5_2), (wrap64 (x7_2 + 1)), (by first | rfl | (simp; done) | (simp [*]; done)), H', ⟨by have := HK1.out; have := HK2.out; omega⟩, ⟨by (try simp only [hl5_2]); (with_reducible repeat (first | apply Kd.R_alloc | apply Kd.R_drewN | apply Kd.R_drew)); exact HO_5.out⟩, ⟨by (try simp only [hl5_2]); (with_reducible repeat (first | refine blk_drewN ?_ _ | refine blk_drew ?_ | refine blk_alloc ?_ _)); exact BK284.out⟩, ⟨by repeat (first | (with_reducible first | exact HB.out | apply below_alloc | apply pw_below_drewN | apply below_drew1 | refine below_set ?_ GE284.out) | exact HB.out)⟩⟩
               ·rw [if_neg c24] at H
                exact absurd H (by simp)
              ·rw [if_neg c23] at H
               have c23b0 : decide (x7_2 < (((rd_T44 l0_0 x6_1).f2).length : Int)) = false := decide_eq_false c23
               clear c23
               have H' := Aside0.mk H
               clear H
               have hcz38_0 : wr.cell? ⟨gb284, 0, none⟩ = some (.slice (some ad292) l0_0.length c0_0) := (blk_cell BK284.out 0).trans rfl
               have hcz38_1 : wr.cell? ⟨gb284, 1, none⟩ = some (.int .i64 a0_1) := (blk_cell BK284.out 1).trans rfl
               have hcz38_2 : wr.cell? ⟨gb284, 2, none⟩ = some (.int .i64 a0_2) := (blk_cell BK284.out 2).trans rfl
               have hfz38_0 := blk_frozen BK284.out 0
               have hfz38_1 := blk_frozen BK284.out 1
               have hfz38_2 := blk_frozen BK284.out 2
               have p295 : 0 ≤ (x6_1 : Int) := of_decide_eq_true (by first | (with_reducible assumption) | assumption)
               have q295 : x6_1 < (l0_0.length : Int) := of_decide_eq_true (by first | (with_reducible assumption) | assumption)
               obtain ⟨ad295, A295_2, c295_2, e295, hx295_0, hx295_1, hx295_2, hx295_3, hx295_4, hx295_5, hl295_2, hi295_2⟩ := at_T44 HR0_0.out x6_1 p295 q295
               obtain rfl : ad292 = ad295 := (by injection e295)
               replace hx295_0 := (HB.out.cell (World.block_lt_of_cell? w _ hx295_0)).trans hx295_0
               replace hx295_1 := (HB.out.cell (World.block_lt_of_cell? w _ hx295_1)).trans hx295_1
               replace hx295_2 := (HB.out.cell (World.block_lt_of_cell? w _ hx295_2)).trans hx295_2
               replace hx295_3 := (HB.out.cell (World.block_lt_of_cell? w _ hx295_3)).trans hx295_3
               replace hx295_4 := (HB.out.cell (World.block_lt_of_cell? w _ hx295_4)).trans hx295_4
               replace hx295_5 := (HB.out.cell (World.block_lt_of_cell? w _ hx295_5)).trans hx295_5
               have HR295_2 := Aside0.mk hi295_2
               have HC295_2 := Aside0.mk hl295_2
               clear hi295_2 hl295_2
               replace p295 := eq_true p295
               replace q295 := eq_true q295
               go_wp2
               (try simp only [← hl5_2])
               go_roundg k2
               case measure => have := HK1.out; have := HK2.out; omega
               case rel => exact ⟨(x5_2), (wrap64 (x6_1 + 1)), (by first | rfl | (simp; done) | (simp [*]; done)), H', ⟨by have := HK1.out; have := HK2.out; omega⟩, ⟨by (try simp only [hl5_2]); (with_reducible repeat (first | apply Kd.R_alloc | apply Kd.R_drewN | apply Kd.R_drew)); exact HO_5.out⟩, ⟨by (try simp only [hl5_2]); (with_reducible repeat (first | refine blk_drewN ?_ _ | refine blk_drew ?_ | refine blk_alloc ?_ _)); exact BK284.out⟩, ⟨by repeat (first | (with_reducible first | exact HB.out | apply below_alloc | apply pw_below_drewN | apply below_drew1 | refine below_set ?_ GE284.out) | exact HB.out)⟩⟩
             ·rw [if_neg c22] at H
              exact absurd H (by simp)
            ·rw [if_neg c21] at H
             exact absurd H (by simp)
         ·rw [if_neg c15] at H
          exact absurd H (by simp)
        ·rw [if_neg c14] at H
         exact absurd H (by simp)
       ·replace c12 := Bool.eq_false_iff.mpr c12
        subst c12
        have H1 : (anamnesisref04_near.l0 k1 l1 x5_1 (wrap64 (x6_1 + 1)) l0_0 a0_1 a0_2) = some r := by rw [if_neg (show ¬ (false = true) by decide)] at H; exact H
        clear H
        have H := H1
        clear H1
        have H' := Aside0.mk H
        clear H
        have hcz39_0 : wr.cell? ⟨gb284, 0, none⟩ = some (.slice A0_0 l0_0.length c0_0) := (blk_cell BK284.out 0).trans rfl
        have hcz39_1 : wr.cell? ⟨gb284, 1, none⟩ = some (.int .i64 a0_1) := (blk_cell BK284.out 1).trans rfl
        have hcz39_2 : wr.cell? ⟨gb284, 2, none⟩ = some (.int .i64 a0_2) := (blk_cell BK284.out 2).trans rfl
        have hfz39_0 := blk_frozen BK284.out 0
        have hfz39_1 := blk_frozen BK284.out 1
        have hfz39_2 := blk_frozen BK284.out 2
        have p291 : 0 ≤ (x6_1 : Int) := of_decide_eq_true (by first | (with_reducible assumption) | assumption)
        have q291 : x6_1 < (l1.length : Int) := of_decide_eq_true (by first | (with_reducible assumption) | assumption)
        obtain ⟨ad291, e291, hx291_0⟩ := Kd.at_bool HR1.out x6_1 p291 q291
        (try rw [← Nbq11.out] at hx291_0)
        cases e291
        replace hx291_0 := (HB.out.cell (World.block_lt_of_cell? w _ hx291_0)).trans hx291_0
        replace p291 := eq_true p291
        replace q291 := eq_true q291
        go_wp2
        go_roundg k1
        case measure => have := HK1.out; omega
        case rel => exact ⟨(x5_1), (wrap64 (x6_1 + 1)), (by first | rfl | (simp; done) | (simp [*]; done)), H', ⟨by have := HK1.out; omega⟩, ⟨by (with_reducible repeat (first | apply Kd.R_alloc | apply Kd.R_drewN | apply Kd.R_drew)); exact HO_5.out⟩, ⟨by (with_reducible repeat (first | refine blk_drewN ?_ _ | refine blk_drew ?_ | refine blk_alloc ?_ _)); exact BK284.out⟩, ⟨by repeat (first | (with_reducible first | exact HB.out | apply below_alloc | apply pw_below_drewN | apply below_drew1 | refine below_set ?_ GE284.out) | exact HB.out)⟩⟩
      ·rw [if_neg c10] at H
       exact absurd H (by simp)
     ·rw [if_neg c9] at H
      exact absurd H (by simp)
    ·rw [if_neg c8] at H
     have c8b0 : decide (x6_1 < (l0_0.length : Int)) = false := decide_eq_false c8
     clear c8
     obtain rfl := Option.some.inj H
     have hcz40_0 : wr.cell? ⟨gb284, 0, none⟩ = some (.slice A0_0 l0_0.length c0_0) := (blk_cell BK284.out 0).trans rfl
     have hcz40_1 : wr.cell? ⟨gb284, 1, none⟩ = some (.int .i64 a0_1) := (blk_cell BK284.out 1).trans rfl
     have hcz40_2 : wr.cell? ⟨gb284, 2, none⟩ = some (.int .i64 a0_2) := (blk_cell BK284.out 2).trans rfl
     have hfz40_0 := blk_frozen BK284.out 0
     have hfz40_1 := blk_frozen BK284.out 1
     have hfz40_2 := blk_frozen BK284.out 2
     go_wp2
     go_ret
     exact ⟨_, by first | rfl | (simp [errW_none, errW_some] <;> rfl) | (simp [*, errW_none, errW_some] <;> rfl), by (with_reducible repeat (first | apply Kd.R_alloc | apply Kd.R_drewN | apply Kd.R_drew)); exact HO_5.out, by repeat (first | (with_reducible first | exact HB.out | apply below_alloc | apply pw_below_drewN | apply below_drew1 | refine below_set ?_ GE284.out) | exact HB.out)⟩
 ·rw [if_neg c3] at H
  exact absurd H (by simp)
end Go.Proofs.Ytlmejfcfdhinlaa.PMove
