import Derived.Test.YtlmejfcfdhinlaaPMovex0
import Derived.Test.YtlmejfcfdhinlaaPMovex1
import Derived.Test.YtlmejfcfdhinlaaPMovex4
import Derived.Test.YtlmejfcfdhinlaaPMovex8
import Derived.Test.YtlmejfcfdhinlaaPMovex10
import Derived.Test.YtlmejfcfdhinlaaPMovex12
import Derived.Test.YtlmejfcfdhinlaaPMovex13
namespace Go.Proofs.Ytlmejfcfdhinlaa.PMove
open Go.RowKit Go.Proofs.YtlmejfcfdhinlaaW.PrintWords Go.Proofs.YtlmejfcfdhinlaaW.PrintLast Go.Proofs.YtlmejfcfdhinlaaW.PrintMore
attribute [local go_sem] max2_int min2_int max_two min_two max_three min_three max_four min_four
set_option linter.unusedVariables false
set_option linter.unusedSimpArgs false
attribute [local go_sem] setCell_drewN
mutual
def anamnesislaw05_MoveValues.j0 : Nat → List Int → Bool → List (S44) → Int → Int → Int → Int → Option (Bool)
 | 0, _, _, _, _, _, _, _ => none
 | k + 1, x1, x53, x519000, x519001, x519002, x520000, x520001 => if x53 = true then ((anamnesislaw05_fixed.f k).bind fun t525 => (some t525)) else ((move_Table.f k x519000 x519001 x519002 x1).bind fun bt526 => ((anamnesisref04_Live.f k x519000 x519001 x519002 x1).bind fun bt530 => (if bt526.2 = bt530.2 then (anamnesislaw05_MoveValues.j1 k bt526.1 bt526.2 bt530.1 bt530.2 (bt526.2 != 0) x519000 x519001 x519002 x520000 x520001) else (anamnesislaw05_MoveValues.j1 k bt526.1 bt526.2 bt530.1 bt530.2 true x519000 x519001 x519002 x520000 x520001))))
def anamnesislaw05_MoveValues.j1 : Nat → List Int → Int → List Int → Int → Bool → List (S44) → Int → Int → Int → Int → Option (Bool)
 | 0, _, _, _, _, _, _, _, _, _, _ => none
 | k + 1, x7, x8, x9, x10, x73, x519000, x519001, x519002, x520000, x520001 => if x73 = true then (some (x8 == x10)) else ((move_Value.f x7 x520000).bind fun bt534 => ((move_Value.f x7 x520001).bind fun bt536 => ((anamnesisref03_Ref.f x519000 x519001 x519002 x520000).bind fun t538 => ((anamnesisref03_Ref.f x519000 x519001 x519002 x520001).bind fun t539 => (if t538 < 0 then (if (bt534.2 == true) = true then (if t539 < 0 then (if (bt536.2 == true) = true then (if bt534.2 = true then (if bt536.2 = true then (some ((bt534.1 == bt536.1) == (x520000 == x520001))) else (some true)) else (some true)) else (none)) else ((anamnesisref04_In.f k x9 t539).bind fun t540 => (if (bt536.2 == t540) = true then (if bt534.2 = true then (if bt536.2 = true then (some ((bt534.1 == bt536.1) == (x520000 == x520001))) else (some true)) else (some true)) else (none)))) else (none)) else ((anamnesisref04_In.f k x9 t538).bind fun t541 => (if (bt534.2 == t541) = true then (if t539 < 0 then (if (bt536.2 == true) = true then (if bt534.2 = true then (if bt536.2 = true then (some ((bt534.1 == bt536.1) == (x520000 == x520001))) else (some true)) else (some true)) else (none)) else ((anamnesisref04_In.f k x9 t539).bind fun t542 => (if (bt536.2 == t542) = true then (if bt534.2 = true then (if bt536.2 = true then (some ((bt534.1 == bt536.1) == (x520000 == x520001))) else (some true)) else (some true)) else (none)))) else (none))))))))
end
def anamnesislaw05_MoveValues.f (k : Nat) (l0_0 : List (S44)) (a0_1 : Int) (a0_2 : Int) (l1 : List Int) (a2_0 : Int) (a2_1 : Int) : Option (Bool) := (anamnesislaw05_fixed.f k).bind fun t520 => (if t520 = true then ((anamnesisref03_Small.f k l0_0 a0_1 a0_2).bind fun t521 => (if t521 = true then ((anamnesisref03_May.f k l0_0 a0_1 a0_2).bind fun t522 => (if t522 = true then (if (l0_0.length : Int) > 40 then (anamnesislaw05_MoveValues.j0 k l1 true l0_0 a0_1 a0_2 a2_0 a2_1) else (if (l1.length : Int) > 100 then (anamnesislaw05_MoveValues.j0 k l1 true l0_0 a0_1 a0_2 a2_0 a2_1) else ((anamnesisref03_Has.f l0_0 a0_1 a0_2 a2_0).bind fun t523 => (if t523 = true then ((anamnesisref03_Has.f l0_0 a0_1 a0_2 a2_1).bind fun t524 => (anamnesislaw05_MoveValues.j0 k l1 (!t524) l0_0 a0_1 a0_2 a2_0 a2_1)) else (anamnesislaw05_MoveValues.j0 k l1 true l0_0 a0_1 a0_2 a2_0 a2_1))))) else (anamnesislaw05_MoveValues.j0 k l1 true l0_0 a0_1 a0_2 a2_0 a2_1))) else (anamnesislaw05_MoveValues.j0 k l1 true l0_0 a0_1 a0_2 a2_0 a2_1))) else (anamnesislaw05_MoveValues.j0 k l1 true l0_0 a0_1 a0_2 a2_0 a2_1))
theorem anamnesislaw05_MoveValues.mono_l : ∀ k, (∀ y0 y1 y2 y3 y4 y5 y6, LeO (anamnesislaw05_MoveValues.j0 k y0 y1 y2 y3 y4 y5 y6) (anamnesislaw05_MoveValues.j0 (k + 1) y0 y1 y2 y3 y4 y5 y6)) ∧ (∀ y0 y1 y2 y3 y4 y5 y6 y7 y8 y9, LeO (anamnesislaw05_MoveValues.j1 k y0 y1 y2 y3 y4 y5 y6 y7 y8 y9) (anamnesislaw05_MoveValues.j1 (k + 1) y0 y1 y2 y3 y4 y5 y6 y7 y8 y9))
 | 0 => ⟨fun _ _ _ _ _ _ _ r h => by simp [anamnesislaw05_MoveValues.j0] at h, fun _ _ _ _ _ _ _ _ _ _ r h => by simp [anamnesislaw05_MoveValues.j1] at h⟩
 | k + 1 => by
  obtain ⟨ih0, ih1⟩ := anamnesislaw05_MoveValues.mono_l k
  refine ⟨?_, ?_⟩
  ·intro y0 y1 y2 y3 y4 y5 y6
   unfold anamnesislaw05_MoveValues.j0
   repeat' first
   | (with_reducible exact ih0 _ _ _ _ _ _ _)
   | (with_reducible exact ih1 _ _ _ _ _ _ _ _ _ _)
   | (with_reducible exact anamnesislaw05_fixed.mono _)
   | (with_reducible exact anamnesisref03_May.mono _ _ _ _)
   | (with_reducible exact anamnesisref03_Small.mono _ _ _ _)
   | (with_reducible exact anamnesisref04_In.mono _ _ _)
   | (with_reducible exact anamnesisref04_Live.mono _ _ _ _ _)
   | (with_reducible exact move_Table.mono _ _ _ _ _)
   | (with_reducible exact LeO.refl _)
   | (with_reducible exact LeO.none _)
   | (with_reducible refine LeO.ite ?_ ?_)
   | (with_reducible refine LeO.bind ?_ (fun _ => ?_))
   | exact ih0 _ _ _ _ _ _ _
   | exact ih1 _ _ _ _ _ _ _ _ _ _
   | exact anamnesislaw05_fixed.mono _
   | exact anamnesisref03_May.mono _ _ _ _
   | exact anamnesisref03_Small.mono _ _ _ _
   | exact anamnesisref04_In.mono _ _ _
   | exact anamnesisref04_Live.mono _ _ _ _ _
   | exact move_Table.mono _ _ _ _ _
   | exact LeO.none _
   | refine LeO.ite ?_ ?_
   | refine LeO.bind ?_ (fun _ => ?_)
  ·intro y0 y1 y2 y3 y4 y5 y6 y7 y8 y9
   unfold anamnesislaw05_MoveValues.j1
   repeat' first
   | (with_reducible exact ih0 _ _ _ _ _ _ _)
   | (with_reducible exact ih1 _ _ _ _ _ _ _ _ _ _)
   | (with_reducible exact anamnesislaw05_fixed.mono _)
   | (with_reducible exact anamnesisref03_May.mono _ _ _ _)
   | (with_reducible exact anamnesisref03_Small.mono _ _ _ _)
   | (with_reducible exact anamnesisref04_In.mono _ _ _)
   | (with_reducible exact anamnesisref04_Live.mono _ _ _ _ _)
   | (with_reducible exact move_Table.mono _ _ _ _ _)
   | (with_reducible exact LeO.refl _)
   | (with_reducible exact LeO.none _)
   | (with_reducible refine LeO.ite ?_ ?_)
   | (with_reducible refine LeO.bind ?_ (fun _ => ?_))
   | exact ih0 _ _ _ _ _ _ _
   | exact ih1 _ _ _ _ _ _ _ _ _ _
   | exact anamnesislaw05_fixed.mono _
   | exact anamnesisref03_May.mono _ _ _ _
   | exact anamnesisref03_Small.mono _ _ _ _
   | exact anamnesisref04_In.mono _ _ _
   | exact anamnesisref04_Live.mono _ _ _ _ _
   | exact move_Table.mono _ _ _ _ _
   | exact LeO.none _
   | refine LeO.ite ?_ ?_
   | refine LeO.bind ?_ (fun _ => ?_)
theorem anamnesislaw05_MoveValues.mono : ∀ a0 a1 a2 a3 a4 a5 k, LeO (anamnesislaw05_MoveValues.f k a0 a1 a2 a3 a4 a5) (anamnesislaw05_MoveValues.f (k + 1) a0 a1 a2 a3 a4 a5) := by
 intro a0 a1 a2 a3 a4 a5 k
 obtain ⟨ih0, ih1⟩ := anamnesislaw05_MoveValues.mono_l k
 unfold anamnesislaw05_MoveValues.f
 repeat' first
   | (with_reducible exact ih0 _ _ _ _ _ _ _)
   | (with_reducible exact ih1 _ _ _ _ _ _ _ _ _ _)
   | (with_reducible exact anamnesislaw05_fixed.mono _)
   | (with_reducible exact anamnesisref03_May.mono _ _ _ _)
   | (with_reducible exact anamnesisref03_Small.mono _ _ _ _)
   | (with_reducible exact anamnesisref04_In.mono _ _ _)
   | (with_reducible exact anamnesisref04_Live.mono _ _ _ _ _)
   | (with_reducible exact move_Table.mono _ _ _ _ _)
   | (with_reducible exact LeO.refl _)
   | (with_reducible exact LeO.none _)
   | (with_reducible refine LeO.ite ?_ ?_)
   | (with_reducible refine LeO.bind ?_ (fun _ => ?_))
   | exact ih0 _ _ _ _ _ _ _
   | exact ih1 _ _ _ _ _ _ _ _ _ _
   | exact anamnesislaw05_fixed.mono _
   | exact anamnesisref03_May.mono _ _ _ _
   | exact anamnesisref03_Small.mono _ _ _ _
   | exact anamnesisref04_In.mono _ _ _
   | exact anamnesisref04_Live.mono _ _ _ _ _
   | exact move_Table.mono _ _ _ _ _
   | exact LeO.none _
   | refine LeO.ite ?_ ?_
   | refine LeO.bind ?_ (fun _ => ?_)
def anamnesislaw05_MoveValues.T9 : Bool × List (List Nat × List Nat) := (true, [([], []), ([], []), ([1], [1]), ([0, 2], [0, 2]), ([], []), ([], []), ([5], [5]), ([4, 6, 3], [4, 6]), ([3, 7, 0, 1, 2, 3], [3]), ([7, 8, 0, 1, 2, 3, 4, 5, 6, 7, 8], [7])])
def anamnesislaw05_MoveValues.B9 : List Nat := [0, 0, 2, 7, 0, 0, 32, 127, 255, 511]
theorem anamnesislaw05_MoveValues.tab9 : rtab .any (opsOf Try.f7 9) = anamnesislaw05_MoveValues.T9 := by kernel_rfl
theorem anamnesislaw05_MoveValues.bits9 : waitsOk anamnesislaw05_MoveValues.T9.2 anamnesislaw05_MoveValues.B9 = true := by kernel_rfl
set_option maxHeartbeats 8000000 in
set_option maxRecDepth 100000 in
theorem anamnesislaw05_MoveValues.calls (k : Nat) (A0_0 : Option Addr) (c0_0 : Nat) (l0_0 : List (S44)) (a0_1 : Int) (a0_2 : Int) (A1 : Option Addr) (c1 : Nat) (l1 : List Int) (a2_0 : Int) (a2_1 : Int) (r : Bool) (w : World) (hr0_0 : Kd.C k44 w A0_0 l0_0.length l0_0) (hc0_0 : l0_0.length ≤ c0_0) (hr1 : Kd.C (Kd.int .i64) w A1 l1.length l1) (hc1 : l1.length ≤ c1) (h : anamnesislaw05_MoveValues.f k l0_0 a0_1 a0_2 l1 a2_0 a2_1 = some r) :
  Calls Try.prog 7 #[.agg #[.slice A0_0 l0_0.length c0_0, .int .i64 a0_1, .int .i64 a0_2], .slice A1 l1.length c1, .agg #[.int .i64 a2_0, .int .i64 a2_1]] w fun e w' => e = .returned (.bool r) ∧ Below w.heap.size w w' := by
 have hu24 := Try.underlying24
 have hu47 := Try.underlying47
 have HR0_0 := Aside0.mk hr0_0
 have HC0_0 := Aside0.mk hc0_0
 clear hr0_0 hc0_0
 have HR1 := Aside0.mk hr1
 have HC1 := Aside0.mk hc1
 clear hr1 hc1
 have HB := Aside0.mk (Below.refl w.heap.size w)
 have H : ((anamnesislaw05_fixed.f k).bind fun t520 => (if t520 = true then ((anamnesisref03_Small.f k l0_0 a0_1 a0_2).bind fun t521 => (if t521 = true then ((anamnesisref03_May.f k l0_0 a0_1 a0_2).bind fun t522 => (if t522 = true then (if (l0_0.length : Int) > 40 then (anamnesislaw05_MoveValues.j0 k l1 true l0_0 a0_1 a0_2 a2_0 a2_1) else (if (l1.length : Int) > 100 then (anamnesislaw05_MoveValues.j0 k l1 true l0_0 a0_1 a0_2 a2_0 a2_1) else ((anamnesisref03_Has.f l0_0 a0_1 a0_2 a2_0).bind fun t523 => (if t523 = true then ((anamnesisref03_Has.f l0_0 a0_1 a0_2 a2_1).bind fun t524 => (anamnesislaw05_MoveValues.j0 k l1 (!t524) l0_0 a0_1 a0_2 a2_0 a2_1)) else (anamnesislaw05_MoveValues.j0 k l1 true l0_0 a0_1 a0_2 a2_0 a2_1))))) else (anamnesislaw05_MoveValues.j0 k l1 true l0_0 a0_1 a0_2 a2_0 a2_1))) else (anamnesislaw05_MoveValues.j0 k l1 true l0_0 a0_1 a0_2 a2_0 a2_1))) else (anamnesislaw05_MoveValues.j0 k l1 true l0_0 a0_1 a0_2 a2_0 a2_1))) = some r := h
 clear h
 have HC4 := Aside0.mk H
 clear H
 go_enter Try.func7, Try.ntmps7
 go_upto_region 1 with (first | ((with_reducible refine gate_dst (N := 3) rfl ?_); (try (refine gate_guard (by rfl) ?_; dsimp only)); refine box_event ?hg (N := 3) ?hd (cs := #[.slice A0_0 l0_0.length c0_0, .int .i64 a0_1, .int .i64 a0_2]) (t := 24) ?hr ?_; (case hd => rfl); (case hg => rfl); (case hr => first | (go_simp; done) | (go_simp; rfl)); intro gb518 hg w5 hbox hb; have n0_ := Aside0.mk (below_step (by repeat (first | (with_reducible first | exact HB.out | apply below_alloc | apply pw_below_drewN | apply below_drew1) | exact HB.out)) hb); have n1_ := Aside0.mk (hbox); have n2_ := Aside0.mk ((by rw [hg]; exact (below_size (by repeat (first | (with_reducible first | exact HB.out | apply below_alloc | apply pw_below_drewN | apply below_drew1) | exact HB.out))) : w.heap.size ≤ gb518)); have n3_ := Aside0.mk ((by rw [hg]; exact (below_size (by repeat (first | (with_reducible first | exact HB.out | apply below_alloc | apply pw_below_drewN | apply below_drew1) | exact HB.out))) : w.heap.size ≤ gb518)); clear HB; have HB := n0_; have BK518 := n1_; have GW518 := n2_; have GE518 := n3_; clear n0_ n1_ n2_ n3_; clear hb hbox hg) | ((with_reducible refine gate_dst (N := 5) rfl ?_); (try (refine gate_guard (by rfl) ?_; dsimp only)); refine box_event ?hg (N := 5) ?hd (cs := #[.int .i64 a2_0, .int .i64 a2_1]) (t := 47) ?hr ?_; (case hd => rfl); (case hg => rfl); (case hr => first | (go_simp; done) | (go_simp; rfl)); intro gb519 hg w6 hbox hb; have n0_ := Aside0.mk (blk_below (g := gb518) (o := .cells #[.slice A0_0 l0_0.length c0_0, .int .i64 a0_1, .int .i64 a0_2] 24 (0, 0)) (by (with_reducible repeat (first | refine blk_drewN ?_ _ | refine blk_drew ?_ | refine blk_alloc ?_ _)); exact BK518.out) hb); have n1_ := Aside0.mk (below_step (by repeat (first | (with_reducible first | exact HB.out | apply below_alloc | apply pw_below_drewN | apply below_drew1 | refine below_set ?_ GE518.out) | exact HB.out)) hb); have n2_ := Aside0.mk (hbox); have n3_ := Aside0.mk ((by rw [hg]; exact (below_size (by repeat (first | (with_reducible first | exact HB.out | apply below_alloc | apply pw_below_drewN | apply below_drew1 | refine below_set ?_ GE518.out) | exact HB.out))) : w.heap.size ≤ gb519)); have n4_ := Aside0.mk ((by rw [hg]; exact (below_size (by repeat (first | (with_reducible first | exact HB.out | apply below_alloc | apply pw_below_drewN | apply below_drew1 | refine below_set ?_ GE518.out) | exact HB.out))) : w.heap.size ≤ gb519)); have n5_ := Aside0.mk ((by rw [hg]; exact Nat.ne_of_lt (blk_lt (g := gb518) (o := .cells #[.slice A0_0 l0_0.length c0_0, .int .i64 a0_1, .int .i64 a0_2] 24 (0, 0)) (by (with_reducible repeat (first | refine blk_drewN ?_ _ | refine blk_drew ?_ | refine blk_alloc ?_ _)); exact BK518.out)) : gb518 ≠ gb519)); have n6_ := Aside0.mk ((by rw [hg]; exact Nat.ne_of_gt (blk_lt (g := gb518) (o := .cells #[.slice A0_0 l0_0.length c0_0, .int .i64 a0_1, .int .i64 a0_2] 24 (0, 0)) (by (with_reducible repeat (first | refine blk_drewN ?_ _ | refine blk_drew ?_ | refine blk_alloc ?_ _)); exact BK518.out)) : gb519 ≠ gb518)); clear BK518; clear HB; have BK518 := n0_; have HB := n1_; have BK519 := n2_; have GW519 := n3_; have GE519 := n4_; have NB518_519 := n5_; have NB519_518 := n6_; clear n0_ n1_ n2_ n3_ n4_ n5_ n6_; clear hb hbox hg))
 (try simp only [Act.put, List.setIfInBounds_toArray, List.set_cons_zero, List.set_cons_succ])
 go_cut [53] (fun v53 wc => ∃ (kq : Nat) (x53_3 : Bool), v53 = .bool x53_3 ∧ Aside0 (anamnesislaw05_MoveValues.j0 kq l1 x53_3 l0_0 a0_1 a0_2 a2_0 a2_1 = some r) ∧ Aside0 (kq ≤ k) ∧ Aside0 (wc.heap[gb518]? = some (.cells #[(.slice A0_0 l0_0.length c0_0), .int .i64 a0_1, .int .i64 a0_2] 24 (0, 0))) ∧ Aside0 (wc.heap[gb519]? = some (.cells #[.int .i64 a2_0, .int .i64 a2_1] 47 (0, 0))) ∧ Aside0 (Below w.heap.size w wc))
 case first =>
  have H := HC4.out
  clear HC4
  replace H := Option.bind_eq_some_iff.mp H
  obtain ⟨t520, A70, H⟩ := H
  replace H : (if t520 = true then ((anamnesisref03_Small.f k l0_0 a0_1 a0_2).bind fun t521 => (if t521 = true then ((anamnesisref03_May.f k l0_0 a0_1 a0_2).bind fun t522 => (if t522 = true then (if (l0_0.length : Int) > 40 then (anamnesislaw05_MoveValues.j0 k l1 true l0_0 a0_1 a0_2 a2_0 a2_1) else (if (l1.length : Int) > 100 then (anamnesislaw05_MoveValues.j0 k l1 true l0_0 a0_1 a0_2 a2_0 a2_1) else ((anamnesisref03_Has.f l0_0 a0_1 a0_2 a2_0).bind fun t523 => (if t523 = true then ((anamnesisref03_Has.f l0_0 a0_1 a0_2 a2_1).bind fun t524 => (anamnesislaw05_MoveValues.j0 k l1 (!t524) l0_0 a0_1 a0_2 a2_0 a2_1)) else (anamnesislaw05_MoveValues.j0 k l1 true l0_0 a0_1 a0_2 a2_0 a2_1))))) else (anamnesislaw05_MoveValues.j0 k l1 true l0_0 a0_1 a0_2 a2_0 a2_1))) else (anamnesislaw05_MoveValues.j0 k l1 true l0_0 a0_1 a0_2 a2_0 a2_1))) else (anamnesislaw05_MoveValues.j0 k l1 true l0_0 a0_1 a0_2 a2_0 a2_1)) = some r := H
  have A7 := Aside0.mk A70
  clear A70
  by_cases c8 : t520 = true
  ·subst c8
   have H1 : ((anamnesisref03_Small.f k l0_0 a0_1 a0_2).bind fun t521 => (if t521 = true then ((anamnesisref03_May.f k l0_0 a0_1 a0_2).bind fun t522 => (if t522 = true then (if (l0_0.length : Int) > 40 then (anamnesislaw05_MoveValues.j0 k l1 true l0_0 a0_1 a0_2 a2_0 a2_1) else (if (l1.length : Int) > 100 then (anamnesislaw05_MoveValues.j0 k l1 true l0_0 a0_1 a0_2 a2_0 a2_1) else ((anamnesisref03_Has.f l0_0 a0_1 a0_2 a2_0).bind fun t523 => (if t523 = true then ((anamnesisref03_Has.f l0_0 a0_1 a0_2 a2_1).bind fun t524 => (anamnesislaw05_MoveValues.j0 k l1 (!t524) l0_0 a0_1 a0_2 a2_0 a2_1)) else (anamnesislaw05_MoveValues.j0 k l1 true l0_0 a0_1 a0_2 a2_0 a2_1))))) else (anamnesislaw05_MoveValues.j0 k l1 true l0_0 a0_1 a0_2 a2_0 a2_1))) else (anamnesislaw05_MoveValues.j0 k l1 true l0_0 a0_1 a0_2 a2_0 a2_1))) = some r := by rw [if_pos rfl] at H; exact H
   clear H
   have H := H1
   clear H1
   replace H := Option.bind_eq_some_iff.mp H
   obtain ⟨t521, A90, H⟩ := H
   replace H : (if t521 = true then ((anamnesisref03_May.f k l0_0 a0_1 a0_2).bind fun t522 => (if t522 = true then (if (l0_0.length : Int) > 40 then (anamnesislaw05_MoveValues.j0 k l1 true l0_0 a0_1 a0_2 a2_0 a2_1) else (if (l1.length : Int) > 100 then (anamnesislaw05_MoveValues.j0 k l1 true l0_0 a0_1 a0_2 a2_0 a2_1) else ((anamnesisref03_Has.f l0_0 a0_1 a0_2 a2_0).bind fun t523 => (if t523 = true then ((anamnesisref03_Has.f l0_0 a0_1 a0_2 a2_1).bind fun t524 => (anamnesislaw05_MoveValues.j0 k l1 (!t524) l0_0 a0_1 a0_2 a2_0 a2_1)) else (anamnesislaw05_MoveValues.j0 k l1 true l0_0 a0_1 a0_2 a2_0 a2_1))))) else (anamnesislaw05_MoveValues.j0 k l1 true l0_0 a0_1 a0_2 a2_0 a2_1))) else (anamnesislaw05_MoveValues.j0 k l1 true l0_0 a0_1 a0_2 a2_0 a2_1)) = some r := H
   have A9 := Aside0.mk A90
   clear A90
   by_cases c10 : t521 = true
   ·subst c10
    have H1 : ((anamnesisref03_May.f k l0_0 a0_1 a0_2).bind fun t522 => (if t522 = true then (if (l0_0.length : Int) > 40 then (anamnesislaw05_MoveValues.j0 k l1 true l0_0 a0_1 a0_2 a2_0 a2_1) else (if (l1.length : Int) > 100 then (anamnesislaw05_MoveValues.j0 k l1 true l0_0 a0_1 a0_2 a2_0 a2_1) else ((anamnesisref03_Has.f l0_0 a0_1 a0_2 a2_0).bind fun t523 => (if t523 = true then ((anamnesisref03_Has.f l0_0 a0_1 a0_2 a2_1).bind fun t524 => (anamnesislaw05_MoveValues.j0 k l1 (!t524) l0_0 a0_1 a0_2 a2_0 a2_1)) else (anamnesislaw05_MoveValues.j0 k l1 true l0_0 a0_1 a0_2 a2_0 a2_1))))) else (anamnesislaw05_MoveValues.j0 k l1 true l0_0 a0_1 a0_2 a2_0 a2_1))) = some r := by rw [if_pos rfl] at H; exact H
    clear H
    have H := H1
    clear H1
    replace H := Option.bind_eq_some_iff.mp H
    obtain ⟨t522, A110, H⟩ := H
    replace H : (if t522 = true then (if (l0_0.length : Int) > 40 then (anamnesislaw05_MoveValues.j0 k l1 true l0_0 a0_1 a0_2 a2_0 a2_1) else (if (l1.length : Int) > 100 then (anamnesislaw05_MoveValues.j0 k l1 true l0_0 a0_1 a0_2 a2_0 a2_1) else ((anamnesisref03_Has.f l0_0 a0_1 a0_2 a2_0).bind fun t523 => (if t523 = true then ((anamnesisref03_Has.f l0_0 a0_1 a0_2 a2_1).bind fun t524 => (anamnesislaw05_MoveValues.j0 k l1 (!t524) l0_0 a0_1 a0_2 a2_0 a2_1)) else (anamnesislaw05_MoveValues.j0 k l1 true l0_0 a0_1 a0_2 a2_0 a2_1))))) else (anamnesislaw05_MoveValues.j0 k l1 true l0_0 a0_1 a0_2 a2_0 a2_1)) = some r := H
    have A11 := Aside0.mk A110
    clear A110
    by_cases c12 : t522 = true
    ·subst c12
     have H1 : (if (l0_0.length : Int) > 40 then (anamnesislaw05_MoveValues.j0 k l1 true l0_0 a0_1 a0_2 a2_0 a2_1) else (if (l1.length : Int) > 100 then (anamnesislaw05_MoveValues.j0 k l1 true l0_0 a0_1 a0_2 a2_0 a2_1) else ((anamnesisref03_Has.f l0_0 a0_1 a0_2 a2_0).bind fun t523 => (if t523 = true then ((anamnesisref03_Has.f l0_0 a0_1 a0_2 a2_1).bind fun t524 => (anamnesislaw05_MoveValues.j0 k l1 (!t524) l0_0 a0_1 a0_2 a2_0 a2_1)) else (anamnesislaw05_MoveValues.j0 k l1 true l0_0 a0_1 a0_2 a2_0 a2_1))))) = some r := by rw [if_pos rfl] at H; exact H
     clear H
     have H := H1
     clear H1
     by_cases c13 : (l0_0.length : Int) > 40
     ·rw [if_pos c13] at H
      have c13b0 : decide (40 < (l0_0.length : Int)) = true := decide_eq_true c13
      have c13b1 : decide (40 < l0_0.length) = true := decide_eq_true (by omega)
      clear c13
      (first | rw [c13b0] | (simp only [i64_w, i32_w]; rw [c13b0]) | skip)
      have H' := Aside0.mk H
      clear H
      go_wp2_with (first | ((with_reducible refine gate_callee (f := 9) rfl ?_); refine goesL_ (some 17) rfl rfl Try.func9 (by kernel_rfl) rfl #[] rfl (by (try simp only [List.map_toArray, List.map_cons, List.map_nil]); first | done | rfl | (simp only [List.length_drop, List.length_take]; rfl)) ?_; (with_reducible refine (anamnesislaw05_fixed.calls k  true _ A7.out).mono ?_); rintro e w14 ⟨rfl, hb⟩; refine ⟨_, rfl, ?_⟩; have n0_ := Aside0.mk (blk_below (g := gb518) (o := .cells #[.slice A0_0 l0_0.length c0_0, .int .i64 a0_1, .int .i64 a0_2] 24 (0, 0)) (by (with_reducible repeat (first | refine blk_drewN ?_ _ | refine blk_drew ?_ | refine blk_alloc ?_ _)); exact BK518.out) hb); have n1_ := Aside0.mk (blk_below (g := gb519) (o := .cells #[.int .i64 a2_0, .int .i64 a2_1] 47 (0, 0)) (by (with_reducible repeat (first | refine blk_drewN ?_ _ | refine blk_drew ?_ | refine blk_alloc ?_ _)); exact BK519.out) hb); have n2_ := Aside0.mk (below_step (by repeat (first | (with_reducible first | exact HB.out | apply below_alloc | apply pw_below_drewN | apply below_drew1 | refine below_set ?_ GE518.out | refine below_set ?_ GE519.out) | exact HB.out)) hb); clear BK518; clear BK519; clear HB; have BK518 := n0_; have BK519 := n1_; have HB := n2_; clear n0_ n1_ n2_; (try clear hb); (try clear hb2); (try clear hk); (try clear hi); have hnb15 := NB518_519.out; have hnc15 := NB519_518.out; have hcz16_0 : w14.cell? ⟨gb518, 0, none⟩ = some (.slice A0_0 l0_0.length c0_0) := (blk_cell BK518.out 0).trans rfl; have hcz16_1 : w14.cell? ⟨gb518, 1, none⟩ = some (.int .i64 a0_1) := (blk_cell BK518.out 1).trans rfl; have hcz16_2 : w14.cell? ⟨gb518, 2, none⟩ = some (.int .i64 a0_2) := (blk_cell BK518.out 2).trans rfl; have hfz16_0 := blk_frozen BK518.out 0; have hfz16_1 := blk_frozen BK518.out 1; have hfz16_2 := blk_frozen BK518.out 2) | (go_at_call 8; (with_reducible refine (anamnesisref03_Small.calls k _ _ l0_0 a0_1 a0_2 true _ ?side1 ?side2 A9.out).mono ?_); (case side1 => repeat (first | exact (Kd.C_below HR0_0.out HB.out) | (with_reducible refine Kd.C_alloc ?_ _) | (with_reducible refine Kd.C_drewN ?_ _) | (with_reducible refine Kd.C_drew ?_))); (case side2 => exact HC0_0.out); rintro e w17 ⟨rfl, hb⟩; have n0_ := Aside0.mk (blk_below (g := gb518) (o := .cells #[.slice A0_0 l0_0.length c0_0, .int .i64 a0_1, .int .i64 a0_2] 24 (0, 0)) (by (with_reducible repeat (first | refine blk_drewN ?_ _ | refine blk_drew ?_ | refine blk_alloc ?_ _)); exact BK518.out) hb); have n1_ := Aside0.mk (blk_below (g := gb519) (o := .cells #[.int .i64 a2_0, .int .i64 a2_1] 47 (0, 0)) (by (with_reducible repeat (first | refine blk_drewN ?_ _ | refine blk_drew ?_ | refine blk_alloc ?_ _)); exact BK519.out) hb); have n2_ := Aside0.mk (below_step (by repeat (first | (with_reducible first | exact HB.out | apply below_alloc | apply pw_below_drewN | apply below_drew1 | refine below_set ?_ GE518.out | refine below_set ?_ GE519.out) | exact HB.out)) hb); clear BK518; clear BK519; clear HB; have BK518 := n0_; have BK519 := n1_; have HB := n2_; clear n0_ n1_ n2_; (try clear hb); (try clear hb2); (try clear hk); (try clear hi); have hcz18_0 : w17.cell? ⟨gb518, 0, none⟩ = some (.slice A0_0 l0_0.length c0_0) := (blk_cell BK518.out 0).trans rfl; have hcz18_1 : w17.cell? ⟨gb518, 1, none⟩ = some (.int .i64 a0_1) := (blk_cell BK518.out 1).trans rfl; have hcz18_2 : w17.cell? ⟨gb518, 2, none⟩ = some (.int .i64 a0_2) := (blk_cell BK518.out 2).trans rfl; have hfz18_0 := blk_frozen BK518.out 0; have hfz18_1 := blk_frozen BK518.out 1; have hfz18_2 := blk_frozen BK518.out 2) | (go_at_call 18; (with_reducible refine (anamnesisref03_May.calls k _ _ l0_0 a0_1 a0_2 true _ ?side1 ?side2 A11.out).mono ?_); (case side1 => repeat (first | exact (Kd.C_below HR0_0.out HB.out) | (with_reducible refine Kd.C_alloc ?_ _) | (with_reducible refine Kd.C_drewN ?_ _) | (with_reducible refine Kd.C_drew ?_))); (case side2 => exact HC0_0.out); rintro e w19 ⟨rfl, hb⟩; have n0_ := Aside0.mk (blk_below (g := gb518) (o := .cells #[.slice A0_0 l0_0.length c0_0, .int .i64 a0_1, .int .i64 a0_2] 24 (0, 0)) (by (with_reducible repeat (first | refine blk_drewN ?_ _ | refine blk_drew ?_ | refine blk_alloc ?_ _)); exact BK518.out) hb); have n1_ := Aside0.mk (blk_below (g := gb519) (o := .cells #[.int .i64 a2_0, .int .i64 a2_1] 47 (0, 0)) (by (with_reducible repeat (first | refine blk_drewN ?_ _ | refine blk_drew ?_ | refine blk_alloc ?_ _)); exact BK519.out) hb); have n2_ := Aside0.mk (below_step (by repeat (first | (with_reducible first | exact HB.out | apply below_alloc | apply pw_below_drewN | apply below_drew1 | refine below_set ?_ GE518.out | refine below_set ?_ GE519.out) | exact HB.out)) hb); clear BK518; clear BK519; clear HB; have BK518 := n0_; have BK519 := n1_; have HB := n2_; clear n0_ n1_ n2_; (try clear hb); (try clear hb2); (try clear hk); (try clear hi); have hcz20_0 : w19.cell? ⟨gb518, 0, none⟩ = some (.slice A0_0 l0_0.length c0_0) := (blk_cell BK518.out 0).trans rfl; have hcz20_1 : w19.cell? ⟨gb518, 1, none⟩ = some (.int .i64 a0_1) := (blk_cell BK518.out 1).trans rfl; have hcz20_2 : w19.cell? ⟨gb518, 2, none⟩ = some (.int .i64 a0_2) := (blk_cell BK518.out 2).trans rfl; have hfz20_0 := blk_frozen BK518.out 0; have hfz20_1 := blk_frozen BK518.out 1; have hfz20_2 := blk_frozen BK518.out 2))
      go_meet
      case rel => exact ⟨_, (true), (by first | rfl | (simp; done) | (simp [*]; done)), H', ⟨by first | omega | exact Nat.le_refl _⟩, ⟨by (with_reducible repeat (first | refine blk_drewN ?_ _ | refine blk_drew ?_ | refine blk_alloc ?_ _)); exact BK518.out⟩, ⟨by (with_reducible repeat (first | refine blk_drewN ?_ _ | refine blk_drew ?_ | refine blk_alloc ?_ _)); exact BK519.out⟩, ⟨by repeat (first | (with_reducible first | exact HB.out | apply below_alloc | apply pw_below_drewN | apply below_drew1 | refine below_set ?_ GE518.out | refine below_set ?_ GE519.out) | exact HB.out)⟩⟩
     ·rw [if_neg c13] at H
      have c13b0 : decide (40 < (l0_0.length : Int)) = false := decide_eq_false c13
      have c13b1 : decide (40 < l0_0.length) = false := decide_eq_false (by omega)
      clear c13
      (first | rw [c13b0] | (simp only [i64_w, i32_w]; rw [c13b0]) | skip)
      by_cases c21 : (l1.length : Int) > 100
      ·rw [if_pos c21] at H
       have c21b0 : decide (100 < (l1.length : Int)) = true := decide_eq_true c21
       have c21b1 : decide (100 < l1.length) = true := decide_eq_true (by omega)
       clear c21
       have H' := Aside0.mk H
       clear H
       go_wp2_with (first | ((with_reducible refine gate_callee (f := 9) rfl ?_); refine goesL_ (some 17) rfl rfl Try.func9 (by kernel_rfl) rfl #[] rfl (by (try simp only [List.map_toArray, List.map_cons, List.map_nil]); first | done | rfl | (simp only [List.length_drop, List.length_take]; rfl)) ?_; (with_reducible refine (anamnesislaw05_fixed.calls k  true _ A7.out).mono ?_); rintro e w22 ⟨rfl, hb⟩; refine ⟨_, rfl, ?_⟩; have n0_ := Aside0.mk (blk_below (g := gb518) (o := .cells #[.slice A0_0 l0_0.length c0_0, .int .i64 a0_1, .int .i64 a0_2] 24 (0, 0)) (by (with_reducible repeat (first | refine blk_drewN ?_ _ | refine blk_drew ?_ | refine blk_alloc ?_ _)); exact BK518.out) hb); have n1_ := Aside0.mk (blk_below (g := gb519) (o := .cells #[.int .i64 a2_0, .int .i64 a2_1] 47 (0, 0)) (by (with_reducible repeat (first | refine blk_drewN ?_ _ | refine blk_drew ?_ | refine blk_alloc ?_ _)); exact BK519.out) hb); have n2_ := Aside0.mk (below_step (by repeat (first | (with_reducible first | exact HB.out | apply below_alloc | apply pw_below_drewN | apply below_drew1 | refine below_set ?_ GE518.out | refine below_set ?_ GE519.out) | exact HB.out)) hb); clear BK518; clear BK519; clear HB; have BK518 := n0_; have BK519 := n1_; have HB := n2_; clear n0_ n1_ n2_; (try clear hb); (try clear hb2); (try clear hk); (try clear hi); have hnb23 := NB518_519.out; have hnc23 := NB519_518.out; have hcz24_0 : w22.cell? ⟨gb518, 0, none⟩ = some (.slice A0_0 l0_0.length c0_0) := (blk_cell BK518.out 0).trans rfl; have hcz24_1 : w22.cell? ⟨gb518, 1, none⟩ = some (.int .i64 a0_1) := (blk_cell BK518.out 1).trans rfl; have hcz24_2 : w22.cell? ⟨gb518, 2, none⟩ = some (.int .i64 a0_2) := (blk_cell BK518.out 2).trans rfl; have hfz24_0 := blk_frozen BK518.out 0; have hfz24_1 := blk_frozen BK518.out 1; have hfz24_2 := blk_frozen BK518.out 2) | (go_at_call 8; (with_reducible refine (anamnesisref03_Small.calls k _ _ l0_0 a0_1 a0_2 true _ ?side1 ?side2 A9.out).mono ?_); (case side1 => repeat (first | exact (Kd.C_below HR0_0.out HB.out) | (with_reducible refine Kd.C_alloc ?_ _) | (with_reducible refine Kd.C_drewN ?_ _) | (with_reducible refine Kd.C_drew ?_))); (case side2 => exact HC0_0.out); rintro e w25 ⟨rfl, hb⟩; have n0_ := Aside0.mk (blk_below (g := gb518) (o := .cells #[.slice A0_0 l0_0.length c0_0, .int .i64 a0_1, .int .i64 a0_2] 24 (0, 0)) (by (with_reducible repeat (first | refine blk_drewN ?_ _ | refine blk_drew ?_ | refine blk_alloc ?_ _)); exact BK518.out) hb); have n1_ := Aside0.mk (blk_below (g := gb519) (o := .cells #[.int .i64 a2_0, .int .i64 a2_1] 47 (0, 0)) (by (with_reducible repeat (first | refine blk_drewN ?_ _ | refine blk_drew ?_ | refine blk_alloc ?_ _)); exact BK519.out) hb); have n2_ := Aside0.mk (below_step (by repeat (first | (with_reducible first | exact HB.out | apply below_alloc | apply pw_below_drewN | apply below_drew1 | refine below_set ?_ GE518.out | refine below_set ?_ GE519.out) | exact HB.out)) hb); clear BK518; clear BK519; clear HB; have BK518 := n0_; have BK519 := n1_; have HB := n2_; clear n0_ n1_ n2_; (try clear hb); (try clear hb2); (try clear hk); (try clear hi); have hcz26_0 : w25.cell? ⟨gb518, 0, none⟩ = some (.slice A0_0 l0_0.length c0_0) := (blk_cell BK518.out 0).trans rfl; have hcz26_1 : w25.cell? ⟨gb518, 1, none⟩ = some (.int .i64 a0_1) := (blk_cell BK518.out 1).trans rfl; have hcz26_2 : w25.cell? ⟨gb518, 2, none⟩ = some (.int .i64 a0_2) := (blk_cell BK518.out 2).trans rfl; have hfz26_0 := blk_frozen BK518.out 0; have hfz26_1 := blk_frozen BK518.out 1; have hfz26_2 := blk_frozen BK518.out 2) | (go_at_call 18; (with_reducible refine (anamnesisref03_May.calls k _ _ l0_0 a0_1 a0_2 true _ ?side1 ?side2 A11.out).mono ?_); (case side1 => repeat (first | exact (Kd.C_below HR0_0.out HB.out) | (with_reducible refine Kd.C_alloc ?_ _) | (with_reducible refine Kd.C_drewN ?_ _) | (with_reducible refine Kd.C_drew ?_))); (case side2 => exact HC0_0.out); rintro e w27 ⟨rfl, hb⟩; have n0_ := Aside0.mk (blk_below (g := gb518) (o := .cells #[.slice A0_0 l0_0.length c0_0, .int .i64 a0_1, .int .i64 a0_2] 24 (0, 0)) (by (with_reducible repeat (first | refine blk_drewN ?_ _ | refine blk_drew ?_ | refine blk_alloc ?_ _)); exact BK518.out) hb); have n1_ := Aside0.mk (blk_below (g := gb519) (o := .cells #[.int .i64 a2_0, .int .i64 a2_1] 47 (0, 0)) (by (with_reducible repeat (first | refine blk_drewN ?_ _ | refine blk_drew ?_ | refine blk_alloc ?_ _)); exact BK519.out) hb); have n2_ := Aside0.mk (below_step (by repeat (first | (with_reducible first | exact HB.out | apply below_alloc | apply pw_below_drewN | apply below_drew1 | refine below_set ?_ GE518.out | refine below_set ?_ GE519.out) | exact HB.out)) hb); clear BK518; clear BK519; clear HB; have BK518 := n0_; have BK519 := n1_; have HB := n2_; clear n0_ n1_ n2_; (try clear hb); (try clear hb2); (try clear hk); (try clear hi); have hcz28_0 : w27.cell? ⟨gb518, 0, none⟩ = some (.slice A0_0 l0_0.length c0_0) := (blk_cell BK518.out 0).trans rfl; have hcz28_1 : w27.cell? ⟨gb518, 1, none⟩ = some (.int .i64 a0_1) := (blk_cell BK518.out 1).trans rfl; have hcz28_2 : w27.cell? ⟨gb518, 2, none⟩ = some (.int .i64 a0_2) := (blk_cell BK518.out 2).trans rfl; have hfz28_0 := blk_frozen BK518.out 0; have hfz28_1 := blk_frozen BK518.out 1; have hfz28_2 := blk_frozen BK518.out 2))
       go_meet
       case rel => exact ⟨_, (true), (by first | rfl | (simp; done) | (simp [*]; done)), H', ⟨by first | omega | exact Nat.le_refl _⟩, ⟨by (with_reducible repeat (first | refine blk_drewN ?_ _ | refine blk_drew ?_ | refine blk_alloc ?_ _)); exact BK518.out⟩, ⟨by (with_reducible repeat (first | refine blk_drewN ?_ _ | refine blk_drew ?_ | refine blk_alloc ?_ _)); exact BK519.out⟩, ⟨by repeat (first | (with_reducible first | exact HB.out | apply below_alloc | apply pw_below_drewN | apply below_drew1 | refine below_set ?_ GE518.out | refine below_set ?_ GE519.out) | exact HB.out)⟩⟩
      ·rw [if_neg c21] at H
       have c21b0 : decide (100 < (l1.length : Int)) = false := decide_eq_false c21
       have c21b1 : decide (100 < l1.length) = false := decide_eq_false (by omega)
       clear c21
       replace H := Option.bind_eq_some_iff.mp H
       obtain ⟨t523, A290, H⟩ := H
       replace H : (if t523 = true then ((anamnesisref03_Has.f l0_0 a0_1 a0_2 a2_1).bind fun t524 => (anamnesislaw05_MoveValues.j0 k l1 (!t524) l0_0 a0_1 a0_2 a2_0 a2_1)) else (anamnesislaw05_MoveValues.j0 k l1 true l0_0 a0_1 a0_2 a2_0 a2_1)) = some r := H
       have A29 := Aside0.mk A290
       clear A290
       by_cases c30 : t523 = true
       ·subst c30
        have H1 : ((anamnesisref03_Has.f l0_0 a0_1 a0_2 a2_1).bind fun t524 => (anamnesislaw05_MoveValues.j0 k l1 (!t524) l0_0 a0_1 a0_2 a2_0 a2_1)) = some r := by rw [if_pos rfl] at H; exact H
        clear H
        have H := H1
        clear H1
        replace H := Option.bind_eq_some_iff.mp H
        obtain ⟨t524, A310, H⟩ := H
        replace H : (anamnesislaw05_MoveValues.j0 k l1 (!t524) l0_0 a0_1 a0_2 a2_0 a2_1) = some r := H
        have A31 := Aside0.mk A310
        clear A310
        have H' := Aside0.mk H
        clear H
        go_wp2_with (first | ((with_reducible refine gate_callee (f := 9) rfl ?_); refine goesL_ (some 17) rfl rfl Try.func9 (by kernel_rfl) rfl #[] rfl (by (try simp only [List.map_toArray, List.map_cons, List.map_nil]); first | done | rfl | (simp only [List.length_drop, List.length_take]; rfl)) ?_; (with_reducible refine (anamnesislaw05_fixed.calls k  true _ A7.out).mono ?_); rintro e w32 ⟨rfl, hb⟩; refine ⟨_, rfl, ?_⟩; have n0_ := Aside0.mk (blk_below (g := gb518) (o := .cells #[.slice A0_0 l0_0.length c0_0, .int .i64 a0_1, .int .i64 a0_2] 24 (0, 0)) (by (with_reducible repeat (first | refine blk_drewN ?_ _ | refine blk_drew ?_ | refine blk_alloc ?_ _)); exact BK518.out) hb); have n1_ := Aside0.mk (blk_below (g := gb519) (o := .cells #[.int .i64 a2_0, .int .i64 a2_1] 47 (0, 0)) (by (with_reducible repeat (first | refine blk_drewN ?_ _ | refine blk_drew ?_ | refine blk_alloc ?_ _)); exact BK519.out) hb); have n2_ := Aside0.mk (below_step (by repeat (first | (with_reducible first | exact HB.out | apply below_alloc | apply pw_below_drewN | apply below_drew1 | refine below_set ?_ GE518.out | refine below_set ?_ GE519.out) | exact HB.out)) hb); clear BK518; clear BK519; clear HB; have BK518 := n0_; have BK519 := n1_; have HB := n2_; clear n0_ n1_ n2_; (try clear hb); (try clear hb2); (try clear hk); (try clear hi); have hnb33 := NB518_519.out; have hnc33 := NB519_518.out; have hcz34_0 : w32.cell? ⟨gb518, 0, none⟩ = some (.slice A0_0 l0_0.length c0_0) := (blk_cell BK518.out 0).trans rfl; have hcz34_1 : w32.cell? ⟨gb518, 1, none⟩ = some (.int .i64 a0_1) := (blk_cell BK518.out 1).trans rfl; have hcz34_2 : w32.cell? ⟨gb518, 2, none⟩ = some (.int .i64 a0_2) := (blk_cell BK518.out 2).trans rfl; have hfz34_0 := blk_frozen BK518.out 0; have hfz34_1 := blk_frozen BK518.out 1; have hfz34_2 := blk_frozen BK518.out 2) | (go_at_call 8; (with_reducible refine (anamnesisref03_Small.calls k _ _ l0_0 a0_1 a0_2 true _ ?side1 ?side2 A9.out).mono ?_); (case side1 => repeat (first | exact (Kd.C_below HR0_0.out HB.out) | (with_reducible refine Kd.C_alloc ?_ _) | (with_reducible refine Kd.C_drewN ?_ _) | (with_reducible refine Kd.C_drew ?_))); (case side2 => exact HC0_0.out); rintro e w35 ⟨rfl, hb⟩; have n0_ := Aside0.mk (blk_below (g := gb518) (o := .cells #[.slice A0_0 l0_0.length c0_0, .int .i64 a0_1, .int .i64 a0_2] 24 (0, 0)) (by (with_reducible repeat (first | refine blk_drewN ?_ _ | refine blk_drew ?_ | refine blk_alloc ?_ _)); exact BK518.out) hb); have n1_ := Aside0.mk (blk_below (g := gb519) (o := .cells #[.int .i64 a2_0, .int .i64 a2_1] 47 (0, 0)) (by (with_reducible repeat (first | refine blk_drewN ?_ _ | refine blk_drew ?_ | refine blk_alloc ?_ _)); exact BK519.out) hb); have n2_ := Aside0.mk (below_step (by repeat (first | (with_reducible first | exact HB.out | apply below_alloc | apply pw_below_drewN | apply below_drew1 | refine below_set ?_ GE518.out | refine below_set ?_ GE519.out) | exact HB.out)) hb); clear BK518; clear BK519; clear HB; have BK518 := n0_; have BK519 := n1_; have HB := n2_; clear n0_ n1_ n2_; (try clear hb); (try clear hb2); (try clear hk); (try clear hi); have hcz36_0 : w35.cell? ⟨gb518, 0, none⟩ = some (.slice A0_0 l0_0.length c0_0) := (blk_cell BK518.out 0).trans rfl; have hcz36_1 : w35.cell? ⟨gb518, 1, none⟩ = some (.int .i64 a0_1) := (blk_cell BK518.out 1).trans rfl; have hcz36_2 : w35.cell? ⟨gb518, 2, none⟩ = some (.int .i64 a0_2) := (blk_cell BK518.out 2).trans rfl; have hfz36_0 := blk_frozen BK518.out 0; have hfz36_1 := blk_frozen BK518.out 1; have hfz36_2 := blk_frozen BK518.out 2) | (go_at_call 18; (with_reducible refine (anamnesisref03_May.calls k _ _ l0_0 a0_1 a0_2 true _ ?side1 ?side2 A11.out).mono ?_); (case side1 => repeat (first | exact (Kd.C_below HR0_0.out HB.out) | (with_reducible refine Kd.C_alloc ?_ _) | (with_reducible refine Kd.C_drewN ?_ _) | (with_reducible refine Kd.C_drew ?_))); (case side2 => exact HC0_0.out); rintro e w37 ⟨rfl, hb⟩; have n0_ := Aside0.mk (blk_below (g := gb518) (o := .cells #[.slice A0_0 l0_0.length c0_0, .int .i64 a0_1, .int .i64 a0_2] 24 (0, 0)) (by (with_reducible repeat (first | refine blk_drewN ?_ _ | refine blk_drew ?_ | refine blk_alloc ?_ _)); exact BK518.out) hb); have n1_ := Aside0.mk (blk_below (g := gb519) (o := .cells #[.int .i64 a2_0, .int .i64 a2_1] 47 (0, 0)) (by (with_reducible repeat (first | refine blk_drewN ?_ _ | refine blk_drew ?_ | refine blk_alloc ?_ _)); exact BK519.out) hb); have n2_ := Aside0.mk (below_step (by repeat (first | (with_reducible first | exact HB.out | apply below_alloc | apply pw_below_drewN | apply below_drew1 | refine below_set ?_ GE518.out | refine below_set ?_ GE519.out) | exact HB.out)) hb); clear BK518; clear BK519; clear HB; have BK518 := n0_; have BK519 := n1_; have HB := n2_; clear n0_ n1_ n2_; (try clear hb); (try clear hb2); (try clear hk); (try clear hi); have hcz38_0 : w37.cell? ⟨gb518, 0, none⟩ = some (.slice A0_0 l0_0.length c0_0) := (blk_cell BK518.out 0).trans rfl; have hcz38_1 : w37.cell? ⟨gb518, 1, none⟩ = some (.int .i64 a0_1) := (blk_cell BK518.out 1).trans rfl; have hcz38_2 : w37.cell? ⟨gb518, 2, none⟩ = some (.int .i64 a0_2) := (blk_cell BK518.out 2).trans rfl; have hfz38_0 := blk_frozen BK518.out 0; have hfz38_1 := blk_frozen BK518.out 1; have hfz38_2 := blk_frozen BK518.out 2; have hcz39_0 : w37.cell? ⟨gb519, 0, none⟩ = some (.int .i64 a2_0) := (blk_cell BK519.out 0).trans rfl; have hcz39_1 : w37.cell? ⟨gb519, 1, none⟩ = some (.int .i64 a2_1) := (blk_cell BK519.out 1).trans rfl; have hfz39_0 := blk_frozen BK519.out 0; have hfz39_1 := blk_frozen BK519.out 1) | (go_at_call 23; (with_reducible refine (anamnesisref03_Has.calls _ _ l0_0 a0_1 a0_2 a2_0 true _ ?side1 ?side2 A29.out).mono ?_); (case side1 => repeat (first | exact (Kd.C_below HR0_0.out HB.out) | (with_reducible refine Kd.C_alloc ?_ _) | (with_reducible refine Kd.C_drewN ?_ _) | (with_reducible refine Kd.C_drew ?_))); (case side2 => exact HC0_0.out); rintro e w40 ⟨rfl, hb⟩; have n0_ := Aside0.mk (blk_below (g := gb518) (o := .cells #[.slice A0_0 l0_0.length c0_0, .int .i64 a0_1, .int .i64 a0_2] 24 (0, 0)) (by (with_reducible repeat (first | refine blk_drewN ?_ _ | refine blk_drew ?_ | refine blk_alloc ?_ _)); exact BK518.out) hb); have n1_ := Aside0.mk (blk_below (g := gb519) (o := .cells #[.int .i64 a2_0, .int .i64 a2_1] 47 (0, 0)) (by (with_reducible repeat (first | refine blk_drewN ?_ _ | refine blk_drew ?_ | refine blk_alloc ?_ _)); exact BK519.out) hb); have n2_ := Aside0.mk (below_step (by repeat (first | (with_reducible first | exact HB.out | apply below_alloc | apply pw_below_drewN | apply below_drew1 | refine below_set ?_ GE518.out | refine below_set ?_ GE519.out) | exact HB.out)) hb); clear BK518; clear BK519; clear HB; have BK518 := n0_; have BK519 := n1_; have HB := n2_; clear n0_ n1_ n2_; (try clear hb); (try clear hb2); (try clear hk); (try clear hi); have hcz41_0 : w40.cell? ⟨gb518, 0, none⟩ = some (.slice A0_0 l0_0.length c0_0) := (blk_cell BK518.out 0).trans rfl; have hcz41_1 : w40.cell? ⟨gb518, 1, none⟩ = some (.int .i64 a0_1) := (blk_cell BK518.out 1).trans rfl; have hcz41_2 : w40.cell? ⟨gb518, 2, none⟩ = some (.int .i64 a0_2) := (blk_cell BK518.out 2).trans rfl; have hfz41_0 := blk_frozen BK518.out 0; have hfz41_1 := blk_frozen BK518.out 1; have hfz41_2 := blk_frozen BK518.out 2; have hcz42_0 : w40.cell? ⟨gb519, 0, none⟩ = some (.int .i64 a2_0) := (blk_cell BK519.out 0).trans rfl; have hcz42_1 : w40.cell? ⟨gb519, 1, none⟩ = some (.int .i64 a2_1) := (blk_cell BK519.out 1).trans rfl; have hfz42_0 := blk_frozen BK519.out 0; have hfz42_1 := blk_frozen BK519.out 1) | (go_at_call 23; (with_reducible refine (anamnesisref03_Has.calls _ _ l0_0 a0_1 a0_2 a2_1 t524 _ ?side1 ?side2 A31.out).mono ?_); (case side1 => repeat (first | exact (Kd.C_below HR0_0.out HB.out) | (with_reducible refine Kd.C_alloc ?_ _) | (with_reducible refine Kd.C_drewN ?_ _) | (with_reducible refine Kd.C_drew ?_))); (case side2 => exact HC0_0.out); rintro e w43 ⟨rfl, hb⟩; have n0_ := Aside0.mk (blk_below (g := gb518) (o := .cells #[.slice A0_0 l0_0.length c0_0, .int .i64 a0_1, .int .i64 a0_2] 24 (0, 0)) (by (with_reducible repeat (first | refine blk_drewN ?_ _ | refine blk_drew ?_ | refine blk_alloc ?_ _)); exact BK518.out) hb); have n1_ := Aside0.mk (blk_below (g := gb519) (o := .cells #[.int .i64 a2_0, .int .i64 a2_1] 47 (0, 0)) (by (with_reducible repeat (first | refine blk_drewN ?_ _ | refine blk_drew ?_ | refine blk_alloc ?_ _)); exact BK519.out) hb); have n2_ := Aside0.mk (below_step (by repeat (first | (with_reducible first | exact HB.out | apply below_alloc | apply pw_below_drewN | apply below_drew1 | refine below_set ?_ GE518.out | refine below_set ?_ GE519.out) | exact HB.out)) hb); clear BK518; clear BK519; clear HB; have BK518 := n0_; have BK519 := n1_; have HB := n2_; clear n0_ n1_ n2_; (try clear hb); (try clear hb2); (try clear hk); (try clear hi)))
        go_meet
        case rel => exact ⟨_, (!t524), (by first | rfl | (simp; done) | (simp [*]; done)), H', ⟨by first | omega | exact Nat.le_refl _⟩, ⟨by (with_reducible repeat (first | refine blk_drewN ?_ _ | refine blk_drew ?_ | refine blk_alloc ?_ _)); exact BK518.out⟩, ⟨by (with_reducible repeat (first | refine blk_drewN ?_ _ | refine blk_drew ?_ | refine blk_alloc ?_ _)); exact BK519.out⟩, ⟨by repeat (first | (with_reducible first | exact HB.out | apply below_alloc | apply pw_below_drewN | apply below_drew1 | refine below_set ?_ GE518.out | refine below_set ?_ GE519.out) | exact HB.out)⟩⟩
       ·replace c30 := Bool.eq_false_iff.mpr c30
        subst c30
        have H1 : (anamnesislaw05_MoveValues.j0 k l1 true l0_0 a0_1 a0_2 a2_0 a2_1) = some r := by rw [if_neg (show ¬ (false = true) by decide)] at H; exact H
        clear H
        have H := H1
        clear H1
        have H' := Aside0.mk H
        clear H
        go_wp2_with (first | ((with_reducible refine gate_callee (f := 9) rfl ?_); refine goesL_ (some 17) rfl rfl Try.func9 (by kernel_rfl) rfl #[] rfl (by (try simp only [List.map_toArray, List.map_cons, List.map_nil]); first | done | rfl | (simp only [List.length_drop, List.length_take]; rfl)) ?_; (with_reducible refine (anamnesislaw05_fixed.calls k  true _ A7.out).mono ?_); rintro e w44 ⟨rfl, hb⟩; refine ⟨_, rfl, ?_⟩; have n0_ := Aside0.mk (blk_below (g := gb518) (o := .cells #[.slice A0_0 l0_0.length c0_0, .int .i64 a0_1, .int .i64 a0_2] 24 (0, 0)) (by (with_reducible repeat (first | refine blk_drewN ?_ _ | refine blk_drew ?_ | refine blk_alloc ?_ _)); exact BK518.out) hb); have n1_ := Aside0.mk (blk_below (g := gb519) (o := .cells #[.int .i64 a2_0, .int .i64 a2_1] 47 (0, 0)) (by (with_reducible repeat (first | refine blk_drewN ?_ _ | refine blk_drew ?_ | refine blk_alloc ?_ _)); exact BK519.out) hb); have n2_ := Aside0.mk (below_step (by repeat (first | (with_reducible first | exact HB.out | apply below_alloc | apply pw_below_drewN | apply below_drew1 | refine below_set ?_ GE518.out | refine below_set ?_ GE519.out) | exact HB.out)) hb); clear BK518; clear BK519; clear HB; have BK518 := n0_; have BK519 := n1_; have HB := n2_; clear n0_ n1_ n2_; (try clear hb); (try clear hb2); (try clear hk); (try clear hi); have hnb45 := NB518_519.out; have hnc45 := NB519_518.out; have hcz46_0 : w44.cell? ⟨gb518, 0, none⟩ = some (.slice A0_0 l0_0.length c0_0) := (blk_cell BK518.out 0).trans rfl; have hcz46_1 : w44.cell? ⟨gb518, 1, none⟩ = some (.int .i64 a0_1) := (blk_cell BK518.out 1).trans rfl; have hcz46_2 : w44.cell? ⟨gb518, 2, none⟩ = some (.int .i64 a0_2) := (blk_cell BK518.out 2).trans rfl; have hfz46_0 := blk_frozen BK518.out 0; have hfz46_1 := blk_frozen BK518.out 1; have hfz46_2 := blk_frozen BK518.out 2) | (go_at_call 8; (with_reducible refine (anamnesisref03_Small.calls k _ _ l0_0 a0_1 a0_2 true _ ?side1 ?side2 A9.out).mono ?_); (case side1 => repeat (first | exact (Kd.C_below HR0_0.out HB.out) | (with_reducible refine Kd.C_alloc ?_ _) | (with_reducible refine Kd.C_drewN ?_ _) | (with_reducible refine Kd.C_drew ?_))); (case side2 => exact HC0_0.out); rintro e w47 ⟨rfl, hb⟩; have n0_ := Aside0.mk (blk_below (g := gb518) (o := .cells #[.slice A0_0 l0_0.length c0_0, .int .i64 a0_1, .int .i64 a0_2] 24 (0, 0)) (by (with_reducible repeat (first | refine blk_drewN ?_ _ | refine blk_drew ?_ | refine blk_alloc ?_ _)); exact BK518.out) hb); have n1_ := Aside0.mk (blk_below (g := gb519) (o := .cells #[.int .i64 a2_0, .int .i64 a2_1] 47 (0, 0)) (by (with_reducible repeat (first | refine blk_drewN ?_ _ | refine blk_drew ?_ | refine blk_alloc ?_ _)); exact BK519.out) hb); have n2_ := Aside0.mk (below_step (by repeat (first | (with_reducible first | exact HB.out | apply below_alloc | apply pw_below_drewN | apply below_drew1 | refine below_set ?_ GE518.out | refine below_set ?_ GE519.out) | exact HB.out)) hb); clear BK518; clear BK519; clear HB; have BK518 := n0_; have BK519 := n1_; have HB := n2_; clear n0_ n1_ n2_; (try clear hb); (try clear hb2); (try clear hk); (try clear hi); have hcz48_0 : w47.cell? ⟨gb518, 0, none⟩ = some (.slice A0_0 l0_0.length c0_0) := (blk_cell BK518.out 0).trans rfl; have hcz48_1 : w47.cell? ⟨gb518, 1, none⟩ = some (.int .i64 a0_1) := (blk_cell BK518.out 1).trans rfl; have hcz48_2 : w47.cell? ⟨gb518, 2, none⟩ = some (.int .i64 a0_2) := (blk_cell BK518.out 2).trans rfl; have hfz48_0 := blk_frozen BK518.out 0; have hfz48_1 := blk_frozen BK518.out 1; have hfz48_2 := blk_frozen BK518.out 2) | (go_at_call 18; (with_reducible refine (anamnesisref03_May.calls k _ _ l0_0 a0_1 a0_2 true _ ?side1 ?side2 A11.out).mono ?_); (case side1 => repeat (first | exact (Kd.C_below HR0_0.out HB.out) | (with_reducible refine Kd.C_alloc ?_ _) | (with_reducible refine Kd.C_drewN ?_ _) | (with_reducible refine Kd.C_drew ?_))); (case side2 => exact HC0_0.out); rintro e w49 ⟨rfl, hb⟩; have n0_ := Aside0.mk (blk_below (g := gb518) (o := .cells #[.slice A0_0 l0_0.length c0_0, .int .i64 a0_1, .int .i64 a0_2] 24 (0, 0)) (by (with_reducible repeat (first | refine blk_drewN ?_ _ | refine blk_drew ?_ | refine blk_alloc ?_ _)); exact BK518.out) hb); have n1_ := Aside0.mk (blk_below (g := gb519) (o := .cells #[.int .i64 a2_0, .int .i64 a2_1] 47 (0, 0)) (by (with_reducible repeat (first | refine blk_drewN ?_ _ | refine blk_drew ?_ | refine blk_alloc ?_ _)); exact BK519.out) hb); have n2_ := Aside0.mk (below_step (by repeat (first | (with_reducible first | exact HB.out | apply below_alloc | apply pw_below_drewN | apply below_drew1 | refine below_set ?_ GE518.out | refine below_set ?_ GE519.out) | exact HB.out)) hb); clear BK518; clear BK519; clear HB; have BK518 := n0_; have BK519 := n1_; have HB := n2_; clear n0_ n1_ n2_; (try clear hb); (try clear hb2); (try clear hk); (try clear hi); have hcz50_0 : w49.cell? ⟨gb518, 0, none⟩ = some (.slice A0_0 l0_0.length c0_0) := (blk_cell BK518.out 0).trans rfl; have hcz50_1 : w49.cell? ⟨gb518, 1, none⟩ = some (.int .i64 a0_1) := (blk_cell BK518.out 1).trans rfl; have hcz50_2 : w49.cell? ⟨gb518, 2, none⟩ = some (.int .i64 a0_2) := (blk_cell BK518.out 2).trans rfl; have hfz50_0 := blk_frozen BK518.out 0; have hfz50_1 := blk_frozen BK518.out 1; have hfz50_2 := blk_frozen BK518.out 2; have hcz51_0 : w49.cell? ⟨gb519, 0, none⟩ = some (.int .i64 a2_0) := (blk_cell BK519.out 0).trans rfl; have hcz51_1 : w49.cell? ⟨gb519, 1, none⟩ = some (.int .i64 a2_1) := (blk_cell BK519.out 1).trans rfl; have hfz51_0 := blk_frozen BK519.out 0; have hfz51_1 := blk_frozen BK519.out 1) | (go_at_call 23; (with_reducible refine (anamnesisref03_Has.calls _ _ l0_0 a0_1 a0_2 a2_0 false _ ?side1 ?side2 A29.out).mono ?_); (case side1 => repeat (first | exact (Kd.C_below HR0_0.out HB.out) | (with_reducible refine Kd.C_alloc ?_ _) | (with_reducible refine Kd.C_drewN ?_ _) | (with_reducible refine Kd.C_drew ?_))); (case side2 => exact HC0_0.out); rintro e w52 ⟨rfl, hb⟩; have n0_ := Aside0.mk (blk_below (g := gb518) (o := .cells #[.slice A0_0 l0_0.length c0_0, .int .i64 a0_1, .int .i64 a0_2] 24 (0, 0)) (by (with_reducible repeat (first | refine blk_drewN ?_ _ | refine blk_drew ?_ | refine blk_alloc ?_ _)); exact BK518.out) hb); have n1_ := Aside0.mk (blk_below (g := gb519) (o := .cells #[.int .i64 a2_0, .int .i64 a2_1] 47 (0, 0)) (by (with_reducible repeat (first | refine blk_drewN ?_ _ | refine blk_drew ?_ | refine blk_alloc ?_ _)); exact BK519.out) hb); have n2_ := Aside0.mk (below_step (by repeat (first | (with_reducible first | exact HB.out | apply below_alloc | apply pw_below_drewN | apply below_drew1 | refine below_set ?_ GE518.out | refine below_set ?_ GE519.out) | exact HB.out)) hb); clear BK518; clear BK519; clear HB; have BK518 := n0_; have BK519 := n1_; have HB := n2_; clear n0_ n1_ n2_; (try clear hb); (try clear hb2); (try clear hk); (try clear hi)))
        go_meet
        case rel => exact ⟨_, (true), (by first | rfl | (simp; done) | (simp [*]; done)), H', ⟨by first | omega | exact Nat.le_refl _⟩, ⟨by (with_reducible repeat (first | refine blk_drewN ?_ _ | refine blk_drew ?_ | refine blk_alloc ?_ _)); exact BK518.out⟩, ⟨by (with_reducible repeat (first | refine blk_drewN ?_ _ | refine blk_drew ?_ | refine blk_alloc ?_ _)); exact BK519.out⟩, ⟨by repeat (first | (with_reducible first | exact HB.out | apply below_alloc | apply pw_below_drewN | apply below_drew1 | refine below_set ?_ GE518.out | refine below_set ?_ GE519.out) | exact HB.out)⟩⟩
    ·replace c12 := Bool.eq_false_iff.mpr c12
     subst c12
     have H1 : (anamnesislaw05_MoveValues.j0 k l1 true l0_0 a0_1 a0_2 a2_0 a2_1) = some r := by rw [if_neg (show ¬ (false = true) by decide)] at H; exact H
     clear H
     have H := H1
     clear H1
     have H' := Aside0.mk H
     clear H
     go_wp2_with (first | ((with_reducible refine gate_callee (f := 9) rfl ?_); refine goesL_ (some 17) rfl rfl Try.func9 (by kernel_rfl) rfl #[] rfl (by (try simp only [List.map_toArray, List.map_cons, List.map_nil]); first | done | rfl | (simp only [List.length_drop, List.length_take]; rfl)) ?_; (with_reducible refine (anamnesislaw05_fixed.calls k  true _ A7.out).mono ?_); rintro e w53 ⟨rfl, hb⟩; refine ⟨_, rfl, ?_⟩; have n0_ := Aside0.mk (blk_below (g := gb518) (o := .cells #[.slice A0_0 l0_0.length c0_0, .int .i64 a0_1, .int .i64 a0_2] 24 (0, 0)) (by (with_reducible repeat (first | refine blk_drewN ?_ _ | refine blk_drew ?_ | refine blk_alloc ?_ _)); exact BK518.out) hb); have n1_ := Aside0.mk (blk_below (g := gb519) (o := .cells #[.int .i64 a2_0, .int .i64 a2_1] 47 (0, 0)) (by (with_reducible repeat (first | refine blk_drewN ?_ _ | refine blk_drew ?_ | refine blk_alloc ?_ _)); exact BK519.out) hb); have n2_ := Aside0.mk (below_step (by repeat (first | (with_reducible first | exact HB.out | apply below_alloc | apply pw_below_drewN | apply below_drew1 | refine below_set ?_ GE518.out | refine below_set ?_ GE519.out) | exact HB.out)) hb); clear BK518; clear BK519; clear HB; have BK518 := n0_; have BK519 := n1_; have HB := n2_; clear n0_ n1_ n2_; (try clear hb); (try clear hb2); (try clear hk); (try clear hi); have hnb54 := NB518_519.out; have hnc54 := NB519_518.out; have hcz55_0 : w53.cell? ⟨gb518, 0, none⟩ = some (.slice A0_0 l0_0.length c0_0) := (blk_cell BK518.out 0).trans rfl; have hcz55_1 : w53.cell? ⟨gb518, 1, none⟩ = some (.int .i64 a0_1) := (blk_cell BK518.out 1).trans rfl; have hcz55_2 : w53.cell? ⟨gb518, 2, none⟩ = some (.int .i64 a0_2) := (blk_cell BK518.out 2).trans rfl; have hfz55_0 := blk_frozen BK518.out 0; have hfz55_1 := blk_frozen BK518.out 1; have hfz55_2 := blk_frozen BK518.out 2) | (go_at_call 8; (with_reducible refine (anamnesisref03_Small.calls k _ _ l0_0 a0_1 a0_2 true _ ?side1 ?side2 A9.out).mono ?_); (case side1 => repeat (first | exact (Kd.C_below HR0_0.out HB.out) | (with_reducible refine Kd.C_alloc ?_ _) | (with_reducible refine Kd.C_drewN ?_ _) | (with_reducible refine Kd.C_drew ?_))); (case side2 => exact HC0_0.out); rintro e w56 ⟨rfl, hb⟩; have n0_ := Aside0.mk (blk_below (g := gb518) (o := .cells #[.slice A0_0 l0_0.length c0_0, .int .i64 a0_1, .int .i64 a0_2] 24 (0, 0)) (by (with_reducible repeat (first | refine blk_drewN ?_ _ | refine blk_drew ?_ | refine blk_alloc ?_ _)); exact BK518.out) hb); have n1_ := Aside0.mk (blk_below (g := gb519) (o := .cells #[.int .i64 a2_0, .int .i64 a2_1] 47 (0, 0)) (by (with_reducible repeat (first | refine blk_drewN ?_ _ | refine blk_drew ?_ | refine blk_alloc ?_ _)); exact BK519.out) hb); have n2_ := Aside0.mk (below_step (by repeat (first | (with_reducible first | exact HB.out | apply below_alloc | apply pw_below_drewN | apply below_drew1 | refine below_set ?_ GE518.out | refine below_set ?_ GE519.out) | exact HB.out)) hb); clear BK518; clear BK519; clear HB; have BK518 := n0_; have BK519 := n1_; have HB := n2_; clear n0_ n1_ n2_; (try clear hb); (try clear hb2); (try clear hk); (try clear hi); have hcz57_0 : w56.cell? ⟨gb518, 0, none⟩ = some (.slice A0_0 l0_0.length c0_0) := (blk_cell BK518.out 0).trans rfl; have hcz57_1 : w56.cell? ⟨gb518, 1, none⟩ = some (.int .i64 a0_1) := (blk_cell BK518.out 1).trans rfl; have hcz57_2 : w56.cell? ⟨gb518, 2, none⟩ = some (.int .i64 a0_2) := (blk_cell BK518.out 2).trans rfl; have hfz57_0 := blk_frozen BK518.out 0; have hfz57_1 := blk_frozen BK518.out 1; have hfz57_2 := blk_frozen BK518.out 2) | (go_at_call 18; (with_reducible refine (anamnesisref03_May.calls k _ _ l0_0 a0_1 a0_2 false _ ?side1 ?side2 A11.out).mono ?_); (case side1 => repeat (first | exact (Kd.C_below HR0_0.out HB.out) | (with_reducible refine Kd.C_alloc ?_ _) | (with_reducible refine Kd.C_drewN ?_ _) | (with_reducible refine Kd.C_drew ?_))); (case side2 => exact HC0_0.out); rintro e w58 ⟨rfl, hb⟩; have n0_ := Aside0.mk (blk_below (g := gb518) (o := .cells #[.slice A0_0 l0_0.length c0_0, .int .i64 a0_1, .int .i64 a0_2] 24 (0, 0)) (by (with_reducible repeat (first | refine blk_drewN ?_ _ | refine blk_drew ?_ | refine blk_alloc ?_ _)); exact BK518.out) hb); have n1_ := Aside0.mk (blk_below (g := gb519) (o := .cells #[.int .i64 a2_0, .int .i64 a2_1] 47 (0, 0)) (by (with_reducible repeat (first | refine blk_drewN ?_ _ | refine blk_drew ?_ | refine blk_alloc ?_ _)); exact BK519.out) hb); have n2_ := Aside0.mk (below_step (by repeat (first | (with_reducible first | exact HB.out | apply below_alloc | apply pw_below_drewN | apply below_drew1 | refine below_set ?_ GE518.out | refine below_set ?_ GE519.out) | exact HB.out)) hb); clear BK518; clear BK519; clear HB; have BK518 := n0_; have BK519 := n1_; have HB := n2_; clear n0_ n1_ n2_; (try clear hb); (try clear hb2); (try clear hk); (try clear hi)))
     go_meet
     case rel => exact ⟨_, (true), (by first | rfl | (simp; done) | (simp [*]; done)), H', ⟨by first | omega | exact Nat.le_refl _⟩, ⟨by (with_reducible repeat (first | refine blk_drewN ?_ _ | refine blk_drew ?_ | refine blk_alloc ?_ _)); exact BK518.out⟩, ⟨by (with_reducible repeat (first | refine blk_drewN ?_ _ | refine blk_drew ?_ | refine blk_alloc ?_ _)); exact BK519.out⟩, ⟨by repeat (first | (with_reducible first | exact HB.out | apply below_alloc | apply pw_below_drewN | apply below_drew1 | refine below_set ?_ GE518.out | refine below_set ?_ GE519.out) | exact HB.out)⟩⟩
   ·replace c10 := Bool.eq_false_iff.mpr c10
    subst c10
    have H1 : (anamnesislaw05_MoveValues.j0 k l1 true l0_0 a0_1 a0_2 a2_0 a2_1) = some r := by rw [if_neg (show ¬ (false = true) by decide)] at H; exact H
    clear H
    have H := H1
    clear H1
    have H' := Aside0.mk H
    clear H
    go_wp2_with (first | ((with_reducible refine gate_callee (f := 9) rfl ?_); refine goesL_ (some 17) rfl rfl Try.func9 (by kernel_rfl) rfl #[] rfl (by (try simp only [List.map_toArray, List.map_cons, List.map_nil]); first | done | rfl | (simp only [List.length_drop, List.length_take]; rfl)) ?_; (with_reducible refine (anamnesislaw05_fixed.calls k  true _ A7.out).mono ?_); rintro e w59 ⟨rfl, hb⟩; refine ⟨_, rfl, ?_⟩; have n0_ := Aside0.mk (blk_below (g := gb518) (o := .cells #[.slice A0_0 l0_0.length c0_0, .int .i64 a0_1, .int .i64 a0_2] 24 (0, 0)) (by (with_reducible repeat (first | refine blk_drewN ?_ _ | refine blk_drew ?_ | refine blk_alloc ?_ _)); exact BK518.out) hb); have n1_ := Aside0.mk (blk_below (g := gb519) (o := .cells #[.int .i64 a2_0, .int .i64 a2_1] 47 (0, 0)) (by (with_reducible repeat (first | refine blk_drewN ?_ _ | refine blk_drew ?_ | refine blk_alloc ?_ _)); exact BK519.out) hb); have n2_ := Aside0.mk (below_step (by repeat (first | (with_reducible first | exact HB.out | apply below_alloc | apply pw_below_drewN | apply below_drew1 | refine below_set ?_ GE518.out | refine below_set ?_ GE519.out) | exact HB.out)) hb); clear BK518; clear BK519; clear HB; have BK518 := n0_; have BK519 := n1_; have HB := n2_; clear n0_ n1_ n2_; (try clear hb); (try clear hb2); (try clear hk); (try clear hi); have hnb60 := NB518_519.out; have hnc60 := NB519_518.out; have hcz61_0 : w59.cell? ⟨gb518, 0, none⟩ = some (.slice A0_0 l0_0.length c0_0) := (blk_cell BK518.out 0).trans rfl; have hcz61_1 : w59.cell? ⟨gb518, 1, none⟩ = some (.int .i64 a0_1) := (blk_cell BK518.out 1).trans rfl; have hcz61_2 : w59.cell? ⟨gb518, 2, none⟩ = some (.int .i64 a0_2) := (blk_cell BK518.out 2).trans rfl; have hfz61_0 := blk_frozen BK518.out 0; have hfz61_1 := blk_frozen BK518.out 1; have hfz61_2 := blk_frozen BK518.out 2) | (go_at_call 8; (with_reducible refine (anamnesisref03_Small.calls k _ _ l0_0 a0_1 a0_2 false _ ?side1 ?side2 A9.out).mono ?_); (case side1 => repeat (first | exact (Kd.C_below HR0_0.out HB.out) | (with_reducible refine Kd.C_alloc ?_ _) | (with_reducible refine Kd.C_drewN ?_ _) | (with_reducible refine Kd.C_drew ?_))); (case side2 => exact HC0_0.out); rintro e w62 ⟨rfl, hb⟩; have n0_ := Aside0.mk (blk_below (g := gb518) (o := .cells #[.slice A0_0 l0_0.length c0_0, .int .i64 a0_1, .int .i64 a0_2] 24 (0, 0)) (by (with_reducible repeat (first | refine blk_drewN ?_ _ | refine blk_drew ?_ | refine blk_alloc ?_ _)); exact BK518.out) hb); have n1_ := Aside0.mk (blk_below (g := gb519) (o := .cells #[.int .i64 a2_0, .int .i64 a2_1] 47 (0, 0)) (by (with_reducible repeat (first | refine blk_drewN ?_ _ | refine blk_drew ?_ | refine blk_alloc ?_ _)); exact BK519.out) hb); have n2_ := Aside0.mk (below_step (by repeat (first | (with_reducible first | exact HB.out | apply below_alloc | apply pw_below_drewN | apply below_drew1 | refine below_set ?_ GE518.out | refine below_set ?_ GE519.out) | exact HB.out)) hb); clear BK518; clear BK519; clear HB; have BK518 := n0_; have BK519 := n1_; have HB := n2_; clear n0_ n1_ n2_; (try clear hb); (try clear hb2); (try clear hk); (try clear hi)))
    go_meet
    case rel => exact ⟨_, (true), (by first | rfl | (simp; done) | (simp [*]; done)), H', ⟨by first | omega | exact Nat.le_refl _⟩, ⟨by (with_reducible repeat (first | refine blk_drewN ?_ _ | refine blk_drew ?_ | refine blk_alloc ?_ _)); exact BK518.out⟩, ⟨by (with_reducible repeat (first | refine blk_drewN ?_ _ | refine blk_drew ?_ | refine blk_alloc ?_ _)); exact BK519.out⟩, ⟨by repeat (first | (with_reducible first | exact HB.out | apply below_alloc | apply pw_below_drewN | apply below_drew1 | refine below_set ?_ GE518.out | refine below_set ?_ GE519.out) | exact HB.out)⟩⟩
  ·replace c8 := Bool.eq_false_iff.mpr c8
   subst c8
   have H1 : (anamnesislaw05_MoveValues.j0 k l1 true l0_0 a0_1 a0_2 a2_0 a2_1) = some r := by rw [if_neg (show ¬ (false = true) by decide)] at H; exact H
   clear H
   have H := H1
   clear H1
   have H' := Aside0.mk H
   clear H
   go_wp2_with (first | ((with_reducible refine gate_callee (f := 9) rfl ?_); refine goesL_ (some 17) rfl rfl Try.func9 (by kernel_rfl) rfl #[] rfl (by (try simp only [List.map_toArray, List.map_cons, List.map_nil]); first | done | rfl | (simp only [List.length_drop, List.length_take]; rfl)) ?_; (with_reducible refine (anamnesislaw05_fixed.calls k  false _ A7.out).mono ?_); rintro e w63 ⟨rfl, hb⟩; refine ⟨_, rfl, ?_⟩; have n0_ := Aside0.mk (blk_below (g := gb518) (o := .cells #[.slice A0_0 l0_0.length c0_0, .int .i64 a0_1, .int .i64 a0_2] 24 (0, 0)) (by (with_reducible repeat (first | refine blk_drewN ?_ _ | refine blk_drew ?_ | refine blk_alloc ?_ _)); exact BK518.out) hb); have n1_ := Aside0.mk (blk_below (g := gb519) (o := .cells #[.int .i64 a2_0, .int .i64 a2_1] 47 (0, 0)) (by (with_reducible repeat (first | refine blk_drewN ?_ _ | refine blk_drew ?_ | refine blk_alloc ?_ _)); exact BK519.out) hb); have n2_ := Aside0.mk (below_step (by repeat (first | (with_reducible first | exact HB.out | apply below_alloc | apply pw_below_drewN | apply below_drew1 | refine below_set ?_ GE518.out | refine below_set ?_ GE519.out) | exact HB.out)) hb); clear BK518; clear BK519; clear HB; have BK518 := n0_; have BK519 := n1_; have HB := n2_; clear n0_ n1_ n2_; (try clear hb); (try clear hb2); (try clear hk); (try clear hi)))
   go_meet
   case rel => exact ⟨_, (true), (by first | rfl | (simp; done) | (simp [*]; done)), H', ⟨by first | omega | exact Nat.le_refl _⟩, ⟨by (with_reducible repeat (first | refine blk_drewN ?_ _ | refine blk_drew ?_ | refine blk_alloc ?_ _)); exact BK518.out⟩, ⟨by (with_reducible repeat (first | refine blk_drewN ?_ _ | refine blk_drew ?_ | refine blk_alloc ?_ _)); exact BK519.out⟩, ⟨by repeat (first | (with_reducible first | exact HB.out | apply below_alloc | apply pw_below_drewN | apply below_drew1 | refine below_set ?_ GE518.out | refine below_set ?_ GE519.out) | exact HB.out)⟩⟩
 case rest =>
  clear HC4
  try clear c1
  try clear c2
  try clear p2
  try clear c3
  try clear c4
  try clear c5
  try clear c6
  try clear c7
  try clear c8
  try clear c9
  try clear c10
  try clear c12
  try clear c13
  try clear c13b0
  try clear c13b1
  try clear c15
  try clear c21
  try clear c21b0
  try clear c21b1
  try clear c23
  try clear c30
  try clear c33
  try clear c45
  try clear c54
  try clear c60
  try clear hcz16_0
  try clear hcz16_1
  try clear hcz16_2
  try clear hcz18_0
  try clear hcz18_1
  try clear hcz18_2
  try clear hcz20_0
  try clear hcz20_1
  try clear hcz20_2
  try clear hcz24_0
  try clear hcz24_1
  try clear hcz24_2
  try clear hcz26_0
  try clear hcz26_1
  try clear hcz26_2
  try clear hcz28_0
  try clear hcz28_1
  try clear hcz28_2
  try clear hcz34_0
  try clear hcz34_1
  try clear hcz34_2
  try clear hcz36_0
  try clear hcz36_1
  try clear hcz36_2
  try clear hcz38_0
  try clear hcz38_1
  try clear hcz38_2
  try clear hcz39_0
  try clear hcz39_1
  try clear hcz41_0
  try clear hcz41_1
  try clear hcz41_2
  try clear hcz42_0
  try clear hcz42_1
  try clear hcz46_0
  try clear hcz46_1
  try clear hcz46_2
  try clear hcz48_0
  try clear hcz48_1
  try clear hcz48_2
  try clear hcz50_0
  try clear hcz50_1
  try clear hcz50_2
  try clear hcz51_0
  try clear hcz51_1
  try clear hcz55_0
  try clear hcz55_1
  try clear hcz55_2
  try clear hcz57_0
  try clear hcz57_1
  try clear hcz57_2
  try clear hcz61_0
  try clear hcz61_1
  try clear hcz61_2
  try clear hfz16_0
  try clear hfz16_1
  try clear hfz16_2
  try clear hfz18_0
  try clear hfz18_1
  try clear hfz18_2
  try clear hfz20_0
  try clear hfz20_1
  try clear hfz20_2
  try clear hfz24_0
  try clear hfz24_1
  try clear hfz24_2
  try clear hfz26_0
  try clear hfz26_1
  try clear hfz26_2
  try clear hfz28_0
  try clear hfz28_1
  try clear hfz28_2
  try clear hfz34_0
  try clear hfz34_1
  try clear hfz34_2
  try clear hfz36_0
  try clear hfz36_1
  try clear hfz36_2
  try clear hfz38_0
  try clear hfz38_1
  try clear hfz38_2
  try clear hfz39_0
  try clear hfz39_1
  try clear hfz41_0
  try clear hfz41_1
  try clear hfz41_2
  try clear hfz42_0
  try clear hfz42_1
  try clear hfz46_0
  try clear hfz46_1
  try clear hfz46_2
  try clear hfz48_0
  try clear hfz48_1
  try clear hfz48_2
  try clear hfz50_0
  try clear hfz50_1
  try clear hfz50_2
  try clear hfz51_0
  try clear hfz51_1
  try clear hfz55_0
  try clear hfz55_1
  try clear hfz55_2
  try clear hfz57_0
  try clear hfz57_1
  try clear hfz57_2
  try clear hfz61_0
  try clear hfz61_1
  try clear hfz61_2
  obtain ⟨kq, x53_3, rfl, HA, HJ3, BK518, BK519, HB⟩ := hcut
  cases kq with
  | zero => exact absurd HA.out (by simp [anamnesislaw05_MoveValues.j0])
  | succ kj3 =>
   have H := HA.out
   clear HA
   simp only [anamnesislaw05_MoveValues.j0] at H
   by_cases c64 : x53_3 = true
   ·subst c64
    have H1 : ((anamnesislaw05_fixed.f kj3).bind fun t525 => (some t525)) = some r := by rw [if_pos rfl] at H; exact H
    clear H
    have H := H1
    clear H1
    replace H := Option.bind_eq_some_iff.mp H
    obtain ⟨t525, A650, H⟩ := H
    replace H : (some t525) = some r := H
    have A65 := Aside0.mk A650
    clear A650
    obtain rfl := Option.some.inj H
    go_wp2_with (first | ((with_reducible refine gate_callee (f := 9) rfl ?_); refine goesL_ (some 54) rfl rfl Try.func9 (by kernel_rfl) rfl #[] rfl (by (try simp only [List.map_toArray, List.map_cons, List.map_nil]); first | done | rfl | (simp only [List.length_drop, List.length_take]; rfl)) ?_; (with_reducible refine (anamnesislaw05_fixed.calls kj3  t525 _ A65.out).mono ?_); rintro e w66 ⟨rfl, hb⟩; refine ⟨_, rfl, ?_⟩; have n0_ := Aside0.mk (blk_below (g := gb518) (o := .cells #[.slice A0_0 l0_0.length c0_0, .int .i64 a0_1, .int .i64 a0_2] 24 (0, 0)) (by (with_reducible repeat (first | refine blk_drewN ?_ _ | refine blk_drew ?_ | refine blk_alloc ?_ _)); exact BK518.out) hb); have n1_ := Aside0.mk (blk_below (g := gb519) (o := .cells #[.int .i64 a2_0, .int .i64 a2_1] 47 (0, 0)) (by (with_reducible repeat (first | refine blk_drewN ?_ _ | refine blk_drew ?_ | refine blk_alloc ?_ _)); exact BK519.out) hb); have n2_ := Aside0.mk (below_step (by repeat (first | (with_reducible first | exact HB.out | apply below_alloc | apply pw_below_drewN | apply below_drew1 | refine below_set ?_ GE518.out | refine below_set ?_ GE519.out) | exact HB.out)) hb); clear BK518; clear BK519; clear HB; have BK518 := n0_; have BK519 := n1_; have HB := n2_; clear n0_ n1_ n2_; (try clear hb); (try clear hb2); (try clear hk); (try clear hi)))
    go_ret
    exact ⟨by first | rfl | (simp [errW_none, errW_some] <;> rfl) | (simp [*, errW_none, errW_some] <;> rfl), by repeat (first | (with_reducible first | exact HB.out | apply below_alloc | apply pw_below_drewN | apply below_drew1 | refine below_set ?_ GE518.out | refine below_set ?_ GE519.out) | exact HB.out)⟩
   ·replace c64 := Bool.eq_false_iff.mpr c64
    subst c64
    have H1 : ((move_Table.f kj3 l0_0 a0_1 a0_2 l1).bind fun bt526 => ((anamnesisref04_Live.f kj3 l0_0 a0_1 a0_2 l1).bind fun bt530 => (if bt526.2 = bt530.2 then (anamnesislaw05_MoveValues.j1 kj3 bt526.1 bt526.2 bt530.1 bt530.2 (bt526.2 != 0) l0_0 a0_1 a0_2 a2_0 a2_1) else (anamnesislaw05_MoveValues.j1 kj3 bt526.1 bt526.2 bt530.1 bt530.2 true l0_0 a0_1 a0_2 a2_0 a2_1)))) = some r := by rw [if_neg (show ¬ (false = true) by decide)] at H; exact H
    clear H
    have H := H1
    clear H1
    replace H := Option.bind_eq_some_iff.mp H
    obtain ⟨⟨t526, t529⟩, A670, H⟩ := H
    replace H : ((anamnesisref04_Live.f kj3 l0_0 a0_1 a0_2 l1).bind fun bt530 => (if t529 = bt530.2 then (anamnesislaw05_MoveValues.j1 kj3 t526 t529 bt530.1 bt530.2 (t529 != 0) l0_0 a0_1 a0_2 a2_0 a2_1) else (anamnesislaw05_MoveValues.j1 kj3 t526 t529 bt530.1 bt530.2 true l0_0 a0_1 a0_2 a2_0 a2_1))) = some r := H
    have A67 := Aside0.mk A670
    clear A670
    replace H := Option.bind_eq_some_iff.mp H
    obtain ⟨⟨t530, t533⟩, A680, H⟩ := H
    replace H : (if t529 = t533 then (anamnesislaw05_MoveValues.j1 kj3 t526 t529 t530 t533 (t529 != 0) l0_0 a0_1 a0_2 a2_0 a2_1) else (anamnesislaw05_MoveValues.j1 kj3 t526 t529 t530 t533 true l0_0 a0_1 a0_2 a2_0 a2_1)) = some r := H
    have A68 := Aside0.mk A680
    clear A680
    have HC69 := Aside0.mk H
    clear H
    have hnb70 := NB518_519.out
    have hnc70 := NB519_518.out
    have hcz71_0 : wc.cell? ⟨gb518, 0, none⟩ = some (.slice A0_0 l0_0.length c0_0) := (blk_cell BK518.out 0).trans rfl
    have hcz71_1 : wc.cell? ⟨gb518, 1, none⟩ = some (.int .i64 a0_1) := (blk_cell BK518.out 1).trans rfl
    have hcz71_2 : wc.cell? ⟨gb518, 2, none⟩ = some (.int .i64 a0_2) := (blk_cell BK518.out 2).trans rfl
    have hfz71_0 := blk_frozen BK518.out 0
    have hfz71_1 := blk_frozen BK518.out 1
    have hfz71_2 := blk_frozen BK518.out 2
    go_upto_region 5 with (first | ((with_reducible refine gate_callee (f := 10) rfl ?_); refine goesL_ (some 58) rfl rfl Try.func10 (by kernel_rfl) rfl #[.agg #[.slice A0_0 l0_0.length c0_0, .int .i64 a0_1, .int .i64 a0_2], .slice A1 l1.length c1] rfl (by (try simp only [List.map_toArray, List.map_cons, List.map_nil]); first | done | rfl | (simp only [List.length_drop, List.length_take]; rfl)) ?_; (with_reducible refine (move_Table.calls kj3 _ _ l0_0 a0_1 a0_2 _ _ l1 t526 t529 _ ?side1 ?side2 ?side3 ?side4 A67.out).mono ?_); (case side1 => repeat (first | exact (Kd.C_below HR0_0.out HB.out) | (with_reducible refine Kd.C_alloc ?_ _) | (with_reducible refine Kd.C_drewN ?_ _) | (with_reducible refine Kd.C_drew ?_))); (case side2 => exact HC0_0.out); (case side3 => repeat (first | exact (Kd.C_below HR1.out HB.out) | (with_reducible refine Kd.C_alloc ?_ _) | (with_reducible refine Kd.C_drewN ?_ _) | (with_reducible refine Kd.C_drew ?_))); (case side4 => exact HC1.out); rintro e w72 ⟨v527, rfl, ho0, hb⟩; refine ⟨_, rfl, ?_⟩; have n0_ := Aside0.mk (Kd.R_lower ho0 (below_size (by repeat (first | (with_reducible first | exact HB.out | apply below_alloc | apply pw_below_drewN | apply below_drew1 | refine below_set ?_ GE518.out | refine below_set ?_ GE519.out) | exact HB.out)))); have n1_ := Aside0.mk (blk_below (g := gb518) (o := .cells #[.slice A0_0 l0_0.length c0_0, .int .i64 a0_1, .int .i64 a0_2] 24 (0, 0)) (by (with_reducible repeat (first | refine blk_drewN ?_ _ | refine blk_drew ?_ | refine blk_alloc ?_ _)); exact BK518.out) hb); have n2_ := Aside0.mk (blk_below (g := gb519) (o := .cells #[.int .i64 a2_0, .int .i64 a2_1] 47 (0, 0)) (by (with_reducible repeat (first | refine blk_drewN ?_ _ | refine blk_drew ?_ | refine blk_alloc ?_ _)); exact BK519.out) hb); have n3_ := Aside0.mk (below_step (by repeat (first | (with_reducible first | exact HB.out | apply below_alloc | apply pw_below_drewN | apply below_drew1 | refine below_set ?_ GE518.out | refine below_set ?_ GE519.out) | exact HB.out)) hb); clear BK518; clear BK519; clear HB; have HO528 := n0_; have BK518 := n1_; have BK519 := n2_; have HB := n3_; clear n0_ n1_ n2_ n3_; (try clear hb); (try clear hb2); (try clear hk); (try clear hi); (try clear ho0); have hcz73_0 : w72.cell? ⟨gb518, 0, none⟩ = some (.slice A0_0 l0_0.length c0_0) := (blk_cell BK518.out 0).trans rfl; have hcz73_1 : w72.cell? ⟨gb518, 1, none⟩ = some (.int .i64 a0_1) := (blk_cell BK518.out 1).trans rfl; have hcz73_2 : w72.cell? ⟨gb518, 2, none⟩ = some (.int .i64 a0_2) := (blk_cell BK518.out 2).trans rfl; have hfz73_0 := blk_frozen BK518.out 0; have hfz73_1 := blk_frozen BK518.out 1; have hfz73_2 := blk_frozen BK518.out 2) | ((with_reducible refine gate_callee (f := 19) rfl ?_); refine goesL_ (some 64) rfl rfl Try.func19 (by kernel_rfl) rfl #[.agg #[.slice A0_0 l0_0.length c0_0, .int .i64 a0_1, .int .i64 a0_2], .slice A1 l1.length c1] rfl (by (try simp only [List.map_toArray, List.map_cons, List.map_nil]); first | done | rfl | (simp only [List.length_drop, List.length_take]; rfl)) ?_; (with_reducible refine (anamnesisref04_Live.calls kj3 _ _ l0_0 a0_1 a0_2 _ _ l1 t530 t533 _ ?side1 ?side2 ?side3 ?side4 A68.out).mono ?_); (case side1 => repeat (first | exact (Kd.C_below HR0_0.out HB.out) | (with_reducible refine Kd.C_alloc ?_ _) | (with_reducible refine Kd.C_drewN ?_ _) | (with_reducible refine Kd.C_drew ?_))); (case side2 => exact HC0_0.out); (case side3 => repeat (first | exact (Kd.C_below HR1.out HB.out) | (with_reducible refine Kd.C_alloc ?_ _) | (with_reducible refine Kd.C_drewN ?_ _) | (with_reducible refine Kd.C_drew ?_))); (case side4 => exact HC1.out); rintro e w74 ⟨v531, rfl, ho0, hb⟩; refine ⟨_, rfl, ?_⟩; have n0_ := Aside0.mk (Kd.R_elder' (by (with_reducible repeat (first | apply Kd.R_alloc | apply Kd.R_drewN | apply Kd.R_drew)); exact HO528.out) (Kd.R_base ho0) hb); have n1_ := Aside0.mk (Kd.R_lower (Kd.R_new' ho0 (Kd.R_lt (by (with_reducible repeat (first | apply Kd.R_alloc | apply Kd.R_drewN | apply Kd.R_drew)); exact HO528.out))) (below_size (by repeat (first | (with_reducible first | exact HB.out | apply below_alloc | apply pw_below_drewN | apply below_drew1 | refine below_set ?_ GE518.out | refine below_set ?_ GE519.out) | exact HB.out)))); have n2_ := Aside0.mk (blk_below (g := gb518) (o := .cells #[.slice A0_0 l0_0.length c0_0, .int .i64 a0_1, .int .i64 a0_2] 24 (0, 0)) (by (with_reducible repeat (first | refine blk_drewN ?_ _ | refine blk_drew ?_ | refine blk_alloc ?_ _)); exact BK518.out) hb); have n3_ := Aside0.mk (blk_below (g := gb519) (o := .cells #[.int .i64 a2_0, .int .i64 a2_1] 47 (0, 0)) (by (with_reducible repeat (first | refine blk_drewN ?_ _ | refine blk_drew ?_ | refine blk_alloc ?_ _)); exact BK519.out) hb); have n4_ := Aside0.mk (below_step (by repeat (first | (with_reducible first | exact HB.out | apply below_alloc | apply pw_below_drewN | apply below_drew1 | refine below_set ?_ GE518.out | refine below_set ?_ GE519.out) | exact HB.out)) hb); clear HO528; clear BK518; clear BK519; clear HB; have HO528 := n0_; have HO532 := n1_; have BK518 := n2_; have BK519 := n3_; have HB := n4_; clear n0_ n1_ n2_ n3_ n4_; (try clear hb); (try clear hb2); (try clear hk); (try clear hi); (try clear ho0)))
    (try simp only [Act.put, List.setIfInBounds_toArray, List.set_cons_zero, List.set_cons_succ])
    go_cut [73] (fun v73 wc => ∃ (kq : Nat) (x73_68 : Bool), v73 = .bool x73_68 ∧ Aside0 (anamnesislaw05_MoveValues.j1 kq t526 t529 t530 t533 x73_68 l0_0 a0_1 a0_2 a2_0 a2_1 = some r) ∧ Aside0 (kq ≤ kj3) ∧ Aside0 (Kd.R (Kd.int .i64) 3 wc w.heap.size (fun k_ => some k_ ≠ (v531 : Value).ownBlock) v527 t526) ∧ Aside0 (Kd.R (Kd.int .i64) 3 wc w.heap.size (fun k_ => some k_ ≠ (v527 : Value).ownBlock) v531 t530) ∧ Aside0 (wc.heap[gb518]? = some (.cells #[(.slice A0_0 l0_0.length c0_0), .int .i64 a0_1, .int .i64 a0_2] 24 (0, 0))) ∧ Aside0 (wc.heap[gb519]? = some (.cells #[.int .i64 a2_0, .int .i64 a2_1] 47 (0, 0))) ∧ Aside0 (Below w.heap.size w wc))
    case first =>
     have H := HC69.out
     clear HC69
     by_cases c75 : t529 = t533
     ·rw [if_pos c75] at H
      have c75b0 : (t529 == t533) = true := beq_iff_eq.mpr c75
      have c75b1 : (t529 != t533) = false := bne_eq_false_iff_eq.mpr c75
      clear c75
      (first | rw [c75b0] | (simp only [i64_w, i32_w]; rw [c75b0]) | skip)
      have H' := Aside0.mk H
      clear H
      go_wp2
      go_meet
      case rel => exact ⟨_, ((t529 != 0)), (by first | rfl | (simp; done) | (simp [*]; done)), H', ⟨by have := HJ3.out; first | omega | exact Nat.le_refl _⟩, ⟨by (with_reducible repeat (first | apply Kd.R_alloc | apply Kd.R_drewN | apply Kd.R_drew)); exact Kd.R_mono HO528.out (fun _ hk => hk.2)⟩, ⟨by (with_reducible repeat (first | apply Kd.R_alloc | apply Kd.R_drewN | apply Kd.R_drew)); exact Kd.R_mono HO532.out (fun _ hk => hk.2)⟩, ⟨by (with_reducible repeat (first | refine blk_drewN ?_ _ | refine blk_drew ?_ | refine blk_alloc ?_ _)); exact BK518.out⟩, ⟨by (with_reducible repeat (first | refine blk_drewN ?_ _ | refine blk_drew ?_ | refine blk_alloc ?_ _)); exact BK519.out⟩, ⟨by repeat (first | (with_reducible first | exact HB.out | apply below_alloc | apply pw_below_drewN | apply below_drew1 | refine below_set ?_ GE518.out | refine below_set ?_ GE519.out) | exact HB.out)⟩⟩
     ·rw [if_neg c75] at H
      have c75b0 : (t529 == t533) = false := beq_eq_false_iff_ne.mpr c75
      have c75b1 : (t529 != t533) = true := bne_iff_ne.mpr c75
      (first | rw [c75b0] | (simp only [i64_w, i32_w]; rw [c75b0]) | skip)
      have H' := Aside0.mk H
      clear H
      go_wp2
      go_meet
      case rel => exact ⟨_, (true), (by first | rfl | (simp; done) | (simp [*]; done)), H', ⟨by have := HJ3.out; first | omega | exact Nat.le_refl _⟩, ⟨by (with_reducible repeat (first | apply Kd.R_alloc | apply Kd.R_drewN | apply Kd.R_drew)); exact Kd.R_mono HO528.out (fun _ hk => hk.2)⟩, ⟨by (with_reducible repeat (first | apply Kd.R_alloc | apply Kd.R_drewN | apply Kd.R_drew)); exact Kd.R_mono HO532.out (fun _ hk => hk.2)⟩, ⟨by (with_reducible repeat (first | refine blk_drewN ?_ _ | refine blk_drew ?_ | refine blk_alloc ?_ _)); exact BK518.out⟩, ⟨by (with_reducible repeat (first | refine blk_drewN ?_ _ | refine blk_drew ?_ | refine blk_alloc ?_ _)); exact BK519.out⟩, ⟨by repeat (first | (with_reducible first | exact HB.out | apply below_alloc | apply pw_below_drewN | apply below_drew1 | refine below_set ?_ GE518.out | refine below_set ?_ GE519.out) | exact HB.out)⟩⟩
    case rest =>
     clear HC69
     try clear c1
     try clear c2
     try clear p2
     try clear c3
     try clear c4
     try clear c5
     try clear c6
     try clear c7
     try clear c8
     try clear c9
     try clear c10
     try clear c12
     try clear c13
     try clear c13b0
     try clear c13b1
     try clear c15
     try clear c19
     try clear c21
     try clear c21b0
     try clear c21b1
     try clear c23
     try clear c30
     try clear c33
     try clear c45
     try clear c54
     try clear c60
     try clear c64
     try clear c70
     try clear c75
     try clear c75b0
     try clear c75b1
     try clear hcz16_0
     try clear hcz16_1
     try clear hcz16_2
     try clear hcz18_0
     try clear hcz18_1
     try clear hcz18_2
     try clear hcz20_0
     try clear hcz20_1
     try clear hcz20_2
     try clear hcz24_0
     try clear hcz24_1
     try clear hcz24_2
     try clear hcz26_0
     try clear hcz26_1
     try clear hcz26_2
     try clear hcz28_0
     try clear hcz28_1
     try clear hcz28_2
     try clear hcz34_0
     try clear hcz34_1
     try clear hcz34_2
     try clear hcz36_0
     try clear hcz36_1
     try clear hcz36_2
     try clear hcz38_0
     try clear hcz38_1
     try clear hcz38_2
     try clear hcz39_0
     try clear hcz39_1
     try clear hcz41_0
     try clear hcz41_1
     try clear hcz41_2
     try clear hcz42_0
     try clear hcz42_1
     try clear hcz46_0
     try clear hcz46_1
     try clear hcz46_2
     try clear hcz48_0
     try clear hcz48_1
     try clear hcz48_2
     try clear hcz50_0
     try clear hcz50_1
     try clear hcz50_2
     try clear hcz51_0
     try clear hcz51_1
     try clear hcz55_0
     try clear hcz55_1
     try clear hcz55_2
     try clear hcz57_0
     try clear hcz57_1
     try clear hcz57_2
     try clear hcz61_0
     try clear hcz61_1
     try clear hcz61_2
     try clear hcz71_0
     try clear hcz71_1
     try clear hcz71_2
     try clear hcz73_0
     try clear hcz73_1
     try clear hcz73_2
     try clear hfz16_0
     try clear hfz16_1
     try clear hfz16_2
     try clear hfz18_0
     try clear hfz18_1
     try clear hfz18_2
     try clear hfz20_0
     try clear hfz20_1
     try clear hfz20_2
     try clear hfz24_0
     try clear hfz24_1
     try clear hfz24_2
     try clear hfz26_0
     try clear hfz26_1
     try clear hfz26_2
     try clear hfz28_0
     try clear hfz28_1
     try clear hfz28_2
     try clear hfz34_0
     try clear hfz34_1
     try clear hfz34_2
     try clear hfz36_0
     try clear hfz36_1
     try clear hfz36_2
     try clear hfz38_0
     try clear hfz38_1
     try clear hfz38_2
     try clear hfz39_0
     try clear hfz39_1
     try clear hfz41_0
     try clear hfz41_1
     try clear hfz41_2
     try clear hfz42_0
     try clear hfz42_1
     try clear hfz46_0
     try clear hfz46_1
     try clear hfz46_2
     try clear hfz48_0
     try clear hfz48_1
     try clear hfz48_2
     try clear hfz50_0
     try clear hfz50_1
     try clear hfz50_2
     try clear hfz51_0
     try clear hfz51_1
     try clear hfz55_0
     try clear hfz55_1
     try clear hfz55_2
     try clear hfz57_0
     try clear hfz57_1
     try clear hfz57_2
     try clear hfz61_0
     try clear hfz61_1
     try clear hfz61_2
     try clear hfz71_0
     try clear hfz71_1
     try clear hfz71_2
     try clear hfz73_0
     try clear hfz73_1
     try clear hfz73_2
     try clear p2
     obtain ⟨kq, x73_68, rfl, HA, HJ68, HO_7, HO_9, BK518, BK519, HB⟩ := hcut
     cases kq with
     | zero => exact absurd HA.out (by simp [anamnesislaw05_MoveValues.j1])
     | succ kj68 =>
      have H := HA.out
      clear HA
      simp only [anamnesislaw05_MoveValues.j1] at H
      by_cases c76 : x73_68 = true
      ·subst c76
       have H1 : (some (t529 == t533)) = some r := by rw [if_pos rfl] at H; exact H
       clear H
       have H := H1
       clear H1
       obtain rfl := Option.some.inj H
       go_wp2
       go_ret
       exact ⟨by first | rfl | (simp [errW_none, errW_some] <;> rfl) | (simp [*, errW_none, errW_some] <;> rfl), by repeat (first | (with_reducible first | exact HB.out | apply below_alloc | apply pw_below_drewN | apply below_drew1 | refine below_set ?_ GE518.out | refine below_set ?_ GE519.out) | exact HB.out)⟩
      ·replace c76 := Bool.eq_false_iff.mpr c76
       subst c76
       have H1 : ((move_Value.f t526 a2_0).bind fun bt534 => ((move_Value.f t526 a2_1).bind fun bt536 => ((anamnesisref03_Ref.f l0_0 a0_1 a0_2 a2_0).bind fun t538 => ((anamnesisref03_Ref.f l0_0 a0_1 a0_2 a2_1).bind fun t539 => (if t538 < 0 then (if (bt534.2 == true) = true then (if t539 < 0 then (if (bt536.2 == true) = true then (if bt534.2 = true then (if bt536.2 = true then (some ((bt534.1 == bt536.1) == (a2_0 == a2_1))) else (some true)) else (some true)) else (none)) else ((anamnesisref04_In.f kj68 t530 t539).bind fun t540 => (if (bt536.2 == t540) = true then (if bt534.2 = true then (if bt536.2 = true then (some ((bt534.1 == bt536.1) == (a2_0 == a2_1))) else (some true)) else (some true)) else (none)))) else (none)) else ((anamnesisref04_In.f kj68 t530 t538).bind fun t541 => (if (bt534.2 == t541) = true then (if t539 < 0 then (if (bt536.2 == true) = true then (if bt534.2 = true then (if bt536.2 = true then (some ((bt534.1 == bt536.1) == (a2_0 == a2_1))) else (some true)) else (some true)) else (none)) else ((anamnesisref04_In.f kj68 t530 t539).bind fun t542 => (if (bt536.2 == t542) = true then (if bt534.2 = true then (if bt536.2 = true then (some ((bt534.1 == bt536.1) == (a2_0 == a2_1))) else (some true)) else (some true)) else (none)))) else (none)))))))) = some r := by rw [if_neg (show ¬ (false = true) by decide)] at H; exact H
       clear H
       have H := H1
       clear H1
       replace H := Option.bind_eq_some_iff.mp H
       obtain ⟨⟨t534, t535⟩, A770, H⟩ := H
       replace H : ((move_Value.f t526 a2_1).bind fun bt536 => ((anamnesisref03_Ref.f l0_0 a0_1 a0_2 a2_0).bind fun t538 => ((anamnesisref03_Ref.f l0_0 a0_1 a0_2 a2_1).bind fun t539 => (if t538 < 0 then (if (t535 == true) = true then (if t539 < 0 then (if (bt536.2 == true) = true then (if t535 = true then (if bt536.2 = true then (some ((t534 == bt536.1) == (a2_0 == a2_1))) else (some true)) else (some true)) else (none)) else ((anamnesisref04_In.f kj68 t530 t539).bind fun t540 => (if (bt536.2 == t540) = true then (if t535 = true then (if bt536.2 = true then (some ((t534 == bt536.1) == (a2_0 == a2_1))) else (some true)) else (some true)) else (none)))) else (none)) else ((anamnesisref04_In.f kj68 t530 t538).bind fun t541 => (if (t535 == t541) = true then (if t539 < 0 then (if (bt536.2 == true) = true then (if t535 = true then (if bt536.2 = true then (some ((t534 == bt536.1) == (a2_0 == a2_1))) else (some true)) else (some true)) else (none)) else ((anamnesisref04_In.f kj68 t530 t539).bind fun t542 => (if (bt536.2 == t542) = true then (if t535 = true then (if bt536.2 = true then (some ((t534 == bt536.1) == (a2_0 == a2_1))) else (some true)) else (some true)) else (none)))) else (none))))))) = some r := H
       have A77 := Aside0.mk A770
       clear A770
       replace H := Option.bind_eq_some_iff.mp H
       obtain ⟨⟨t536, t537⟩, A780, H⟩ := H
       replace H : ((anamnesisref03_Ref.f l0_0 a0_1 a0_2 a2_0).bind fun t538 => ((anamnesisref03_Ref.f l0_0 a0_1 a0_2 a2_1).bind fun t539 => (if t538 < 0 then (if (t535 == true) = true then (if t539 < 0 then (if (t537 == true) = true then (if t535 = true then (if t537 = true then (some ((t534 == t536) == (a2_0 == a2_1))) else (some true)) else (some true)) else (none)) else ((anamnesisref04_In.f kj68 t530 t539).bind fun t540 => (if (t537 == t540) = true then (if t535 = true then (if t537 = true then (some ((t534 == t536) == (a2_0 == a2_1))) else (some true)) else (some true)) else (none)))) else (none)) else ((anamnesisref04_In.f kj68 t530 t538).bind fun t541 => (if (t535 == t541) = true then (if t539 < 0 then (if (t537 == true) = true then (if t535 = true then (if t537 = true then (some ((t534 == t536) == (a2_0 == a2_1))) else (some true)) else (some true)) else (none)) else ((anamnesisref04_In.f kj68 t530 t539).bind fun t542 => (if (t537 == t542) = true then (if t535 = true then (if t537 = true then (some ((t534 == t536) == (a2_0 == a2_1))) else (some true)) else (some true)) else (none)))) else (none)))))) = some r := H
       have A78 := Aside0.mk A780
       clear A780
       replace H := Option.bind_eq_some_iff.mp H
       obtain ⟨t538, A790, H⟩ := H
       replace H : ((anamnesisref03_Ref.f l0_0 a0_1 a0_2 a2_1).bind fun t539 => (if t538 < 0 then (if (t535 == true) = true then (if t539 < 0 then (if (t537 == true) = true then (if t535 = true then (if t537 = true then (some ((t534 == t536) == (a2_0 == a2_1))) else (some true)) else (some true)) else (none)) else ((anamnesisref04_In.f kj68 t530 t539).bind fun t540 => (if (t537 == t540) = true then (if t535 = true then (if t537 = true then (some ((t534 == t536) == (a2_0 == a2_1))) else (some true)) else (some true)) else (none)))) else (none)) else ((anamnesisref04_In.f kj68 t530 t538).bind fun t541 => (if (t535 == t541) = true then (if t539 < 0 then (if (t537 == true) = true then (if t535 = true then (if t537 = true then (some ((t534 == t536) == (a2_0 == a2_1))) else (some true)) else (some true)) else (none)) else ((anamnesisref04_In.f kj68 t530 t539).bind fun t542 => (if (t537 == t542) = true then (if t535 = true then (if t537 = true then (some ((t534 == t536) == (a2_0 == a2_1))) else (some true)) else (some true)) else (none)))) else (none))))) = some r := H
       have A79 := Aside0.mk A790
       clear A790
       replace H := Option.bind_eq_some_iff.mp H
       obtain ⟨t539, A800, H⟩ := H
       replace H : (if t538 < 0 then (if (t535 == true) = true then (if t539 < 0 then (if (t537 == true) = true then (if t535 = true then (if t537 = true then (some ((t534 == t536) == (a2_0 == a2_1))) else (some true)) else (some true)) else (none)) else ((anamnesisref04_In.f kj68 t530 t539).bind fun t540 => (if (t537 == t540) = true then (if t535 = true then (if t537 = true then (some ((t534 == t536) == (a2_0 == a2_1))) else (some true)) else (some true)) else (none)))) else (none)) else ((anamnesisref04_In.f kj68 t530 t538).bind fun t541 => (if (t535 == t541) = true then (if t539 < 0 then (if (t537 == true) = true then (if t535 = true then (if t537 = true then (some ((t534 == t536) == (a2_0 == a2_1))) else (some true)) else (some true)) else (none)) else ((anamnesisref04_In.f kj68 t530 t539).bind fun t542 => (if (t537 == t542) = true then (if t535 = true then (if t537 = true then (some ((t534 == t536) == (a2_0 == a2_1))) else (some true)) else (some true)) else (none)))) else (none)))) = some r := H
       have A80 := Aside0.mk A800
       clear A800
       by_cases c81 : t538 < 0
       ·rw [if_pos c81] at H
        have c81b0 : decide (t538 < 0) = true := decide_eq_true c81
        clear c81
        by_cases c82 : (t535 == true) = true
        ·rw [if_pos c82] at H
         have c82b0 : (t535 == true) = true := c82
         (try (have c82b1 : decide (t535 = true) = true := by simpa using c82))
         (try (have c82b2 : (t535 == true) = true := by simpa using c82))
         clear c82
         by_cases c83 : t539 < 0
         ·rw [if_pos c83] at H
          have c83b0 : decide (t539 < 0) = true := decide_eq_true c83
          clear c83
          by_cases c84 : (t537 == true) = true
          ·rw [if_pos c84] at H
           have c84b0 : (t537 == true) = true := c84
           (try (have c84b1 : decide (t537 = true) = true := by simpa using c84))
           (try (have c84b2 : (t537 == true) = true := by simpa using c84))
           clear c84
           by_cases c85 : t535 = true
           ·subst c85
            have H1 : (if t537 = true then (some ((t534 == t536) == (a2_0 == a2_1))) else (some true)) = some r := by rw [if_pos rfl] at H; exact H
            clear H
            have H := H1
            clear H1
            by_cases c86 : t537 = true
            ·subst c86
             have H1 : (some ((t534 == t536) == (a2_0 == a2_1))) = some r := by rw [if_pos rfl] at H; exact H
             clear H
             have H := H1
             clear H1
             obtain rfl := Option.some.inj H
             have hnb87 := NB519_518.out
             have hnc87 := NB518_519.out
             have hcz88_0 : wc.cell? ⟨gb519, 0, none⟩ = some (.int .i64 a2_0) := (blk_cell BK519.out 0).trans rfl
             have hcz88_1 : wc.cell? ⟨gb519, 1, none⟩ = some (.int .i64 a2_1) := (blk_cell BK519.out 1).trans rfl
             have hfz88_0 := blk_frozen BK519.out 0
             have hfz88_1 := blk_frozen BK519.out 1
             obtain ⟨Ao89, co89, eo89⟩ := Kd.R_slice HO_7.out
             subst eo89
             try go_wp2_with (first | ((with_reducible refine gate_callee (f := 14) rfl ?_); refine goesL_ (some 81) rfl rfl Try.func14 (by kernel_rfl) rfl #[.slice Ao89 t526.length co89, .int .i64 a2_0] rfl (by (try simp only [List.map_toArray, List.map_cons, List.map_nil]); first | done | rfl | (simp only [List.length_drop, List.length_take]; rfl)) ?_; (with_reducible refine (move_Value.calls _ _ t526 a2_0 t534 true _ ?side1 ?side2 A77.out).mono ?_); (case side1 => repeat (first | exact (Kd.R_reads' HO_7.out).2.2 | (with_reducible refine Kd.C_alloc ?_ _) | (with_reducible refine Kd.C_drewN ?_ _) | (with_reducible refine Kd.C_drew ?_))); (case side2 => exact (Kd.R_reads' HO_7.out).2.1); rintro e w' ⟨rfl, ⟨nd, rfl⟩⟩; refine ⟨_, rfl, ?_⟩) | ((with_reducible refine gate_callee (f := 14) rfl ?_); refine goesL_ (some 88) rfl rfl Try.func14 (by kernel_rfl) rfl #[.slice Ao89 t526.length co89, .int .i64 a2_1] rfl (by (try simp only [List.map_toArray, List.map_cons, List.map_nil]); first | done | rfl | (simp only [List.length_drop, List.length_take]; rfl)) ?_; (with_reducible refine (move_Value.calls _ _ t526 a2_1 t536 true _ ?side1 ?side2 A78.out).mono ?_); (case side1 => repeat (first | exact (Kd.R_reads' HO_7.out).2.2 | (with_reducible refine Kd.C_alloc ?_ _) | (with_reducible refine Kd.C_drewN ?_ _) | (with_reducible refine Kd.C_drew ?_))); (case side2 => exact (Kd.R_reads' HO_7.out).2.1); rintro e w' ⟨rfl, ⟨nd, rfl⟩⟩; refine ⟨_, rfl, ?_⟩))
             (try (rw [drewN_self wc]; generalize hq_ : World.drewN wc _ = wc; have n0_ : Aside0 (Kd.R (Kd.int .i64) 3 wc w.heap.size (fun k_ => some k_ ≠ (v531 : Value).ownBlock) (.slice Ao89 t526.length co89) t526) := ⟨by rw [← hq_]; exact (by (with_reducible repeat (first | apply Kd.R_alloc | apply Kd.R_drewN | apply Kd.R_drew)); exact HO_7.out)⟩; have n1_ : Aside0 (Kd.R (Kd.int .i64) 3 wc w.heap.size (fun k_ => some k_ ≠ (.slice Ao89 t526.length co89 : Value).ownBlock) v531 t530) := ⟨by rw [← hq_]; exact (by (with_reducible repeat (first | apply Kd.R_alloc | apply Kd.R_drewN | apply Kd.R_drew)); exact HO_9.out)⟩; have n2_ : Aside0 (wc.heap[gb518]? = some (.cells #[.slice A0_0 l0_0.length c0_0, .int .i64 a0_1, .int .i64 a0_2] 24 (0, 0))) := ⟨by rw [← hq_]; exact (by (with_reducible repeat (first | refine blk_drewN ?_ _ | refine blk_drew ?_ | refine blk_alloc ?_ _)); exact BK518.out)⟩; have n3_ : Aside0 (wc.heap[gb519]? = some (.cells #[.int .i64 a2_0, .int .i64 a2_1] 47 (0, 0))) := ⟨by rw [← hq_]; exact (by (with_reducible repeat (first | refine blk_drewN ?_ _ | refine blk_drew ?_ | refine blk_alloc ?_ _)); exact BK519.out)⟩; have n4_ : Aside0 (Below w.heap.size w wc) := ⟨by rw [← hq_]; exact (by repeat (first | (with_reducible first | exact HB.out | apply below_alloc | apply pw_below_drewN | apply below_drew1 | refine below_set ?_ GE518.out | refine below_set ?_ GE519.out) | exact HB.out))⟩; clear HO_7 HO_9 BK518 BK519 HB hq_; have HO_7 := n0_; have HO_9 := n1_; have BK518 := n2_; have BK519 := n3_; have HB := n4_; clear n0_ n1_ n2_ n3_ n4_))
             have n0_ := Aside0.mk (Kd.R_drew HO_7.out)
             have n1_ := Aside0.mk (Kd.R_drew HO_9.out)
             have n2_ := Aside0.mk (blk_drew BK518.out)
             have n3_ := Aside0.mk (blk_drew BK519.out)
             have n4_ := Aside0.mk (below_drew1 HB.out)
             clear HO_7
             clear HO_9
             clear BK518
             clear BK519
             clear HB
             have HO_7 := n0_
             have HO_9 := n1_
             have BK518 := n2_
             have BK519 := n3_
             have HB := n4_
             clear n0_ n1_ n2_ n3_ n4_
             refine start_ (n := 10) (S := fun w' => w'.cell? ⟨gb518, 0, none⟩ = some (.slice A0_0 l0_0.length c0_0) ∧ w'.cell? ⟨gb518, 1, none⟩ = some (.int .i64 a0_1) ∧ w'.cell? ⟨gb518, 2, none⟩ = some (.int .i64 a0_2) ∧ w'.cell? ⟨gb519, 0, none⟩ = some (.int .i64 a2_0) ∧ w'.cell? ⟨gb519, 1, none⟩ = some (.int .i64 a2_1)) (ds := []) #[false, false, false, false, false, false, false, false, false, false] (by kernel_rfl) rfl rfl ⟨(blk_cell BK518.out 0).trans rfl, (blk_cell BK518.out 1).trans rfl, (blk_cell BK518.out 2).trans rfl, (blk_cell BK519.out 0).trans rfl, (blk_cell BK519.out 1).trans rfl⟩ (fun hHeld => ?_); refine with_tabW anamnesislaw05_MoveValues.tab9 anamnesislaw05_MoveValues.bits9 (fun HT_ HW_ => ?_)
             generalize wc.drew = w90 at HO_7 HO_9 BK518 BK519 HB hHeld ⊢
             refine pure1 (i := 1) (N := some 92) #[false, true, false, false, false, false, false, false, false, false] HT_.out ?_
             refine pure1 (i := 5) (N := some 96) #[false, true, false, false, false, true, false, false, false, false] HT_.out ?_
             refine take1 (i := 0) (N := some 91) #[true, true, false, false, false, true, false, false, false, false] HT_.out HW_.out hHeld ?_
             refine take1 (i := 2) (N := some 93) #[true, true, true, false, false, true, false, false, false, false] HT_.out HW_.out hHeld ?_
             refine take1 (i := 4) (N := some 95) #[true, true, true, false, true, true, false, false, false, false] HT_.out HW_.out hHeld ?_
             refine take1 (i := 6) (N := some 97) #[true, true, true, false, true, true, true, false, false, false] HT_.out HW_.out hHeld ?_
             refine one_ (i := 3) (N := some 94) #[true, true, true, true, true, true, true, false, false, false] rfl rfl (one_of HT_.out (by kernel_rfl)) (by decide) (fun K hK => ?_)
             refine goes_ Try.func22 (by kernel_rfl) rfl #[.agg #[.slice A0_0 l0_0.length c0_0, .int .i64 a0_1, .int .i64 a0_2], .int .i64 a2_0] (by rfl) rfl rfl (by (try simp only [List.map_toArray, List.map_cons, List.map_nil]); first | done | rfl | (simp only [List.length_drop, List.length_take]; rfl)) ?_
             with_reducible refine (anamnesisref03_Ref.calls _ _ l0_0 a0_1 a0_2 a2_0 t538 _ ?side1 ?side2 A79.out).mono ?_
             (case side1 => repeat (first | exact (Kd.C_below HR0_0.out HB.out) | (with_reducible refine Kd.C_alloc ?_ _) | (with_reducible refine Kd.C_drewN ?_ _) | (with_reducible refine Kd.C_drew ?_)))
             (case side2 => exact HC0_0.out)
             rintro e w91 ⟨rfl, hb⟩
             refine ⟨_, rfl, ?_⟩
             have n0_ := Aside0.mk (Kd.R_below (by (with_reducible repeat (first | apply Kd.R_alloc | apply Kd.R_drewN | apply Kd.R_drew)); exact HO_7.out) hb)
             have n1_ := Aside0.mk (Kd.R_below (by (with_reducible repeat (first | apply Kd.R_alloc | apply Kd.R_drewN | apply Kd.R_drew)); exact HO_9.out) hb)
             have n2_ := Aside0.mk (blk_below (g := gb518) (o := .cells #[.slice A0_0 l0_0.length c0_0, .int .i64 a0_1, .int .i64 a0_2] 24 (0, 0)) (by (with_reducible repeat (first | refine blk_drewN ?_ _ | refine blk_drew ?_ | refine blk_alloc ?_ _)); exact BK518.out) hb)
             have n3_ := Aside0.mk (blk_below (g := gb519) (o := .cells #[.int .i64 a2_0, .int .i64 a2_1] 47 (0, 0)) (by (with_reducible repeat (first | refine blk_drewN ?_ _ | refine blk_drew ?_ | refine blk_alloc ?_ _)); exact BK519.out) hb)
             have n4_ := Aside0.mk (below_step (by repeat (first | (with_reducible first | exact HB.out | apply below_alloc | apply pw_below_drewN | apply below_drew1 | refine below_set ?_ GE518.out | refine below_set ?_ GE519.out) | exact HB.out)) hb)
             clear HO_7
             clear HO_9
             clear BK518
             clear BK519
             clear HB
             have HO_7 := n0_
             have HO_9 := n1_
             have BK518 := n2_
             have BK519 := n3_
             have HB := n4_
             clear n0_ n1_ n2_ n3_ n4_
             (try clear hb)
             (try clear hb2)
             (try clear hk)
             (try clear hi)
             refine hK.out _ _ ⟨(blk_cell BK518.out 0).trans rfl, (blk_cell BK518.out 1).trans rfl, (blk_cell BK518.out 2).trans rfl, (blk_cell BK519.out 0).trans rfl, (blk_cell BK519.out 1).trans rfl⟩ (fun hHeld => ?_)
             clear hK K
             refine norm_ (a' := ?_) ?_ ?_
             rotate_left
             ·show Act.put _ (some 94) _ = _
              simp only [Act.put, List.setIfInBounds_toArray, List.set_cons_zero, List.set_cons_succ, i64_w, i32_w]
              rfl
             refine one_ (i := 7) (N := some 98) #[true, true, true, true, true, true, true, true, false, false] rfl rfl (one_of HT_.out (by kernel_rfl)) (by decide) (fun K hK => ?_)
             refine goes_ Try.func22 (by kernel_rfl) rfl #[.agg #[.slice A0_0 l0_0.length c0_0, .int .i64 a0_1, .int .i64 a0_2], .int .i64 a2_1] (by rfl) rfl rfl (by (try simp only [List.map_toArray, List.map_cons, List.map_nil]); first | done | rfl | (simp only [List.length_drop, List.length_take]; rfl)) ?_
             with_reducible refine (anamnesisref03_Ref.calls _ _ l0_0 a0_1 a0_2 a2_1 t539 _ ?side1 ?side2 A80.out).mono ?_
             (case side1 => repeat (first | exact (Kd.C_below HR0_0.out HB.out) | (with_reducible refine Kd.C_alloc ?_ _) | (with_reducible refine Kd.C_drewN ?_ _) | (with_reducible refine Kd.C_drew ?_)))
             (case side2 => exact HC0_0.out)
             rintro e w92 ⟨rfl, hb⟩
             refine ⟨_, rfl, ?_⟩
             have n0_ := Aside0.mk (Kd.R_below (by (with_reducible repeat (first | apply Kd.R_alloc | apply Kd.R_drewN | apply Kd.R_drew)); exact HO_7.out) hb)
             have n1_ := Aside0.mk (Kd.R_below (by (with_reducible repeat (first | apply Kd.R_alloc | apply Kd.R_drewN | apply Kd.R_drew)); exact HO_9.out) hb)
             have n2_ := Aside0.mk (blk_below (g := gb518) (o := .cells #[.slice A0_0 l0_0.length c0_0, .int .i64 a0_1, .int .i64 a0_2] 24 (0, 0)) (by (with_reducible repeat (first | refine blk_drewN ?_ _ | refine blk_drew ?_ | refine blk_alloc ?_ _)); exact BK518.out) hb)
             have n3_ := Aside0.mk (blk_below (g := gb519) (o := .cells #[.int .i64 a2_0, .int .i64 a2_1] 47 (0, 0)) (by (with_reducible repeat (first | refine blk_drewN ?_ _ | refine blk_drew ?_ | refine blk_alloc ?_ _)); exact BK519.out) hb)
             have n4_ := Aside0.mk (below_step (by repeat (first | (with_reducible first | exact HB.out | apply below_alloc | apply pw_below_drewN | apply below_drew1 | refine below_set ?_ GE518.out | refine below_set ?_ GE519.out) | exact HB.out)) hb)
             clear HO_7
             clear HO_9
             clear BK518
             clear BK519
             clear HB
             have HO_7 := n0_
             have HO_9 := n1_
             have BK518 := n2_
             have BK519 := n3_
             have HB := n4_
             clear n0_ n1_ n2_ n3_ n4_
             (try clear hb)
             (try clear hb2)
             (try clear hk)
             (try clear hi)
             refine hK.out _ _ ⟨(blk_cell BK518.out 0).trans rfl, (blk_cell BK518.out 1).trans rfl, (blk_cell BK518.out 2).trans rfl, (blk_cell BK519.out 0).trans rfl, (blk_cell BK519.out 1).trans rfl⟩ (fun hHeld => ?_)
             clear hK K
             refine norm_ (a' := ?_) ?_ ?_
             rotate_left
             ·show Act.put _ (some 98) _ = _
              simp only [Act.put, List.setIfInBounds_toArray, List.set_cons_zero, List.set_cons_succ, i64_w, i32_w]
              rfl
             refine pure1 (i := 8) (N := some 15) #[true, true, true, true, true, true, true, true, true, false] HT_.out ?_
             refine pure1 (i := 9) (N := some 16) #[true, true, true, true, true, true, true, true, true, true] HT_.out ?_
             refine done_ (done_of HT_.out (by kernel_rfl)) ?_
             have hcz93_0 : w92.cell? ⟨gb519, 0, none⟩ = some (.int .i64 a2_0) := (blk_cell BK519.out 0).trans rfl
             have hcz93_1 : w92.cell? ⟨gb519, 1, none⟩ = some (.int .i64 a2_1) := (blk_cell BK519.out 1).trans rfl
             have hfz93_0 := blk_frozen BK519.out 0
             have hfz93_1 := blk_frozen BK519.out 1
             try go_wp2
             go_ret
             exact ⟨by first | rfl | (simp [errW_none, errW_some] <;> rfl) | (simp [*, errW_none, errW_some] <;> rfl), by repeat (first | (with_reducible first | exact HB.out | apply below_alloc | apply pw_below_drewN | apply below_drew1 | refine below_set ?_ GE518.out | refine below_set ?_ GE519.out) | exact HB.out)⟩
            ·replace c86 := Bool.eq_false_iff.mpr c86
             subst c86
             have H1 : (some true) = some r := by rw [if_neg (show ¬ (false = true) by decide)] at H; exact H
             clear H
             have H := H1
             clear H1
             obtain rfl := Option.some.inj H
             have hnb94 := NB519_518.out
             have hnc94 := NB518_519.out
             have hcz95_0 : wc.cell? ⟨gb519, 0, none⟩ = some (.int .i64 a2_0) := (blk_cell BK519.out 0).trans rfl
             have hcz95_1 : wc.cell? ⟨gb519, 1, none⟩ = some (.int .i64 a2_1) := (blk_cell BK519.out 1).trans rfl
             have hfz95_0 := blk_frozen BK519.out 0
             have hfz95_1 := blk_frozen BK519.out 1
             obtain ⟨Ao96, co96, eo96⟩ := Kd.R_slice HO_7.out
             subst eo96
             try go_wp2_with (first | ((with_reducible refine gate_callee (f := 14) rfl ?_); refine goesL_ (some 81) rfl rfl Try.func14 (by kernel_rfl) rfl #[.slice Ao96 t526.length co96, .int .i64 a2_0] rfl (by (try simp only [List.map_toArray, List.map_cons, List.map_nil]); first | done | rfl | (simp only [List.length_drop, List.length_take]; rfl)) ?_; (with_reducible refine (move_Value.calls _ _ t526 a2_0 t534 true _ ?side1 ?side2 A77.out).mono ?_); (case side1 => repeat (first | exact (Kd.R_reads' HO_7.out).2.2 | (with_reducible refine Kd.C_alloc ?_ _) | (with_reducible refine Kd.C_drewN ?_ _) | (with_reducible refine Kd.C_drew ?_))); (case side2 => exact (Kd.R_reads' HO_7.out).2.1); rintro e w' ⟨rfl, ⟨nd, rfl⟩⟩; refine ⟨_, rfl, ?_⟩) | ((with_reducible refine gate_callee (f := 14) rfl ?_); refine goesL_ (some 88) rfl rfl Try.func14 (by kernel_rfl) rfl #[.slice Ao96 t526.length co96, .int .i64 a2_1] rfl (by (try simp only [List.map_toArray, List.map_cons, List.map_nil]); first | done | rfl | (simp only [List.length_drop, List.length_take]; rfl)) ?_; (with_reducible refine (move_Value.calls _ _ t526 a2_1 t536 false _ ?side1 ?side2 A78.out).mono ?_); (case side1 => repeat (first | exact (Kd.R_reads' HO_7.out).2.2 | (with_reducible refine Kd.C_alloc ?_ _) | (with_reducible refine Kd.C_drewN ?_ _) | (with_reducible refine Kd.C_drew ?_))); (case side2 => exact (Kd.R_reads' HO_7.out).2.1); rintro e w' ⟨rfl, ⟨nd, rfl⟩⟩; refine ⟨_, rfl, ?_⟩))
             (try (rw [drewN_self wc]; generalize hq_ : World.drewN wc _ = wc; have n0_ : Aside0 (Kd.R (Kd.int .i64) 3 wc w.heap.size (fun k_ => some k_ ≠ (v531 : Value).ownBlock) (.slice Ao96 t526.length co96) t526) := ⟨by rw [← hq_]; exact (by (with_reducible repeat (first | apply Kd.R_alloc | apply Kd.R_drewN | apply Kd.R_drew)); exact HO_7.out)⟩; have n1_ : Aside0 (Kd.R (Kd.int .i64) 3 wc w.heap.size (fun k_ => some k_ ≠ (.slice Ao96 t526.length co96 : Value).ownBlock) v531 t530) := ⟨by rw [← hq_]; exact (by (with_reducible repeat (first | apply Kd.R_alloc | apply Kd.R_drewN | apply Kd.R_drew)); exact HO_9.out)⟩; have n2_ : Aside0 (wc.heap[gb518]? = some (.cells #[.slice A0_0 l0_0.length c0_0, .int .i64 a0_1, .int .i64 a0_2] 24 (0, 0))) := ⟨by rw [← hq_]; exact (by (with_reducible repeat (first | refine blk_drewN ?_ _ | refine blk_drew ?_ | refine blk_alloc ?_ _)); exact BK518.out)⟩; have n3_ : Aside0 (wc.heap[gb519]? = some (.cells #[.int .i64 a2_0, .int .i64 a2_1] 47 (0, 0))) := ⟨by rw [← hq_]; exact (by (with_reducible repeat (first | refine blk_drewN ?_ _ | refine blk_drew ?_ | refine blk_alloc ?_ _)); exact BK519.out)⟩; have n4_ : Aside0 (Below w.heap.size w wc) := ⟨by rw [← hq_]; exact (by repeat (first | (with_reducible first | exact HB.out | apply below_alloc | apply pw_below_drewN | apply below_drew1 | refine below_set ?_ GE518.out | refine below_set ?_ GE519.out) | exact HB.out))⟩; clear HO_7 HO_9 BK518 BK519 HB hq_; have HO_7 := n0_; have HO_9 := n1_; have BK518 := n2_; have BK519 := n3_; have HB := n4_; clear n0_ n1_ n2_ n3_ n4_))
             have n0_ := Aside0.mk (Kd.R_drew HO_7.out)
             have n1_ := Aside0.mk (Kd.R_drew HO_9.out)
             have n2_ := Aside0.mk (blk_drew BK518.out)
             have n3_ := Aside0.mk (blk_drew BK519.out)
             have n4_ := Aside0.mk (below_drew1 HB.out)
             clear HO_7
             clear HO_9
             clear BK518
             clear BK519
             clear HB
             have HO_7 := n0_
             have HO_9 := n1_
             have BK518 := n2_
             have BK519 := n3_
             have HB := n4_
             clear n0_ n1_ n2_ n3_ n4_
             refine start_ (n := 10) (S := fun w' => w'.cell? ⟨gb518, 0, none⟩ = some (.slice A0_0 l0_0.length c0_0) ∧ w'.cell? ⟨gb518, 1, none⟩ = some (.int .i64 a0_1) ∧ w'.cell? ⟨gb518, 2, none⟩ = some (.int .i64 a0_2) ∧ w'.cell? ⟨gb519, 0, none⟩ = some (.int .i64 a2_0) ∧ w'.cell? ⟨gb519, 1, none⟩ = some (.int .i64 a2_1)) (ds := []) #[false, false, false, false, false, false, false, false, false, false] (by kernel_rfl) rfl rfl ⟨(blk_cell BK518.out 0).trans rfl, (blk_cell BK518.out 1).trans rfl, (blk_cell BK518.out 2).trans rfl, (blk_cell BK519.out 0).trans rfl, (blk_cell BK519.out 1).trans rfl⟩ (fun hHeld => ?_); refine with_tabW anamnesislaw05_MoveValues.tab9 anamnesislaw05_MoveValues.bits9 (fun HT_ HW_ => ?_)
             generalize wc.drew = w97 at HO_7 HO_9 BK518 BK519 HB hHeld ⊢
             refine pure1 (i := 1) (N := some 92) #[false, true, false, false, false, false, false, false, false, false] HT_.out ?_
             refine pure1 (i := 5) (N := some 96) #[false, true, false, false, false, true, false, false, false, false] HT_.out ?_
             refine take1 (i := 0) (N := some 91) #[true, true, false, false, false, true, false, false, false, false] HT_.out HW_.out hHeld ?_
             refine take1 (i := 2) (N := some 93) #[true, true, true, false, false, true, false, false, false, false] HT_.out HW_.out hHeld ?_
             refine take1 (i := 4) (N := some 95) #[true, true, true, false, true, true, false, false, false, false] HT_.out HW_.out hHeld ?_
             refine take1 (i := 6) (N := some 97) #[true, true, true, false, true, true, true, false, false, false] HT_.out HW_.out hHeld ?_
             refine one_ (i := 3) (N := some 94) #[true, true, true, true, true, true, true, false, false, false] rfl rfl (one_of HT_.out (by kernel_rfl)) (by decide) (fun K hK => ?_)
             refine goes_ Try.func22 (by kernel_rfl) rfl #[.agg #[.slice A0_0 l0_0.length c0_0, .int .i64 a0_1, .int .i64 a0_2], .int .i64 a2_0] (by rfl) rfl rfl (by (try simp only [List.map_toArray, List.map_cons, List.map_nil]); first | done | rfl | (simp only [List.length_drop, List.length_take]; rfl)) ?_
             with_reducible refine (anamnesisref03_Ref.calls _ _ l0_0 a0_1 a0_2 a2_0 t538 _ ?side1 ?side2 A79.out).mono ?_
             (case side1 => repeat (first | exact (Kd.C_below HR0_0.out HB.out) | (with_reducible refine Kd.C_alloc ?_ _) | (with_reducible refine Kd.C_drewN ?_ _) | (with_reducible refine Kd.C_drew ?_)))
             (case side2 => exact HC0_0.out)
             rintro e w98 ⟨rfl, hb⟩
             refine ⟨_, rfl, ?_⟩
             have n0_ := Aside0.mk (Kd.R_below (by (with_reducible repeat (first | apply Kd.R_alloc | apply Kd.R_drewN | apply Kd.R_drew)); exact HO_7.out) hb)
             have n1_ := Aside0.mk (Kd.R_below (by (with_reducible repeat (first | apply Kd.R_alloc | apply Kd.R_drewN | apply Kd.R_drew)); exact HO_9.out) hb)
             have n2_ := Aside0.mk (blk_below (g := gb518) (o := .cells #[.slice A0_0 l0_0.length c0_0, .int .i64 a0_1, .int .i64 a0_2] 24 (0, 0)) (by (with_reducible repeat (first | refine blk_drewN ?_ _ | refine blk_drew ?_ | refine blk_alloc ?_ _)); exact BK518.out) hb)
             have n3_ := Aside0.mk (blk_below (g := gb519) (o := .cells #[.int .i64 a2_0, .int .i64 a2_1] 47 (0, 0)) (by (with_reducible repeat (first | refine blk_drewN ?_ _ | refine blk_drew ?_ | refine blk_alloc ?_ _)); exact BK519.out) hb)
             have n4_ := Aside0.mk (below_step (by repeat (first | (with_reducible first | exact HB.out | apply below_alloc | apply pw_below_drewN | apply below_drew1 | refine below_set ?_ GE518.out | refine below_set ?_ GE519.out) | exact HB.out)) hb)
             clear HO_7
             clear HO_9
             clear BK518
             clear BK519
             clear HB
             have HO_7 := n0_
             have HO_9 := n1_
             have BK518 := n2_
             have BK519 := n3_
             have HB := n4_
             clear n0_ n1_ n2_ n3_ n4_
             (try clear hb)
             (try clear hb2)
             (try clear hk)
             (try clear hi)
             refine hK.out _ _ ⟨(blk_cell BK518.out 0).trans rfl, (blk_cell BK518.out 1).trans rfl, (blk_cell BK518.out 2).trans rfl, (blk_cell BK519.out 0).trans rfl, (blk_cell BK519.out 1).trans rfl⟩ (fun hHeld => ?_)
             clear hK K
             refine norm_ (a' := ?_) ?_ ?_
             rotate_left
             ·show Act.put _ (some 94) _ = _
              simp only [Act.put, List.setIfInBounds_toArray, List.set_cons_zero, List.set_cons_succ, i64_w, i32_w]
              rfl
             refine one_ (i := 7) (N := some 98) #[true, true, true, true, true, true, true, true, false, false] rfl rfl (one_of HT_.out (by kernel_rfl)) (by decide) (fun K hK => ?_)
             refine goes_ Try.func22 (by kernel_rfl) rfl #[.agg #[.slice A0_0 l0_0.length c0_0, .int .i64 a0_1, .int .i64 a0_2], .int .i64 a2_1] (by rfl) rfl rfl (by (try simp only [List.map_toArray, List.map_cons, List.map_nil]); first | done | rfl | (simp only [List.length_drop, List.length_take]; rfl)) ?_
             with_reducible refine (anamnesisref03_Ref.calls _ _ l0_0 a0_1 a0_2 a2_1 t539 _ ?side1 ?side2 A80.out).mono ?_
             (case side1 => repeat (first | exact (Kd.C_below HR0_0.out HB.out) | (with_reducible refine Kd.C_alloc ?_ _) | (with_reducible refine Kd.C_drewN ?_ _) | (with_reducible refine Kd.C_drew ?_)))
             (case side2 => exact HC0_0.out)
             rintro e w99 ⟨rfl, hb⟩
             refine ⟨_, rfl, ?_⟩
             have n0_ := Aside0.mk (Kd.R_below (by (with_reducible repeat (first | apply Kd.R_alloc | apply Kd.R_drewN | apply Kd.R_drew)); exact HO_7.out) hb)
             have n1_ := Aside0.mk (Kd.R_below (by (with_reducible repeat (first | apply Kd.R_alloc | apply Kd.R_drewN | apply Kd.R_drew)); exact HO_9.out) hb)
             have n2_ := Aside0.mk (blk_below (g := gb518) (o := .cells #[.slice A0_0 l0_0.length c0_0, .int .i64 a0_1, .int .i64 a0_2] 24 (0, 0)) (by (with_reducible repeat (first | refine blk_drewN ?_ _ | refine blk_drew ?_ | refine blk_alloc ?_ _)); exact BK518.out) hb)
             have n3_ := Aside0.mk (blk_below (g := gb519) (o := .cells #[.int .i64 a2_0, .int .i64 a2_1] 47 (0, 0)) (by (with_reducible repeat (first | refine blk_drewN ?_ _ | refine blk_drew ?_ | refine blk_alloc ?_ _)); exact BK519.out) hb)
             have n4_ := Aside0.mk (below_step (by repeat (first | (with_reducible first | exact HB.out | apply below_alloc | apply pw_below_drewN | apply below_drew1 | refine below_set ?_ GE518.out | refine below_set ?_ GE519.out) | exact HB.out)) hb)
             clear HO_7
             clear HO_9
             clear BK518
             clear BK519
             clear HB
             have HO_7 := n0_
             have HO_9 := n1_
             have BK518 := n2_
             have BK519 := n3_
             have HB := n4_
             clear n0_ n1_ n2_ n3_ n4_
             (try clear hb)
             (try clear hb2)
             (try clear hk)
             (try clear hi)
             refine hK.out _ _ ⟨(blk_cell BK518.out 0).trans rfl, (blk_cell BK518.out 1).trans rfl, (blk_cell BK518.out 2).trans rfl, (blk_cell BK519.out 0).trans rfl, (blk_cell BK519.out 1).trans rfl⟩ (fun hHeld => ?_)
             clear hK K
             refine norm_ (a' := ?_) ?_ ?_
             rotate_left
             ·show Act.put _ (some 98) _ = _
              simp only [Act.put, List.setIfInBounds_toArray, List.set_cons_zero, List.set_cons_succ, i64_w, i32_w]
              rfl
             refine pure1 (i := 8) (N := some 15) #[true, true, true, true, true, true, true, true, true, false] HT_.out ?_
             refine pure1 (i := 9) (N := some 16) #[true, true, true, true, true, true, true, true, true, true] HT_.out ?_
             refine done_ (done_of HT_.out (by kernel_rfl)) ?_
             try go_wp2
             go_ret
             exact ⟨by first | rfl | (simp [errW_none, errW_some] <;> rfl) | (simp [*, errW_none, errW_some] <;> rfl), by repeat (first | (with_reducible first | exact HB.out | apply below_alloc | apply pw_below_drewN | apply below_drew1 | refine below_set ?_ GE518.out | refine below_set ?_ GE519.out) | exact HB.out)⟩
           ·replace c85 := Bool.eq_false_iff.mpr c85
            subst c85
            have H1 : (some true) = some r := by rw [if_neg (show ¬ (false = true) by decide)] at H; exact H
            clear H
            have H := H1
            clear H1
            obtain rfl := Option.some.inj H
            have hnb100 := NB519_518.out
            have hnc100 := NB518_519.out
            have hcz101_0 : wc.cell? ⟨gb519, 0, none⟩ = some (.int .i64 a2_0) := (blk_cell BK519.out 0).trans rfl
            have hcz101_1 : wc.cell? ⟨gb519, 1, none⟩ = some (.int .i64 a2_1) := (blk_cell BK519.out 1).trans rfl
            have hfz101_0 := blk_frozen BK519.out 0
            have hfz101_1 := blk_frozen BK519.out 1
            obtain ⟨Ao102, co102, eo102⟩ := Kd.R_slice HO_7.out
            subst eo102
            try go_wp2_with (first | ((with_reducible refine gate_callee (f := 14) rfl ?_); refine goesL_ (some 81) rfl rfl Try.func14 (by kernel_rfl) rfl #[.slice Ao102 t526.length co102, .int .i64 a2_0] rfl (by (try simp only [List.map_toArray, List.map_cons, List.map_nil]); first | done | rfl | (simp only [List.length_drop, List.length_take]; rfl)) ?_; (with_reducible refine (move_Value.calls _ _ t526 a2_0 t534 false _ ?side1 ?side2 A77.out).mono ?_); (case side1 => repeat (first | exact (Kd.R_reads' HO_7.out).2.2 | (with_reducible refine Kd.C_alloc ?_ _) | (with_reducible refine Kd.C_drewN ?_ _) | (with_reducible refine Kd.C_drew ?_))); (case side2 => exact (Kd.R_reads' HO_7.out).2.1); rintro e w' ⟨rfl, ⟨nd, rfl⟩⟩; refine ⟨_, rfl, ?_⟩) | ((with_reducible refine gate_callee (f := 14) rfl ?_); refine goesL_ (some 88) rfl rfl Try.func14 (by kernel_rfl) rfl #[.slice Ao102 t526.length co102, .int .i64 a2_1] rfl (by (try simp only [List.map_toArray, List.map_cons, List.map_nil]); first | done | rfl | (simp only [List.length_drop, List.length_take]; rfl)) ?_; (with_reducible refine (move_Value.calls _ _ t526 a2_1 t536 t537 _ ?side1 ?side2 A78.out).mono ?_); (case side1 => repeat (first | exact (Kd.R_reads' HO_7.out).2.2 | (with_reducible refine Kd.C_alloc ?_ _) | (with_reducible refine Kd.C_drewN ?_ _) | (with_reducible refine Kd.C_drew ?_))); (case side2 => exact (Kd.R_reads' HO_7.out).2.1); rintro e w' ⟨rfl, ⟨nd, rfl⟩⟩; refine ⟨_, rfl, ?_⟩))
            (try (rw [drewN_self wc]; generalize hq_ : World.drewN wc _ = wc; have n0_ : Aside0 (Kd.R (Kd.int .i64) 3 wc w.heap.size (fun k_ => some k_ ≠ (v531 : Value).ownBlock) (.slice Ao102 t526.length co102) t526) := ⟨by rw [← hq_]; exact (by (with_reducible repeat (first | apply Kd.R_alloc | apply Kd.R_drewN | apply Kd.R_drew)); exact HO_7.out)⟩; have n1_ : Aside0 (Kd.R (Kd.int .i64) 3 wc w.heap.size (fun k_ => some k_ ≠ (.slice Ao102 t526.length co102 : Value).ownBlock) v531 t530) := ⟨by rw [← hq_]; exact (by (with_reducible repeat (first | apply Kd.R_alloc | apply Kd.R_drewN | apply Kd.R_drew)); exact HO_9.out)⟩; have n2_ : Aside0 (wc.heap[gb518]? = some (.cells #[.slice A0_0 l0_0.length c0_0, .int .i64 a0_1, .int .i64 a0_2] 24 (0, 0))) := ⟨by rw [← hq_]; exact (by (with_reducible repeat (first | refine blk_drewN ?_ _ | refine blk_drew ?_ | refine blk_alloc ?_ _)); exact BK518.out)⟩; have n3_ : Aside0 (wc.heap[gb519]? = some (.cells #[.int .i64 a2_0, .int .i64 a2_1] 47 (0, 0))) := ⟨by rw [← hq_]; exact (by (with_reducible repeat (first | refine blk_drewN ?_ _ | refine blk_drew ?_ | refine blk_alloc ?_ _)); exact BK519.out)⟩; have n4_ : Aside0 (Below w.heap.size w wc) := ⟨by rw [← hq_]; exact (by repeat (first | (with_reducible first | exact HB.out | apply below_alloc | apply pw_below_drewN | apply below_drew1 | refine below_set ?_ GE518.out | refine below_set ?_ GE519.out) | exact HB.out))⟩; clear HO_7 HO_9 BK518 BK519 HB hq_; have HO_7 := n0_; have HO_9 := n1_; have BK518 := n2_; have BK519 := n3_; have HB := n4_; clear n0_ n1_ n2_ n3_ n4_))
            have n0_ := Aside0.mk (Kd.R_drew HO_7.out)
            have n1_ := Aside0.mk (Kd.R_drew HO_9.out)
            have n2_ := Aside0.mk (blk_drew BK518.out)
            have n3_ := Aside0.mk (blk_drew BK519.out)
            have n4_ := Aside0.mk (below_drew1 HB.out)
            clear HO_7
            clear HO_9
            clear BK518
            clear BK519
            clear HB
            have HO_7 := n0_
            have HO_9 := n1_
            have BK518 := n2_
            have BK519 := n3_
            have HB := n4_
            clear n0_ n1_ n2_ n3_ n4_
            refine start_ (n := 10) (S := fun w' => w'.cell? ⟨gb518, 0, none⟩ = some (.slice A0_0 l0_0.length c0_0) ∧ w'.cell? ⟨gb518, 1, none⟩ = some (.int .i64 a0_1) ∧ w'.cell? ⟨gb518, 2, none⟩ = some (.int .i64 a0_2) ∧ w'.cell? ⟨gb519, 0, none⟩ = some (.int .i64 a2_0) ∧ w'.cell? ⟨gb519, 1, none⟩ = some (.int .i64 a2_1)) (ds := []) #[false, false, false, false, false, false, false, false, false, false] (by kernel_rfl) rfl rfl ⟨(blk_cell BK518.out 0).trans rfl, (blk_cell BK518.out 1).trans rfl, (blk_cell BK518.out 2).trans rfl, (blk_cell BK519.out 0).trans rfl, (blk_cell BK519.out 1).trans rfl⟩ (fun hHeld => ?_); refine with_tabW anamnesislaw05_MoveValues.tab9 anamnesislaw05_MoveValues.bits9 (fun HT_ HW_ => ?_)
            generalize wc.drew = w103 at HO_7 HO_9 BK518 BK519 HB hHeld ⊢
            refine pure1 (i := 1) (N := some 92) #[false, true, false, false, false, false, false, false, false, false] HT_.out ?_
            refine pure1 (i := 5) (N := some 96) #[false, true, false, false, false, true, false, false, false, false] HT_.out ?_
            refine take1 (i := 0) (N := some 91) #[true, true, false, false, false, true, false, false, false, false] HT_.out HW_.out hHeld ?_
            refine take1 (i := 2) (N := some 93) #[true, true, true, false, false, true, false, false, false, false] HT_.out HW_.out hHeld ?_
            refine take1 (i := 4) (N := some 95) #[true, true, true, false, true, true, false, false, false, false] HT_.out HW_.out hHeld ?_
            refine take1 (i := 6) (N := some 97) #[true, true, true, false, true, true, true, false, false, false] HT_.out HW_.out hHeld ?_
            refine one_ (i := 3) (N := some 94) #[true, true, true, true, true, true, true, false, false, false] rfl rfl (one_of HT_.out (by kernel_rfl)) (by decide) (fun K hK => ?_)
            refine goes_ Try.func22 (by kernel_rfl) rfl #[.agg #[.slice A0_0 l0_0.length c0_0, .int .i64 a0_1, .int .i64 a0_2], .int .i64 a2_0] (by rfl) rfl rfl (by (try simp only [List.map_toArray, List.map_cons, List.map_nil]); first | done | rfl | (simp only [List.length_drop, List.length_take]; rfl)) ?_
            with_reducible refine (anamnesisref03_Ref.calls _ _ l0_0 a0_1 a0_2 a2_0 t538 _ ?side1 ?side2 A79.out).mono ?_
            (case side1 => repeat (first | exact (Kd.C_below HR0_0.out HB.out) | (with_reducible refine Kd.C_alloc ?_ _) | (with_reducible refine Kd.C_drewN ?_ _) | (with_reducible refine Kd.C_drew ?_)))
            (case side2 => exact HC0_0.out)
            rintro e w104 ⟨rfl, hb⟩
            refine ⟨_, rfl, ?_⟩
            have n0_ := Aside0.mk (Kd.R_below (by (with_reducible repeat (first | apply Kd.R_alloc | apply Kd.R_drewN | apply Kd.R_drew)); exact HO_7.out) hb)
            have n1_ := Aside0.mk (Kd.R_below (by (with_reducible repeat (first | apply Kd.R_alloc | apply Kd.R_drewN | apply Kd.R_drew)); exact HO_9.out) hb)
            have n2_ := Aside0.mk (blk_below (g := gb518) (o := .cells #[.slice A0_0 l0_0.length c0_0, .int .i64 a0_1, .int .i64 a0_2] 24 (0, 0)) (by (with_reducible repeat (first | refine blk_drewN ?_ _ | refine blk_drew ?_ | refine blk_alloc ?_ _)); exact BK518.out) hb)
            have n3_ := Aside0.mk (blk_below (g := gb519) (o := .cells #[.int .i64 a2_0, .int .i64 a2_1] 47 (0, 0)) (by (with_reducible repeat (first | refine blk_drewN ?_ _ | refine blk_drew ?_ | refine blk_alloc ?_ _)); exact BK519.out) hb)
            have n4_ := Aside0.mk (below_step (by repeat (first | (with_reducible first | exact HB.out | apply below_alloc | apply pw_below_drewN | apply below_drew1 | refine below_set ?_ GE518.out | refine below_set ?_ GE519.out) | exact HB.out)) hb)
            clear HO_7
            clear HO_9
            clear BK518
            clear BK519
            clear HB
            have HO_7 := n0_
            have HO_9 := n1_
            have BK518 := n2_
            have BK519 := n3_
            have HB := n4_
            clear n0_ n1_ n2_ n3_ n4_
            (try clear hb)
            (try clear hb2)
            (try clear hk)
            (try clear hi)
            refine hK.out _ _ ⟨(blk_cell BK518.out 0).trans rfl, (blk_cell BK518.out 1).trans rfl, (blk_cell BK518.out 2).trans rfl, (blk_cell BK519.out 0).trans rfl, (blk_cell BK519.out 1).trans rfl⟩ (fun hHeld => ?_)
            clear hK K
            refine norm_ (a' := ?_) ?_ ?_
            rotate_left
            ·show Act.put _ (some 94) _ = _
             simp only [Act.put, List.setIfInBounds_toArray, List.set_cons_zero, List.set_cons_succ, i64_w, i32_w]
             rfl
            refine one_ (i := 7) (N := some 98) #[true, true, true, true, true, true, true, true, false, false] rfl rfl (one_of HT_.out (by kernel_rfl)) (by decide) (fun K hK => ?_)
            refine goes_ Try.func22 (by kernel_rfl) rfl #[.agg #[.slice A0_0 l0_0.length c0_0, .int .i64 a0_1, .int .i64 a0_2], .int .i64 a2_1] (by rfl) rfl rfl (by (try simp only [List.map_toArray, List.map_cons, List.map_nil]); first | done | rfl | (simp only [List.length_drop, List.length_take]; rfl)) ?_
            with_reducible refine (anamnesisref03_Ref.calls _ _ l0_0 a0_1 a0_2 a2_1 t539 _ ?side1 ?side2 A80.out).mono ?_
            (case side1 => repeat (first | exact (Kd.C_below HR0_0.out HB.out) | (with_reducible refine Kd.C_alloc ?_ _) | (with_reducible refine Kd.C_drewN ?_ _) | (with_reducible refine Kd.C_drew ?_)))
            (case side2 => exact HC0_0.out)
            rintro e w105 ⟨rfl, hb⟩
            refine ⟨_, rfl, ?_⟩
            have n0_ := Aside0.mk (Kd.R_below (by (with_reducible repeat (first | apply Kd.R_alloc | apply Kd.R_drewN | apply Kd.R_drew)); exact HO_7.out) hb)
            have n1_ := Aside0.mk (Kd.R_below (by (with_reducible repeat (first | apply Kd.R_alloc | apply Kd.R_drewN | apply Kd.R_drew)); exact HO_9.out) hb)
            have n2_ := Aside0.mk (blk_below (g := gb518) (o := .cells #[.slice A0_0 l0_0.length c0_0, .int .i64 a0_1, .int .i64 a0_2] 24 (0, 0)) (by (with_reducible repeat (first | refine blk_drewN ?_ _ | refine blk_drew ?_ | refine blk_alloc ?_ _)); exact BK518.out) hb)
            have n3_ := Aside0.mk (blk_below (g := gb519) (o := .cells #[.int .i64 a2_0, .int .i64 a2_1] 47 (0, 0)) (by (with_reducible repeat (first | refine blk_drewN ?_ _ | refine blk_drew ?_ | refine blk_alloc ?_ _)); exact BK519.out) hb)
            have n4_ := Aside0.mk (below_step (by repeat (first | (with_reducible first | exact HB.out | apply below_alloc | apply pw_below_drewN | apply below_drew1 | refine below_set ?_ GE518.out | refine below_set ?_ GE519.out) | exact HB.out)) hb)
            clear HO_7
            clear HO_9
            clear BK518
            clear BK519
            clear HB
            have HO_7 := n0_
            have HO_9 := n1_
            have BK518 := n2_
            have BK519 := n3_
            have HB := n4_
            clear n0_ n1_ n2_ n3_ n4_
            (try clear hb)
            (try clear hb2)
            (try clear hk)
            (try clear hi)
            refine hK.out _ _ ⟨(blk_cell BK518.out 0).trans rfl, (blk_cell BK518.out 1).trans rfl, (blk_cell BK518.out 2).trans rfl, (blk_cell BK519.out 0).trans rfl, (blk_cell BK519.out 1).trans rfl⟩ (fun hHeld => ?_)
            clear hK K
            refine norm_ (a' := ?_) ?_ ?_
            rotate_left
            ·show Act.put _ (some 98) _ = _
             simp only [Act.put, List.setIfInBounds_toArray, List.set_cons_zero, List.set_cons_succ, i64_w, i32_w]
             rfl
            refine pure1 (i := 8) (N := some 15) #[true, true, true, true, true, true, true, true, true, false] HT_.out ?_
            refine pure1 (i := 9) (N := some 16) #[true, true, true, true, true, true, true, true, true, true] HT_.out ?_
            refine done_ (done_of HT_.out (by kernel_rfl)) ?_
            try go_wp2
            go_ret
            exact ⟨by first | rfl | (simp [errW_none, errW_some] <;> rfl) | (simp [*, errW_none, errW_some] <;> rfl), by repeat (first | (with_reducible first | exact HB.out | apply below_alloc | apply pw_below_drewN | apply below_drew1 | refine below_set ?_ GE518.out | refine below_set ?_ GE519.out) | exact HB.out)⟩
          ·rw [if_neg c84] at H
           exact absurd H (by simp)
         ·rw [if_neg c83] at H
          have c83b0 : decide (t539 < 0) = false := decide_eq_false c83
          clear c83
          replace H := Option.bind_eq_some_iff.mp H
          obtain ⟨t540, A1060, H⟩ := H
          replace H : (if (t537 == t540) = true then (if t535 = true then (if t537 = true then (some ((t534 == t536) == (a2_0 == a2_1))) else (some true)) else (some true)) else (none)) = some r := H
          have A106 := Aside0.mk A1060
          clear A1060
          by_cases c107 : (t537 == t540) = true
          ·rw [if_pos c107] at H
           have c107b0 : (t537 == t540) = true := c107
           (try (have c107b1 : decide (t537 = t540) = true := by simpa using c107))
           (try (have c107b2 : (t537 == t540) = true := by simpa using c107))
           clear c107
           by_cases c108 : t535 = true
           ·subst c108
            have H1 : (if t537 = true then (some ((t534 == t536) == (a2_0 == a2_1))) else (some true)) = some r := by rw [if_pos rfl] at H; exact H
            clear H
            have H := H1
            clear H1
            by_cases c109 : t537 = true
            ·subst c109
             have H1 : (some ((t534 == t536) == (a2_0 == a2_1))) = some r := by rw [if_pos rfl] at H; exact H
             clear H
             have H := H1
             clear H1
             obtain rfl := Option.some.inj H
             have hnb110 := NB519_518.out
             have hnc110 := NB518_519.out
             have hcz111_0 : wc.cell? ⟨gb519, 0, none⟩ = some (.int .i64 a2_0) := (blk_cell BK519.out 0).trans rfl
             have hcz111_1 : wc.cell? ⟨gb519, 1, none⟩ = some (.int .i64 a2_1) := (blk_cell BK519.out 1).trans rfl
             have hfz111_0 := blk_frozen BK519.out 0
             have hfz111_1 := blk_frozen BK519.out 1
             obtain ⟨Ao112, co112, eo112⟩ := Kd.R_slice HO_7.out
             subst eo112
             try go_wp2_with (first | ((with_reducible refine gate_callee (f := 14) rfl ?_); refine goesL_ (some 81) rfl rfl Try.func14 (by kernel_rfl) rfl #[.slice Ao112 t526.length co112, .int .i64 a2_0] rfl (by (try simp only [List.map_toArray, List.map_cons, List.map_nil]); first | done | rfl | (simp only [List.length_drop, List.length_take]; rfl)) ?_; (with_reducible refine (move_Value.calls _ _ t526 a2_0 t534 true _ ?side1 ?side2 A77.out).mono ?_); (case side1 => repeat (first | exact (Kd.R_reads' HO_7.out).2.2 | (with_reducible refine Kd.C_alloc ?_ _) | (with_reducible refine Kd.C_drewN ?_ _) | (with_reducible refine Kd.C_drew ?_))); (case side2 => exact (Kd.R_reads' HO_7.out).2.1); rintro e w' ⟨rfl, ⟨nd, rfl⟩⟩; refine ⟨_, rfl, ?_⟩) | ((with_reducible refine gate_callee (f := 14) rfl ?_); refine goesL_ (some 88) rfl rfl Try.func14 (by kernel_rfl) rfl #[.slice Ao112 t526.length co112, .int .i64 a2_1] rfl (by (try simp only [List.map_toArray, List.map_cons, List.map_nil]); first | done | rfl | (simp only [List.length_drop, List.length_take]; rfl)) ?_; (with_reducible refine (move_Value.calls _ _ t526 a2_1 t536 true _ ?side1 ?side2 A78.out).mono ?_); (case side1 => repeat (first | exact (Kd.R_reads' HO_7.out).2.2 | (with_reducible refine Kd.C_alloc ?_ _) | (with_reducible refine Kd.C_drewN ?_ _) | (with_reducible refine Kd.C_drew ?_))); (case side2 => exact (Kd.R_reads' HO_7.out).2.1); rintro e w' ⟨rfl, ⟨nd, rfl⟩⟩; refine ⟨_, rfl, ?_⟩))
             (try (rw [drewN_self wc]; generalize hq_ : World.drewN wc _ = wc; have n0_ : Aside0 (Kd.R (Kd.int .i64) 3 wc w.heap.size (fun k_ => some k_ ≠ (v531 : Value).ownBlock) (.slice Ao112 t526.length co112) t526) := ⟨by rw [← hq_]; exact (by (with_reducible repeat (first | apply Kd.R_alloc | apply Kd.R_drewN | apply Kd.R_drew)); exact HO_7.out)⟩; have n1_ : Aside0 (Kd.R (Kd.int .i64) 3 wc w.heap.size (fun k_ => some k_ ≠ (.slice Ao112 t526.length co112 : Value).ownBlock) v531 t530) := ⟨by rw [← hq_]; exact (by (with_reducible repeat (first | apply Kd.R_alloc | apply Kd.R_drewN | apply Kd.R_drew)); exact HO_9.out)⟩; have n2_ : Aside0 (wc.heap[gb518]? = some (.cells #[.slice A0_0 l0_0.length c0_0, .int .i64 a0_1, .int .i64 a0_2] 24 (0, 0))) := ⟨by rw [← hq_]; exact (by (with_reducible repeat (first | refine blk_drewN ?_ _ | refine blk_drew ?_ | refine blk_alloc ?_ _)); exact BK518.out)⟩; have n3_ : Aside0 (wc.heap[gb519]? = some (.cells #[.int .i64 a2_0, .int .i64 a2_1] 47 (0, 0))) := ⟨by rw [← hq_]; exact (by (with_reducible repeat (first | refine blk_drewN ?_ _ | refine blk_drew ?_ | refine blk_alloc ?_ _)); exact BK519.out)⟩; have n4_ : Aside0 (Below w.heap.size w wc) := ⟨by rw [← hq_]; exact (by repeat (first | (with_reducible first | exact HB.out | apply below_alloc | apply pw_below_drewN | apply below_drew1 | refine below_set ?_ GE518.out | refine below_set ?_ GE519.out) | exact HB.out))⟩; clear HO_7 HO_9 BK518 BK519 HB hq_; have HO_7 := n0_; have HO_9 := n1_; have BK518 := n2_; have BK519 := n3_; have HB := n4_; clear n0_ n1_ n2_ n3_ n4_))
             have n0_ := Aside0.mk (Kd.R_drew HO_7.out)
             have n1_ := Aside0.mk (Kd.R_drew HO_9.out)
             have n2_ := Aside0.mk (blk_drew BK518.out)
             have n3_ := Aside0.mk (blk_drew BK519.out)
             have n4_ := Aside0.mk (below_drew1 HB.out)
             clear HO_7
             clear HO_9
             clear BK518
             clear BK519
             clear HB
             have HO_7 := n0_
             have HO_9 := n1_
             have BK518 := n2_
             have BK519 := n3_
             have HB := n4_
             clear n0_ n1_ n2_ n3_ n4_
             refine start_ (n := 10) (S := fun w' => w'.cell? ⟨gb518, 0, none⟩ = some (.slice A0_0 l0_0.length c0_0) ∧ w'.cell? ⟨gb518, 1, none⟩ = some (.int .i64 a0_1) ∧ w'.cell? ⟨gb518, 2, none⟩ = some (.int .i64 a0_2) ∧ w'.cell? ⟨gb519, 0, none⟩ = some (.int .i64 a2_0) ∧ w'.cell? ⟨gb519, 1, none⟩ = some (.int .i64 a2_1)) (ds := []) #[false, false, false, false, false, false, false, false, false, false] (by kernel_rfl) rfl rfl ⟨(blk_cell BK518.out 0).trans rfl, (blk_cell BK518.out 1).trans rfl, (blk_cell BK518.out 2).trans rfl, (blk_cell BK519.out 0).trans rfl, (blk_cell BK519.out 1).trans rfl⟩ (fun hHeld => ?_); refine with_tabW anamnesislaw05_MoveValues.tab9 anamnesislaw05_MoveValues.bits9 (fun HT_ HW_ => ?_)
             generalize wc.drew = w113 at HO_7 HO_9 BK518 BK519 HB hHeld ⊢
             refine pure1 (i := 1) (N := some 92) #[false, true, false, false, false, false, false, false, false, false] HT_.out ?_
             refine pure1 (i := 5) (N := some 96) #[false, true, false, false, false, true, false, false, false, false] HT_.out ?_
             refine take1 (i := 0) (N := some 91) #[true, true, false, false, false, true, false, false, false, false] HT_.out HW_.out hHeld ?_
             refine take1 (i := 2) (N := some 93) #[true, true, true, false, false, true, false, false, false, false] HT_.out HW_.out hHeld ?_
             refine take1 (i := 4) (N := some 95) #[true, true, true, false, true, true, false, false, false, false] HT_.out HW_.out hHeld ?_
             refine take1 (i := 6) (N := some 97) #[true, true, true, false, true, true, true, false, false, false] HT_.out HW_.out hHeld ?_
             refine one_ (i := 3) (N := some 94) #[true, true, true, true, true, true, true, false, false, false] rfl rfl (one_of HT_.out (by kernel_rfl)) (by decide) (fun K hK => ?_)
             refine goes_ Try.func22 (by kernel_rfl) rfl #[.agg #[.slice A0_0 l0_0.length c0_0, .int .i64 a0_1, .int .i64 a0_2], .int .i64 a2_0] (by rfl) rfl rfl (by (try simp only [List.map_toArray, List.map_cons, List.map_nil]); first | done | rfl | (simp only [List.length_drop, List.length_take]; rfl)) ?_
             with_reducible refine (anamnesisref03_Ref.calls _ _ l0_0 a0_1 a0_2 a2_0 t538 _ ?side1 ?side2 A79.out).mono ?_
             (case side1 => repeat (first | exact (Kd.C_below HR0_0.out HB.out) | (with_reducible refine Kd.C_alloc ?_ _) | (with_reducible refine Kd.C_drewN ?_ _) | (with_reducible refine Kd.C_drew ?_)))
             (case side2 => exact HC0_0.out)
             rintro e w114 ⟨rfl, hb⟩
             refine ⟨_, rfl, ?_⟩
             have n0_ := Aside0.mk (Kd.R_below (by (with_reducible repeat (first | apply Kd.R_alloc | apply Kd.R_drewN | apply Kd.R_drew)); exact HO_7.out) hb)
             have n1_ := Aside0.mk (Kd.R_below (by (with_reducible repeat (first | apply Kd.R_alloc | apply Kd.R_drewN | apply Kd.R_drew)); exact HO_9.out) hb)
             have n2_ := Aside0.mk (blk_below (g := gb518) (o := .cells #[.slice A0_0 l0_0.length c0_0, .int .i64 a0_1, .int .i64 a0_2] 24 (0, 0)) (by (with_reducible repeat (first | refine blk_drewN ?_ _ | refine blk_drew ?_ | refine blk_alloc ?_ _)); exact BK518.out) hb)
             have n3_ := Aside0.mk (blk_below (g := gb519) (o := .cells #[.int .i64 a2_0, .int .i64 a2_1] 47 (0, 0)) (by (with_reducible repeat (first | refine blk_drewN ?_ _ | refine blk_drew ?_ | refine blk_alloc ?_ _)); exact BK519.out) hb)
             have n4_ := Aside0.mk (below_step (by repeat (first | (with_reducible first | exact HB.out | apply below_alloc | apply pw_below_drewN | apply below_drew1 | refine below_set ?_ GE518.out | refine below_set ?_ GE519.out) | exact HB.out)) hb)
             clear HO_7
             clear HO_9
             clear BK518
             clear BK519
             clear HB
             have HO_7 := n0_
             have HO_9 := n1_
             have BK518 := n2_
             have BK519 := n3_
             have HB := n4_
             clear n0_ n1_ n2_ n3_ n4_
             (try clear hb)
             (try clear hb2)
             (try clear hk)
             (try clear hi)
             refine hK.out _ _ ⟨(blk_cell BK518.out 0).trans rfl, (blk_cell BK518.out 1).trans rfl, (blk_cell BK518.out 2).trans rfl, (blk_cell BK519.out 0).trans rfl, (blk_cell BK519.out 1).trans rfl⟩ (fun hHeld => ?_)
             clear hK K
             refine norm_ (a' := ?_) ?_ ?_
             rotate_left
             ·show Act.put _ (some 94) _ = _
              simp only [Act.put, List.setIfInBounds_toArray, List.set_cons_zero, List.set_cons_succ, i64_w, i32_w]
              rfl
             refine one_ (i := 7) (N := some 98) #[true, true, true, true, true, true, true, true, false, false] rfl rfl (one_of HT_.out (by kernel_rfl)) (by decide) (fun K hK => ?_)
             refine goes_ Try.func22 (by kernel_rfl) rfl #[.agg #[.slice A0_0 l0_0.length c0_0, .int .i64 a0_1, .int .i64 a0_2], .int .i64 a2_1] (by rfl) rfl rfl (by (try simp only [List.map_toArray, List.map_cons, List.map_nil]); first | done | rfl | (simp only [List.length_drop, List.length_take]; rfl)) ?_
             with_reducible refine (anamnesisref03_Ref.calls _ _ l0_0 a0_1 a0_2 a2_1 t539 _ ?side1 ?side2 A80.out).mono ?_
             (case side1 => repeat (first | exact (Kd.C_below HR0_0.out HB.out) | (with_reducible refine Kd.C_alloc ?_ _) | (with_reducible refine Kd.C_drewN ?_ _) | (with_reducible refine Kd.C_drew ?_)))
             (case side2 => exact HC0_0.out)
             rintro e w115 ⟨rfl, hb⟩
             refine ⟨_, rfl, ?_⟩
             have n0_ := Aside0.mk (Kd.R_below (by (with_reducible repeat (first | apply Kd.R_alloc | apply Kd.R_drewN | apply Kd.R_drew)); exact HO_7.out) hb)
             have n1_ := Aside0.mk (Kd.R_below (by (with_reducible repeat (first | apply Kd.R_alloc | apply Kd.R_drewN | apply Kd.R_drew)); exact HO_9.out) hb)
             have n2_ := Aside0.mk (blk_below (g := gb518) (o := .cells #[.slice A0_0 l0_0.length c0_0, .int .i64 a0_1, .int .i64 a0_2] 24 (0, 0)) (by (with_reducible repeat (first | refine blk_drewN ?_ _ | refine blk_drew ?_ | refine blk_alloc ?_ _)); exact BK518.out) hb)
             have n3_ := Aside0.mk (blk_below (g := gb519) (o := .cells #[.int .i64 a2_0, .int .i64 a2_1] 47 (0, 0)) (by (with_reducible repeat (first | refine blk_drewN ?_ _ | refine blk_drew ?_ | refine blk_alloc ?_ _)); exact BK519.out) hb)
             have n4_ := Aside0.mk (below_step (by repeat (first | (with_reducible first | exact HB.out | apply below_alloc | apply pw_below_drewN | apply below_drew1 | refine below_set ?_ GE518.out | refine below_set ?_ GE519.out) | exact HB.out)) hb)
             clear HO_7
             clear HO_9
             clear BK518
             clear BK519
             clear HB
             have HO_7 := n0_
             have HO_9 := n1_
             have BK518 := n2_
             have BK519 := n3_
             have HB := n4_
             clear n0_ n1_ n2_ n3_ n4_
             (try clear hb)
             (try clear hb2)
             (try clear hk)
             (try clear hi)
             refine hK.out _ _ ⟨(blk_cell BK518.out 0).trans rfl, (blk_cell BK518.out 1).trans rfl, (blk_cell BK518.out 2).trans rfl, (blk_cell BK519.out 0).trans rfl, (blk_cell BK519.out 1).trans rfl⟩ (fun hHeld => ?_)
             clear hK K
             refine norm_ (a' := ?_) ?_ ?_
             rotate_left
             ·show Act.put _ (some 98) _ = _
              simp only [Act.put, List.setIfInBounds_toArray, List.set_cons_zero, List.set_cons_succ, i64_w, i32_w]
              rfl
             refine pure1 (i := 8) (N := some 15) #[true, true, true, true, true, true, true, true, true, false] HT_.out ?_
             refine pure1 (i := 9) (N := some 16) #[true, true, true, true, true, true, true, true, true, true] HT_.out ?_
             refine done_ (done_of HT_.out (by kernel_rfl)) ?_
             obtain ⟨Ao116, co116, eo116⟩ := Kd.R_slice HO_9.out
             subst eo116
             try go_wp2_with (first | (go_at_call 24; (with_reducible refine (anamnesisref04_In.calls kj68 _ _ t530 t539 t540 _ ?side1 ?side2 A106.out).mono ?_); (case side1 => repeat (first | exact (Kd.R_reads' HO_9.out).2.2 | (with_reducible refine Kd.C_alloc ?_ _) | (with_reducible refine Kd.C_drewN ?_ _) | (with_reducible refine Kd.C_drew ?_))); (case side2 => exact (Kd.R_reads' HO_9.out).2.1); rintro e w' ⟨rfl, ⟨nd, rfl⟩⟩; have hcz117_0 : w115.cell? ⟨gb519, 0, none⟩ = some (.int .i64 a2_0) := (blk_cell BK519.out 0).trans rfl; have hcz117_1 : w115.cell? ⟨gb519, 1, none⟩ = some (.int .i64 a2_1) := (blk_cell BK519.out 1).trans rfl; have hfz117_0 := blk_frozen BK519.out 0; have hfz117_1 := blk_frozen BK519.out 1))
             go_ret
             exact ⟨by first | rfl | (simp [errW_none, errW_some] <;> rfl) | (simp [*, errW_none, errW_some] <;> rfl), by repeat (first | (with_reducible first | exact HB.out | apply below_alloc | apply pw_below_drewN | apply below_drew1 | refine below_set ?_ GE518.out | refine below_set ?_ GE519.out) | exact HB.out)⟩
            ·replace c109 := Bool.eq_false_iff.mpr c109
             subst c109
             have H1 : (some true) = some r := by rw [if_neg (show ¬ (false = true) by decide)] at H; exact H
             clear H
             have H := H1
             clear H1
             obtain rfl := Option.some.inj H
             have hnb118 := NB519_518.out
             have hnc118 := NB518_519.out
             have hcz119_0 : wc.cell? ⟨gb519, 0, none⟩ = some (.int .i64 a2_0) := (blk_cell BK519.out 0).trans rfl
             have hcz119_1 : wc.cell? ⟨gb519, 1, none⟩ = some (.int .i64 a2_1) := (blk_cell BK519.out 1).trans rfl
             have hfz119_0 := blk_frozen BK519.out 0
             have hfz119_1 := blk_frozen BK519.out 1
             obtain ⟨Ao120, co120, eo120⟩ := Kd.R_slice HO_7.out
             subst eo120
             try go_wp2_with (first | ((with_reducible refine gate_callee (f := 14) rfl ?_); refine goesL_ (some 81) rfl rfl Try.func14 (by kernel_rfl) rfl #[.slice Ao120 t526.length co120, .int .i64 a2_0] rfl (by (try simp only [List.map_toArray, List.map_cons, List.map_nil]); first | done | rfl | (simp only [List.length_drop, List.length_take]; rfl)) ?_; (with_reducible refine (move_Value.calls _ _ t526 a2_0 t534 true _ ?side1 ?side2 A77.out).mono ?_); (case side1 => repeat (first | exact (Kd.R_reads' HO_7.out).2.2 | (with_reducible refine Kd.C_alloc ?_ _) | (with_reducible refine Kd.C_drewN ?_ _) | (with_reducible refine Kd.C_drew ?_))); (case side2 => exact (Kd.R_reads' HO_7.out).2.1); rintro e w' ⟨rfl, ⟨nd, rfl⟩⟩; refine ⟨_, rfl, ?_⟩) | ((with_reducible refine gate_callee (f := 14) rfl ?_); refine goesL_ (some 88) rfl rfl Try.func14 (by kernel_rfl) rfl #[.slice Ao120 t526.length co120, .int .i64 a2_1] rfl (by (try simp only [List.map_toArray, List.map_cons, List.map_nil]); first | done | rfl | (simp only [List.length_drop, List.length_take]; rfl)) ?_; (with_reducible refine (move_Value.calls _ _ t526 a2_1 t536 false _ ?side1 ?side2 A78.out).mono ?_); (case side1 => repeat (first | exact (Kd.R_reads' HO_7.out).2.2 | (with_reducible refine Kd.C_alloc ?_ _) | (with_reducible refine Kd.C_drewN ?_ _) | (with_reducible refine Kd.C_drew ?_))); (case side2 => exact (Kd.R_reads' HO_7.out).2.1); rintro e w' ⟨rfl, ⟨nd, rfl⟩⟩; refine ⟨_, rfl, ?_⟩))
             (try (rw [drewN_self wc]; generalize hq_ : World.drewN wc _ = wc; have n0_ : Aside0 (Kd.R (Kd.int .i64) 3 wc w.heap.size (fun k_ => some k_ ≠ (v531 : Value).ownBlock) (.slice Ao120 t526.length co120) t526) := ⟨by rw [← hq_]; exact (by (with_reducible repeat (first | apply Kd.R_alloc | apply Kd.R_drewN | apply Kd.R_drew)); exact HO_7.out)⟩; have n1_ : Aside0 (Kd.R (Kd.int .i64) 3 wc w.heap.size (fun k_ => some k_ ≠ (.slice Ao120 t526.length co120 : Value).ownBlock) v531 t530) := ⟨by rw [← hq_]; exact (by (with_reducible repeat (first | apply Kd.R_alloc | apply Kd.R_drewN | apply Kd.R_drew)); exact HO_9.out)⟩; have n2_ : Aside0 (wc.heap[gb518]? = some (.cells #[.slice A0_0 l0_0.length c0_0, .int .i64 a0_1, .int .i64 a0_2] 24 (0, 0))) := ⟨by rw [← hq_]; exact (by (with_reducible repeat (first | refine blk_drewN ?_ _ | refine blk_drew ?_ | refine blk_alloc ?_ _)); exact BK518.out)⟩; have n3_ : Aside0 (wc.heap[gb519]? = some (.cells #[.int .i64 a2_0, .int .i64 a2_1] 47 (0, 0))) := ⟨by rw [← hq_]; exact (by (with_reducible repeat (first | refine blk_drewN ?_ _ | refine blk_drew ?_ | refine blk_alloc ?_ _)); exact BK519.out)⟩; have n4_ : Aside0 (Below w.heap.size w wc) := ⟨by rw [← hq_]; exact (by repeat (first | (with_reducible first | exact HB.out | apply below_alloc | apply pw_below_drewN | apply below_drew1 | refine below_set ?_ GE518.out | refine below_set ?_ GE519.out) | exact HB.out))⟩; clear HO_7 HO_9 BK518 BK519 HB hq_; have HO_7 := n0_; have HO_9 := n1_; have BK518 := n2_; have BK519 := n3_; have HB := n4_; clear n0_ n1_ n2_ n3_ n4_))
             have n0_ := Aside0.mk (Kd.R_drew HO_7.out)
             have n1_ := Aside0.mk (Kd.R_drew HO_9.out)
             have n2_ := Aside0.mk (blk_drew BK518.out)
             have n3_ := Aside0.mk (blk_drew BK519.out)
             have n4_ := Aside0.mk (below_drew1 HB.out)
             clear HO_7
             clear HO_9
             clear BK518
             clear BK519
             clear HB
             have HO_7 := n0_
             have HO_9 := n1_
             have BK518 := n2_
             have BK519 := n3_
             have HB := n4_
             clear n0_ n1_ n2_ n3_ n4_
             refine start_ (n := 10) (S := fun w' => w'.cell? ⟨gb518, 0, none⟩ = some (.slice A0_0 l0_0.length c0_0) ∧ w'.cell? ⟨gb518, 1, none⟩ = some (.int .i64 a0_1) ∧ w'.cell? ⟨gb518, 2, none⟩ = some (.int .i64 a0_2) ∧ w'.cell? ⟨gb519, 0, none⟩ = some (.int .i64 a2_0) ∧ w'.cell? ⟨gb519, 1, none⟩ = some (.int .i64 a2_1)) (ds := []) #[false, false, false, false, false, false, false, false, false, false] (by kernel_rfl) rfl rfl ⟨(blk_cell BK518.out 0).trans rfl, (blk_cell BK518.out 1).trans rfl, (blk_cell BK518.out 2).trans rfl, (blk_cell BK519.out 0).trans rfl, (blk_cell BK519.out 1).trans rfl⟩ (fun hHeld => ?_); refine with_tabW anamnesislaw05_MoveValues.tab9 anamnesislaw05_MoveValues.bits9 (fun HT_ HW_ => ?_)
             generalize wc.drew = w121 at HO_7 HO_9 BK518 BK519 HB hHeld ⊢
             refine pure1 (i := 1) (N := some 92) #[false, true, false, false, false, false, false, false, false, false] HT_.out ?_
             refine pure1 (i := 5) (N := some 96) #[false, true, false, false, false, true, false, false, false, false] HT_.out ?_
             refine take1 (i := 0) (N := some 91) #[true, true, false, false, false, true, false, false, false, false] HT_.out HW_.out hHeld ?_
             refine take1 (i := 2) (N := some 93) #[true, true, true, false, false, true, false, false, false, false] HT_.out HW_.out hHeld ?_
             refine take1 (i := 4) (N := some 95) #[true, true, true, false, true, true, false, false, false, false] HT_.out HW_.out hHeld ?_
             refine take1 (i := 6) (N := some 97) #[true, true, true, false, true, true, true, false, false, false] HT_.out HW_.out hHeld ?_
             refine one_ (i := 3) (N := some 94) #[true, true, true, true, true, true, true, false, false, false] rfl rfl (one_of HT_.out (by kernel_rfl)) (by decide) (fun K hK => ?_)
             refine goes_ Try.func22 (by kernel_rfl) rfl #[.agg #[.slice A0_0 l0_0.length c0_0, .int .i64 a0_1, .int .i64 a0_2], .int .i64 a2_0] (by rfl) rfl rfl (by (try simp only [List.map_toArray, List.map_cons, List.map_nil]); first | done | rfl | (simp only [List.length_drop, List.length_take]; rfl)) ?_
             with_reducible refine (anamnesisref03_Ref.calls _ _ l0_0 a0_1 a0_2 a2_0 t538 _ ?side1 ?side2 A79.out).mono ?_
             (case side1 => repeat (first | exact (Kd.C_below HR0_0.out HB.out) | (with_reducible refine Kd.C_alloc ?_ _) | (with_reducible refine Kd.C_drewN ?_ _) | (with_reducible refine Kd.C_drew ?_)))
             (case side2 => exact HC0_0.out)
             rintro e w122 ⟨rfl, hb⟩
             refine ⟨_, rfl, ?_⟩
             have n0_ := Aside0.mk (Kd.R_below (by (with_reducible repeat (first | apply Kd.R_alloc | apply Kd.R_drewN | apply Kd.R_drew)); exact HO_7.out) hb)
             have n1_ := Aside0.mk (Kd.R_below (by (with_reducible repeat (first | apply Kd.R_alloc | apply Kd.R_drewN | apply Kd.R_drew)); exact HO_9.out) hb)
             have n2_ := Aside0.mk (blk_below (g := gb518) (o := .cells #[.slice A0_0 l0_0.length c0_0, .int .i64 a0_1, .int .i64 a0_2] 24 (0, 0)) (by (with_reducible repeat (first | refine blk_drewN ?_ _ | refine blk_drew ?_ | refine blk_alloc ?_ _)); exact BK518.out) hb)
             have n3_ := Aside0.mk (blk_below (g := gb519) (o := .cells #[.int .i64 a2_0, .int .i64 a2_1] 47 (0, 0)) (by (with_reducible repeat (first | refine blk_drewN ?_ _ | refine blk_drew ?_ | refine blk_alloc ?_ _)); exact BK519.out) hb)
             have n4_ := Aside0.mk (below_step (by repeat (first | (with_reducible first | exact HB.out | apply below_alloc | apply pw_below_drewN | apply below_drew1 | refine below_set ?_ GE518.out | refine below_set ?_ GE519.out) | exact HB.out)) hb)
             clear HO_7
             clear HO_9
             clear BK518
             clear BK519
             clear HB
             have HO_7 := n0_
             have HO_9 := n1_
             have BK518 := n2_
             have BK519 := n3_
             have HB := n4_
             clear n0_ n1_ n2_ n3_ n4_
             (try clear hb)
             (try clear hb2)
             (try clear hk)
             (try clear hi)
             refine hK.out _ _ ⟨(blk_cell BK518.out 0).trans rfl, (blk_cell BK518.out 1).trans rfl, (blk_cell BK518.out 2).trans rfl, (blk_cell BK519.out 0).trans rfl, (blk_cell BK519.out 1).trans rfl⟩ (fun hHeld => ?_)
             clear hK K
             refine norm_ (a' := ?_) ?_ ?_
             rotate_left
             ·show Act.put _ (some 94) _ = _
              simp only [Act.put, List.setIfInBounds_toArray, List.set_cons_zero, List.set_cons_succ, i64_w, i32_w]
              rfl
             refine one_ (i := 7) (N := some 98) #[true, true, true, true, true, true, true, true, false, false] rfl rfl (one_of HT_.out (by kernel_rfl)) (by decide) (fun K hK => ?_)
             refine goes_ Try.func22 (by kernel_rfl) rfl #[.agg #[.slice A0_0 l0_0.length c0_0, .int .i64 a0_1, .int .i64 a0_2], .int .i64 a2_1] (by rfl) rfl rfl (by (try simp only [List.map_toArray, List.map_cons, List.map_nil]); first | done | rfl | (simp only [List.length_drop, List.length_take]; rfl)) ?_
             with_reducible refine (anamnesisref03_Ref.calls _ _ l0_0 a0_1 a0_2 a2_1 t539 _ ?side1 ?side2 A80.out).mono ?_
             (case side1 => repeat (first | exact (Kd.C_below HR0_0.out HB.out) | (with_reducible refine Kd.C_alloc ?_ _) | (with_reducible refine Kd.C_drewN ?_ _) | (with_reducible refine Kd.C_drew ?_)))
             (case side2 => exact HC0_0.out)
             rintro e w123 ⟨rfl, hb⟩
             refine ⟨_, rfl, ?_⟩
             have n0_ := Aside0.mk (Kd.R_below (by (with_reducible repeat (first | apply Kd.R_alloc | apply Kd.R_drewN | apply Kd.R_drew)); exact HO_7.out) hb)
             have n1_ := Aside0.mk (Kd.R_below (by (with_reducible repeat (first | apply Kd.R_alloc | apply Kd.R_drewN | apply Kd.R_drew)); exact HO_9.out) hb)
             have n2_ := Aside0.mk (blk_below (g := gb518) (o := .cells #[.slice A0_0 l0_0.length c0_0, .int .i64 a0_1, .int .i64 a0_2] 24 (0, 0)) (by (with_reducible repeat (first | refine blk_drewN ?_ _ | refine blk_drew ?_ | refine blk_alloc ?_ _)); exact BK518.out) hb)
             have n3_ := Aside0.mk (blk_below (g := gb519) (o := .cells #[.int .i64 a2_0, .int .i64 a2_1] 47 (0, 0)) (by (with_reducible repeat (first | refine blk_drewN ?_ _ | refine blk_drew ?_ | refine blk_alloc ?_ _)); exact BK519.out) hb)
             have n4_ := Aside0.mk (below_step (by repeat (first | (with_reducible first | exact HB.out | apply below_alloc | apply pw_below_drewN | apply below_drew1 | refine below_set ?_ GE518.out | refine below_set ?_ GE519.out) | exact HB.out)) hb)
             clear HO_7
             clear HO_9
             clear BK518
             clear BK519
             clear HB
             have HO_7 := n0_
             have HO_9 := n1_
             have BK518 := n2_
             have BK519 := n3_
             have HB := n4_
             clear n0_ n1_ n2_ n3_ n4_
             (try clear hb)
             (try clear hb2)
             (try clear hk)
             (try clear hi)
             refine hK.out _ _ ⟨(blk_cell BK518.out 0).trans rfl, (blk_cell BK518.out 1).trans rfl, (blk_cell BK518.out 2).trans rfl, (blk_cell BK519.out 0).trans rfl, (blk_cell BK519.out 1).trans rfl⟩ (fun hHeld => ?_)
             clear hK K
             refine norm_ (a' := ?_) ?_ ?_
             rotate_left
             ·show Act.put _ (some 98) _ = _
              simp only [Act.put, List.setIfInBounds_toArray, List.set_cons_zero, List.set_cons_succ, i64_w, i32_w]
              rfl
             refine pure1 (i := 8) (N := some 15) #[true, true, true, true, true, true, true, true, true, false] HT_.out ?_
             refine pure1 (i := 9) (N := some 16) #[true, true, true, true, true, true, true, true, true, true] HT_.out ?_
             refine done_ (done_of HT_.out (by kernel_rfl)) ?_
             obtain ⟨Ao124, co124, eo124⟩ := Kd.R_slice HO_9.out
             subst eo124
             try go_wp2_with (first | (go_at_call 24; (with_reducible refine (anamnesisref04_In.calls kj68 _ _ t530 t539 t540 _ ?side1 ?side2 A106.out).mono ?_); (case side1 => repeat (first | exact (Kd.R_reads' HO_9.out).2.2 | (with_reducible refine Kd.C_alloc ?_ _) | (with_reducible refine Kd.C_drewN ?_ _) | (with_reducible refine Kd.C_drew ?_))); (case side2 => exact (Kd.R_reads' HO_9.out).2.1); rintro e w' ⟨rfl, ⟨nd, rfl⟩⟩))
             go_ret
             exact ⟨by first | rfl | (simp [errW_none, errW_some] <;> rfl) | (simp [*, errW_none, errW_some] <;> rfl), by repeat (first | (with_reducible first | exact HB.out | apply below_alloc | apply pw_below_drewN | apply below_drew1 | refine below_set ?_ GE518.out | refine below_set ?_ GE519.out) | exact HB.out)⟩
           ·replace c108 := Bool.eq_false_iff.mpr c108
            subst c108
            have H1 : (some true) = some r := by rw [if_neg (show ¬ (false = true) by decide)] at H; exact H
            clear H
            have H := H1
            clear H1
            obtain rfl := Option.some.inj H
            have hnb125 := NB519_518.out
            have hnc125 := NB518_519.out
            have hcz126_0 : wc.cell? ⟨gb519, 0, none⟩ = some (.int .i64 a2_0) := (blk_cell BK519.out 0).trans rfl
            have hcz126_1 : wc.cell? ⟨gb519, 1, none⟩ = some (.int .i64 a2_1) := (blk_cell BK519.out 1).trans rfl
            have hfz126_0 := blk_frozen BK519.out 0
            have hfz126_1 := blk_frozen BK519.out 1
            obtain ⟨Ao127, co127, eo127⟩ := Kd.R_slice HO_7.out
            subst eo127
            try go_wp2_with (first | ((with_reducible refine gate_callee (f := 14) rfl ?_); refine goesL_ (some 81) rfl rfl Try.func14 (by kernel_rfl) rfl #[.slice Ao127 t526.length co127, .int .i64 a2_0] rfl (by (try simp only [List.map_toArray, List.map_cons, List.map_nil]); first | done | rfl | (simp only [List.length_drop, List.length_take]; rfl)) ?_; (with_reducible refine (move_Value.calls _ _ t526 a2_0 t534 false _ ?side1 ?side2 A77.out).mono ?_); (case side1 => repeat (first | exact (Kd.R_reads' HO_7.out).2.2 | (with_reducible refine Kd.C_alloc ?_ _) | (with_reducible refine Kd.C_drewN ?_ _) | (with_reducible refine Kd.C_drew ?_))); (case side2 => exact (Kd.R_reads' HO_7.out).2.1); rintro e w' ⟨rfl, ⟨nd, rfl⟩⟩; refine ⟨_, rfl, ?_⟩) | ((with_reducible refine gate_callee (f := 14) rfl ?_); refine goesL_ (some 88) rfl rfl Try.func14 (by kernel_rfl) rfl #[.slice Ao127 t526.length co127, .int .i64 a2_1] rfl (by (try simp only [List.map_toArray, List.map_cons, List.map_nil]); first | done | rfl | (simp only [List.length_drop, List.length_take]; rfl)) ?_; (with_reducible refine (move_Value.calls _ _ t526 a2_1 t536 t537 _ ?side1 ?side2 A78.out).mono ?_); (case side1 => repeat (first | exact (Kd.R_reads' HO_7.out).2.2 | (with_reducible refine Kd.C_alloc ?_ _) | (with_reducible refine Kd.C_drewN ?_ _) | (with_reducible refine Kd.C_drew ?_))); (case side2 => exact (Kd.R_reads' HO_7.out).2.1); rintro e w' ⟨rfl, ⟨nd, rfl⟩⟩; refine ⟨_, rfl, ?_⟩))
            (try (rw [drewN_self wc]; generalize hq_ : World.drewN wc _ = wc; have n0_ : Aside0 (Kd.R (Kd.int .i64) 3 wc w.heap.size (fun k_ => some k_ ≠ (v531 : Value).ownBlock) (.slice Ao127 t526.length co127) t526) := ⟨by rw [← hq_]; exact (by (with_reducible repeat (first | apply Kd.R_alloc | apply Kd.R_drewN | apply Kd.R_drew)); exact HO_7.out)⟩; have n1_ : Aside0 (Kd.R (Kd.int .i64) 3 wc w.heap.size (fun k_ => some k_ ≠ (.slice Ao127 t526.length co127 : Value).ownBlock) v531 t530) := ⟨by rw [← hq_]; exact (by (with_reducible repeat (first | apply Kd.R_alloc | apply Kd.R_drewN | apply Kd.R_drew)); exact HO_9.out)⟩; have n2_ : Aside0 (wc.heap[gb518]? = some (.cells #[.slice A0_0 l0_0.length c0_0, .int .i64 a0_1, .int .i64 a0_2] 24 (0, 0))) := ⟨by rw [← hq_]; exact (by (with_reducible repeat (first | refine blk_drewN ?_ _ | refine blk_drew ?_ | refine blk_alloc ?_ _)); exact BK518.out)⟩; have n3_ : Aside0 (wc.heap[gb519]? = some (.cells #[.int .i64 a2_0, .int .i64 a2_1] 47 (0, 0))) := ⟨by rw [← hq_]; exact (by (with_reducible repeat (first | refine blk_drewN ?_ _ | refine blk_drew ?_ | refine blk_alloc ?_ _)); exact BK519.out)⟩; have n4_ : Aside0 (Below w.heap.size w wc) := ⟨by rw [← hq_]; exact (by repeat (first | (with_reducible first | exact HB.out | apply below_alloc | apply pw_below_drewN | apply below_drew1 | refine below_set ?_ GE518.out | refine below_set ?_ GE519.out) | exact HB.out))⟩; clear HO_7 HO_9 BK518 BK519 HB hq_; have HO_7 := n0_; have HO_9 := n1_; have BK518 := n2_; have BK519 := n3_; have HB := n4_; clear n0_ n1_ n2_ n3_ n4_))
            have n0_ := Aside0.mk (Kd.R_drew HO_7.out)
            have n1_ := Aside0.mk (Kd.R_drew HO_9.out)
            have n2_ := Aside0.mk (blk_drew BK518.out)
            have n3_ := Aside0.mk (blk_drew BK519.out)
            have n4_ := Aside0.mk (below_drew1 HB.out)
            clear HO_7
            clear HO_9
            clear BK518
            clear BK519
            clear HB
            have HO_7 := n0_
            have HO_9 := n1_
            have BK518 := n2_
            have BK519 := n3_
            have HB := n4_
            clear n0_ n1_ n2_ n3_ n4_
            refine start_ (n := 10) (S := fun w' => w'.cell? ⟨gb518, 0, none⟩ = some (.slice A0_0 l0_0.length c0_0) ∧ w'.cell? ⟨gb518, 1, none⟩ = some (.int .i64 a0_1) ∧ w'.cell? ⟨gb518, 2, none⟩ = some (.int .i64 a0_2) ∧ w'.cell? ⟨gb519, 0, none⟩ = some (.int .i64 a2_0) ∧ w'.cell? ⟨gb519, 1, none⟩ = some (.int .i64 a2_1)) (ds := []) #[false, false, false, false, false, false, false, false, false, false] (by kernel_rfl) rfl rfl ⟨(blk_cell BK518.out 0).trans rfl, (blk_cell BK518.out 1).trans rfl, (blk_cell BK518.out 2).trans rfl, (blk_cell BK519.out 0).trans rfl, (blk_cell BK519.out 1).trans rfl⟩ (fun hHeld => ?_); refine with_tabW anamnesislaw05_MoveValues.tab9 anamnesislaw05_MoveValues.bits9 (fun HT_ HW_ => ?_)
            generalize wc.drew = w128 at HO_7 HO_9 BK518 BK519 HB hHeld ⊢
            refine pure1 (i := 1) (N := some 92) #[false, true, false, false, false, false, false, false, false, false] HT_.out ?_
            refine pure1 (i := 5) (N := some 96) #[false, true, false, false, false, true, false, false, false, false] HT_.out ?_
            refine take1 (i := 0) (N := some 91) #[true, true, false, false, false, true, false, false, false, false] HT_.out HW_.out hHeld ?_
            refine take1 (i := 2) (N := some 93) #[true, true, true, false, false, true, false, false, false, false] HT_.out HW_.out hHeld ?_
            refine take1 (i := 4) (N := some 95) #[true, true, true, false, true, true, false, false, false, false] HT_.out HW_.out hHeld ?_
            refine take1 (i := 6) (N := some 97) #[true, true, true, false, true, true, true, false, false, false] HT_.out HW_.out hHeld ?_
            refine one_ (i := 3) (N := some 94) #[true, true, true, true, true, true, true, false, false, false] rfl rfl (one_of HT_.out (by kernel_rfl)) (by decide) (fun K hK => ?_)
            refine goes_ Try.func22 (by kernel_rfl) rfl #[.agg #[.slice A0_0 l0_0.length c0_0, .int .i64 a0_1, .int .i64 a0_2], .int .i64 a2_0] (by rfl) rfl rfl (by (try simp only [List.map_toArray, List.map_cons, List.map_nil]); first | done | rfl | (simp only [List.length_drop, List.length_take]; rfl)) ?_
            with_reducible refine (anamnesisref03_Ref.calls _ _ l0_0 a0_1 a0_2 a2_0 t538 _ ?side1 ?side2 A79.out).mono ?_
            (case side1 => repeat (first | exact (Kd.C_below HR0_0.out HB.out) | (with_reducible refine Kd.C_alloc ?_ _) | (with_reducible refine Kd.C_drewN ?_ _) | (with_reducible refine Kd.C_drew ?_)))
            (case side2 => exact HC0_0.out)
            rintro e w129 ⟨rfl, hb⟩
            refine ⟨_, rfl, ?_⟩
            have n0_ := Aside0.mk (Kd.R_below (by (with_reducible repeat (first | apply Kd.R_alloc | apply Kd.R_drewN | apply Kd.R_drew)); exact HO_7.out) hb)
            have n1_ := Aside0.mk (Kd.R_below (by (with_reducible repeat (first | apply Kd.R_alloc | apply Kd.R_drewN | apply Kd.R_drew)); exact HO_9.out) hb)
            have n2_ := Aside0.mk (blk_below (g := gb518) (o := .cells #[.slice A0_0 l0_0.length c0_0, .int .i64 a0_1, .int .i64 a0_2] 24 (0, 0)) (by (with_reducible repeat (first | refine blk_drewN ?_ _ | refine blk_drew ?_ | refine blk_alloc ?_ _)); exact BK518.out) hb)
            have n3_ := Aside0.mk (blk_below (g := gb519) (o := .cells #[.int .i64 a2_0, .int .i64 a2_1] 47 (0, 0)) (by (with_reducible repeat (first | refine blk_drewN ?_ _ | refine blk_drew ?_ | refine blk_alloc ?_ _)); exact BK519.out) hb)
            have n4_ := Aside0.mk (below_step (by repeat (first | (with_reducible first | exact HB.out | apply below_alloc | apply pw_below_drewN | apply below_drew1 | refine below_set ?_ GE518.out | refine below_set ?_ GE519.out) | exact HB.out)) hb)
            clear HO_7
            clear HO_9
            clear BK518
            clear BK519
            clear HB
            have HO_7 := n0_
            have HO_9 := n1_
            have BK518 := n2_
            have BK519 := n3_
            have HB := n4_
            clear n0_ n1_ n2_ n3_ n4_
            (try clear hb)
            (try clear hb2)
            (try clear hk)
            (try clear hi)
            refine hK.out _ _ ⟨(blk_cell BK518.out 0).trans rfl, (blk_cell BK518.out 1).trans rfl, (blk_cell BK518.out 2).trans rfl, (blk_cell BK519.out 0).trans rfl, (blk_cell BK519.out 1).trans rfl⟩ (fun hHeld => ?_)
            clear hK K
            refine norm_ (a' := ?_) ?_ ?_
            rotate_left
            ·show Act.put _ (some 94) _ = _
             simp only [Act.put, List.setIfInBounds_toArray, List.set_cons_zero, List.set_cons_succ, i64_w, i32_w]
             rfl
            refine one_ (i := 7) (N := some 98) #[true, true, true, true, true, true, true, true, false, false] rfl rfl (one_of HT_.out (by kernel_rfl)) (by decide) (fun K hK => ?_)
            refine goes_ Try.func22 (by kernel_rfl) rfl #[.agg #[.slice A0_0 l0_0.length c0_0, .int .i64 a0_1, .int .i64 a0_2], .int .i64 a2_1] (by rfl) rfl rfl (by (try simp only [List.map_toArray, List.map_cons, List.map_nil]); first | done | rfl | (simp only [List.length_drop, List.length_take]; rfl)) ?_
            with_reducible refine (anamnesisref03_Ref.calls _ _ l0_0 a0_1 a0_2 a2_1 t539 _ ?side1 ?side2 A80.out).mono ?_
            (case side1 => repeat (first | exact (Kd.C_below HR0_0.out HB.out) | (with_reducible refine Kd.C_alloc ?_ _) | (with_reducible refine Kd.C_drewN ?_ _) | (with_reducible refine Kd.C_drew ?_)))
            (case side2 => exact HC0_0.out)
            rintro e w130 ⟨rfl, hb⟩
            refine ⟨_, rfl, ?_⟩
            have n0_ := Aside0.mk (Kd.R_below (by (with_reducible repeat (first | apply Kd.R_alloc | apply Kd.R_drewN | apply Kd.R_drew)); exact HO_7.out) hb)
            have n1_ := Aside0.mk (Kd.R_below (by (with_reducible repeat (first | apply Kd.R_alloc | apply Kd.R_drewN | apply Kd.R_drew)); exact HO_9.out) hb)
            have n2_ := Aside0.mk (blk_below (g := gb518) (o := .cells #[.slice A0_0 l0_0.length c0_0, .int .i64 a0_1, .int .i64 a0_2] 24 (0, 0)) (by (with_reducible repeat (first | refine blk_drewN ?_ _ | refine blk_drew ?_ | refine blk_alloc ?_ _)); exact BK518.out) hb)
            have n3_ := Aside0.mk (blk_below (g := gb519) (o := .cells #[.int .i64 a2_0, .int .i64 a2_1] 47 (0, 0)) (by (with_reducible repeat (first | refine blk_drewN ?_ _ | refine blk_drew ?_ | refine blk_alloc ?_ _)); exact BK519.out) hb)
            have n4_ := Aside0.mk (below_step (by repeat (first | (with_reducible first | exact HB.out | apply below_alloc | apply pw_below_drewN | apply below_drew1 | refine below_set ?_ GE518.out | refine below_set ?_ GE519.out) | exact HB.out)) hb)
            clear HO_7
            clear HO_9
            clear BK518
            clear BK519
            clear HB
            have HO_7 := n0_
            have HO_9 := n1_
            have BK518 := n2_
            have BK519 := n3_
            have HB := n4_
            clear n0_ n1_ n2_ n3_ n4_
            (try clear hb)
            (try clear hb2)
            (try clear hk)
            (try clear hi)
            refine hK.out _ _ ⟨(blk_cell BK518.out 0).trans rfl, (blk_cell BK518.out 1).trans rfl, (blk_cell BK518.out 2).trans rfl, (blk_cell BK519.out 0).trans rfl, (blk_cell BK519.out 1).trans rfl⟩ (fun hHeld => ?_)
            clear hK K
            refine norm_ (a' := ?_) ?_ ?_
            rotate_left
            ·show Act.put _ (some 98) _ = _
             simp only [Act.put, List.setIfInBounds_toArray, List.set_cons_zero, List.set_cons_succ, i64_w, i32_w]
             rfl
            refine pure1 (i := 8) (N := some 15) #[true, true, true, true, true, true, true, true, true, false] HT_.out ?_
            refine pure1 (i := 9) (N := some 16) #[true, true, true, true, true, true, true, true, true, true] HT_.out ?_
            refine done_ (done_of HT_.out (by kernel_rfl)) ?_
            obtain ⟨Ao131, co131, eo131⟩ := Kd.R_slice HO_9.out
            subst eo131
            try go_wp2_with (first | (go_at_call 24; (with_reducible refine (anamnesisref04_In.calls kj68 _ _ t530 t539 t540 _ ?side1 ?side2 A106.out).mono ?_); (case side1 => repeat (first | exact (Kd.R_reads' HO_9.out).2.2 | (with_reducible refine Kd.C_alloc ?_ _) | (with_reducible refine Kd.C_drewN ?_ _) | (with_reducible refine Kd.C_drew ?_))); (case side2 => exact (Kd.R_reads' HO_9.out).2.1); rintro e w' ⟨rfl, ⟨nd, rfl⟩⟩))
            go_ret
            exact ⟨by first | rfl | (simp [errW_none, errW_some] <;> rfl) | (simp [*, errW_none, errW_some] <;> rfl), by repeat (first | (with_reducible first | exact HB.out | apply below_alloc | apply pw_below_drewN | apply below_drew1 | refine below_set ?_ GE518.out | refine below_set ?_ GE519.out) | exact HB.out)⟩
          ·rw [if_neg c107] at H
           exact absurd H (by simp)
        ·rw [if_neg c82] at H
         exact absurd H (by simp)
       ·rw [if_neg c81] at H
        have c81b0 : decide (t538 < 0) = false := decide_eq_false c81
        clear c81
        replace H := Option.bind_eq_some_iff.mp H
        obtain ⟨t541, A1320, H⟩ := H
        replace H : (if (t535 == t541) = true then (if t539 < 0 then (if (t537 == true) = true then (if t535 = true then (if t537 = true then (some ((t534 == t536) == (a2_0 == a2_1))) else (some true)) else (some true)) else (none)) else ((anamnesisref04_In.f kj68 t530 t539).bind fun t542 => (if (t537 == t542) = true then (if t535 = true then (if t537 = true then (some ((t534 == t536) == (a2_0 == a2_1))) else (some true)) else (some true)) else (none)))) else (none)) = some r := H
        have A132 := Aside0.mk A1320
        clear A1320
        by_cases c133 : (t535 == t541) = true
        ·rw [if_pos c133] at H
         have c133b0 : (t535 == t541) = true := c133
         (try (have c133b1 : decide (t535 = t541) = true := by simpa using c133))
         (try (have c133b2 : (t535 == t541) = true := by simpa using c133))
         clear c133
         by_cases c134 : t539 < 0
         ·rw [if_pos c134] at H
          have c134b0 : decide (t539 < 0) = true := decide_eq_true c134
          clear c134
          by_cases c135 : (t537 == true) = true
          ·rw [if_pos c135] at H
           have c135b0 : (t537 == true) = true := c135
           (try (have c135b1 : decide (t537 = true) = true := by simpa using c135))
           (try (have c135b2 : (t537 == true) = true := by simpa using c135))
           clear c135
           by_cases c136 : t535 = true
           ·subst c136
            have H1 : (if t537 = true then (some ((t534 == t536) == (a2_0 == a2_1))) else (some true)) = some r := by rw [if_pos rfl] at H; exact H
            clear H
            have H := H1
            clear H1
            by_cases c137 : t537 = true
            ·subst c137
             have H1 : (some ((t534 == t536) == (a2_0 == a2_1))) = some r := by rw [if_pos rfl] at H; exact H
             clear H
             have H := H1
             clear H1
             obtain rfl := Option.some.inj H
             have hnb138 := NB519_518.out
             have hnc138 := NB518_519.out
             have hcz139_0 : wc.cell? ⟨gb519, 0, none⟩ = some (.int .i64 a2_0) := (blk_cell BK519.out 0).trans rfl
             have hcz139_1 : wc.cell? ⟨gb519, 1, none⟩ = some (.int .i64 a2_1) := (blk_cell BK519.out 1).trans rfl
             have hfz139_0 := blk_frozen BK519.out 0
             have hfz139_1 := blk_frozen BK519.out 1
             obtain ⟨Ao140, co140, eo140⟩ := Kd.R_slice HO_7.out
             subst eo140
             try go_wp2_with (first | ((with_reducible refine gate_callee (f := 14) rfl ?_); refine goesL_ (some 81) rfl rfl Try.func14 (by kernel_rfl) rfl #[.slice Ao140 t526.length co140, .int .i64 a2_0] rfl (by (try simp only [List.map_toArray, List.map_cons, List.map_nil]); first | done | rfl | (simp only [List.length_drop, List.length_take]; rfl)) ?_; (with_reducible refine (move_Value.calls _ _ t526 a2_0 t534 true _ ?side1 ?side2 A77.out).mono ?_); (case side1 => repeat (first | exact (Kd.R_reads' HO_7.out).2.2 | (with_reducible refine Kd.C_alloc ?_ _) | (with_reducible refine Kd.C_drewN ?_ _) | (with_reducible refine Kd.C_drew ?_))); (case side2 => exact (Kd.R_reads' HO_7.out).2.1); rintro e w' ⟨rfl, ⟨nd, rfl⟩⟩; refine ⟨_, rfl, ?_⟩) | ((with_reducible refine gate_callee (f := 14) rfl ?_); refine goesL_ (some 88) rfl rfl Try.func14 (by kernel_rfl) rfl #[.slice Ao140 t526.length co140, .int .i64 a2_1] rfl (by (try simp only [List.map_toArray, List.map_cons, List.map_nil]); first | done | rfl | (simp only [List.length_drop, List.length_take]; rfl)) ?_; (with_reducible refine (move_Value.calls _ _ t526 a2_1 t536 true _ ?side1 ?side2 A78.out).mono ?_); (case side1 => repeat (first | exact (Kd.R_reads' HO_7.out).2.2 | (with_reducible refine Kd.C_alloc ?_ _) | (with_reducible refine Kd.C_drewN ?_ _) | (with_reducible refine Kd.C_drew ?_))); (case side2 => exact (Kd.R_reads' HO_7.out).2.1); rintro e w' ⟨rfl, ⟨nd, rfl⟩⟩; refine ⟨_, rfl, ?_⟩))
             (try (rw [drewN_self wc]; generalize hq_ : World.drewN wc _ = wc; have n0_ : Aside0 (Kd.R (Kd.int .i64) 3 wc w.heap.size (fun k_ => some k_ ≠ (v531 : Value).ownBlock) (.slice Ao140 t526.length co140) t526) := ⟨by rw [← hq_]; exact (by (with_reducible repeat (first | apply Kd.R_alloc | apply Kd.R_drewN | apply Kd.R_drew)); exact HO_7.out)⟩; have n1_ : Aside0 (Kd.R (Kd.int .i64) 3 wc w.heap.size (fun k_ => some k_ ≠ (.slice Ao140 t526.length co140 : Value).ownBlock) v531 t530) := ⟨by rw [← hq_]; exact (by (with_reducible repeat (first | apply Kd.R_alloc | apply Kd.R_drewN | apply Kd.R_drew)); exact HO_9.out)⟩; have n2_ : Aside0 (wc.heap[gb518]? = some (.cells #[.slice A0_0 l0_0.length c0_0, .int .i64 a0_1, .int .i64 a0_2] 24 (0, 0))) := ⟨by rw [← hq_]; exact (by (with_reducible repeat (first | refine blk_drewN ?_ _ | refine blk_drew ?_ | refine blk_alloc ?_ _)); exact BK518.out)⟩; have n3_ : Aside0 (wc.heap[gb519]? = some (.cells #[.int .i64 a2_0, .int .i64 a2_1] 47 (0, 0))) := ⟨by rw [← hq_]; exact (by (with_reducible repeat (first | refine blk_drewN ?_ _ | refine blk_drew ?_ | refine blk_alloc ?_ _)); exact BK519.out)⟩; have n4_ : Aside0 (Below w.heap.size w wc) := ⟨by rw [← hq_]; exact (by repeat (first | (with_reducible first | exact HB.out | apply below_alloc | apply pw_below_drewN | apply below_drew1 | refine below_set ?_ GE518.out | refine below_set ?_ GE519.out) | exact HB.out))⟩; clear HO_7 HO_9 BK518 BK519 HB hq_; have HO_7 := n0_; have HO_9 := n1_; have BK518 := n2_; have BK519 := n3_; have HB := n4_; clear n0_ n1_ n2_ n3_ n4_))
             have n0_ := Aside0.mk (Kd.R_drew HO_7.out)
             have n1_ := Aside0.mk (Kd.R_drew HO_9.out)
             have n2_ := Aside0.mk (blk_drew BK518.out)
             have n3_ := Aside0.mk (blk_drew BK519.out)
             have n4_ := Aside0.mk (below_drew1 HB.out)
             clear HO_7
             clear HO_9
             clear BK518
             clear BK519
             clear HB
             have HO_7 := n0_
             have HO_9 := n1_
             have BK518 := n2_
             have BK519 := n3_
             have HB := n4_
             clear n0_ n1_ n2_ n3_ n4_
             refine start_ (n := 10) (S := fun w' => w'.cell? ⟨gb518, 0, none⟩ = some (.slice A0_0 l0_0.length c0_0) ∧ w'.cell? ⟨gb518, 1, none⟩ = some (.int .i64 a0_1) ∧ w'.cell? ⟨gb518, 2, none⟩ = some (.int .i64 a0_2) ∧ w'.cell? ⟨gb519, 0, none⟩ = some (.int .i64 a2_0) ∧ w'.cell? ⟨gb519, 1, none⟩ = some (.int .i64 a2_1)) (ds := []) #[false, false, false, false, false, false, false, false, false, false] (by kernel_rfl) rfl rfl ⟨(blk_cell BK518.out 0).trans rfl, (blk_cell BK518.out 1).trans rfl, (blk_cell BK518.out 2).trans rfl, (blk_cell BK519.out 0).trans rfl, (blk_cell BK519.out 1).trans rfl⟩ (fun hHeld => ?_); refine with_tabW anamnesislaw05_MoveValues.tab9 anamnesislaw05_MoveValues.bits9 (fun HT_ HW_ => ?_)
             generalize wc.drew = w141 at HO_7 HO_9 BK518 BK519 HB hHeld ⊢
             refine pure1 (i := 1) (N := some 92) #[false, true, false, false, false, false, false, false, false, false] HT_.out ?_
             refine pure1 (i := 5) (N := some 96) #[false, true, false, false, false, true, false, false, false, false] HT_.out ?_
             refine take1 (i := 0) (N := some 91) #[true, true, false, false, false, true, false, false, false, false] HT_.out HW_.out hHeld ?_
             refine take1 (i := 2) (N := some 93) #[true, true, true, false, false, true, false, false, false, false] HT_.out HW_.out hHeld ?_
             refine take1 (i := 4) (N := some 95) #[true, true, true, false, true, true, false, false, false, false] HT_.out HW_.out hHeld ?_
             refine take1 (i := 6) (N := some 97) #[true, true, true, false, true, true, true, false, false, false] HT_.out HW_.out hHeld ?_
             refine one_ (i := 3) (N := some 94) #[true, true, true, true, true, true, true, false, false, false] rfl rfl (one_of HT_.out (by kernel_rfl)) (by decide) (fun K hK => ?_)
             refine goes_ Try.func22 (by kernel_rfl) rfl #[.agg #[.slice A0_0 l0_0.length c0_0, .int .i64 a0_1, .int .i64 a0_2], .int .i64 a2_0] (by rfl) rfl rfl (by (try simp only [List.map_toArray, List.map_cons, List.map_nil]); first | done | rfl | (simp only [List.length_drop, List.length_take]; rfl)) ?_
             with_reducible refine (anamnesisref03_Ref.calls _ _ l0_0 a0_1 a0_2 a2_0 t538 _ ?side1 ?side2 A79.out).mono ?_
             (case side1 => repeat (first | exact (Kd.C_below HR0_0.out HB.out) | (with_reducible refine Kd.C_alloc ?_ _) | (with_reducible refine Kd.C_drewN ?_ _) | (with_reducible refine Kd.C_drew ?_)))
             (case side2 => exact HC0_0.out)
             rintro e w142 ⟨rfl, hb⟩
             refine ⟨_, rfl, ?_⟩
             have n0_ := Aside0.mk (Kd.R_below (by (with_reducible repeat (first | apply Kd.R_alloc | apply Kd.R_drewN | apply Kd.R_drew)); exact HO_7.out) hb)
             have n1_ := Aside0.mk (Kd.R_below (by (with_reducible repeat (first | apply Kd.R_alloc | apply Kd.R_drewN | apply Kd.R_drew)); exact HO_9.out) hb)
             have n2_ := Aside0.mk (blk_below (g := gb518) (o := .cells #[.slice A0_0 l0_0.length c0_0, .int .i64 a0_1, .int .i64 a0_2] 24 (0, 0)) (by (with_reducible repeat (first | refine blk_drewN ?_ _ | refine blk_drew ?_ | refine blk_alloc ?_ _)); exact BK518.out) hb)
             have n3_ := Aside0.mk (blk_below (g := gb519) (o := .cells #[.int .i64 a2_0, .int .i64 a2_1] 47 (0, 0)) (by (with_reducible repeat (first | refine blk_drewN ?_ _ | refine blk_drew ?_ | refine blk_alloc ?_ _)); exact BK519.out) hb)
             have n4_ := Aside0.mk (below_step (by repeat (first | (with_reducible first | exact HB.out | apply below_alloc | apply pw_below_drewN | apply below_drew1 | refine below_set ?_ GE518.out | refine below_set ?_ GE519.out) | exact HB.out)) hb)
             clear HO_7
             clear HO_9
             clear BK518
             clear BK519
             clear HB
             have HO_7 := n0_
             have HO_9 := n1_
             have BK518 := n2_
             have BK519 := n3_
             have HB := n4_
             clear n0_ n1_ n2_ n3_ n4_
             (try clear hb)
             (try clear hb2)
             (try clear hk)
             (try clear hi)
             refine hK.out _ _ ⟨(blk_cell BK518.out 0).trans rfl, (blk_cell BK518.out 1).trans rfl, (blk_cell BK518.out 2).trans rfl, (blk_cell BK519.out 0).trans rfl, (blk_cell BK519.out 1).trans rfl⟩ (fun hHeld => ?_)
             clear hK K
             refine norm_ (a' := ?_) ?_ ?_
             rotate_left
             ·show Act.put _ (some 94) _ = _
              simp only [Act.put, List.setIfInBounds_toArray, List.set_cons_zero, List.set_cons_succ, i64_w, i32_w]
              rfl
             refine one_ (i := 7) (N := some 98) #[true, true, true, true, true, true, true, true, false, false] rfl rfl (one_of HT_.out (by kernel_rfl)) (by decide) (fun K hK => ?_)
             refine goes_ Try.func22 (by kernel_rfl) rfl #[.agg #[.slice A0_0 l0_0.length c0_0, .int .i64 a0_1, .int .i64 a0_2], .int .i64 a2_1] (by rfl) rfl rfl (by (try simp only [List.map_toArray, List.map_cons, List.map_nil]); first | done | rfl | (simp only [List.length_drop, List.length_take]; rfl)) ?_
             with_reducible refine (anamnesisref03_Ref.calls _ _ l0_0 a0_1 a0_2 a2_1 t539 _ ?side1 ?side2 A80.out).mono ?_
             (case side1 => repeat (first | exact (Kd.C_below HR0_0.out HB.out) | (with_reducible refine Kd.C_alloc ?_ _) | (with_reducible refine Kd.C_drewN ?_ _) | (with_reducible refine Kd.C_drew ?_)))
             (case side2 => exact HC0_0.out)
             rintro e w143 ⟨rfl, hb⟩
             refine ⟨_, rfl, ?_⟩
             have n0_ := Aside0.mk (Kd.R_below (by (with_reducible repeat (first | apply Kd.R_alloc | apply Kd.R_drewN | apply Kd.R_drew)); exact HO_7.out) hb)
             have n1_ := Aside0.mk (Kd.R_below (by (with_reducible repeat (first | apply Kd.R_alloc | apply Kd.R_drewN | apply Kd.R_drew)); exact HO_9.out) hb)
             have n2_ := Aside0.mk (blk_below (g := gb518) (o := .cells #[.slice A0_0 l0_0.length c0_0, .int .i64 a0_1, .int .i64 a0_2] 24 (0, 0)) (by (with_reducible repeat (first | refine blk_drewN ?_ _ | refine blk_drew ?_ | refine blk_alloc ?_ _)); exact BK518.out) hb)
             have n3_ := Aside0.mk (blk_below (g := gb519) (o := .cells #[.int .i64 a2_0, .int .i64 a2_1] 47 (0, 0)) (by (with_reducible repeat (first | refine blk_drewN ?_ _ | refine blk_drew ?_ | refine blk_alloc ?_ _)); exact BK519.out) hb)
             have n4_ := Aside0.mk (below_step (by repeat (first | (with_reducible first | exact HB.out | apply below_alloc | apply pw_below_drewN | apply below_drew1 | refine below_set ?_ GE518.out | refine below_set ?_ GE519.out) | exact HB.out)) hb)
             clear HO_7
             clear HO_9
             clear BK518
             clear BK519
             clear HB
             have HO_7 := n0_
             have HO_9 := n1_
             have BK518 := n2_
             have BK519 := n3_
             have HB := n4_
             clear n0_ n1_ n2_ n3_ n4_
             (try clear hb)
             (try clear hb2)
             (try clear hk)
             (try clear hi)
             refine hK.out _ _ ⟨(blk_cell BK518.out 0).trans rfl, (blk_cell BK518.out 1).trans rfl, (blk_cell BK518.out 2).trans rfl, (blk_cell BK519.out 0).trans rfl, (blk_cell BK519.out 1).trans rfl⟩ (fun hHeld => ?_)
             clear hK K
             refine norm_ (a' := ?_) ?_ ?_
             rotate_left
             ·show Act.put _ (some 98) _ = _
              simp only [Act.put, List.setIfInBounds_toArray, List.set_cons_zero, List.set_cons_succ, i64_w, i32_w]
              rfl
             refine pure1 (i := 8) (N := some 15) #[true, true, true, true, true, true, true, true, true, false] HT_.out ?_
             refine pure1 (i := 9) (N := some 16) #[true, true, true, true, true, true, true, true, true, true] HT_.out ?_
             refine done_ (done_of HT_.out (by kernel_rfl)) ?_
             obtain ⟨Ao144, co144, eo144⟩ := Kd.R_slice HO_9.out
             subst eo144
             try go_wp2_with (first | (go_at_call 24; (with_reducible refine (anamnesisref04_In.calls kj68 _ _ t530 t538 t541 _ ?side1 ?side2 A132.out).mono ?_); (case side1 => repeat (first | exact (Kd.R_reads' HO_9.out).2.2 | (with_reducible refine Kd.C_alloc ?_ _) | (with_reducible refine Kd.C_drewN ?_ _) | (with_reducible refine Kd.C_drew ?_))); (case side2 => exact (Kd.R_reads' HO_9.out).2.1); rintro e w' ⟨rfl, ⟨nd, rfl⟩⟩; have hcz145_0 : w143.cell? ⟨gb519, 0, none⟩ = some (.int .i64 a2_0) := (blk_cell BK519.out 0).trans rfl; have hcz145_1 : w143.cell? ⟨gb519, 1, none⟩ = some (.int .i64 a2_1) := (blk_cell BK519.out 1).trans rfl; have hfz145_0 := blk_frozen BK519.out 0; have hfz145_1 := blk_frozen BK519.out 1))
             go_ret
             exact ⟨by first | rfl | (simp [errW_none, errW_some] <;> rfl) | (simp [*, errW_none, errW_some] <;> rfl), by repeat (first | (with_reducible first | exact HB.out | apply below_alloc | apply pw_below_drewN | apply below_drew1 | refine below_set ?_ GE518.out | refine below_set ?_ GE519.out) | exact HB.out)⟩
            ·replace c137 := Bool.eq_false_iff.mpr c137
             subst c137
             have H1 : (some true) = some r := by rw [if_neg (show ¬ (false = true) by decide)] at H; exact H
             clear H
             have H := H1
             clear H1
             obtain rfl := Option.some.inj H
             have hnb146 := NB519_518.out
             have hnc146 := NB518_519.out
             have hcz147_0 : wc.cell? ⟨gb519, 0, none⟩ = some (.int .i64 a2_0) := (blk_cell BK519.out 0).trans rfl
             have hcz147_1 : wc.cell? ⟨gb519, 1, none⟩ = some (.int .i64 a2_1) := (blk_cell BK519.out 1).trans rfl
             have hfz147_0 := blk_frozen BK519.out 0
             have hfz147_1 := blk_frozen BK519.out 1
             obtain ⟨Ao148, co148, eo148⟩ := Kd.R_slice HO_7.out
             subst eo148
             try go_wp2_with (first | ((with_reducible refine gate_callee (f := 14) rfl ?_); refine goesL_ (some 81) rfl rfl Try.func14 (by kernel_rfl) rfl #[.slice Ao148 t526.length co148, .int .i64 a2_0] rfl (by (try simp only [List.map_toArray, List.map_cons, List.map_nil]); first | done | rfl | (simp only [List.length_drop, List.length_take]; rfl)) ?_; (with_reducible refine (move_Value.calls _ _ t526 a2_0 t534 true _ ?side1 ?side2 A77.out).mono ?_); (case side1 => repeat (first | exact (Kd.R_reads' HO_7.out).2.2 | (with_reducible refine Kd.C_alloc ?_ _) | (with_reducible refine Kd.C_drewN ?_ _) | (with_reducible refine Kd.C_drew ?_))); (case side2 => exact (Kd.R_reads' HO_7.out).2.1); rintro e w' ⟨rfl, ⟨nd, rfl⟩⟩; refine ⟨_, rfl, ?_⟩) | ((with_reducible refine gate_callee (f := 14) rfl ?_); refine goesL_ (some 88) rfl rfl Try.func14 (by kernel_rfl) rfl #[.slice Ao148 t526.length co148, .int .i64 a2_1] rfl (by (try simp only [List.map_toArray, List.map_cons, List.map_nil]); first | done | rfl | (simp only [List.length_drop, List.length_take]; rfl)) ?_; (with_reducible refine (move_Value.calls _ _ t526 a2_1 t536 false _ ?side1 ?side2 A78.out).mono ?_); (case side1 => repeat (first | exact (Kd.R_reads' HO_7.out).2.2 | (with_reducible refine Kd.C_alloc ?_ _) | (with_reducible refine Kd.C_drewN ?_ _) | (with_reducible refine Kd.C_drew ?_))); (case side2 => exact (Kd.R_reads' HO_7.out).2.1); rintro e w' ⟨rfl, ⟨nd, rfl⟩⟩; refine ⟨_, rfl, ?_⟩))
             (try (rw [drewN_self wc]; generalize hq_ : World.drewN wc _ = wc; have n0_ : Aside0 (Kd.R (Kd.int .i64) 3 wc w.heap.size (fun k_ => some k_ ≠ (v531 : Value).ownBlock) (.slice Ao148 t526.length co148) t526) := ⟨by rw [← hq_]; exact (by (with_reducible repeat (first | apply Kd.R_alloc | apply Kd.R_drewN | apply Kd.R_drew)); exact HO_7.out)⟩; have n1_ : Aside0 (Kd.R (Kd.int .i64) 3 wc w.heap.size (fun k_ => some k_ ≠ (.slice Ao148 t526.length co148 : Value).ownBlock) v531 t530) := ⟨by rw [← hq_]; exact (by (with_reducible repeat (first | apply Kd.R_alloc | apply Kd.R_drewN | apply Kd.R_drew)); exact HO_9.out)⟩; have n2_ : Aside0 (wc.heap[gb518]? = some (.cells #[.slice A0_0 l0_0.length c0_0, .int .i64 a0_1, .int .i64 a0_2] 24 (0, 0))) := ⟨by rw [← hq_]; exact (by (with_reducible repeat (first | refine blk_drewN ?_ _ | refine blk_drew ?_ | refine blk_alloc ?_ _)); exact BK518.out)⟩; have n3_ : Aside0 (wc.heap[gb519]? = some (.cells #[.int .i64 a2_0, .int .i64 a2_1] 47 (0, 0))) := ⟨by rw [← hq_]; exact (by (with_reducible repeat (first | refine blk_drewN ?_ _ | refine blk_drew ?_ | refine blk_alloc ?_ _)); exact BK519.out)⟩; have n4_ : Aside0 (Below w.heap.size w wc) := ⟨by rw [← hq_]; exact (by repeat (first | (with_reducible first | exact HB.out | apply below_alloc | apply pw_below_drewN | apply below_drew1 | refine below_set ?_ GE518.out | refine below_set ?_ GE519.out) | exact HB.out))⟩; clear HO_7 HO_9 BK518 BK519 HB hq_; have HO_7 := n0_; have HO_9 := n1_; have BK518 := n2_; have BK519 := n3_; have HB := n4_; clear n0_ n1_ n2_ n3_ n4_))
             have n0_ := Aside0.mk (Kd.R_drew HO_7.out)
             have n1_ := Aside0.mk (Kd.R_drew HO_9.out)
             have n2_ := Aside0.mk (blk_drew BK518.out)
             have n3_ := Aside0.mk (blk_drew BK519.out)
             have n4_ := Aside0.mk (below_drew1 HB.out)
             clear HO_7
             clear HO_9
             clear BK518
             clear BK519
             clear HB
             have HO_7 := n0_
             have HO_9 := n1_
             have BK518 := n2_
             have BK519 := n3_
             have HB := n4_
             clear n0_ n1_ n2_ n3_ n4_
             refine start_ (n := 10) (S := fun w' => w'.cell? ⟨gb518, 0, none⟩ = some (.slice A0_0 l0_0.length c0_0) ∧ w'.cell? ⟨gb518, 1, none⟩ = some (.int .i64 a0_1) ∧ w'.cell? ⟨gb518, 2, none⟩ = some (.int .i64 a0_2) ∧ w'.cell? ⟨gb519, 0, none⟩ = some (.int .i64 a2_0) ∧ w'.cell? ⟨gb519, 1, none⟩ = some (.int .i64 a2_1)) (ds := []) #[false, false, false, false, false, false, false, false, false, false] (by kernel_rfl) rfl rfl ⟨(blk_cell BK518.out 0).trans rfl, (blk_cell BK518.out 1).trans rfl, (blk_cell BK518.out 2).trans rfl, (blk_cell BK519.out 0).trans rfl, (blk_cell BK519.out 1).trans rfl⟩ (fun hHeld => ?_); refine with_tabW anamnesislaw05_MoveValues.tab9 anamnesislaw05_MoveValues.bits9 (fun HT_ HW_ => ?_)
             generalize wc.drew = w149 at HO_7 HO_9 BK518 BK519 HB hHeld ⊢
             refine pure1 (i := 1) (N := some 92) #[false, true, false, false, false, false, false, false, false, false] HT_.out ?_
             refine pure1 (i := 5) (N := some 96) #[false, true, false, false, false, true, false, false, false, false] HT_.out ?_
             refine take1 (i := 0) (N := some 91) #[true, true, false, false, false, true, false, false, false, false] HT_.out HW_.out hHeld ?_
             refine take1 (i := 2) (N := some 93) #[true, true, true, false, false, true, false, false, false, false] HT_.out HW_.out hHeld ?_
             refine take1 (i := 4) (N := some 95) #[true, true, true, false, true, true, false, false, false, false] HT_.out HW_.out hHeld ?_
             refine take1 (i := 6) (N := some 97) #[true, true, true, false, true, true, true, false, false, false] HT_.out HW_.out hHeld ?_
             refine one_ (i := 3) (N := some 94) #[true, true, true, true, true, true, true, false, false, false] rfl rfl (one_of HT_.out (by kernel_rfl)) (by decide) (fun K hK => ?_)
             refine goes_ Try.func22 (by kernel_rfl) rfl #[.agg #[.slice A0_0 l0_0.length c0_0, .int .i64 a0_1, .int .i64 a0_2], .int .i64 a2_0] (by rfl) rfl rfl (by (try simp only [List.map_toArray, List.map_cons, List.map_nil]); first | done | rfl | (simp only [List.length_drop, List.length_take]; rfl)) ?_
             with_reducible refine (anamnesisref03_Ref.calls _ _ l0_0 a0_1 a0_2 a2_0 t538 _ ?side1 ?side2 A79.out).mono ?_
             (case side1 => repeat (first | exact (Kd.C_below HR0_0.out HB.out) | (with_reducible refine Kd.C_alloc ?_ _) | (with_reducible refine Kd.C_drewN ?_ _) | (with_reducible refine Kd.C_drew ?_)))
             (case side2 => exact HC0_0.out)
             rintro e w150 ⟨rfl, hb⟩
             refine ⟨_, rfl, ?_⟩
             have n0_ := Aside0.mk (Kd.R_below (by (with_reducible repeat (first | apply Kd.R_alloc | apply Kd.R_drewN | apply Kd.R_drew)); exact HO_7.out) hb)
             have n1_ := Aside0.mk (Kd.R_below (by (with_reducible repeat (first | apply Kd.R_alloc | apply Kd.R_drewN | apply Kd.R_drew)); exact HO_9.out) hb)
             have n2_ := Aside0.mk (blk_below (g := gb518) (o := .cells #[.slice A0_0 l0_0.length c0_0, .int .i64 a0_1, .int .i64 a0_2] 24 (0, 0)) (by (with_reducible repeat (first | refine blk_drewN ?_ _ | refine blk_drew ?_ | refine blk_alloc ?_ _)); exact BK518.out) hb)
             have n3_ := Aside0.mk (blk_below (g := gb519) (o := .cells #[.int .i64 a2_0, .int .i64 a2_1] 47 (0, 0)) (by (with_reducible repeat (first | refine blk_drewN ?_ _ | refine blk_drew ?_ | refine blk_alloc ?_ _)); exact BK519.out) hb)
             have n4_ := Aside0.mk (below_step (by repeat (first | (with_reducible first | exact HB.out | apply below_alloc | apply pw_below_drewN | apply below_drew1 | refine below_set ?_ GE518.out | refine below_set ?_ GE519.out) | exact HB.out)) hb)
             clear HO_7
             clear HO_9
             clear BK518
             clear BK519
             clear HB
             have HO_7 := n0_
             have HO_9 := n1_
             have BK518 := n2_
             have BK519 := n3_
             have HB := n4_
             clear n0_ n1_ n2_ n3_ n4_
             (try clear hb)
             (try clear hb2)
             (try clear hk)
             (try clear hi)
             refine hK.out _ _ ⟨(blk_cell BK518.out 0).trans rfl, (blk_cell BK518.out 1).trans rfl, (blk_cell BK518.out 2).trans rfl, (blk_cell BK519.out 0).trans rfl, (blk_cell BK519.out 1).trans rfl⟩ (fun hHeld => ?_)
             clear hK K
             refine norm_ (a' := ?_) ?_ ?_
             rotate_left
             ·show Act.put _ (some 94) _ = _
              simp only [Act.put, List.setIfInBounds_toArray, List.set_cons_zero, List.set_cons_succ, i64_w, i32_w]
              rfl
             refine one_ (i := 7) (N := some 98) #[true, true, true, true, true, true, true, true, false, false] rfl rfl (one_of HT_.out (by kernel_rfl)) (by decide) (fun K hK => ?_)
             refine goes_ Try.func22 (by kernel_rfl) rfl #[.agg #[.slice A0_0 l0_0.length c0_0, .int .i64 a0_1, .int .i64 a0_2], .int .i64 a2_1] (by rfl) rfl rfl (by (try simp only [List.map_toArray, List.map_cons, List.map_nil]); first | done | rfl | (simp only [List.length_drop, List.length_take]; rfl)) ?_
             with_reducible refine (anamnesisref03_Ref.calls _ _ l0_0 a0_1 a0_2 a2_1 t539 _ ?side1 ?side2 A80.out).mono ?_
             (case side1 => repeat (first | exact (Kd.C_below HR0_0.out HB.out) | (with_reducible refine Kd.C_alloc ?_ _) | (with_reducible refine Kd.C_drewN ?_ _) | (with_reducible refine Kd.C_drew ?_)))
             (case side2 => exact HC0_0.out)
             rintro e w151 ⟨rfl, hb⟩
             refine ⟨_, rfl, ?_⟩
             have n0_ := Aside0.mk (Kd.R_below (by (with_reducible repeat (first | apply Kd.R_alloc | apply Kd.R_drewN | apply Kd.R_drew)); exact HO_7.out) hb)
             have n1_ := Aside0.mk (Kd.R_below (by (with_reducible repeat (first | apply Kd.R_alloc | apply Kd.R_drewN | apply Kd.R_drew)); exact HO_9.out) hb)
             have n2_ := Aside0.mk (blk_below (g := gb518) (o := .cells #[.slice A0_0 l0_0.length c0_0, .int .i64 a0_1, .int .i64 a0_2] 24 (0, 0)) (by (with_reducible repeat (first | refine blk_drewN ?_ _ | refine blk_drew ?_ | refine blk_alloc ?_ _)); exact BK518.out) hb)
             have n3_ := Aside0.mk (blk_below (g := gb519) (o := .cells #[.int .i64 a2_0, .int .i64 a2_1] 47 (0, 0)) (by (with_reducible repeat (first | refine blk_drewN ?_ _ | refine blk_drew ?_ | refine blk_alloc ?_ _)); exact BK519.out) hb)
             have n4_ := Aside0.mk (below_step (by repeat (first | (with_reducible first | exact HB.out | apply below_alloc | apply pw_below_drewN | apply below_drew1 | refine below_set ?_ GE518.out | refine below_set ?_ GE519.out) | exact HB.out)) hb)
             clear HO_7
             clear HO_9
             clear BK518
             clear BK519
             clear HB
             have HO_7 := n0_
             have HO_9 := n1_
             have BK518 := n2_
             have BK519 := n3_
             have HB := n4_
             clear n0_ n1_ n2_ n3_ n4_
             (try clear hb)
             (try clear hb2)
             (try clear hk)
             (try clear hi)
             refine hK.out _ _ ⟨(blk_cell BK518.out 0).trans rfl, (blk_cell BK518.out 1).trans rfl, (blk_cell BK518.out 2).trans rfl, (blk_cell BK519.out 0).trans rfl, (blk_cell BK519.out 1).trans rfl⟩ (fun hHeld => ?_)
             clear hK K
             refine norm_ (a' := ?_) ?_ ?_
             rotate_left
             ·show Act.put _ (some 98) _ = _
              simp only [Act.put, List.setIfInBounds_toArray, List.set_cons_zero, List.set_cons_succ, i64_w, i32_w]
              rfl
             refine pure1 (i := 8) (N := some 15) #[true, true, true, true, true, true, true, true, true, false] HT_.out ?_
             refine pure1 (i := 9) (N := some 16) #[true, true, true, true, true, true, true, true, true, true] HT_.out ?_
             refine done_ (done_of HT_.out (by kernel_rfl)) ?_
             obtain ⟨Ao152, co152, eo152⟩ := Kd.R_slice HO_9.out
             subst eo152
             try go_wp2_with (first | (go_at_call 24; (with_reducible refine (anamnesisref04_In.calls kj68 _ _ t530 t538 t541 _ ?side1 ?side2 A132.out).mono ?_); (case side1 => repeat (first | exact (Kd.R_reads' HO_9.out).2.2 | (with_reducible refine Kd.C_alloc ?_ _) | (with_reducible refine Kd.C_drewN ?_ _) | (with_reducible refine Kd.C_drew ?_))); (case side2 => exact (Kd.R_reads' HO_9.out).2.1); rintro e w' ⟨rfl, ⟨nd, rfl⟩⟩))
             go_ret
             exact ⟨by first | rfl | (simp [errW_none, errW_some] <;> rfl) | (simp [*, errW_none, errW_some] <;> rfl), by repeat (first | (with_reducible first | exact HB.out | apply below_alloc | apply pw_below_drewN | apply below_drew1 | refine below_set ?_ GE518.out | refine below_set ?_ GE519.out) | exact HB.out)⟩
           ·replace c136 := Bool.eq_false_iff.mpr c136
            subst c136
            have H1 : (some true) = some r := by rw [if_neg (show ¬ (false = true) by decide)] at H; exact H
            clear H
            have H := H1
            clear H1
            obtain rfl := Option.some.inj H
            have hnb153 := NB519_518.out
            have hnc153 := NB518_519.out
            have hcz154_0 : wc.cell? ⟨gb519, 0, none⟩ = some (.int .i64 a2_0) := (blk_cell BK519.out 0).trans rfl
            have hcz154_1 : wc.cell? ⟨gb519, 1, none⟩ = some (.int .i64 a2_1) := (blk_cell BK519.out 1).trans rfl
            have hfz154_0 := blk_frozen BK519.out 0
            have hfz154_1 := blk_frozen BK519.out 1
            obtain ⟨Ao155, co155, eo155⟩ := Kd.R_slice HO_7.out
            subst eo155
            try go_wp2_with (first | ((with_reducible refine gate_callee (f := 14) rfl ?_); refine goesL_ (some 81) rfl rfl Try.func14 (by kernel_rfl) rfl #[.slice Ao155 t526.length co155, .int .i64 a2_0] rfl (by (try simp only [List.map_toArray, List.map_cons, List.map_nil]); first | done | rfl | (simp only [List.length_drop, List.length_take]; rfl)) ?_; (with_reducible refine (move_Value.calls _ _ t526 a2_0 t534 false _ ?side1 ?side2 A77.out).mono ?_); (case side1 => repeat (first | exact (Kd.R_reads' HO_7.out).2.2 | (with_reducible refine Kd.C_alloc ?_ _) | (with_reducible refine Kd.C_drewN ?_ _) | (with_reducible refine Kd.C_drew ?_))); (case side2 => exact (Kd.R_reads' HO_7.out).2.1); rintro e w' ⟨rfl, ⟨nd, rfl⟩⟩; refine ⟨_, rfl, ?_⟩) | ((with_reducible refine gate_callee (f := 14) rfl ?_); refine goesL_ (some 88) rfl rfl Try.func14 (by kernel_rfl) rfl #[.slice Ao155 t526.length co155, .int .i64 a2_1] rfl (by (try simp only [List.map_toArray, List.map_cons, List.map_nil]); first | done | rfl | (simp only [List.length_drop, List.length_take]; rfl)) ?_; (with_reducible refine (move_Value.calls _ _ t526 a2_1 t536 t537 _ ?side1 ?side2 A78.out).mono ?_); (case side1 => repeat (first | exact (Kd.R_reads' HO_7.out).2.2 | (with_reducible refine Kd.C_alloc ?_ _) | (with_reducible refine Kd.C_drewN ?_ _) | (with_reducible refine Kd.C_drew ?_))); (case side2 => exact (Kd.R_reads' HO_7.out).2.1); rintro e w' ⟨rfl, ⟨nd, rfl⟩⟩; refine ⟨_, rfl, ?_⟩))
            (try (rw [drewN_self wc]; generalize hq_ : World.drewN wc _ = wc; have n0_ : Aside0 (Kd.R (Kd.int .i64) 3 wc w.heap.size (fun k_ => some k_ ≠ (v531 : Value).ownBlock) (.slice Ao155 t526.length co155) t526) := ⟨by rw [← hq_]; exact (by (with_reducible repeat (first | apply Kd.R_alloc | apply Kd.R_drewN | apply Kd.R_drew)); exact HO_7.out)⟩; have n1_ : Aside0 (Kd.R (Kd.int .i64) 3 wc w.heap.size (fun k_ => some k_ ≠ (.slice Ao155 t526.length co155 : Value).ownBlock) v531 t530) := ⟨by rw [← hq_]; exact (by (with_reducible repeat (first | apply Kd.R_alloc | apply Kd.R_drewN | apply Kd.R_drew)); exact HO_9.out)⟩; have n2_ : Aside0 (wc.heap[gb518]? = some (.cells #[.slice A0_0 l0_0.length c0_0, .int .i64 a0_1, .int .i64 a0_2] 24 (0, 0))) := ⟨by rw [← hq_]; exact (by (with_reducible repeat (first | refine blk_drewN ?_ _ | refine blk_drew ?_ | refine blk_alloc ?_ _)); exact BK518.out)⟩; have n3_ : Aside0 (wc.heap[gb519]? = some (.cells #[.int .i64 a2_0, .int .i64 a2_1] 47 (0, 0))) := ⟨by rw [← hq_]; exact (by (with_reducible repeat (first | refine blk_drewN ?_ _ | refine blk_drew ?_ | refine blk_alloc ?_ _)); exact BK519.out)⟩; have n4_ : Aside0 (Below w.heap.size w wc) := ⟨by rw [← hq_]; exact (by repeat (first | (with_reducible first | exact HB.out | apply below_alloc | apply pw_below_drewN | apply below_drew1 | refine below_set ?_ GE518.out | refine below_set ?_ GE519.out) | exact HB.out))⟩; clear HO_7 HO_9 BK518 BK519 HB hq_; have HO_7 := n0_; have HO_9 := n1_; have BK518 := n2_; have BK519 := n3_; have HB := n4_; clear n0_ n1_ n2_ n3_ n4_))
            have n0_ := Aside0.mk (Kd.R_drew HO_7.out)
            have n1_ := Aside0.mk (Kd.R_drew HO_9.out)
            have n2_ := Aside0.mk (blk_drew BK518.out)
            have n3_ := Aside0.mk (blk_drew BK519.out)
            have n4_ := Aside0.mk (below_drew1 HB.out)
            clear HO_7
            clear HO_9
            clear BK518
            clear BK519
            clear HB
            have HO_7 := n0_
            have HO_9 := n1_
            have BK518 := n2_
            have BK519 := n3_
            have HB := n4_
            clear n0_ n1_ n2_ n3_ n4_
            refine start_ (n := 10) (S := fun w' => w'.cell? ⟨gb518, 0, none⟩ = some (.slice A0_0 l0_0.length c0_0) ∧ w'.cell? ⟨gb518, 1, none⟩ = some (.int .i64 a0_1) ∧ w'.cell? ⟨gb518, 2, none⟩ = some (.int .i64 a0_2) ∧ w'.cell? ⟨gb519, 0, none⟩ = some (.int .i64 a2_0) ∧ w'.cell? ⟨gb519, 1, none⟩ = some (.int .i64 a2_1)) (ds := []) #[false, false, false, false, false, false, false, false, false, false] (by kernel_rfl) rfl rfl ⟨(blk_cell BK518.out 0).trans rfl, (blk_cell BK518.out 1).trans rfl, (blk_cell BK518.out 2).trans rfl, (blk_cell BK519.out 0).trans rfl, (blk_cell BK519.out 1).trans rfl⟩ (fun hHeld => ?_); refine with_tabW anamnesislaw05_MoveValues.tab9 anamnesislaw05_MoveValues.bits9 (fun HT_ HW_ => ?_)
            generalize wc.drew = w156 at HO_7 HO_9 BK518 BK519 HB hHeld ⊢
            refine pure1 (i := 1) (N := some 92) #[false, true, false, false, false, false, false, false, false, false] HT_.out ?_
            refine pure1 (i := 5) (N := some 96) #[false, true, false, false, false, true, false, false, false, false] HT_.out ?_
            refine take1 (i := 0) (N := some 91) #[true, true, false, false, false, true, false, false, false, false] HT_.out HW_.out hHeld ?_
            refine take1 (i := 2) (N := some 93) #[true, true, true, false, false, true, false, false, false, false] HT_.out HW_.out hHeld ?_
            refine take1 (i := 4) (N := some 95) #[true, true, true, false, true, true, false, false, false, false] HT_.out HW_.out hHeld ?_
            refine take1 (i := 6) (N := some 97) #[true, true, true, false, true, true, true, false, false, false] HT_.out HW_.out hHeld ?_
            refine one_ (i := 3) (N := some 94) #[true, true, true, true, true, true, true, false, false, false] rfl rfl (one_of HT_.out (by kernel_rfl)) (by decide) (fun K hK => ?_)
            refine goes_ Try.func22 (by kernel_rfl) rfl #[.agg #[.slice A0_0 l0_0.length c0_0, .int .i64 a0_1, .int .i64 a0_2], .int .i64 a2_0] (by rfl) rfl rfl (by (try simp only [List.map_toArray, List.map_cons, List.map_nil]); first | done | rfl | (simp only [List.length_drop, List.length_take]; rfl)) ?_
            with_reducible refine (anamnesisref03_Ref.calls _ _ l0_0 a0_1 a0_2 a2_0 t538 _ ?side1 ?side2 A79.out).mono ?_
            (case side1 => repeat (first | exact (Kd.C_below HR0_0.out HB.out) | (with_reducible refine Kd.C_alloc ?_ _) | (with_reducible refine Kd.C_drewN ?_ _) | (with_reducible refine Kd.C_drew ?_)))
            (case side2 => exact HC0_0.out)
            rintro e w157 ⟨rfl, hb⟩
            refine ⟨_, rfl, ?_⟩
            have n0_ := Aside0.mk (Kd.R_below (by (with_reducible repeat (first | apply Kd.R_alloc | apply Kd.R_drewN | apply Kd.R_drew)); exact HO_7.out) hb)
            have n1_ := Aside0.mk (Kd.R_below (by (with_reducible repeat (first | apply Kd.R_alloc | apply Kd.R_drewN | apply Kd.R_drew)); exact HO_9.out) hb)
            have n2_ := Aside0.mk (blk_below (g := gb518) (o := .cells #[.slice A0_0 l0_0.length c0_0, .int .i64 a0_1, .int .i64 a0_2] 24 (0, 0)) (by (with_reducible repeat (first | refine blk_drewN ?_ _ | refine blk_drew ?_ | refine blk_alloc ?_ _)); exact BK518.out) hb)
            have n3_ := Aside0.mk (blk_below (g := gb519) (o := .cells #[.int .i64 a2_0, .int .i64 a2_1] 47 (0, 0)) (by (with_reducible repeat (first | refine blk_drewN ?_ _ | refine blk_drew ?_ | refine blk_alloc ?_ _)); exact BK519.out) hb)
            have n4_ := Aside0.mk (below_step (by repeat (first | (with_reducible first | exact HB.out | apply below_alloc | apply pw_below_drewN | apply below_drew1 | refine below_set ?_ GE518.out | refine below_set ?_ GE519.out) | exact HB.out)) hb)
            clear HO_7
            clear HO_9
            clear BK518
            clear BK519
            clear HB
            have HO_7 := n0_
            have HO_9 := n1_
            have BK518 := n2_
            have BK519 := n3_
            have HB := n4_
            clear n0_ n1_ n2_ n3_ n4_
            (try clear hb)
            (try clear hb2)
            (try clear hk)
            (try clear hi)
            refine hK.out _ _ ⟨(blk_cell BK518.out 0).trans rfl, (blk_cell BK518.out 1).trans rfl, (blk_cell BK518.out 2).trans rfl, (blk_cell BK519.out 0).trans rfl, (blk_cell BK519.out 1).trans rfl⟩ (fun hHeld => ?_)
            clear hK K
            refine norm_ (a' := ?_) ?_ ?_
            rotate_left
            ·show Act.put _ (some 94) _ = _
             simp only [Act.put, List.setIfInBounds_toArray, List.set_cons_zero, List.set_cons_succ, i64_w, i32_w]
             rfl
            refine one_ (i := 7) (N := some 98) #[true, true, true, true, true, true, true, true, false, false] rfl rfl (one_of HT_.out (by kernel_rfl)) (by decide) (fun K hK => ?_)
            refine goes_ Try.func22 (by kernel_rfl) rfl #[.agg #[.slice A0_0 l0_0.length c0_0, .int .i64 a0_1, .int .i64 a0_2], .int .i64 a2_1] (by rfl) rfl rfl (by (try simp only [List.map_toArray, List.map_cons, List.map_nil]); first | done | rfl | (simp only [List.length_drop, List.length_take]; rfl)) ?_
            with_reducible refine (anamnesisref03_Ref.calls _ _ l0_0 a0_1 a0_2 a2_1 t539 _ ?side1 ?side2 A80.out).mono ?_
            (case side1 => repeat (first | exact (Kd.C_below HR0_0.out HB.out) | (with_reducible refine Kd.C_alloc ?_ _) | (with_reducible refine Kd.C_drewN ?_ _) | (with_reducible refine Kd.C_drew ?_)))
            (case side2 => exact HC0_0.out)
            rintro e w158 ⟨rfl, hb⟩
            refine ⟨_, rfl, ?_⟩
            have n0_ := Aside0.mk (Kd.R_below (by (with_reducible repeat (first | apply Kd.R_alloc | apply Kd.R_drewN | apply Kd.R_drew)); exact HO_7.out) hb)
            have n1_ := Aside0.mk (Kd.R_below (by (with_reducible repeat (first | apply Kd.R_alloc | apply Kd.R_drewN | apply Kd.R_drew)); exact HO_9.out) hb)
            have n2_ := Aside0.mk (blk_below (g := gb518) (o := .cells #[.slice A0_0 l0_0.length c0_0, .int .i64 a0_1, .int .i64 a0_2] 24 (0, 0)) (by (with_reducible repeat (first | refine blk_drewN ?_ _ | refine blk_drew ?_ | refine blk_alloc ?_ _)); exact BK518.out) hb)
            have n3_ := Aside0.mk (blk_below (g := gb519) (o := .cells #[.int .i64 a2_0, .int .i64 a2_1] 47 (0, 0)) (by (with_reducible repeat (first | refine blk_drewN ?_ _ | refine blk_drew ?_ | refine blk_alloc ?_ _)); exact BK519.out) hb)
            have n4_ := Aside0.mk (below_step (by repeat (first | (with_reducible first | exact HB.out | apply below_alloc | apply pw_below_drewN | apply below_drew1 | refine below_set ?_ GE518.out | refine below_set ?_ GE519.out) | exact HB.out)) hb)
            clear HO_7
            clear HO_9
            clear BK518
            clear BK519
            clear HB
            have HO_7 := n0_
            have HO_9 := n1_
            have BK518 := n2_
            have BK519 := n3_
            have HB := n4_
            clear n0_ n1_ n2_ n3_ n4_
            (try clear hb)
            (try clear hb2)
            (try clear hk)
            (try clear hi)
            refine hK.out _ _ ⟨(blk_cell BK518.out 0).trans rfl, (blk_cell BK518.out 1).trans rfl, (blk_cell BK518.out 2).trans rfl, (blk_cell BK519.out 0).trans rfl, (blk_cell BK519.out 1).trans rfl⟩ (fun hHeld => ?_)
            clear hK K
            refine norm_ (a' := ?_) ?_ ?_
            rotate_left
            ·show Act.put _ (some 98) _ = _
             simp only [Act.put, List.setIfInBounds_toArray, List.set_cons_zero, List.set_cons_succ, i64_w, i32_w]
             rfl
            refine pure1 (i := 8) (N := some 15) #[true, true, true, true, true, true, true, true, true, false] HT_.out ?_
            refine pure1 (i := 9) (N := some 16) #[true, true, true, true, true, true, true, true, true, true] HT_.out ?_
            refine done_ (done_of HT_.out (by kernel_rfl)) ?_
            obtain ⟨Ao159, co159, eo159⟩ := Kd.R_slice HO_9.out
            subst eo159
            try go_wp2_with (first | (go_at_call 24; (with_reducible refine (anamnesisref04_In.calls kj68 _ _ t530 t538 t541 _ ?side1 ?side2 A132.out).mono ?_); (case side1 => repeat (first | exact (Kd.R_reads' HO_9.out).2.2 | (with_reducible refine Kd.C_alloc ?_ _) | (with_reducible refine Kd.C_drewN ?_ _) | (with_reducible refine Kd.C_drew ?_))); (case side2 => exact (Kd.R_reads' HO_9.out).2.1); rintro e w' ⟨rfl, ⟨nd, rfl⟩⟩))
            go_ret
            exact ⟨by first | rfl | (simp [errW_none, errW_some] <;> rfl) | (simp [*, errW_none, errW_some] <;> rfl), by repeat (first | (with_reducible first | exact HB.out | apply below_alloc | apply pw_below_drewN | apply below_drew1 | refine below_set ?_ GE518.out | refine below_set ?_ GE519.out) | exact HB.out)⟩
          ·rw [if_neg c135] at H
           exact absurd H (by simp)
         ·rw [if_neg c134] at H
          have c134b0 : decide (t539 < 0) = false := decide_eq_false c134
          clear c134
          replace H := Option.bind_eq_some_iff.mp H
          obtain ⟨t542, A1600, H⟩ := H
          replace H : (if (t537 == t542) = true then (if t535 = true then (if t537 = true then (some ((t534 == t536) == (a2_0 == a2_1))) else (some true)) else (some true)) else (none)) = some r := H
          have A160 := Aside0.mk A1600
          clear A1600
          by_cases c161 : (t537 == t542) = true
          ·rw [if_pos c161] at H
           have c161b0 : (t537 == t542) = true := c161
           (try (have c161b1 : decide (t537 = t542) = true := by simpa using c161))
           (try (have c161b2 : (t537 == t542) = true := by simpa using c161))
           clear c161
           by_cases c162 : t535 = true
           ·subst c162
            have H1 : (if t537 = true then (some ((t534 == t536) == (a2_0 == a2_1))) else (some true)) = some r := by rw [if_pos rfl] at H; exact H
            clear H
            have H := H1
            clear H1
            by_cases c163 : t537 = true
            ·subst c163
             have H1 : (some ((t534 == t536) == (a2_0 == a2_1))) = some r := by rw [if_pos rfl] at H; exact H
             clear H
             have H := H1
             clear H1
             obtain rfl := Option.some.inj H
             have hnb164 := NB519_518.out
             have hnc164 := NB518_519.out
             have hcz165_0 : wc.cell? ⟨gb519, 0, none⟩ = some (.int .i64 a2_0) := (blk_cell BK519.out 0).trans rfl
             have hcz165_1 : wc.cell? ⟨gb519, 1, none⟩ = some (.int .i64 a2_1) := (blk_cell BK519.out 1).trans rfl
             have hfz165_0 := blk_frozen BK519.out 0
             have hfz165_1 := blk_frozen BK519.out 1
             obtain ⟨Ao166, co166, eo166⟩ := Kd.R_slice HO_7.out
             subst eo166
             try go_wp2_with (first | ((with_reducible refine gate_callee (f := 14) rfl ?_); refine goesL_ (some 81) rfl rfl Try.func14 (by kernel_rfl) rfl #[.slice Ao166 t526.length co166, .int .i64 a2_0] rfl (by (try simp only [List.map_toArray, List.map_cons, List.map_nil]); first | done | rfl | (simp only [List.length_drop, List.length_take]; rfl)) ?_; (with_reducible refine (move_Value.calls _ _ t526 a2_0 t534 true _ ?side1 ?side2 A77.out).mono ?_); (case side1 => repeat (first | exact (Kd.R_reads' HO_7.out).2.2 | (with_reducible refine Kd.C_alloc ?_ _) | (with_reducible refine Kd.C_drewN ?_ _) | (with_reducible refine Kd.C_drew ?_))); (case side2 => exact (Kd.R_reads' HO_7.out).2.1); rintro e w' ⟨rfl, ⟨nd, rfl⟩⟩; refine ⟨_, rfl, ?_⟩) | ((with_reducible refine gate_callee (f := 14) rfl ?_); refine goesL_ (some 88) rfl rfl Try.func14 (by kernel_rfl) rfl #[.slice Ao166 t526.length co166, .int .i64 a2_1] rfl (by (try simp only [List.map_toArray, List.map_cons, List.map_nil]); first | done | rfl | (simp only [List.length_drop, List.length_take]; rfl)) ?_; (with_reducible refine (move_Value.calls _ _ t526 a2_1 t536 true _ ?side1 ?side2 A78.out).mono ?_); (case side1 => repeat (first | exact (Kd.R_reads' HO_7.out).2.2 | (with_reducible refine Kd.C_alloc ?_ _) | (with_reducible refine Kd.C_drewN ?_ _) | (with_reducible refine Kd.C_drew ?_))); (case side2 => exact (Kd.R_reads' HO_7.out).2.1); rintro e w' ⟨rfl, ⟨nd, rfl⟩⟩; refine ⟨_, rfl, ?_⟩))
             (try (rw [drewN_self wc]; generalize hq_ : World.drewN wc _ = wc; have n0_ : Aside0 (Kd.R (Kd.int .i64) 3 wc w.heap.size (fun k_ => some k_ ≠ (v531 : Value).ownBlock) (.slice Ao166 t526.length co166) t526) := ⟨by rw [← hq_]; exact (by (with_reducible repeat (first | apply Kd.R_alloc | apply Kd.R_drewN | apply Kd.R_drew)); exact HO_7.out)⟩; have n1_ : Aside0 (Kd.R (Kd.int .i64) 3 wc w.heap.size (fun k_ => some k_ ≠ (.slice Ao166 t526.length co166 : Value).ownBlock) v531 t530) := ⟨by rw [← hq_]; exact (by (with_reducible repeat (first | apply Kd.R_alloc | apply Kd.R_drewN | apply Kd.R_drew)); exact HO_9.out)⟩; have n2_ : Aside0 (wc.heap[gb518]? = some (.cells #[.slice A0_0 l0_0.length c0_0, .int .i64 a0_1, .int .i64 a0_2] 24 (0, 0))) := ⟨by rw [← hq_]; exact (by (with_reducible repeat (first | refine blk_drewN ?_ _ | refine blk_drew ?_ | refine blk_alloc ?_ _)); exact BK518.out)⟩; have n3_ : Aside0 (wc.heap[gb519]? = some (.cells #[.int .i64 a2_0, .int .i64 a2_1] 47 (0, 0))) := ⟨by rw [← hq_]; exact (by (with_reducible repeat (first | refine blk_drewN ?_ _ | refine blk_drew ?_ | refine blk_alloc ?_ _)); exact BK519.out)⟩; have n4_ : Aside0 (Below w.heap.size w wc) := ⟨by rw [← hq_]; exact (by repeat (first | (with_reducible first | exact HB.out | apply below_alloc | apply pw_below_drewN | apply below_drew1 | refine below_set ?_ GE518.out | refine below_set ?_ GE519.out) | exact HB.out))⟩; clear HO_7 HO_9 BK518 BK519 HB hq_; have HO_7 := n0_; have HO_9 := n1_; have BK518 := n2_; have BK519 := n3_; have HB := n4_; clear n0_ n1_ n2_ n3_ n4_))
             have n0_ := Aside0.mk (Kd.R_drew HO_7.out)
             have n1_ := Aside0.mk (Kd.R_drew HO_9.out)
             have n2_ := Aside0.mk (blk_drew BK518.out)
             have n3_ := Aside0.mk (blk_drew BK519.out)
             have n4_ := Aside0.mk (below_drew1 HB.out)
             clear HO_7
             clear HO_9
             clear BK518
             clear BK519
             clear HB
             have HO_7 := n0_
             have HO_9 := n1_
             have BK518 := n2_
             have BK519 := n3_
             have HB := n4_
             clear n0_ n1_ n2_ n3_ n4_
             refine start_ (n := 10) (S := fun w' => w'.cell? ⟨gb518, 0, none⟩ = some (.slice A0_0 l0_0.length c0_0) ∧ w'.cell? ⟨gb518, 1, none⟩ = some (.int .i64 a0_1) ∧ w'.cell? ⟨gb518, 2, none⟩ = some (.int .i64 a0_2) ∧ w'.cell? ⟨gb519, 0, none⟩ = some (.int .i64 a2_0) ∧ w'.cell? ⟨gb519, 1, none⟩ = some (.int .i64 a2_1)) (ds := []) #[false, false, false, false, false, false, false, false, false, false] (by kernel_rfl) rfl rfl ⟨(blk_cell BK518.out 0).trans rfl, (blk_cell BK518.out 1).trans rfl, (blk_cell BK518.out 2).trans rfl, (blk_cell BK519.out 0).trans rfl, (blk_cell BK519.out 1).trans rfl⟩ (fun hHeld => ?_); refine with_tabW anamnesislaw05_MoveValues.tab9 anamnesislaw05_MoveValues.bits9 (fun HT_ HW_ => ?_)
             generalize wc.drew = w167 at HO_7 HO_9 BK518 BK519 HB hHeld ⊢
             refine pure1 (i := 1) (N := some 92) #[false, true, false, false, false, false, false, false, false, false] HT_.out ?_
             refine pure1 (i := 5) (N := some 96) #[false, true, false, false, false, true, false, false, false, false] HT_.out ?_
             refine take1 (i := 0) (N := some 91) #[true, true, false, false, false, true, false, false, false, false] HT_.out HW_.out hHeld ?_
             refine take1 (i := 2) (N := some 93) #[true, true, true, false, false, true, false, false, false, false] HT_.out HW_.out hHeld ?_
             refine take1 (i := 4) (N := some 95) #[true, true, true, false, true, true, false, false, false, false] HT_.out HW_.out hHeld ?_
             refine take1 (i := 6) (N := some 97) #[true, true, true, false, true, true, true, false, false, false] HT_.out HW_.out hHeld ?_
             refine one_ (i := 3) (N := some 94) #[true, true, true, true, true, true, true, false, false, false] rfl rfl (one_of HT_.out (by kernel_rfl)) (by decide) (fun K hK => ?_)
             refine goes_ Try.func22 (by kernel_rfl) rfl #[.agg #[.slice A0_0 l0_0.length c0_0, .int .i64 a0_1, .int .i64 a0_2], .int .i64 a2_0] (by rfl) rfl rfl (by (try simp only [List.map_toArray, List.map_cons, List.map_nil]); first | done | rfl | (simp only [List.length_drop, List.length_take]; rfl)) ?_
             with_reducible refine (anamnesisref03_Ref.calls _ _ l0_0 a0_1 a0_2 a2_0 t538 _ ?side1 ?side2 A79.out).mono ?_
             (case side1 => repeat (first | exact (Kd.C_below HR0_0.out HB.out) | (with_reducible refine Kd.C_alloc ?_ _) | (with_reducible refine Kd.C_drewN ?_ _) | (with_reducible refine Kd.C_drew ?_)))
             (case side2 => exact HC0_0.out)
             rintro e w168 ⟨rfl, hb⟩
             refine ⟨_, rfl, ?_⟩
             have n0_ := Aside0.mk (Kd.R_below (by (with_reducible repeat (first | apply Kd.R_alloc | apply Kd.R_drewN | apply Kd.R_drew)); exact HO_7.out) hb)
             have n1_ := Aside0.mk (Kd.R_below (by (with_reducible repeat (first | apply Kd.R_alloc | apply Kd.R_drewN | apply Kd.R_drew)); exact HO_9.out) hb)
             have n2_ := Aside0.mk (blk_below (g := gb518) (o := .cells #[.slice A0_0 l0_0.length c0_0, .int .i64 a0_1, .int .i64 a0_2] 24 (0, 0)) (by (with_reducible repeat (first | refine blk_drewN ?_ _ | refine blk_drew ?_ | refine blk_alloc ?_ _)); exact BK518.out) hb)
             have n3_ := Aside0.mk (blk_below (g := gb519) (o := .cells #[.int .i64 a2_0, .int .i64 a2_1] 47 (0, 0)) (by (with_reducible repeat (first | refine blk_drewN ?_ _ | refine blk_drew ?_ | refine blk_alloc ?_ _)); exact BK519.out) hb)
             have n4_ := Aside0.mk (below_step (by repeat (first | (with_reducible first | exact HB.out | apply below_alloc | apply pw_below_drewN | apply below_drew1 | refine below_set ?_ GE518.out | refine below_set ?_ GE519.out) | exact HB.out)) hb)
             clear HO_7
             clear HO_9
             clear BK518
             clear BK519
             clear HB
             have HO_7 := n0_
             have HO_9 := n1_
             have BK518 := n2_
             have BK519 := n3_
             have HB := n4_
             clear n0_ n1_ n2_ n3_ n4_
             (try clear hb)
             (try clear hb2)
             (try clear hk)
             (try clear hi)
             refine hK.out _ _ ⟨(blk_cell BK518.out 0).trans rfl, (blk_cell BK518.out 1).trans rfl, (blk_cell BK518.out 2).trans rfl, (blk_cell BK519.out 0).trans rfl, (blk_cell BK519.out 1).trans rfl⟩ (fun hHeld => ?_)
             clear hK K
             refine norm_ (a' := ?_) ?_ ?_
             rotate_left
             ·show Act.put _ (some 94) _ = _
              simp only [Act.put, List.setIfInBounds_toArray, List.set_cons_zero, List.set_cons_succ, i64_w, i32_w]
              rfl
             refine one_ (i := 7) (N := some 98) #[true, true, true, true, true, true, true, true, false, false] rfl rfl (one_of HT_.out (by kernel_rfl)) (by decide) (fun K hK => ?_)
             refine goes_ Try.func22 (by kernel_rfl) rfl #[.agg #[.slice A0_0 l0_0.length c0_0, .int .i64 a0_1, .int .i64 a0_2], .int .i64 a2_1] (by rfl) rfl rfl (by (try simp only [List.map_toArray, List.map_cons, List.map_nil]); first | done | rfl | (simp only [List.length_drop, List.length_take]; rfl)) ?_
             with_reducible refine (anamnesisref03_Ref.calls _ _ l0_0 a0_1 a0_2 a2_1 t539 _ ?side1 ?side2 A80.out).mono ?_
             (case side1 => repeat (first | exact (Kd.C_below HR0_0.out HB.out) | (with_reducible refine Kd.C_alloc ?_ _) | (with_reducible refine Kd.C_drewN ?_ _) | (with_reducible refine Kd.C_drew ?_)))
             (case side2 => exact HC0_0.out)
             rintro e w169 ⟨rfl, hb⟩
             refine ⟨_, rfl, ?_⟩
             have n0_ := Aside0.mk (Kd.R_below (by (with_reducible repeat (first | apply Kd.R_alloc | apply Kd.R_drewN | apply Kd.R_drew)); exact HO_7.out) hb)
             have n1_ := Aside0.mk (Kd.R_below (by (with_reducible repeat (first | apply Kd.R_alloc | apply Kd.R_drewN | apply Kd.R_drew)); exact HO_9.out) hb)
             have n2_ := Aside0.mk (blk_below (g := gb518) (o := .cells #[.slice A0_0 l0_0.length c0_0, .int .i64 a0_1, .int .i64 a0_2] 24 (0, 0)) (by (with_reducible repeat (first | refine blk_drewN ?_ _ | refine blk_drew ?_ | refine blk_alloc ?_ _)); exact BK518.out) hb)
             have n3_ := Aside0.mk (blk_below (g := gb519) (o := .cells #[.int .i64 a2_0, .int .i64 a2_1] 47 (0, 0)) (by (with_reducible repeat (first | refine blk_drewN ?_ _ | refine blk_drew ?_ | refine blk_alloc ?_ _)); exact BK519.out) hb)
             have n4_ := Aside0.mk (below_step (by repeat (first | (with_reducible first | exact HB.out | apply below_alloc | apply pw_below_drewN | apply below_drew1 | refine below_set ?_ GE518.out | refine below_set ?_ GE519.out) | exact HB.out)) hb)
             clear HO_7
             clear HO_9
             clear BK518
             clear BK519
             clear HB
             have HO_7 := n0_
             have HO_9 := n1_
             have BK518 := n2_
             have BK519 := n3_
             have HB := n4_
             clear n0_ n1_ n2_ n3_ n4_
             (try clear hb)
             (try clear hb2)
             (try clear hk)
             (try clear hi)
             refine hK.out _ _ ⟨(blk_cell BK518.out 0).trans rfl, (blk_cell BK518.out 1).trans rfl, (blk_cell BK518.out 2).trans rfl, (blk_cell BK519.out 0).trans rfl, (blk_cell BK519.out 1).trans rfl⟩ (fun hHeld => ?_)
             clear hK K
             refine norm_ (a' := ?_) ?_ ?_
             rotate_left
             ·show Act.put _ (some 98) _ = _
              simp only [Act.put, List.setIfInBounds_toArray, List.set_cons_zero, List.set_cons_succ, i64_w, i32_w]
              rfl
             refine pure1 (i := 8) (N := some 15) #[true, true, true, true, true, true, true, true, true, false] HT_.out ?_
             refine pure1 (i := 9) (N := some 16) #[true, true, true, true, true, true, true, true, true, true] HT_.out ?_
             refine done_ (done_of HT_.out (by kernel_rfl)) ?_
             obtain ⟨Ao170, co170, eo170⟩ := Kd.R_slice HO_9.out
             subst eo170
             try go_wp2_with (first | (go_at_call 24; (with_reducible refine (anamnesisref04_In.calls kj68 _ _ t530 t538 t541 _ ?side1 ?side2 A132.out).mono ?_); (case side1 => repeat (first | exact (Kd.R_reads' HO_9.out).2.2 | (with_reducible refine Kd.C_alloc ?_ _) | (with_reducible refine Kd.C_drewN ?_ _) | (with_reducible refine Kd.C_drew ?_))); (case side2 => exact (Kd.R_reads' HO_9.out).2.1); rintro e w' ⟨rfl, ⟨nd, rfl⟩⟩) | (go_at_call 24; (with_reducible refine (anamnesisref04_In.calls kj68 _ _ t530 t539 t542 _ ?side1 ?side2 A160.out).mono ?_); (case side1 => repeat (first | exact (Kd.R_reads' HO_9.out).2.2 | (with_reducible refine Kd.C_alloc ?_ _) | (with_reducible refine Kd.C_drewN ?_ _) | (with_reducible refine Kd.C_drew ?_))); (case side2 => exact (Kd.R_reads' HO_9.out).2.1); rintro e w' ⟨rfl, ⟨nd, rfl⟩⟩; have hcz171_0 : w169.cell? ⟨gb519, 0, none⟩ = some (.int .i64 a2_0) := (blk_cell BK519.out 0).trans rfl; have hcz171_1 : w169.cell? ⟨gb519, 1, none⟩ = some (.int .i64 a2_1) := (blk_cell BK519.out 1).trans rfl; have hfz171_0 := blk_frozen BK519.out 0; have hfz171_1 := blk_frozen BK519.out 1))
             go_ret
             exact ⟨by first | rfl | (simp [errW_none, errW_some] <;> rfl) | (simp [*, errW_none, errW_some] <;> rfl), by repeat (first | (with_reducible first | exact HB.out | apply below_alloc | apply pw_below_drewN | apply below_drew1 | refine below_set ?_ GE518.out | refine below_set ?_ GE519.out) | exact HB.out)⟩
            ·replace c163 := Bool.eq_false_iff.mpr c163
             subst c163
             have H1 : (some true) = some r := by rw [if_neg (show ¬ (false = true) by decide)] at H; exact H
             clear H
             have H := H1
             clear H1
             obtain rfl := Option.some.inj H
             have hnb172 := NB519_518.out
             have hnc172 := NB518_519.out
             have hcz173_0 : wc.cell? ⟨gb519, 0, none⟩ = some (.int .i64 a2_0) := (blk_cell BK519.out 0).trans rfl
             have hcz173_1 : wc.cell? ⟨gb519, 1, none⟩ = some (.int .i64 a2_1) := (blk_cell BK519.out 1).trans rfl
             have hfz173_0 := blk_frozen BK519.out 0
             have hfz173_1 := blk_frozen BK519.out 1
             obtain ⟨Ao174, co174, eo174⟩ := Kd.R_slice HO_7.out
             subst eo174
             try go_wp2_with (first | ((with_reducible refine gate_callee (f := 14) rfl ?_); refine goesL_ (some 81) rfl rfl Try.func14 (by kernel_rfl) rfl #[.slice Ao174 t526.length co174, .int .i64 a2_0] rfl (by (try simp only [List.map_toArray, List.map_cons, List.map_nil]); first | done | rfl | (simp only [List.length_drop, List.length_take]; rfl)) ?_; (with_reducible refine (move_Value.calls _ _ t526 a2_0 t534 true _ ?side1 ?side2 A77.out).mono ?_); (case side1 => repeat (first | exact (Kd.R_reads' HO_7.out).2.2 | (with_reducible refine Kd.C_alloc ?_ _) | (with_reducible refine Kd.C_drewN ?_ _) | (with_reducible refine Kd.C_drew ?_))); (case side2 => exact (Kd.R_reads' HO_7.out).2.1); rintro e w' ⟨rfl, ⟨nd, rfl⟩⟩; refine ⟨_, rfl, ?_⟩) | ((with_reducible refine gate_callee (f := 14) rfl ?_); refine goesL_ (some 88) rfl rfl Try.func14 (by kernel_rfl) rfl #[.slice Ao174 t526.length co174, .int .i64 a2_1] rfl (by (try simp only [List.map_toArray, List.map_cons, List.map_nil]); first | done | rfl | (simp only [List.length_drop, List.length_take]; rfl)) ?_; (with_reducible refine (move_Value.calls _ _ t526 a2_1 t536 false _ ?side1 ?side2 A78.out).mono ?_); (case side1 => repeat (first | exact (Kd.R_reads' HO_7.out).2.2 | (with_reducible refine Kd.C_alloc ?_ _) | (with_reducible refine Kd.C_drewN ?_ _) | (with_reducible refine Kd.C_drew ?_))); (case side2 => exact (Kd.R_reads' HO_7.out).2.1); rintro e w' ⟨rfl, ⟨nd, rfl⟩⟩; refine ⟨_, rfl, ?_⟩))
             (try (rw [drewN_self wc]; generalize hq_ : World.drewN wc _ = wc; have n0_ : Aside0 (Kd.R (Kd.int .i64) 3 wc w.heap.size (fun k_ => some k_ ≠ (v531 : Value).ownBlock) (.slice Ao174 t526.length co174) t526) := ⟨by rw [← hq_]; exact (by (with_reducible repeat (first | apply Kd.R_alloc | apply Kd.R_drewN | apply Kd.R_drew)); exact HO_7.out)⟩; have n1_ : Aside0 (Kd.R (Kd.int .i64) 3 wc w.heap.size (fun k_ => some k_ ≠ (.slice Ao174 t526.length co174 : Value).ownBlock) v531 t530) := ⟨by rw [← hq_]; exact (by (with_reducible repeat (first | apply Kd.R_alloc | apply Kd.R_drewN | apply Kd.R_drew)); exact HO_9.out)⟩; have n2_ : Aside0 (wc.heap[gb518]? = some (.cells #[.slice A0_0 l0_0.length c0_0, .int .i64 a0_1, .int .i64 a0_2] 24 (0, 0))) := ⟨by rw [← hq_]; exact (by (with_reducible repeat (first | refine blk_drewN ?_ _ | refine blk_drew ?_ | refine blk_alloc ?_ _)); exact BK518.out)⟩; have n3_ : Aside0 (wc.heap[gb519]? = some (.cells #[.int .i64 a2_0, .int .i64 a2_1] 47 (0, 0))) := ⟨by rw [← hq_]; exact (by (with_reducible repeat (first | refine blk_drewN ?_ _ | refine blk_drew ?_ | refine blk_alloc ?_ _)); exact BK519.out)⟩; have n4_ : Aside0 (Below w.heap.size w wc) := ⟨by rw [← hq_]; exact (by repeat (first | (with_reducible first | exact HB.out | apply below_alloc | apply pw_below_drewN | apply below_drew1 | refine below_set ?_ GE518.out | refine below_set ?_ GE519.out) | exact HB.out))⟩; clear HO_7 HO_9 BK518 BK519 HB hq_; have HO_7 := n0_; have HO_9 := n1_; have BK518 := n2_; have BK519 := n3_; have HB := n4_; clear n0_ n1_ n2_ n3_ n4_))
             have n0_ := Aside0.mk (Kd.R_drew HO_7.out)
             have n1_ := Aside0.mk (Kd.R_drew HO_9.out)
             have n2_ := Aside0.mk (blk_drew BK518.out)
             have n3_ := Aside0.mk (blk_drew BK519.out)
             have n4_ := Aside0.mk (below_drew1 HB.out)
             clear HO_7
             clear HO_9
             clear BK518
             clear BK519
             clear HB
             have HO_7 := n0_
             have HO_9 := n1_
             have BK518 := n2_
             have BK519 := n3_
             have HB := n4_
             clear n0_ n1_ n2_ n3_ n4_
             refine start_ (n := 10) (S := fun w' => w'.cell? ⟨gb518, 0, none⟩ = some (.slice A0_0 l0_0.length c0_0) ∧ w'.cell? ⟨gb518, 1, none⟩ = some (.int .i64 a0_1) ∧ w'.cell? ⟨gb518, 2, none⟩ = some (.int .i64 a0_2) ∧ w'.cell? ⟨gb519, 0, none⟩ = some (.int .i64 a2_0) ∧ w'.cell? ⟨gb519, 1, none⟩ = some (.int .i64 a2_1)) (ds := []) #[false, false, false, false, false, false, false, false, false, false] (by kernel_rfl) rfl rfl ⟨(blk_cell BK518.out 0).trans rfl, (blk_cell BK518.out 1).trans rfl, (blk_cell BK518.out 2).trans rfl, (blk_cell BK519.out 0).trans rfl, (blk_cell BK519.out 1).trans rfl⟩ (fun hHeld => ?_); refine with_tabW anamnesislaw05_MoveValues.tab9 anamnesislaw05_MoveValues.bits9 (fun HT_ HW_ => ?_)
             generalize wc.drew = w175 at HO_7 HO_9 BK518 BK519 HB hHeld ⊢
             refine pure1 (i := 1) (N := some 92) #[false, true, false, false, false, false, false, false, false, false] HT_.out ?_
             refine pure1 (i := 5) (N := some 96) #[false, true, false, false, false, true, false, false, false, false] HT_.out ?_
             refine take1 (i := 0) (N := some 91) #[true, true, false, false, false, true, false, false, false, false] HT_.out HW_.out hHeld ?_
             refine take1 (i := 2) (N := some 93) #[true, true, true, false, false, true, false, false, false, false] HT_.out HW_.out hHeld ?_
             refine take1 (i := 4) (N := some 95) #[true, true, true, false, true, true, false, false, false, false] HT_.out HW_.out hHeld ?_
             refine take1 (i := 6) (N := some 97) #[true, true, true, false, true, true, true, false, false, false] HT_.out HW_.out hHeld ?_
             refine one_ (i := 3) (N := some 94) #[true, true, true, true, true, true, true, false, false, false] rfl rfl (one_of HT_.out (by kernel_rfl)) (by decide) (fun K hK => ?_)
             refine goes_ Try.func22 (by kernel_rfl) rfl #[.agg #[.slice A0_0 l0_0.length c0_0, .int .i64 a0_1, .int .i64 a0_2], .int .i64 a2_0] (by rfl) rfl rfl (by (try simp only [List.map_toArray, List.map_cons, List.map_nil]); first | done | rfl | (simp only [List.length_drop, List.length_take]; rfl)) ?_
             with_reducible refine (anamnesisref03_Ref.calls _ _ l0_0 a0_1 a0_2 a2_0 t538 _ ?side1 ?side2 A79.out).mono ?_
             (case side1 => repeat (first | exact (Kd.C_below HR0_0.out HB.out) | (with_reducible refine Kd.C_alloc ?_ _) | (with_reducible refine Kd.C_drewN ?_ _) | (with_reducible refine Kd.C_drew ?_)))
             (case side2 => exact HC0_0.out)
             rintro e w176 ⟨rfl, hb⟩
             refine ⟨_, rfl, ?_⟩
             have n0_ := Aside0.mk (Kd.R_below (by (with_reducible repeat (first | apply Kd.R_alloc | apply Kd.R_drewN | apply Kd.R_drew)); exact HO_7.out) hb)
             have n1_ := Aside0.mk (Kd.R_below (by (with_reducible repeat (first | apply Kd.R_alloc | apply Kd.R_drewN | apply Kd.R_drew)); exact HO_9.out) hb)
             have n2_ := Aside0.mk (blk_below (g := gb518) (o := .cells #[.slice A0_0 l0_0.length c0_0, .int .i64 a0_1, .int .i64 a0_2] 24 (0, 0)) (by (with_reducible repeat (first | refine blk_drewN ?_ _ | refine blk_drew ?_ | refine blk_alloc ?_ _)); exact BK518.out) hb)
             have n3_ := Aside0.mk (blk_below (g := gb519) (o := .cells #[.int .i64 a2_0, .int .i64 a2_1] 47 (0, 0)) (by (with_reducible repeat (first | refine blk_drewN ?_ _ | refine blk_drew ?_ | refine blk_alloc ?_ _)); exact BK519.out) hb)
             have n4_ := Aside0.mk (below_step (by repeat (first | (with_reducible first | exact HB.out | apply below_alloc | apply pw_below_drewN | apply below_drew1 | refine below_set ?_ GE518.out | refine below_set ?_ GE519.out) | exact HB.out)) hb)
             clear HO_7
             clear HO_9
             clear BK518
             clear BK519
             clear HB
             have HO_7 := n0_
             have HO_9 := n1_
             have BK518 := n2_
             have BK519 := n3_
             have HB := n4_
             clear n0_ n1_ n2_ n3_ n4_
             (try clear hb)
             (try clear hb2)
             (try clear hk)
             (try clear hi)
             refine hK.out _ _ ⟨(blk_cell BK518.out 0).trans rfl, (blk_cell BK518.out 1).trans rfl, (blk_cell BK518.out 2).trans rfl, (blk_cell BK519.out 0).trans rfl, (blk_cell BK519.out 1).trans rfl⟩ (fun hHeld => ?_)
             clear hK K
             refine norm_ (a' := ?_) ?_ ?_
             rotate_left
             ·show Act.put _ (some 94) _ = _
              simp only [Act.put, List.setIfInBounds_toArray, List.set_cons_zero, List.set_cons_succ, i64_w, i32_w]
              rfl
             refine one_ (i := 7) (N := some 98) #[true, true, true, true, true, true, true, true, false, false] rfl rfl (one_of HT_.out (by kernel_rfl)) (by decide) (fun K hK => ?_)
             refine goes_ Try.func22 (by kernel_rfl) rfl #[.agg #[.slice A0_0 l0_0.length c0_0, .int .i64 a0_1, .int .i64 a0_2], .int .i64 a2_1] (by rfl) rfl rfl (by (try simp only [List.map_toArray, List.map_cons, List.map_nil]); first | done | rfl | (simp only [List.length_drop, List.length_take]; rfl)) ?_
             with_reducible refine (anamnesisref03_Ref.calls _ _ l0_0 a0_1 a0_2 a2_1 t539 _ ?side1 ?side2 A80.out).mono ?_
             (case side1 => repeat (first | exact (Kd.C_below HR0_0.out HB.out) | (with_reducible refine Kd.C_alloc ?_ _) | (with_reducible refine Kd.C_drewN ?_ _) | (with_reducible refine Kd.C_drew ?_)))
             (case side2 => exact HC0_0.out)
             rintro e w177 ⟨rfl, hb⟩
             refine ⟨_, rfl, ?_⟩
             have n0_ := Aside0.mk (Kd.R_below (by (with_reducible repeat (first | apply Kd.R_alloc | apply Kd.R_drewN | apply Kd.R_drew)); exact HO_7.out) hb)
             have n1_ := Aside0.mk (Kd.R_below (by (with_reducible repeat (first | apply Kd.R_alloc | apply Kd.R_drewN | apply Kd.R_drew)); exact HO_9.out) hb)
             have n2_ := Aside0.mk (blk_below (g := gb518) (o := .cells #[.slice A0_0 l0_0.length c0_0, .int .i64 a0_1, .int .i64 a0_2] 24 (0, 0)) (by (with_reducible repeat (first | refine blk_drewN ?_ _ | refine blk_drew ?_ | refine blk_alloc ?_ _)); exact BK518.out) hb)
             have n3_ := Aside0.mk (blk_below (g := gb519) (o := .cells #[.int .i64 a2_0, .int .i64 a2_1] 47 (0, 0)) (by (with_reducible repeat (first | refine blk_drewN ?_ _ | refine blk_drew ?_ | refine blk_alloc ?_ _)); exact BK519.out) hb)
             have n4_ := Aside0.mk (below_step (by repeat (first | (with_reducible first | exact HB.out | apply below_alloc | apply pw_below_drewN | apply below_drew1 | refine below_set ?_ GE518.out | refine below_set ?_ GE519.out) | exact HB.out)) hb)
             clear HO_7
             clear HO_9
             clear BK518
             clear BK519
             clear HB
             have HO_7 := n0_
             have HO_9 := n1_
             have BK518 := n2_
             have BK519 := n3_
             have HB := n4_
             clear n0_ n1_ n2_ n3_ n4_
             (try clear hb)
             (try clear hb2)
             (try clear hk)
             (try clear hi)
             refine hK.out _ _ ⟨(blk_cell BK518.out 0).trans rfl, (blk_cell BK518.out 1).trans rfl, (blk_cell BK518.out 2).trans rfl, (blk_cell BK519.out 0).trans rfl, (blk_cell BK519.out 1).trans rfl⟩ (fun hHeld => ?_)
             clear hK K
             refine norm_ (a' := ?_) ?_ ?_
             rotate_left
             ·show Act.put _ (some 98) _ = _
              simp only [Act.put, List.setIfInBounds_toArray, List.set_cons_zero, List.set_cons_succ, i64_w, i32_w]
              rfl
             refine pure1 (i := 8) (N := some 15) #[true, true, true, true, true, true, true, true, true, false] HT_.out ?_
             refine pure1 (i := 9) (N := some 16) #[true, true, true, true, true, true, true, true, true, true] HT_.out ?_
             refine done_ (done_of HT_.out (by kernel_rfl)) ?_
             obtain ⟨Ao178, co178, eo178⟩ := Kd.R_slice HO_9.out
             subst eo178
             try go_wp2_with (first | (go_at_call 24; (with_reducible refine (anamnesisref04_In.calls kj68 _ _ t530 t538 t541 _ ?side1 ?side2 A132.out).mono ?_); (case side1 => repeat (first | exact (Kd.R_reads' HO_9.out).2.2 | (with_reducible refine Kd.C_alloc ?_ _) | (with_reducible refine Kd.C_drewN ?_ _) | (with_reducible refine Kd.C_drew ?_))); (case side2 => exact (Kd.R_reads' HO_9.out).2.1); rintro e w' ⟨rfl, ⟨nd, rfl⟩⟩) | (go_at_call 24; (with_reducible refine (anamnesisref04_In.calls kj68 _ _ t530 t539 t542 _ ?side1 ?side2 A160.out).mono ?_); (case side1 => repeat (first | exact (Kd.R_reads' HO_9.out).2.2 | (with_reducible refine Kd.C_alloc ?_ _) | (with_reducible refine Kd.C_drewN ?_ _) | (with_reducible refine Kd.C_drew ?_))); (case side2 => exact (Kd.R_reads' HO_9.out).2.1); rintro e w' ⟨rfl, ⟨nd, rfl⟩⟩))
             go_ret
             exact ⟨by first | rfl | (simp [errW_none, errW_some] <;> rfl) | (simp [*, errW_none, errW_some] <;> rfl), by repeat (first | (with_reducible first | exact HB.out | apply below_alloc | apply pw_below_drewN | apply below_drew1 | refine below_set ?_ GE518.out | refine below_set ?_ GE519.out) | exact HB.out)⟩
           ·replace c162 := Bool.eq_false_iff.mpr c162
            subst c162
            have H1 : (some true) = some r := by rw [if_neg (show ¬ (false = true) by decide)] at H; exact H
            clear H
            have H := H1
            clear H1
            obtain rfl := Option.some.inj H
            have hnb179 := NB519_518.out
            have hnc179 := NB518_519.out
            have hcz180_0 : wc.cell? ⟨gb519, 0, none⟩ = some (.int .i64 a2_0) := (blk_cell BK519.out 0).trans rfl
            have hcz180_1 : wc.cell? ⟨gb519, 1, none⟩ = some (.int .i64 a2_1) := (blk_cell BK519.out 1).trans rfl
            have hfz180_0 := blk_frozen BK519.out 0
            have hfz180_1 := blk_frozen BK519.out 1
            obtain ⟨Ao181, co181, eo181⟩ := Kd.R_slice HO_7.out
            subst eo181
            try go_wp2_with (first | ((with_reducible refine gate_callee (f := 14) rfl ?_); refine goesL_ (some 81) rfl rfl Try.func14 (by kernel_rfl) rfl #[.slice Ao181 t526.length co181, .int .i64 a2_0] rfl (by (try simp only [List.map_toArray, List.map_cons, List.map_nil]); first | done | rfl | (simp only [List.length_drop, List.length_take]; rfl)) ?_; (with_reducible refine (move_Value.calls _ _ t526 a2_0 t534 false _ ?side1 ?side2 A77.out).mono ?_); (case side1 => repeat (first | exact (Kd.R_reads' HO_7.out).2.2 | (with_reducible refine Kd.C_alloc ?_ _) | (with_reducible refine Kd.C_drewN ?_ _) | (with_reducible refine Kd.C_drew ?_))); (case side2 => exact (Kd.R_reads' HO_7.out).2.1); rintro e w' ⟨rfl, ⟨nd, rfl⟩⟩; refine ⟨_, rfl, ?_⟩) | ((with_reducible refine gate_callee (f := 14) rfl ?_); refine goesL_ (some 88) rfl rfl Try.func14 (by kernel_rfl) rfl #[.slice Ao181 t526.length co181, .int .i64 a2_1] rfl (by (try simp only [List.map_toArray, List.map_cons, List.map_nil]); first | done | rfl | (simp only [List.length_drop, List.length_take]; rfl)) ?_; (with_reducible refine (move_Value.calls _ _ t526 a2_1 t536 t537 _ ?side1 ?side2 A78.out).mono ?_); (case side1 => repeat (first | exact (Kd.R_reads' HO_7.out).2.2 | (with_reducible refine Kd.C_alloc ?_ _) | (with_reducible refine Kd.C_drewN ?_ _) | (with_reducible refine Kd.C_drew ?_))); (case side2 => exact (Kd.R_reads' HO_7.out).2.1); rintro e w' ⟨rfl, ⟨nd, rfl⟩⟩; refine ⟨_, rfl, ?_⟩))
            (try (rw [drewN_self wc]; generalize hq_ : World.drewN wc _ = wc; have n0_ : Aside0 (Kd.R (Kd.int .i64) 3 wc w.heap.size (fun k_ => some k_ ≠ (v531 : Value).ownBlock) (.slice Ao181 t526.length co181) t526) := ⟨by rw [← hq_]; exact (by (with_reducible repeat (first | apply Kd.R_alloc | apply Kd.R_drewN | apply Kd.R_drew)); exact HO_7.out)⟩; have n1_ : Aside0 (Kd.R (Kd.int .i64) 3 wc w.heap.size (fun k_ => some k_ ≠ (.slice Ao181 t526.length co181 : Value).ownBlock) v531 t530) := ⟨by rw [← hq_]; exact (by (with_reducible repeat (first | apply Kd.R_alloc | apply Kd.R_drewN | apply Kd.R_drew)); exact HO_9.out)⟩; have n2_ : Aside0 (wc.heap[gb518]? = some (.cells #[.slice A0_0 l0_0.length c0_0, .int .i64 a0_1, .int .i64 a0_2] 24 (0, 0))) := ⟨by rw [← hq_]; exact (by (with_reducible repeat (first | refine blk_drewN ?_ _ | refine blk_drew ?_ | refine blk_alloc ?_ _)); exact BK518.out)⟩; have n3_ : Aside0 (wc.heap[gb519]? = some (.cells #[.int .i64 a2_0, .int .i64 a2_1] 47 (0, 0))) := ⟨by rw [← hq_]; exact (by (with_reducible repeat (first | refine blk_drewN ?_ _ | refine blk_drew ?_ | refine blk_alloc ?_ _)); exact BK519.out)⟩; have n4_ : Aside0 (Below w.heap.size w wc) := ⟨by rw [← hq_]; exact (by repeat (first | (with_reducible first | exact HB.out | apply below_alloc | apply pw_below_drewN | apply below_drew1 | refine below_set ?_ GE518.out | refine below_set ?_ GE519.out) | exact HB.out))⟩; clear HO_7 HO_9 BK518 BK519 HB hq_; have HO_7 := n0_; have HO_9 := n1_; have BK518 := n2_; have BK519 := n3_; have HB := n4_; clear n0_ n1_ n2_ n3_ n4_))
            have n0_ := Aside0.mk (Kd.R_drew HO_7.out)
            have n1_ := Aside0.mk (Kd.R_drew HO_9.out)
            have n2_ := Aside0.mk (blk_drew BK518.out)
            have n3_ := Aside0.mk (blk_drew BK519.out)
            have n4_ := Aside0.mk (below_drew1 HB.out)
            clear HO_7
            clear HO_9
            clear BK518
            clear BK519
            clear HB
            have HO_7 := n0_
            have HO_9 := n1_
            have BK518 := n2_
            have BK519 := n3_
            have HB := n4_
            clear n0_ n1_ n2_ n3_ n4_
            refine start_ (n := 10) (S := fun w' => w'.cell? ⟨gb518, 0, none⟩ = some (.slice A0_0 l0_0.length c0_0) ∧ w'.cell? ⟨gb518, 1, none⟩ = some (.int .i64 a0_1) ∧ w'.cell? ⟨gb518, 2, none⟩ = some (.int .i64 a0_2) ∧ w'.cell? ⟨gb519, 0, none⟩ = some (.int .i64 a2_0) ∧ w'.cell? ⟨gb519, 1, none⟩ = some (.int .i64 a2_1)) (ds := []) #[false, false, false, false, false, false, false, false, false, false] (by kernel_rfl) rfl rfl ⟨(blk_cell BK518.out 0).trans rfl, (blk_cell BK518.out 1).trans rfl, (blk_cell BK518.out 2).trans rfl, (blk_cell BK519.out 0).trans rfl, (blk_cell BK519.out 1).trans rfl⟩ (fun hHeld => ?_); refine with_tabW anamnesislaw05_MoveValues.tab9 anamnesislaw05_MoveValues.bits9 (fun HT_ HW_ => ?_)
            generalize wc.drew = w182 at HO_7 HO_9 BK518 BK519 HB hHeld ⊢
            refine pure1 (i := 1) (N := some 92) #[false, true, false, false, false, false, false, false, false, false] HT_.out ?_
            refine pure1 (i := 5) (N := some 96) #[false, true, false, false, false, true, false, false, false, false] HT_.out ?_
            refine take1 (i := 0) (N := some 91) #[true, true, false, false, false, true, false, false, false, false] HT_.out HW_.out hHeld ?_
            refine take1 (i := 2) (N := some 93) #[true, true, true, false, false, true, false, false, false, false] HT_.out HW_.out hHeld ?_
            refine take1 (i := 4) (N := some 95) #[true, true, true, false, true, true, false, false, false, false] HT_.out HW_.out hHeld ?_
            refine take1 (i := 6) (N := some 97) #[true, true, true, false, true, true, true, false, false, false] HT_.out HW_.out hHeld ?_
            refine one_ (i := 3) (N := some 94) #[true, true, true, true, true, true, true, false, false, false] rfl rfl (one_of HT_.out (by kernel_rfl)) (by decide) (fun K hK => ?_)
            refine goes_ Try.func22 (by kernel_rfl) rfl #[.agg #[.slice A0_0 l0_0.length c0_0, .int .i64 a0_1, .int .i64 a0_2], .int .i64 a2_0] (by rfl) rfl rfl (by (try simp only [List.map_toArray, List.map_cons, List.map_nil]); first | done | rfl | (simp only [List.length_drop, List.length_take]; rfl)) ?_
            with_reducible refine (anamnesisref03_Ref.calls _ _ l0_0 a0_1 a0_2 a2_0 t538 _ ?side1 ?side2 A79.out).mono ?_
            (case side1 => repeat (first | exact (Kd.C_below HR0_0.out HB.out) | (with_reducible refine Kd.C_alloc ?_ _) | (with_reducible refine Kd.C_drewN ?_ _) | (with_reducible refine Kd.C_drew ?_)))
            (case side2 => exact HC0_0.out)
            rintro e w183 ⟨rfl, hb⟩
            refine ⟨_, rfl, ?_⟩
            have n0_ := Aside0.mk (Kd.R_below (by (with_reducible repeat (first | apply Kd.R_alloc | apply Kd.R_drewN | apply Kd.R_drew)); exact HO_7.out) hb)
            have n1_ := Aside0.mk (Kd.R_below (by (with_reducible repeat (first | apply Kd.R_alloc | apply Kd.R_drewN | apply Kd.R_drew)); exact HO_9.out) hb)
            have n2_ := Aside0.mk (blk_below (g := gb518) (o := .cells #[.slice A0_0 l0_0.length c0_0, .int .i64 a0_1, .int .i64 a0_2] 24 (0, 0)) (by (with_reducible repeat (first | refine blk_drewN ?_ _ | refine blk_drew ?_ | refine blk_alloc ?_ _)); exact BK518.out) hb)
            have n3_ := Aside0.mk (blk_below (g := gb519) (o := .cells #[.int .i64 a2_0, .int .i64 a2_1] 47 (0, 0)) (by (with_reducible repeat (first | refine blk_drewN ?_ _ | refine blk_drew ?_ | refine blk_alloc ?_ _)); exact BK519.out) hb)
            have n4_ := Aside0.mk (below_step (by repeat (first | (with_reducible first | exact HB.out | apply below_alloc | apply pw_below_drewN | apply below_drew1 | refine below_set ?_ GE518.out | refine below_set ?_ GE519.out) | exact HB.out)) hb)
            clear HO_7
            clear HO_9
            clear BK518
            clear BK519
            clear HB
            have HO_7 := n0_
            have HO_9 := n1_
            have BK518 := n2_
            have BK519 := n3_
            have HB := n4_
            clear n0_ n1_ n2_ n3_ n4_
            (try clear hb)
            (try clear hb2)
            (try clear hk)
            (try clear hi)
            refine hK.out _ _ ⟨(blk_cell BK518.out 0).trans rfl, (blk_cell BK518.out 1).trans rfl, (blk_cell BK518.out 2).trans rfl, (blk_cell BK519.out 0).trans rfl, (blk_cell BK519.out 1).trans rfl⟩ (fun hHeld => ?_)
            clear hK K
            refine norm_ (a' := ?_) ?_ ?_
            rotate_left
            ·show Act.put _ (some 94) _ = _
             simp only [Act.put, List.setIfInBounds_toArray, List.set_cons_zero, List.set_cons_succ, i64_w, i32_w]
             rfl
            refine one_ (i := 7) (N := some 98) #[true, true, true, true, true, true, true, true, false, false] rfl rfl (one_of HT_.out (by kernel_rfl)) (by decide) (fun K hK => ?_)
            refine goes_ Try.func22 (by kernel_rfl) rfl #[.agg #[.slice A0_0 l0_0.length c0_0, .int .i64 a0_1, .int .i64 a0_2], .int .i64 a2_1] (by rfl) rfl rfl (by (try simp only [List.map_toArray, List.map_cons, List.map_nil]); first | done | rfl | (simp only [List.length_drop, List.length_take]; rfl)) ?_
            with_reducible refine (anamnesisref03_Ref.calls _ _ l0_0 a0_1 a0_2 a2_1 t539 _ ?side1 ?side2 A80.out).mono ?_
            (case side1 => repeat (first | exact (Kd.C_below HR0_0.out HB.out) | (with_reducible refine Kd.C_alloc ?_ _) | (with_reducible refine Kd.C_drewN ?_ _) | (with_reducible refine Kd.C_drew ?_)))
            (case side2 => exact HC0_0.out)
            rintro e w184 ⟨rfl, hb⟩
            refine ⟨_, rfl, ?_⟩
            have n0_ := Aside0.mk (Kd.R_below (by (with_reducible repeat (first | apply Kd.R_alloc | apply Kd.R_drewN | apply Kd.R_drew)); exact HO_7.out) hb)
            have n1_ := Aside0.mk (Kd.R_below (by (with_reducible repeat (first | apply Kd.R_alloc | apply Kd.R_drewN | apply Kd.R_drew)); exact HO_9.out) hb)
            have n2_ := Aside0.mk (blk_below (g := gb518) (o := .cells #[.slice A0_0 l0_0.length c0_0, .int .i64 a0_1, .int .i64 a0_2] 24 (0, 0)) (by (with_reducible repeat (first | refine blk_drewN ?_ _ | refine blk_drew ?_ | refine blk_alloc ?_ _)); exact BK518.out) hb)
            have n3_ := Aside0.mk (blk_below (g := gb519) (o := .cells #[.int .i64 a2_0, .int .i64 a2_1] 47 (0, 0)) (by (with_reducible repeat (first | refine blk_drewN ?_ _ | refine blk_drew ?_ | refine blk_alloc ?_ _)); exact BK519.out) hb)
            have n4_ := Aside0.mk (below_step (by repeat (first | (with_reducible first | exact HB.out | apply below_alloc | apply pw_below_drewN | apply below_drew1 | refine below_set ?_ GE518.out | refine below_set ?_ GE519.out) | exact HB.out)) hb)
            clear HO_7
            clear HO_9
            clear BK518
            clear BK519
            clear HB
            have HO_7 := n0_
            have HO_9 := n1_
            have BK518 := n2_
            have BK519 := n3_
            have HB := n4_
            clear n0_ n1_ n2_ n3_ n4_
            (try clear hb)
            (try clear hb2)
            (try clear hk)
            (try clear hi)
            refine hK.out _ _ ⟨(blk_cell BK518.out 0).trans rfl, (blk_cell BK518.out 1).trans rfl, (blk_cell BK518.out 2).trans rfl, (blk_cell BK519.out 0).trans rfl, (blk_cell BK519.out 1).trans rfl⟩ (fun hHeld => ?_)
            clear hK K
            refine norm_ (a' := ?_) ?_ ?_
            rotate_left
            ·show Act.put _ (some 98) _ = _
             simp only [Act.put, List.setIfInBounds_toArray, List.set_cons_zero, List.set_cons_succ, i64_w, i32_w]
             rfl
            refine pure1 (i := 8) (N := some 15) #[true, true, true, true, true, true, true, true, true, false] HT_.out ?_
            refine pure1 (i := 9) (N := some 16) #[true, true, true, true, true, true, true, true, true, true] HT_.out ?_
            refine done_ (done_of HT_.out (by kernel_rfl)) ?_
            obtain ⟨Ao185, co185, eo185⟩ := Kd.R_slice HO_9.out
            subst eo185
            try go_wp2_with (first | (go_at_call 24; (with_reducible refine (anamnesisref04_In.calls kj68 _ _ t530 t538 t541 _ ?side1 ?side2 A132.out).mono ?_); (case side1 => repeat (first | exact (Kd.R_reads' HO_9.out).2.2 | (with_reducible refine Kd.C_alloc ?_ _) | (with_reducible refine Kd.C_drewN ?_ _) | (with_reducible refine Kd.C_drew ?_))); (case side2 => exact (Kd.R_reads' HO_9.out).2.1); rintro e w' ⟨rfl, ⟨nd, rfl⟩⟩) | (go_at_call 24; (with_reducible refine (anamnesisref04_In.calls kj68 _ _ t530 t539 t542 _ ?side1 ?side2 A160.out).mono ?_); (case side1 => repeat (first | exact (Kd.R_reads' HO_9.out).2.2 | (with_reducible refine Kd.C_alloc ?_ _) | (with_reducible refine Kd.C_drewN ?_ _) | (with_reducible refine Kd.C_drew ?_))); (case side2 => exact (Kd.R_reads' HO_9.out).2.1); rintro e w' ⟨rfl, ⟨nd, rfl⟩⟩))
            go_ret
            exact ⟨by first | rfl | (simp [errW_none, errW_some] <;> rfl) | (simp [*, errW_none, errW_some] <;> rfl), by repeat (first | (with_reducible first | exact HB.out | apply below_alloc | apply pw_below_drewN | apply below_drew1 | refine below_set ?_ GE518.out | refine below_set ?_ GE519.out) | exact HB.out)⟩
          ·rw [if_neg c161] at H
           exact absurd H (by simp)
        ·rw [if_neg c133] at H
         exact absurd H (by simp)
end Go.Proofs.Ytlmejfcfdhinlaa.PMove
