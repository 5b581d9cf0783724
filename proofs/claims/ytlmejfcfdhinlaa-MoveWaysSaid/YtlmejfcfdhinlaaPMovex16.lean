import Derived.Test.YtlmejfcfdhinlaaPMovex0
import Derived.Test.YtlmejfcfdhinlaaPMovex1
import Derived.Test.YtlmejfcfdhinlaaPMovex5
import Derived.Test.YtlmejfcfdhinlaaPMovex8
import Derived.Test.YtlmejfcfdhinlaaPMovex10
import Derived.Test.YtlmejfcfdhinlaaPMovex15
namespace Go.Proofs.Ytlmejfcfdhinlaa.PMove
open Go.RowKit Go.Proofs.YtlmejfcfdhinlaaW.PrintWords Go.Proofs.YtlmejfcfdhinlaaW.PrintLast Go.Proofs.YtlmejfcfdhinlaaW.PrintMore
attribute [local go_sem] max2_int min2_int max_two min_two max_three min_three max_four min_four
set_option linter.unusedVariables false
set_option linter.unusedSimpArgs false
attribute [local go_sem] setCell_drewN
mutual
def anamnesislaw05_MoveWays.j0 : Nat → List Int → List Int → Bool → List (S44) → Int → Int → Option (Bool)
 | 0, _, _, _, _, _, _ => none
 | k + 1, x1, x2, x46, x465000, x465001, x465002 => if x46 = true then ((anamnesislaw05_fixed.f k).bind fun t468 => (some t468)) else ((move_Compact.f k x465000 x465001 x465002 x1).bind fun bt469 => (if bt469.2.2.2.2 = 0 then (anamnesislaw05_MoveWays.l0 k x1 x2 bt469.2.2.2.1 0 x465000 x465001 x465002 bt469.1 bt469.2.1 bt469.2.2.1) else (some true)))
def anamnesislaw05_MoveWays.l0 : Nat → List Int → List Int → List Int → Int → List (S44) → Int → Int → List (S44) → Int → Int → Option (Bool)
 | 0, _, _, _, _, _, _, _, _, _, _ => none
 | k + 1, x1, x2, x8, x10, x465000, x465001, x465002, x479000, x479001, x479002 => if x10 < (x1.length : Int) then (if (x8.length : Int) = (x1.length : Int) then (if 0 ≤ x10 then ((anamnesislaw05_end.f k x465000 x465001 x465002 (rd x1 x10) x2).bind fun bt480 => (if x10 < (x8.length : Int) then ((anamnesislaw05_end.f k x479000 x479001 x479002 (rd x8 x10) x2).bind fun bt483 => (if (bt480.2 != bt483.2) = true then (none) else ((anamnesisref01_N.f bt480.1).bind fun bt485 => (if bt480.2 = true then (anamnesislaw05_MoveWays.j2 k x1 x2 x8 x10 bt480.1 bt483.1 bt485.2 x465000 x465001 x465002 x479000 x479001 x479002) else (anamnesislaw05_MoveWays.j2 k x1 x2 x8 x10 bt480.1 bt483.1 true x465000 x465001 x465002 x479000 x479001 x479002))))) else (none))) else (none)) else (none)) else (some true)
def anamnesislaw05_MoveWays.j2 : Nat → List Int → List Int → List Int → Int → Int → Int → Bool → List (S44) → Int → Int → List (S44) → Int → Int → Option (Bool)
 | 0, _, _, _, _, _, _, _, _, _, _, _, _, _ => none
 | k + 1, x1, x2, x8, x10, x11, x13, x100, x465000, x465001, x465002, x479000, x479001, x479002 => if x100 = true then (if x11 = x13 then (anamnesislaw05_MoveWays.l0 k x1 x2 x8 (wrap64 (x10 + 1)) x465000 x465001 x465002 x479000 x479001 x479002) else (none)) else ((anamnesisref03_Ref.f x465000 x465001 x465002 x11).bind fun t487 => (if 0 ≤ t487 then (if t487 < (x465000.length : Int) then ((anamnesisref03_Ref.f x479000 x479001 x479002 x13).bind fun t490 => (if t490 < 0 then (none) else ((anamnesisref03_Ref.f x479000 x479001 x479002 x13).bind fun t491 => (if 0 ≤ t491 then (if t491 < (x479000.length : Int) then (if ((rd_T44 x465000 t487).f1) = ((rd_T44 x479000 t491).f1) then (if ((rd_T44 x465000 t487).f3).toList = ((rd_T44 x479000 t491).f3).toList then (if ((rd_T44 x465000 t487).f4) = ((rd_T44 x479000 t491).f4) then (if ((rd_T44 x465000 t487).f5) = ((rd_T44 x479000 t491).f5) then (if (((rd_T44 x465000 t487).f2).length : Int) = (((rd_T44 x479000 t491).f2).length : Int) then (anamnesislaw05_MoveWays.l0 k x1 x2 x8 (wrap64 (x10 + 1)) x465000 x465001 x465002 x479000 x479001 x479002) else (none)) else (none)) else (none)) else (none)) else (none)) else (none)) else (none))))) else (none)) else (none)))
end
def anamnesislaw05_MoveWays.f (k : Nat) (l0_0 : List (S44)) (a0_1 : Int) (a0_2 : Int) (l1 : List Int) (l2 : List Int) : Option (Bool) := (anamnesislaw05_fixed.f k).bind fun t465 => (if t465 = true then ((anamnesisref03_Small.f k l0_0 a0_1 a0_2).bind fun t466 => (if t466 = true then ((anamnesisref03_May.f k l0_0 a0_1 a0_2).bind fun t467 => (if t467 = true then (if (l0_0.length : Int) > 40 then (anamnesislaw05_MoveWays.j0 k l1 l2 true l0_0 a0_1 a0_2) else (if (l1.length : Int) > 100 then (anamnesislaw05_MoveWays.j0 k l1 l2 true l0_0 a0_1 a0_2) else (anamnesislaw05_MoveWays.j0 k l1 l2 (decide ((l2.length : Int) > 50)) l0_0 a0_1 a0_2))) else (anamnesislaw05_MoveWays.j0 k l1 l2 true l0_0 a0_1 a0_2))) else (anamnesislaw05_MoveWays.j0 k l1 l2 true l0_0 a0_1 a0_2))) else (anamnesislaw05_MoveWays.j0 k l1 l2 true l0_0 a0_1 a0_2))
theorem anamnesislaw05_MoveWays.mono_l : ∀ k, (∀ y0 y1 y2 y3 y4 y5, LeO (anamnesislaw05_MoveWays.j0 k y0 y1 y2 y3 y4 y5) (anamnesislaw05_MoveWays.j0 (k + 1) y0 y1 y2 y3 y4 y5)) ∧ (∀ y0 y1 y2 y3 y4 y5 y6 y7 y8 y9, LeO (anamnesislaw05_MoveWays.l0 k y0 y1 y2 y3 y4 y5 y6 y7 y8 y9) (anamnesislaw05_MoveWays.l0 (k + 1) y0 y1 y2 y3 y4 y5 y6 y7 y8 y9)) ∧ (∀ y0 y1 y2 y3 y4 y5 y6 y7 y8 y9 y10 y11 y12, LeO (anamnesislaw05_MoveWays.j2 k y0 y1 y2 y3 y4 y5 y6 y7 y8 y9 y10 y11 y12) (anamnesislaw05_MoveWays.j2 (k + 1) y0 y1 y2 y3 y4 y5 y6 y7 y8 y9 y10 y11 y12))
 | 0 => ⟨fun _ _ _ _ _ _ r h => by simp [anamnesislaw05_MoveWays.j0] at h, fun _ _ _ _ _ _ _ _ _ _ r h => by simp [anamnesislaw05_MoveWays.l0] at h, fun _ _ _ _ _ _ _ _ _ _ _ _ _ r h => by simp [anamnesislaw05_MoveWays.j2] at h⟩
 | k + 1 => by
  obtain ⟨ih0, ih1, ih2⟩ := anamnesislaw05_MoveWays.mono_l k
  refine ⟨?_, ?_, ?_⟩
  ·intro y0 y1 y2 y3 y4 y5
   unfold anamnesislaw05_MoveWays.j0
   repeat' first
   | (with_reducible exact ih0 _ _ _ _ _ _)
   | (with_reducible exact ih1 _ _ _ _ _ _ _ _ _ _)
   | (with_reducible exact ih2 _ _ _ _ _ _ _ _ _ _ _ _ _)
   | (with_reducible exact anamnesislaw05_end.mono _ _ _ _ _ _)
   | (with_reducible exact anamnesislaw05_fixed.mono _)
   | (with_reducible exact anamnesisref03_May.mono _ _ _ _)
   | (with_reducible exact anamnesisref03_Small.mono _ _ _ _)
   | (with_reducible exact move_Compact.mono _ _ _ _ _)
   | (with_reducible exact LeO.refl _)
   | (with_reducible exact LeO.none _)
   | (with_reducible refine LeO.ite ?_ ?_)
   | (with_reducible refine LeO.bind ?_ (fun _ => ?_))
   | exact ih0 _ _ _ _ _ _
   | exact ih1 _ _ _ _ _ _ _ _ _ _
   | exact ih2 _ _ _ _ _ _ _ _ _ _ _ _ _
   | exact anamnesislaw05_end.mono _ _ _ _ _ _
   | exact anamnesislaw05_fixed.mono _
   | exact anamnesisref03_May.mono _ _ _ _
   | exact anamnesisref03_Small.mono _ _ _ _
   | exact move_Compact.mono _ _ _ _ _
   | exact LeO.none _
   | refine LeO.ite ?_ ?_
   | refine LeO.bind ?_ (fun _ => ?_)
  ·intro y0 y1 y2 y3 y4 y5 y6 y7 y8 y9
   unfold anamnesislaw05_MoveWays.l0
   repeat' first
   | (with_reducible exact ih0 _ _ _ _ _ _)
   | (with_reducible exact ih1 _ _ _ _ _ _ _ _ _ _)
   | (with_reducible exact ih2 _ _ _ _ _ _ _ _ _ _ _ _ _)
   | (with_reducible exact anamnesislaw05_end.mono _ _ _ _ _ _)
   | (with_reducible exact anamnesislaw05_fixed.mono _)
   | (with_reducible exact anamnesisref03_May.mono _ _ _ _)
   | (with_reducible exact anamnesisref03_Small.mono _ _ _ _)
   | (with_reducible exact move_Compact.mono _ _ _ _ _)
   | (with_reducible exact LeO.refl _)
   | (with_reducible exact LeO.none _)
   | (with_reducible refine LeO.ite ?_ ?_)
   | (with_reducible refine LeO.bind ?_ (fun _ => ?_))
   | exact ih0 _ _ _ _ _ _
   | exact ih1 _ _ _ _ _ _ _ _ _ _
   | exact ih2 _ _ _ _ _ _ _ _ _ _ _ _ _
   | exact anamnesislaw05_end.mono _ _ _ _ _ _
   | exact anamnesislaw05_fixed.mono _
   | exact anamnesisref03_May.mono _ _ _ _
   | exact anamnesisref03_Small.mono _ _ _ _
   | exact move_Compact.mono _ _ _ _ _
   | exact LeO.none _
   | refine LeO.ite ?_ ?_
   | refine LeO.bind ?_ (fun _ => ?_)
  ·intro y0 y1 y2 y3 y4 y5 y6 y7 y8 y9 y10 y11 y12
   unfold anamnesislaw05_MoveWays.j2
   repeat' first
   | (with_reducible exact ih0 _ _ _ _ _ _)
   | (with_reducible exact ih1 _ _ _ _ _ _ _ _ _ _)
   | (with_reducible exact ih2 _ _ _ _ _ _ _ _ _ _ _ _ _)
   | (with_reducible exact anamnesislaw05_end.mono _ _ _ _ _ _)
   | (with_reducible exact anamnesislaw05_fixed.mono _)
   | (with_reducible exact anamnesisref03_May.mono _ _ _ _)
   | (with_reducible exact anamnesisref03_Small.mono _ _ _ _)
   | (with_reducible exact move_Compact.mono _ _ _ _ _)
   | (with_reducible exact LeO.refl _)
   | (with_reducible exact LeO.none _)
   | (with_reducible refine LeO.ite ?_ ?_)
   | (with_reducible refine LeO.bind ?_ (fun _ => ?_))
   | exact ih0 _ _ _ _ _ _
   | exact ih1 _ _ _ _ _ _ _ _ _ _
   | exact ih2 _ _ _ _ _ _ _ _ _ _ _ _ _
   | exact anamnesislaw05_end.mono _ _ _ _ _ _
   | exact anamnesislaw05_fixed.mono _
   | exact anamnesisref03_May.mono _ _ _ _
   | exact anamnesisref03_Small.mono _ _ _ _
   | exact move_Compact.mono _ _ _ _ _
   | exact LeO.none _
   | refine LeO.ite ?_ ?_
   | refine LeO.bind ?_ (fun _ => ?_)
theorem anamnesislaw05_MoveWays.mono : ∀ a0 a1 a2 a3 a4 k, LeO (anamnesislaw05_MoveWays.f k a0 a1 a2 a3 a4) (anamnesislaw05_MoveWays.f (k + 1) a0 a1 a2 a3 a4) := by
 intro a0 a1 a2 a3 a4 k
 obtain ⟨ih0, ih1, ih2⟩ := anamnesislaw05_MoveWays.mono_l k
 unfold anamnesislaw05_MoveWays.f
 repeat' first
   | (with_reducible exact ih0 _ _ _ _ _ _)
   | (with_reducible exact ih1 _ _ _ _ _ _ _ _ _ _)
   | (with_reducible exact ih2 _ _ _ _ _ _ _ _ _ _ _ _ _)
   | (with_reducible exact anamnesislaw05_end.mono _ _ _ _ _ _)
   | (with_reducible exact anamnesislaw05_fixed.mono _)
   | (with_reducible exact anamnesisref03_May.mono _ _ _ _)
   | (with_reducible exact anamnesisref03_Small.mono _ _ _ _)
   | (with_reducible exact move_Compact.mono _ _ _ _ _)
   | (with_reducible exact LeO.refl _)
   | (with_reducible exact LeO.none _)
   | (with_reducible refine LeO.ite ?_ ?_)
   | (with_reducible refine LeO.bind ?_ (fun _ => ?_))
   | exact ih0 _ _ _ _ _ _
   | exact ih1 _ _ _ _ _ _ _ _ _ _
   | exact ih2 _ _ _ _ _ _ _ _ _ _ _ _ _
   | exact anamnesislaw05_end.mono _ _ _ _ _ _
   | exact anamnesislaw05_fixed.mono _
   | exact anamnesisref03_May.mono _ _ _ _
   | exact anamnesisref03_Small.mono _ _ _ _
   | exact move_Compact.mono _ _ _ _ _
   | exact LeO.none _
   | refine LeO.ite ?_ ?_
   | refine LeO.bind ?_ (fun _ => ?_)
def anamnesislaw05_MoveWays.T11 : Bool × List (List Nat × List Nat) := (true, [([], []), ([], []), ([], []), ([1, 2], [1, 2]), ([3], [3]), ([], []), ([0, 4, 5], [0, 4, 5]), ([6], [6]), ([7], [7]), ([7], [7]), ([8, 6, 0, 1, 2, 3, 4, 5, 6, 7, 8], [8]), ([9, 10, 0, 1, 2, 3, 4, 5, 6, 7, 8, 9, 10], [9])])
def anamnesislaw05_MoveWays.B11 : List Nat := [0, 0, 0, 6, 14, 0, 63, 127, 255, 255, 511, 2047]
theorem anamnesislaw05_MoveWays.tab11 : rtab .any (opsOf Try.f5 11) = anamnesislaw05_MoveWays.T11 := by kernel_rfl
theorem anamnesislaw05_MoveWays.bits11 : waitsOk anamnesislaw05_MoveWays.T11.2 anamnesislaw05_MoveWays.B11 = true := by kernel_rfl
def anamnesislaw05_MoveWays.T12 : Bool × List (List Nat × List Nat) := (true, [([], []), ([], []), ([], []), ([1, 2], [1, 2]), ([3], [3]), ([], []), ([0, 4, 5], [0, 4, 5]), ([6], [6]), ([7], [7]), ([7], [7]), ([8, 6, 0, 1, 2, 3, 4, 5, 6, 7, 8], [8]), ([9, 10, 0, 1, 2, 3, 4, 5, 6, 7, 8, 9, 10], [9])])
def anamnesislaw05_MoveWays.B12 : List Nat := [0, 0, 0, 6, 14, 0, 63, 127, 255, 255, 511, 2047]
theorem anamnesislaw05_MoveWays.tab12 : rtab .any (opsOf Try.f5 12) = anamnesislaw05_MoveWays.T12 := by kernel_rfl
theorem anamnesislaw05_MoveWays.bits12 : waitsOk anamnesislaw05_MoveWays.T12.2 anamnesislaw05_MoveWays.B12 = true := by kernel_rfl
def anamnesislaw05_MoveWays.T19 : Bool × List (List Nat × List Nat) := (true, [([], []), ([0], [0]), ([], []), ([], []), ([2, 3], [2, 3]), ([1, 4], [1, 4]), ([5], [5]), ([], []), ([7, 6, 4, 0, 1, 2, 3, 4, 5, 6, 7], [6, 7])])
def anamnesislaw05_MoveWays.B19 : List Nat := [0, 1, 0, 0, 12, 31, 63, 0, 255]
theorem anamnesislaw05_MoveWays.tab19 : rtab .any (opsOf Try.f5 19) = anamnesislaw05_MoveWays.T19 := by kernel_rfl
theorem anamnesislaw05_MoveWays.bits19 : waitsOk anamnesislaw05_MoveWays.T19.2 anamnesislaw05_MoveWays.B19 = true := by kernel_rfl
def anamnesislaw05_MoveWays.T22 : Bool × List (List Nat × List Nat) := (true, [([], []), ([0], [0]), ([], []), ([], []), ([2, 3], [2, 3]), ([1, 4], [1, 4]), ([5], [5]), ([], []), ([7, 6, 4, 0, 1, 2, 3, 4, 5, 6, 7], [6, 7])])
def anamnesislaw05_MoveWays.B22 : List Nat := [0, 1, 0, 0, 12, 31, 63, 0, 255]
theorem anamnesislaw05_MoveWays.tab22 : rtab .any (opsOf Try.f5 22) = anamnesislaw05_MoveWays.T22 := by kernel_rfl
theorem anamnesislaw05_MoveWays.bits22 : waitsOk anamnesislaw05_MoveWays.T22.2 anamnesislaw05_MoveWays.B22 = true := by kernel_rfl
set_option maxHeartbeats 8000000 in
set_option maxRecDepth 100000 in
theorem anamnesislaw05_MoveWays.calls (k : Nat) (A0_0 : Option Addr) (c0_0 : Nat) (l0_0 : List (S44)) (a0_1 : Int) (a0_2 : Int) (A1 : Option Addr) (c1 : Nat) (l1 : List Int) (A2 : Option Addr) (c2 : Nat) (l2 : List Int) (r : Bool) (w : World) (hr0_0 : Kd.C k44 w A0_0 l0_0.length l0_0) (hc0_0 : l0_0.length ≤ c0_0) (hr1 : Kd.C (Kd.int .i64) w A1 l1.length l1) (hc1 : l1.length ≤ c1) (hr2 : Kd.C (Kd.int .i64) w A2 l2.length l2) (hc2 : l2.length ≤ c2) (h : anamnesislaw05_MoveWays.f k l0_0 a0_1 a0_2 l1 l2 = some r) :
  Calls Try.prog 5 #[.agg #[.slice A0_0 l0_0.length c0_0, .int .i64 a0_1, .int .i64 a0_2], .slice A1 l1.length c1, .slice A2 l2.length c2] w fun e w' => e = .returned (.bool r) ∧ Below w.heap.size w w' := by
 have hu24 := Try.underlying24
 have hu44 := Try.underlying44
 have HR0_0 := Aside0.mk hr0_0
 have HC0_0 := Aside0.mk hc0_0
 clear hr0_0 hc0_0
 have HR1 := Aside0.mk hr1
 have HC1 := Aside0.mk hc1
 clear hr1 hc1
 have HR2 := Aside0.mk hr2
 have HC2 := Aside0.mk hc2
 clear hr2 hc2
 have HB := Aside0.mk (Below.refl w.heap.size w)
 have H : ((anamnesislaw05_fixed.f k).bind fun t465 => (if t465 = true then ((anamnesisref03_Small.f k l0_0 a0_1 a0_2).bind fun t466 => (if t466 = true then ((anamnesisref03_May.f k l0_0 a0_1 a0_2).bind fun t467 => (if t467 = true then (if (l0_0.length : Int) > 40 then (anamnesislaw05_MoveWays.j0 k l1 l2 true l0_0 a0_1 a0_2) else (if (l1.length : Int) > 100 then (anamnesislaw05_MoveWays.j0 k l1 l2 true l0_0 a0_1 a0_2) else (anamnesislaw05_MoveWays.j0 k l1 l2 (decide ((l2.length : Int) > 50)) l0_0 a0_1 a0_2))) else (anamnesislaw05_MoveWays.j0 k l1 l2 true l0_0 a0_1 a0_2))) else (anamnesislaw05_MoveWays.j0 k l1 l2 true l0_0 a0_1 a0_2))) else (anamnesislaw05_MoveWays.j0 k l1 l2 true l0_0 a0_1 a0_2))) = some r := h
 clear h
 have HC4 := Aside0.mk H
 clear H
 go_enter Try.func5, Try.ntmps5
 go_upto_region 1 with (first | ((with_reducible refine gate_dst (N := 3) rfl ?_); (try (refine gate_guard (by rfl) ?_; dsimp only)); refine box_event ?hg (N := 3) ?hd (cs := #[.slice A0_0 l0_0.length c0_0, .int .i64 a0_1, .int .i64 a0_2]) (t := 24) ?hr ?_; (case hd => rfl); (case hg => rfl); (case hr => first | (go_simp; done) | (go_simp; rfl)); intro gb464 hg w5 hbox hb; have n0_ := Aside0.mk (below_step (by repeat (first | (with_reducible first | exact HB.out | apply below_alloc | apply pw_below_drewN | apply below_drew1) | exact HB.out)) hb); have n1_ := Aside0.mk (hbox); have n2_ := Aside0.mk ((by rw [hg]; exact (below_size (by repeat (first | (with_reducible first | exact HB.out | apply below_alloc | apply pw_below_drewN | apply below_drew1) | exact HB.out))) : w.heap.size ≤ gb464)); have n3_ := Aside0.mk ((by rw [hg]; exact (below_size (by repeat (first | (with_reducible first | exact HB.out | apply below_alloc | apply pw_below_drewN | apply below_drew1) | exact HB.out))) : w.heap.size ≤ gb464)); clear HB; have HB := n0_; have BK464 := n1_; have GW464 := n2_; have GE464 := n3_; clear n0_ n1_ n2_ n3_; clear hb hbox hg))
 (try simp only [Act.put, List.setIfInBounds_toArray, List.set_cons_zero, List.set_cons_succ])
 go_cut [46] (fun v46 wc => ∃ (kq : Nat) (x46_3 : Bool), v46 = .bool x46_3 ∧ Aside0 (anamnesislaw05_MoveWays.j0 kq l1 l2 x46_3 l0_0 a0_1 a0_2 = some r) ∧ Aside0 (kq ≤ k) ∧ Aside0 (wc.heap[gb464]? = some (.cells #[(.slice A0_0 l0_0.length c0_0), .int .i64 a0_1, .int .i64 a0_2] 24 (0, 0))) ∧ Aside0 (Below w.heap.size w wc))
 case first =>
  have H := HC4.out
  clear HC4
  replace H := Option.bind_eq_some_iff.mp H
  obtain ⟨t465, A60, H⟩ := H
  replace H : (if t465 = true then ((anamnesisref03_Small.f k l0_0 a0_1 a0_2).bind fun t466 => (if t466 = true then ((anamnesisref03_May.f k l0_0 a0_1 a0_2).bind fun t467 => (if t467 = true then (if (l0_0.length : Int) > 40 then (anamnesislaw05_MoveWays.j0 k l1 l2 true l0_0 a0_1 a0_2) else (if (l1.length : Int) > 100 then (anamnesislaw05_MoveWays.j0 k l1 l2 true l0_0 a0_1 a0_2) else (anamnesislaw05_MoveWays.j0 k l1 l2 (decide ((l2.length : Int) > 50)) l0_0 a0_1 a0_2))) else (anamnesislaw05_MoveWays.j0 k l1 l2 true l0_0 a0_1 a0_2))) else (anamnesislaw05_MoveWays.j0 k l1 l2 true l0_0 a0_1 a0_2))) else (anamnesislaw05_MoveWays.j0 k l1 l2 true l0_0 a0_1 a0_2)) = some r := H
  have A6 := Aside0.mk A60
  clear A60
  by_cases c7 : t465 = true
  ·subst c7
   have H1 : ((anamnesisref03_Small.f k l0_0 a0_1 a0_2).bind fun t466 => (if t466 = true then ((anamnesisref03_May.f k l0_0 a0_1 a0_2).bind fun t467 => (if t467 = true then (if (l0_0.length : Int) > 40 then (anamnesislaw05_MoveWays.j0 k l1 l2 true l0_0 a0_1 a0_2) else (if (l1.length : Int) > 100 then (anamnesislaw05_MoveWays.j0 k l1 l2 true l0_0 a0_1 a0_2) else (anamnesislaw05_MoveWays.j0 k l1 l2 (decide ((l2.length : Int) > 50)) l0_0 a0_1 a0_2))) else (anamnesislaw05_MoveWays.j0 k l1 l2 true l0_0 a0_1 a0_2))) else (anamnesislaw05_MoveWays.j0 k l1 l2 true l0_0 a0_1 a0_2))) = some r := by rw [if_pos rfl] at H; exact H
   clear H
   have H := H1
   clear H1
   replace H := Option.bind_eq_some_iff.mp H
   obtain ⟨t466, A80, H⟩ := H
   replace H : (if t466 = true then ((anamnesisref03_May.f k l0_0 a0_1 a0_2).bind fun t467 => (if t467 = true then (if (l0_0.length : Int) > 40 then (anamnesislaw05_MoveWays.j0 k l1 l2 true l0_0 a0_1 a0_2) else (if (l1.length : Int) > 100 then (anamnesislaw05_MoveWays.j0 k l1 l2 true l0_0 a0_1 a0_2) else (anamnesislaw05_MoveWays.j0 k l1 l2 (decide ((l2.length : Int) > 50)) l0_0 a0_1 a0_2))) else (anamnesislaw05_MoveWays.j0 k l1 l2 true l0_0 a0_1 a0_2))) else (anamnesislaw05_MoveWays.j0 k l1 l2 true l0_0 a0_1 a0_2)) = some r := H
   have A8 := Aside0.mk A80
   clear A80
   by_cases c9 : t466 = true
   ·subst c9
    have H1 : ((anamnesisref03_May.f k l0_0 a0_1 a0_2).bind fun t467 => (if t467 = true then (if (l0_0.length : Int) > 40 then (anamnesislaw05_MoveWays.j0 k l1 l2 true l0_0 a0_1 a0_2) else (if (l1.length : Int) > 100 then (anamnesislaw05_MoveWays.j0 k l1 l2 true l0_0 a0_1 a0_2) else (anamnesislaw05_MoveWays.j0 k l1 l2 (decide ((l2.length : Int) > 50)) l0_0 a0_1 a0_2))) else (anamnesislaw05_MoveWays.j0 k l1 l2 true l0_0 a0_1 a0_2))) = some r := by rw [if_pos rfl] at H; exact H
    clear H
    have H := H1
    clear H1
    replace H := Option.bind_eq_some_iff.mp H
    obtain ⟨t467, A100, H⟩ := H
    replace H : (if t467 = true then (if (l0_0.length : Int) > 40 then (anamnesislaw05_MoveWays.j0 k l1 l2 true l0_0 a0_1 a0_2) else (if (l1.length : Int) > 100 then (anamnesislaw05_MoveWays.j0 k l1 l2 true l0_0 a0_1 a0_2) else (anamnesislaw05_MoveWays.j0 k l1 l2 (decide ((l2.length : Int) > 50)) l0_0 a0_1 a0_2))) else (anamnesislaw05_MoveWays.j0 k l1 l2 true l0_0 a0_1 a0_2)) = some r := H
    have A10 := Aside0.mk A100
    clear A100
    by_cases c11 : t467 = true
    ·subst c11
     have H1 : (if (l0_0.length : Int) > 40 then (anamnesislaw05_MoveWays.j0 k l1 l2 true l0_0 a0_1 a0_2) else (if (l1.length : Int) > 100 then (anamnesislaw05_MoveWays.j0 k l1 l2 true l0_0 a0_1 a0_2) else (anamnesislaw05_MoveWays.j0 k l1 l2 (decide ((l2.length : Int) > 50)) l0_0 a0_1 a0_2))) = some r := by rw [if_pos rfl] at H; exact H
     clear H
     have H := H1
     clear H1
     by_cases c12 : (l0_0.length : Int) > 40
     ·rw [if_pos c12] at H
      have c12b0 : decide (40 < (l0_0.length : Int)) = true := decide_eq_true c12
      have c12b1 : decide (40 < l0_0.length) = true := decide_eq_true (by omega)
      clear c12
      (first | rw [c12b0] | (simp only [i64_w, i32_w]; rw [c12b0]) | skip)
      have H' := Aside0.mk H
      clear H
      go_wp2_with (first | ((with_reducible refine gate_callee (f := 9) rfl ?_); refine goesL_ (some 19) rfl rfl Try.func9 (by kernel_rfl) rfl #[] rfl (by (try simp only [List.map_toArray, List.map_cons, List.map_nil]); first | done | rfl | (simp only [List.length_drop, List.length_take]; rfl)) ?_; (with_reducible refine (anamnesislaw05_fixed.calls k  true _ A6.out).mono ?_); rintro e w13 ⟨rfl, hb⟩; refine ⟨_, rfl, ?_⟩; have n0_ := Aside0.mk (blk_below (g := gb464) (o := .cells #[.slice A0_0 l0_0.length c0_0, .int .i64 a0_1, .int .i64 a0_2] 24 (0, 0)) (by (with_reducible repeat (first | refine blk_drewN ?_ _ | refine blk_drew ?_ | refine blk_alloc ?_ _)); exact BK464.out) hb); have n1_ := Aside0.mk (below_step (by repeat (first | (with_reducible first | exact HB.out | apply below_alloc | apply pw_below_drewN | apply below_drew1 | refine below_set ?_ GE464.out) | exact HB.out)) hb); clear BK464; clear HB; have BK464 := n0_; have HB := n1_; clear n0_ n1_; (try clear hb); (try clear hb2); (try clear hk); (try clear hi); have hcz14_0 : w13.cell? ⟨gb464, 0, none⟩ = some (.slice A0_0 l0_0.length c0_0) := (blk_cell BK464.out 0).trans rfl; have hcz14_1 : w13.cell? ⟨gb464, 1, none⟩ = some (.int .i64 a0_1) := (blk_cell BK464.out 1).trans rfl; have hcz14_2 : w13.cell? ⟨gb464, 2, none⟩ = some (.int .i64 a0_2) := (blk_cell BK464.out 2).trans rfl; have hfz14_0 := blk_frozen BK464.out 0; have hfz14_1 := blk_frozen BK464.out 1; have hfz14_2 := blk_frozen BK464.out 2) | (go_at_call 8; (with_reducible refine (anamnesisref03_Small.calls k _ _ l0_0 a0_1 a0_2 true _ ?side1 ?side2 A8.out).mono ?_); (case side1 => repeat (first | exact (Kd.C_below HR0_0.out HB.out) | (with_reducible refine Kd.C_alloc ?_ _) | (with_reducible refine Kd.C_drewN ?_ _) | (with_reducible refine Kd.C_drew ?_))); (case side2 => exact HC0_0.out); rintro e w15 ⟨rfl, hb⟩; have n0_ := Aside0.mk (blk_below (g := gb464) (o := .cells #[.slice A0_0 l0_0.length c0_0, .int .i64 a0_1, .int .i64 a0_2] 24 (0, 0)) (by (with_reducible repeat (first | refine blk_drewN ?_ _ | refine blk_drew ?_ | refine blk_alloc ?_ _)); exact BK464.out) hb); have n1_ := Aside0.mk (below_step (by repeat (first | (with_reducible first | exact HB.out | apply below_alloc | apply pw_below_drewN | apply below_drew1 | refine below_set ?_ GE464.out) | exact HB.out)) hb); clear BK464; clear HB; have BK464 := n0_; have HB := n1_; clear n0_ n1_; (try clear hb); (try clear hb2); (try clear hk); (try clear hi); have hcz16_0 : w15.cell? ⟨gb464, 0, none⟩ = some (.slice A0_0 l0_0.length c0_0) := (blk_cell BK464.out 0).trans rfl; have hcz16_1 : w15.cell? ⟨gb464, 1, none⟩ = some (.int .i64 a0_1) := (blk_cell BK464.out 1).trans rfl; have hcz16_2 : w15.cell? ⟨gb464, 2, none⟩ = some (.int .i64 a0_2) := (blk_cell BK464.out 2).trans rfl; have hfz16_0 := blk_frozen BK464.out 0; have hfz16_1 := blk_frozen BK464.out 1; have hfz16_2 := blk_frozen BK464.out 2) | (go_at_call 18; (with_reducible refine (anamnesisref03_May.calls k _ _ l0_0 a0_1 a0_2 true _ ?side1 ?side2 A10.out).mono ?_); (case side1 => repeat (first | exact (Kd.C_below HR0_0.out HB.out) | (with_reducible refine Kd.C_alloc ?_ _) | (with_reducible refine Kd.C_drewN ?_ _) | (with_reducible refine Kd.C_drew ?_))); (case side2 => exact HC0_0.out); rintro e w17 ⟨rfl, hb⟩; have n0_ := Aside0.mk (blk_below (g := gb464) (o := .cells #[.slice A0_0 l0_0.length c0_0, .int .i64 a0_1, .int .i64 a0_2] 24 (0, 0)) (by (with_reducible repeat (first | refine blk_drewN ?_ _ | refine blk_drew ?_ | refine blk_alloc ?_ _)); exact BK464.out) hb); have n1_ := Aside0.mk (below_step (by repeat (first | (with_reducible first | exact HB.out | apply below_alloc | apply pw_below_drewN | apply below_drew1 | refine below_set ?_ GE464.out) | exact HB.out)) hb); clear BK464; clear HB; have BK464 := n0_; have HB := n1_; clear n0_ n1_; (try clear hb); (try clear hb2); (try clear hk); (try clear hi); have hcz18_0 : w17.cell? ⟨gb464, 0, none⟩ = some (.slice A0_0 l0_0.length c0_0) := (blk_cell BK464.out 0).trans rfl; have hcz18_1 : w17.cell? ⟨gb464, 1, none⟩ = some (.int .i64 a0_1) := (blk_cell BK464.out 1).trans rfl; have hcz18_2 : w17.cell? ⟨gb464, 2, none⟩ = some (.int .i64 a0_2) := (blk_cell BK464.out 2).trans rfl; have hfz18_0 := blk_frozen BK464.out 0; have hfz18_1 := blk_frozen BK464.out 1; have hfz18_2 := blk_frozen BK464.out 2))
      go_meet
      case rel => exact ⟨_, (true), (by first | rfl | (simp; done) | (simp [*]; done)), H', ⟨by first | omega | exact Nat.le_refl _⟩, ⟨by (with_reducible repeat (first | refine blk_drewN ?_ _ | refine blk_drew ?_ | refine blk_alloc ?_ _)); exact BK464.out⟩, ⟨by repeat (first | (with_reducible first | exact HB.out | apply below_alloc | apply pw_below_drewN | apply below_drew1 | refine below_set ?_ GE464.out) | exact HB.out)⟩⟩
     ·rw [if_neg c12] at H
      have c12b0 : decide (40 < (l0_0.length : Int)) = false := decide_eq_false c12
      have c12b1 : decide (40 < l0_0.length) = false := decide_eq_false (by omega)
      clear c12
      (first | rw [c12b0] | (simp only [i64_w, i32_w]; rw [c12b0]) | skip)
      by_cases c19 : (l1.length : Int) > 100
      ·rw [if_pos c19] at H
       have c19b0 : decide (100 < (l1.length : Int)) = true := decide_eq_true c19
       have c19b1 : decide (100 < l1.length) = true := decide_eq_true (by omega)
       clear c19
       have H' := Aside0.mk H
       clear H
       go_wp2_with (first | ((with_reducible refine gate_callee (f := 9) rfl ?_); refine goesL_ (some 19) rfl rfl Try.func9 (by kernel_rfl) rfl #[] rfl (by (try simp only [List.map_toArray, List.map_cons, List.map_nil]); first | done | rfl | (simp only [List.length_drop, List.length_take]; rfl)) ?_; (with_reducible refine (anamnesislaw05_fixed.calls k  true _ A6.out).mono ?_); rintro e w20 ⟨rfl, hb⟩; refine ⟨_, rfl, ?_⟩; have n0_ := Aside0.mk (blk_below (g := gb464) (o := .cells #[.slice A0_0 l0_0.length c0_0, .int .i64 a0_1, .int .i64 a0_2] 24 (0, 0)) (by (with_reducible repeat (first | refine blk_drewN ?_ _ | refine blk_drew ?_ | refine blk_alloc ?_ _)); exact BK464.out) hb); have n1_ := Aside0.mk (below_step (by repeat (first | (with_reducible first | exact HB.out | apply below_alloc | apply pw_below_drewN | apply below_drew1 | refine below_set ?_ GE464.out) | exact HB.out)) hb); clear BK464; clear HB; have BK464 := n0_; have HB := n1_; clear n0_ n1_; (try clear hb); (try clear hb2); (try clear hk); (try clear hi); have hcz21_0 : w20.cell? ⟨gb464, 0, none⟩ = some (.slice A0_0 l0_0.length c0_0) := (blk_cell BK464.out 0).trans rfl; have hcz21_1 : w20.cell? ⟨gb464, 1, none⟩ = some (.int .i64 a0_1) := (blk_cell BK464.out 1).trans rfl; have hcz21_2 : w20.cell? ⟨gb464, 2, none⟩ = some (.int .i64 a0_2) := (blk_cell BK464.out 2).trans rfl; have hfz21_0 := blk_frozen BK464.out 0; have hfz21_1 := blk_frozen BK464.out 1; have hfz21_2 := blk_frozen BK464.out 2) | (go_at_call 8; (with_reducible refine (anamnesisref03_Small.calls k _ _ l0_0 a0_1 a0_2 true _ ?side1 ?side2 A8.out).mono ?_); (case side1 => repeat (first | exact (Kd.C_below HR0_0.out HB.out) | (with_reducible refine Kd.C_alloc ?_ _) | (with_reducible refine Kd.C_drewN ?_ _) | (with_reducible refine Kd.C_drew ?_))); (case side2 => exact HC0_0.out); rintro e w22 ⟨rfl, hb⟩; have n0_ := Aside0.mk (blk_below (g := gb464) (o := .cells #[.slice A0_0 l0_0.length c0_0, .int .i64 a0_1, .int .i64 a0_2] 24 (0, 0)) (by (with_reducible repeat (first | refine blk_drewN ?_ _ | refine blk_drew ?_ | refine blk_alloc ?_ _)); exact BK464.out) hb); have n1_ := Aside0.mk (below_step (by repeat (first | (with_reducible first | exact HB.out | apply below_alloc | apply pw_below_drewN | apply below_drew1 | refine below_set ?_ GE464.out) | exact HB.out)) hb); clear BK464; clear HB; have BK464 := n0_; have HB := n1_; clear n0_ n1_; (try clear hb); (try clear hb2); (try clear hk); (try clear hi); have hcz23_0 : w22.cell? ⟨gb464, 0, none⟩ = some (.slice A0_0 l0_0.length c0_0) := (blk_cell BK464.out 0).trans rfl; have hcz23_1 : w22.cell? ⟨gb464, 1, none⟩ = some (.int .i64 a0_1) := (blk_cell BK464.out 1).trans rfl; have hcz23_2 : w22.cell? ⟨gb464, 2, none⟩ = some (.int .i64 a0_2) := (blk_cell BK464.out 2).trans rfl; have hfz23_0 := blk_frozen BK464.out 0; have hfz23_1 := blk_frozen BK464.out 1; have hfz23_2 := blk_frozen BK464.out 2) | (go_at_call 18; (with_reducible refine (anamnesisref03_May.calls k _ _ l0_0 a0_1 a0_2 true _ ?side1 ?side2 A10.out).mono ?_); (case side1 => repeat (first | exact (Kd.C_below HR0_0.out HB.out) | (with_reducible refine Kd.C_alloc ?_ _) | (with_reducible refine Kd.C_drewN ?_ _) | (with_reducible refine Kd.C_drew ?_))); (case side2 => exact HC0_0.out); rintro e w24 ⟨rfl, hb⟩; have n0_ := Aside0.mk (blk_below (g := gb464) (o := .cells #[.slice A0_0 l0_0.length c0_0, .int .i64 a0_1, .int .i64 a0_2] 24 (0, 0)) (by (with_reducible repeat (first | refine blk_drewN ?_ _ | refine blk_drew ?_ | refine blk_alloc ?_ _)); exact BK464.out) hb); have n1_ := Aside0.mk (below_step (by repeat (first | (with_reducible first | exact HB.out | apply below_alloc | apply pw_below_drewN | apply below_drew1 | refine below_set ?_ GE464.out) | exact HB.out)) hb); clear BK464; clear HB; have BK464 := n0_; have HB := n1_; clear n0_ n1_; (try clear hb); (try clear hb2); (try clear hk); (try clear hi); have hcz25_0 : w24.cell? ⟨gb464, 0, none⟩ = some (.slice A0_0 l0_0.length c0_0) := (blk_cell BK464.out 0).trans rfl; have hcz25_1 : w24.cell? ⟨gb464, 1, none⟩ = some (.int .i64 a0_1) := (blk_cell BK464.out 1).trans rfl; have hcz25_2 : w24.cell? ⟨gb464, 2, none⟩ = some (.int .i64 a0_2) := (blk_cell BK464.out 2).trans rfl; have hfz25_0 := blk_frozen BK464.out 0; have hfz25_1 := blk_frozen BK464.out 1; have hfz25_2 := blk_frozen BK464.out 2))
       go_meet
       case rel => exact ⟨_, (true), (by first | rfl | (simp; done) | (simp [*]; done)), H', ⟨by first | omega | exact Nat.le_refl _⟩, ⟨by (with_reducible repeat (first | refine blk_drewN ?_ _ | refine blk_drew ?_ | refine blk_alloc ?_ _)); exact BK464.out⟩, ⟨by repeat (first | (with_reducible first | exact HB.out | apply below_alloc | apply pw_below_drewN | apply below_drew1 | refine below_set ?_ GE464.out) | exact HB.out)⟩⟩
      ·rw [if_neg c19] at H
       have c19b0 : decide (100 < (l1.length : Int)) = false := decide_eq_false c19
       have c19b1 : decide (100 < l1.length) = false := decide_eq_false (by omega)
       clear c19
       have H' := Aside0.mk H
       clear H
       go_wp2_with (first | ((with_reducible refine gate_callee (f := 9) rfl ?_); refine goesL_ (some 19) rfl rfl Try.func9 (by kernel_rfl) rfl #[] rfl (by (try simp only [List.map_toArray, List.map_cons, List.map_nil]); first | done | rfl | (simp only [List.length_drop, List.length_take]; rfl)) ?_; (with_reducible refine (anamnesislaw05_fixed.calls k  true _ A6.out).mono ?_); rintro e w26 ⟨rfl, hb⟩; refine ⟨_, rfl, ?_⟩; have n0_ := Aside0.mk (blk_below (g := gb464) (o := .cells #[.slice A0_0 l0_0.length c0_0, .int .i64 a0_1, .int .i64 a0_2] 24 (0, 0)) (by (with_reducible repeat (first | refine blk_drewN ?_ _ | refine blk_drew ?_ | refine blk_alloc ?_ _)); exact BK464.out) hb); have n1_ := Aside0.mk (below_step (by repeat (first | (with_reducible first | exact HB.out | apply below_alloc | apply pw_below_drewN | apply below_drew1 | refine below_set ?_ GE464.out) | exact HB.out)) hb); clear BK464; clear HB; have BK464 := n0_; have HB := n1_; clear n0_ n1_; (try clear hb); (try clear hb2); (try clear hk); (try clear hi); have hcz27_0 : w26.cell? ⟨gb464, 0, none⟩ = some (.slice A0_0 l0_0.length c0_0) := (blk_cell BK464.out 0).trans rfl; have hcz27_1 : w26.cell? ⟨gb464, 1, none⟩ = some (.int .i64 a0_1) := (blk_cell BK464.out 1).trans rfl; have hcz27_2 : w26.cell? ⟨gb464, 2, none⟩ = some (.int .i64 a0_2) := (blk_cell BK464.out 2).trans rfl; have hfz27_0 := blk_frozen BK464.out 0; have hfz27_1 := blk_frozen BK464.out 1; have hfz27_2 := blk_frozen BK464.out 2) | (go_at_call 8; (with_reducible refine (anamnesisref03_Small.calls k _ _ l0_0 a0_1 a0_2 true _ ?side1 ?side2 A8.out).mono ?_); (case side1 => repeat (first | exact (Kd.C_below HR0_0.out HB.out) | (with_reducible refine Kd.C_alloc ?_ _) | (with_reducible refine Kd.C_drewN ?_ _) | (with_reducible refine Kd.C_drew ?_))); (case side2 => exact HC0_0.out); rintro e w28 ⟨rfl, hb⟩; have n0_ := Aside0.mk (blk_below (g := gb464) (o := .cells #[.slice A0_0 l0_0.length c0_0, .int .i64 a0_1, .int .i64 a0_2] 24 (0, 0)) (by (with_reducible repeat (first | refine blk_drewN ?_ _ | refine blk_drew ?_ | refine blk_alloc ?_ _)); exact BK464.out) hb); have n1_ := Aside0.mk (below_step (by repeat (first | (with_reducible first | exact HB.out | apply below_alloc | apply pw_below_drewN | apply below_drew1 | refine below_set ?_ GE464.out) | exact HB.out)) hb); clear BK464; clear HB; have BK464 := n0_; have HB := n1_; clear n0_ n1_; (try clear hb); (try clear hb2); (try clear hk); (try clear hi); have hcz29_0 : w28.cell? ⟨gb464, 0, none⟩ = some (.slice A0_0 l0_0.length c0_0) := (blk_cell BK464.out 0).trans rfl; have hcz29_1 : w28.cell? ⟨gb464, 1, none⟩ = some (.int .i64 a0_1) := (blk_cell BK464.out 1).trans rfl; have hcz29_2 : w28.cell? ⟨gb464, 2, none⟩ = some (.int .i64 a0_2) := (blk_cell BK464.out 2).trans rfl; have hfz29_0 := blk_frozen BK464.out 0; have hfz29_1 := blk_frozen BK464.out 1; have hfz29_2 := blk_frozen BK464.out 2) | (go_at_call 18; (with_reducible refine (anamnesisref03_May.calls k _ _ l0_0 a0_1 a0_2 true _ ?side1 ?side2 A10.out).mono ?_); (case side1 => repeat (first | exact (Kd.C_below HR0_0.out HB.out) | (with_reducible refine Kd.C_alloc ?_ _) | (with_reducible refine Kd.C_drewN ?_ _) | (with_reducible refine Kd.C_drew ?_))); (case side2 => exact HC0_0.out); rintro e w30 ⟨rfl, hb⟩; have n0_ := Aside0.mk (blk_below (g := gb464) (o := .cells #[.slice A0_0 l0_0.length c0_0, .int .i64 a0_1, .int .i64 a0_2] 24 (0, 0)) (by (with_reducible repeat (first | refine blk_drewN ?_ _ | refine blk_drew ?_ | refine blk_alloc ?_ _)); exact BK464.out) hb); have n1_ := Aside0.mk (below_step (by repeat (first | (with_reducible first | exact HB.out | apply below_alloc | apply pw_below_drewN | apply below_drew1 | refine below_set ?_ GE464.out) | exact HB.out)) hb); clear BK464; clear HB; have BK464 := n0_; have HB := n1_; clear n0_ n1_; (try clear hb); (try clear hb2); (try clear hk); (try clear hi); have hcz31_0 : w30.cell? ⟨gb464, 0, none⟩ = some (.slice A0_0 l0_0.length c0_0) := (blk_cell BK464.out 0).trans rfl; have hcz31_1 : w30.cell? ⟨gb464, 1, none⟩ = some (.int .i64 a0_1) := (blk_cell BK464.out 1).trans rfl; have hcz31_2 : w30.cell? ⟨gb464, 2, none⟩ = some (.int .i64 a0_2) := (blk_cell BK464.out 2).trans rfl; have hfz31_0 := blk_frozen BK464.out 0; have hfz31_1 := blk_frozen BK464.out 1; have hfz31_2 := blk_frozen BK464.out 2))
       go_meet
       case rel => exact ⟨_, (decide ((l2.length : Int) > 50)), (by first | rfl | (simp; done) | (simp [*]; done)), H', ⟨by first | omega | exact Nat.le_refl _⟩, ⟨by (with_reducible repeat (first | refine blk_drewN ?_ _ | refine blk_drew ?_ | refine blk_alloc ?_ _)); exact BK464.out⟩, ⟨by repeat (first | (with_reducible first | exact HB.out | apply below_alloc | apply pw_below_drewN | apply below_drew1 | refine below_set ?_ GE464.out) | exact HB.out)⟩⟩
    ·replace c11 := Bool.eq_false_iff.mpr c11
     subst c11
     have H1 : (anamnesislaw05_MoveWays.j0 k l1 l2 true l0_0 a0_1 a0_2) = some r := by rw [if_neg (show ¬ (false = true) by decide)] at H; exact H
     clear H
     have H := H1
     clear H1
     have H' := Aside0.mk H
     clear H
     go_wp2_with (first | ((with_reducible refine gate_callee (f := 9) rfl ?_); refine goesL_ (some 19) rfl rfl Try.func9 (by kernel_rfl) rfl #[] rfl (by (try simp only [List.map_toArray, List.map_cons, List.map_nil]); first | done | rfl | (simp only [List.length_drop, List.length_take]; rfl)) ?_; (with_reducible refine (anamnesislaw05_fixed.calls k  true _ A6.out).mono ?_); rintro e w32 ⟨rfl, hb⟩; refine ⟨_, rfl, ?_⟩; have n0_ := Aside0.mk (blk_below (g := gb464) (o := .cells #[.slice A0_0 l0_0.length c0_0, .int .i64 a0_1, .int .i64 a0_2] 24 (0, 0)) (by (with_reducible repeat (first | refine blk_drewN ?_ _ | refine blk_drew ?_ | refine blk_alloc ?_ _)); exact BK464.out) hb); have n1_ := Aside0.mk (below_step (by repeat (first | (with_reducible first | exact HB.out | apply below_alloc | apply pw_below_drewN | apply below_drew1 | refine below_set ?_ GE464.out) | exact HB.out)) hb); clear BK464; clear HB; have BK464 := n0_; have HB := n1_; clear n0_ n1_; (try clear hb); (try clear hb2); (try clear hk); (try clear hi); have hcz33_0 : w32.cell? ⟨gb464, 0, none⟩ = some (.slice A0_0 l0_0.length c0_0) := (blk_cell BK464.out 0).trans rfl; have hcz33_1 : w32.cell? ⟨gb464, 1, none⟩ = some (.int .i64 a0_1) := (blk_cell BK464.out 1).trans rfl; have hcz33_2 : w32.cell? ⟨gb464, 2, none⟩ = some (.int .i64 a0_2) := (blk_cell BK464.out 2).trans rfl; have hfz33_0 := blk_frozen BK464.out 0; have hfz33_1 := blk_frozen BK464.out 1; have hfz33_2 := blk_frozen BK464.out 2) | (go_at_call 8; (with_reducible refine (anamnesisref03_Small.calls k _ _ l0_0 a0_1 a0_2 true _ ?side1 ?side2 A8.out).mono ?_); (case side1 => repeat (first | exact (Kd.C_below HR0_0.out HB.out) | (with_reducible refine Kd.C_alloc ?_ _) | (with_reducible refine Kd.C_drewN ?_ _) | (with_reducible refine Kd.C_drew ?_))); (case side2 => exact HC0_0.out); rintro e w34 ⟨rfl, hb⟩; have n0_ := Aside0.mk (blk_below (g := gb464) (o := .cells #[.slice A0_0 l0_0.length c0_0, .int .i64 a0_1, .int .i64 a0_2] 24 (0, 0)) (by (with_reducible repeat (first | refine blk_drewN ?_ _ | refine blk_drew ?_ | refine blk_alloc ?_ _)); exact BK464.out) hb); have n1_ := Aside0.mk (below_step (by repeat (first | (with_reducible first | exact HB.out | apply below_alloc | apply pw_below_drewN | apply below_drew1 | refine below_set ?_ GE464.out) | exact HB.out)) hb); clear BK464; clear HB; have BK464 := n0_; have HB := n1_; clear n0_ n1_; (try clear hb); (try clear hb2); (try clear hk); (try clear hi); have hcz35_0 : w34.cell? ⟨gb464, 0, none⟩ = some (.slice A0_0 l0_0.length c0_0) := (blk_cell BK464.out 0).trans rfl; have hcz35_1 : w34.cell? ⟨gb464, 1, none⟩ = some (.int .i64 a0_1) := (blk_cell BK464.out 1).trans rfl; have hcz35_2 : w34.cell? ⟨gb464, 2, none⟩ = some (.int .i64 a0_2) := (blk_cell BK464.out 2).trans rfl; have hfz35_0 := blk_frozen BK464.out 0; have hfz35_1 := blk_frozen BK464.out 1; have hfz35_2 := blk_frozen BK464.out 2) | (go_at_call 18; (with_reducible refine (anamnesisref03_May.calls k _ _ l0_0 a0_1 a0_2 false _ ?side1 ?side2 A10.out).mono ?_); (case side1 => repeat (first | exact (Kd.C_below HR0_0.out HB.out) | (with_reducible refine Kd.C_alloc ?_ _) | (with_reducible refine Kd.C_drewN ?_ _) | (with_reducible refine Kd.C_drew ?_))); (case side2 => exact HC0_0.out); rintro e w36 ⟨rfl, hb⟩; have n0_ := Aside0.mk (blk_below (g := gb464) (o := .cells #[.slice A0_0 l0_0.length c0_0, .int .i64 a0_1, .int .i64 a0_2] 24 (0, 0)) (by (with_reducible repeat (first | refine blk_drewN ?_ _ | refine blk_drew ?_ | refine blk_alloc ?_ _)); exact BK464.out) hb); have n1_ := Aside0.mk (below_step (by repeat (first | (with_reducible first | exact HB.out | apply below_alloc | apply pw_below_drewN | apply below_drew1 | refine below_set ?_ GE464.out) | exact HB.out)) hb); clear BK464; clear HB; have BK464 := n0_; have HB := n1_; clear n0_ n1_; (try clear hb); (try clear hb2); (try clear hk); (try clear hi)))
     go_meet
     case rel => exact ⟨_, (true), (by first | rfl | (simp; done) | (simp [*]; done)), H', ⟨by first | omega | exact Nat.le_refl _⟩, ⟨by (with_reducible repeat (first | refine blk_drewN ?_ _ | refine blk_drew ?_ | refine blk_alloc ?_ _)); exact BK464.out⟩, ⟨by repeat (first | (with_reducible first | exact HB.out | apply below_alloc | apply pw_below_drewN | apply below_drew1 | refine below_set ?_ GE464.out) | exact HB.out)⟩⟩
   ·replace c9 := Bool.eq_false_iff.mpr c9
    subst c9
    have H1 : (anamnesislaw05_MoveWays.j0 k l1 l2 true l0_0 a0_1 a0_2) = some r := by rw [if_neg (show ¬ (false = true) by decide)] at H; exact H
    clear H
    have H := H1
    clear H1
    have H' := Aside0.mk H
    clear H
    go_wp2_with (first | ((with_reducible refine gate_callee (f := 9) rfl ?_); refine goesL_ (some 19) rfl rfl Try.func9 (by kernel_rfl) rfl #[] rfl (by (try simp only [List.map_toArray, List.map_cons, List.map_nil]); first | done | rfl | (simp only [List.length_drop, List.length_take]; rfl)) ?_; (with_reducible refine (anamnesislaw05_fixed.calls k  true _ A6.out).mono ?_); rintro e w37 ⟨rfl, hb⟩; refine ⟨_, rfl, ?_⟩; have n0_ := Aside0.mk (blk_below (g := gb464) (o := .cells #[.slice A0_0 l0_0.length c0_0, .int .i64 a0_1, .int .i64 a0_2] 24 (0, 0)) (by (with_reducible repeat (first | refine blk_drewN ?_ _ | refine blk_drew ?_ | refine blk_alloc ?_ _)); exact BK464.out) hb); have n1_ := Aside0.mk (below_step (by repeat (first | (with_reducible first | exact HB.out | apply below_alloc | apply pw_below_drewN | apply below_drew1 | refine below_set ?_ GE464.out) | exact HB.out)) hb); clear BK464; clear HB; have BK464 := n0_; have HB := n1_; clear n0_ n1_; (try clear hb); (try clear hb2); (try clear hk); (try clear hi); have hcz38_0 : w37.cell? ⟨gb464, 0, none⟩ = some (.slice A0_0 l0_0.length c0_0) := (blk_cell BK464.out 0).trans rfl; have hcz38_1 : w37.cell? ⟨gb464, 1, none⟩ = some (.int .i64 a0_1) := (blk_cell BK464.out 1).trans rfl; have hcz38_2 : w37.cell? ⟨gb464, 2, none⟩ = some (.int .i64 a0_2) := (blk_cell BK464.out 2).trans rfl; have hfz38_0 := blk_frozen BK464.out 0; have hfz38_1 := blk_frozen BK464.out 1; have hfz38_2 := blk_frozen BK464.out 2) | (go_at_call 8; (with_reducible refine (anamnesisref03_Small.calls k _ _ l0_0 a0_1 a0_2 false _ ?side1 ?side2 A8.out).mono ?_); (case side1 => repeat (first | exact (Kd.C_below HR0_0.out HB.out) | (with_reducible refine Kd.C_alloc ?_ _) | (with_reducible refine Kd.C_drewN ?_ _) | (with_reducible refine Kd.C_drew ?_))); (case side2 => exact HC0_0.out); rintro e w39 ⟨rfl, hb⟩; have n0_ := Aside0.mk (blk_below (g := gb464) (o := .cells #[.slice A0_0 l0_0.length c0_0, .int .i64 a0_1, .int .i64 a0_2] 24 (0, 0)) (by (with_reducible repeat (first | refine blk_drewN ?_ _ | refine blk_drew ?_ | refine blk_alloc ?_ _)); exact BK464.out) hb); have n1_ := Aside0.mk (below_step (by repeat (first | (with_reducible first | exact HB.out | apply below_alloc | apply pw_below_drewN | apply below_drew1 | refine below_set ?_ GE464.out) | exact HB.out)) hb); clear BK464; clear HB; have BK464 := n0_; have HB := n1_; clear n0_ n1_; (try clear hb); (try clear hb2); (try clear hk); (try clear hi)))
    go_meet
    case rel => exact ⟨_, (true), (by first | rfl | (simp; done) | (simp [*]; done)), H', ⟨by first | omega | exact Nat.le_refl _⟩, ⟨by (with_reducible repeat (first | refine blk_drewN ?_ _ | refine blk_drew ?_ | refine blk_alloc ?_ _)); exact BK464.out⟩, ⟨by repeat (first | (with_reducible first | exact HB.out | apply below_alloc | apply pw_below_drewN | apply below_drew1 | refine below_set ?_ GE464.out) | exact HB.out)⟩⟩
  ·replace c7 := Bool.eq_false_iff.mpr c7
   subst c7
   have H1 : (anamnesislaw05_MoveWays.j0 k l1 l2 true l0_0 a0_1 a0_2) = some r := by rw [if_neg (show ¬ (false = true) by decide)] at H; exact H
   clear H
   have H := H1
   clear H1
   have H' := Aside0.mk H
   clear H
   go_wp2_with (first | ((with_reducible refine gate_callee (f := 9) rfl ?_); refine goesL_ (some 19) rfl rfl Try.func9 (by kernel_rfl) rfl #[] rfl (by (try simp only [List.map_toArray, List.map_cons, List.map_nil]); first | done | rfl | (simp only [List.length_drop, List.length_take]; rfl)) ?_; (with_reducible refine (anamnesislaw05_fixed.calls k  false _ A6.out).mono ?_); rintro e w40 ⟨rfl, hb⟩; refine ⟨_, rfl, ?_⟩; have n0_ := Aside0.mk (blk_below (g := gb464) (o := .cells #[.slice A0_0 l0_0.length c0_0, .int .i64 a0_1, .int .i64 a0_2] 24 (0, 0)) (by (with_reducible repeat (first | refine blk_drewN ?_ _ | refine blk_drew ?_ | refine blk_alloc ?_ _)); exact BK464.out) hb); have n1_ := Aside0.mk (below_step (by repeat (first | (with_reducible first | exact HB.out | apply below_alloc | apply pw_below_drewN | apply below_drew1 | refine below_set ?_ GE464.out) | exact HB.out)) hb); clear BK464; clear HB; have BK464 := n0_; have HB := n1_; clear n0_ n1_; (try clear hb); (try clear hb2); (try clear hk); (try clear hi)))
   go_meet
   case rel => exact ⟨_, (true), (by first | rfl | (simp; done) | (simp [*]; done)), H', ⟨by first | omega | exact Nat.le_refl _⟩, ⟨by (with_reducible repeat (first | refine blk_drewN ?_ _ | refine blk_drew ?_ | refine blk_alloc ?_ _)); exact BK464.out⟩, ⟨by repeat (first | (with_reducible first | exact HB.out | apply below_alloc | apply pw_below_drewN | apply below_drew1 | refine below_set ?_ GE464.out) | exact HB.out)⟩⟩
 case rest =>
  clear HC4
  try clear c1
  try clear c2
  try clear p2
  try clear c5
  try clear c7
  try clear c9
  try clear c11
  try clear c12
  try clear c12b0
  try clear c12b1
  try clear c19
  try clear c19b0
  try clear c19b1
  try clear hcz14_0
  try clear hcz14_1
  try clear hcz14_2
  try clear hcz16_0
  try clear hcz16_1
  try clear hcz16_2
  try clear hcz18_0
  try clear hcz18_1
  try clear hcz18_2
  try clear hcz21_0
  try clear hcz21_1
  try clear hcz21_2
  try clear hcz23_0
  try clear hcz23_1
  try clear hcz23_2
  try clear hcz25_0
  try clear hcz25_1
  try clear hcz25_2
  try clear hcz27_0
  try clear hcz27_1
  try clear hcz27_2
  try clear hcz29_0
  try clear hcz29_1
  try clear hcz29_2
  try clear hcz31_0
  try clear hcz31_1
  try clear hcz31_2
  try clear hcz33_0
  try clear hcz33_1
  try clear hcz33_2
  try clear hcz35_0
  try clear hcz35_1
  try clear hcz35_2
  try clear hcz38_0
  try clear hcz38_1
  try clear hcz38_2
  try clear hfz14_0
  try clear hfz14_1
  try clear hfz14_2
  try clear hfz16_0
  try clear hfz16_1
  try clear hfz16_2
  try clear hfz18_0
  try clear hfz18_1
  try clear hfz18_2
  try clear hfz21_0
  try clear hfz21_1
  try clear hfz21_2
  try clear hfz23_0
  try clear hfz23_1
  try clear hfz23_2
  try clear hfz25_0
  try clear hfz25_1
  try clear hfz25_2
  try clear hfz27_0
  try clear hfz27_1
  try clear hfz27_2
  try clear hfz29_0
  try clear hfz29_1
  try clear hfz29_2
  try clear hfz31_0
  try clear hfz31_1
  try clear hfz31_2
  try clear hfz33_0
  try clear hfz33_1
  try clear hfz33_2
  try clear hfz35_0
  try clear hfz35_1
  try clear hfz35_2
  try clear hfz38_0
  try clear hfz38_1
  try clear hfz38_2
  obtain ⟨kq, x46_3, rfl, HA, HJ3, BK464, HB⟩ := hcut
  cases kq with
  | zero => exact absurd HA.out (by simp [anamnesislaw05_MoveWays.j0])
  | succ kj3 =>
   have H := HA.out
   clear HA
   simp only [anamnesislaw05_MoveWays.j0] at H
   by_cases c41 : x46_3 = true
   ·subst c41
    have H1 : ((anamnesislaw05_fixed.f kj3).bind fun t468 => (some t468)) = some r := by rw [if_pos rfl] at H; exact H
    clear H
    have H := H1
    clear H1
    replace H := Option.bind_eq_some_iff.mp H
    obtain ⟨t468, A420, H⟩ := H
    replace H : (some t468) = some r := H
    have A42 := Aside0.mk A420
    clear A420
    obtain rfl := Option.some.inj H
    go_wp2_with (first | ((with_reducible refine gate_callee (f := 9) rfl ?_); refine goesL_ (some 47) rfl rfl Try.func9 (by kernel_rfl) rfl #[] rfl (by (try simp only [List.map_toArray, List.map_cons, List.map_nil]); first | done | rfl | (simp only [List.length_drop, List.length_take]; rfl)) ?_; (with_reducible refine (anamnesislaw05_fixed.calls kj3  t468 _ A42.out).mono ?_); rintro e w43 ⟨rfl, hb⟩; refine ⟨_, rfl, ?_⟩; have n0_ := Aside0.mk (blk_below (g := gb464) (o := .cells #[.slice A0_0 l0_0.length c0_0, .int .i64 a0_1, .int .i64 a0_2] 24 (0, 0)) (by (with_reducible repeat (first | refine blk_drewN ?_ _ | refine blk_drew ?_ | refine blk_alloc ?_ _)); exact BK464.out) hb); have n1_ := Aside0.mk (below_step (by repeat (first | (with_reducible first | exact HB.out | apply below_alloc | apply pw_below_drewN | apply below_drew1 | refine below_set ?_ GE464.out) | exact HB.out)) hb); clear BK464; clear HB; have BK464 := n0_; have HB := n1_; clear n0_ n1_; (try clear hb); (try clear hb2); (try clear hk); (try clear hi)))
    go_ret
    exact ⟨by first | rfl | (simp [errW_none, errW_some] <;> rfl) | (simp [*, errW_none, errW_some] <;> rfl), by repeat (first | (with_reducible first | exact HB.out | apply below_alloc | apply pw_below_drewN | apply below_drew1 | refine below_set ?_ GE464.out) | exact HB.out)⟩
   ·replace c41 := Bool.eq_false_iff.mpr c41
    subst c41
    have H1 : ((move_Compact.f kj3 l0_0 a0_1 a0_2 l1).bind fun bt469 => (if bt469.2.2.2.2 = 0 then (anamnesislaw05_MoveWays.l0 kj3 l1 l2 bt469.2.2.2.1 0 l0_0 a0_1 a0_2 bt469.1 bt469.2.1 bt469.2.2.1) else (some true))) = some r := by rw [if_neg (show ¬ (false = true) by decide)] at H; exact H
    clear H
    have H := H1
    clear H1
    replace H := Option.bind_eq_some_iff.mp H
    obtain ⟨⟨t469, t472, t473, t474, t477⟩, A440, H⟩ := H
    replace H : (if t477 = 0 then (anamnesislaw05_MoveWays.l0 kj3 l1 l2 t474 0 l0_0 a0_1 a0_2 t469 t472 t473) else (some true)) = some r := H
    have A44 := Aside0.mk A440
    clear A440
    by_cases c45 : t477 = 0
    ·rw [if_pos c45] at H
     have c45b0 : (t477 == 0) = true := beq_iff_eq.mpr c45
     have c45b1 : (t477 != 0) = false := bne_eq_false_iff_eq.mpr c45
     clear c45
     have H' := Aside0.mk H
     clear H
     have hcz46_0 : wc.cell? ⟨gb464, 0, none⟩ = some (.slice A0_0 l0_0.length c0_0) := (blk_cell BK464.out 0).trans rfl
     have hcz46_1 : wc.cell? ⟨gb464, 1, none⟩ = some (.int .i64 a0_1) := (blk_cell BK464.out 1).trans rfl
     have hcz46_2 : wc.cell? ⟨gb464, 2, none⟩ = some (.int .i64 a0_2) := (blk_cell BK464.out 2).trans rfl
     have hfz46_0 := blk_frozen BK464.out 0
     have hfz46_1 := blk_frozen BK464.out 1
     have hfz46_2 := blk_frozen BK464.out 2
     go_wp2_with (first | ((with_reducible refine gate_callee (f := 12) rfl ?_); refine goesL_ (some 51) rfl rfl Try.func12 (by kernel_rfl) rfl #[.agg #[.slice A0_0 l0_0.length c0_0, .int .i64 a0_1, .int .i64 a0_2], .slice A1 l1.length c1] rfl (by (try simp only [List.map_toArray, List.map_cons, List.map_nil]); first | done | rfl | (simp only [List.length_drop, List.length_take]; rfl)) ?_; (with_reducible refine (move_Compact.calls kj3 _ _ l0_0 a0_1 a0_2 _ _ l1 t469 t472 t473 t474 t477 _ ?side1 ?side2 ?side3 ?side4 A44.out).mono ?_); (case side1 => repeat (first | exact (Kd.C_below HR0_0.out HB.out) | (with_reducible refine Kd.C_alloc ?_ _) | (with_reducible refine Kd.C_drewN ?_ _) | (with_reducible refine Kd.C_drew ?_))); (case side2 => exact HC0_0.out); (case side3 => repeat (first | exact (Kd.C_below HR1.out HB.out) | (with_reducible refine Kd.C_alloc ?_ _) | (with_reducible refine Kd.C_drewN ?_ _) | (with_reducible refine Kd.C_drew ?_))); (case side4 => exact HC1.out); rintro e w47 ⟨v470, v475, rfl, ho0, ho1, hb⟩; refine ⟨_, rfl, ?_⟩; have n0_ := Aside0.mk (Kd.S_lower ho0 (below_size (by repeat (first | (with_reducible first | exact HB.out | apply below_alloc | apply pw_below_drewN | apply below_drew1 | refine below_set ?_ GE464.out) | exact HB.out)))); have n1_ := Aside0.mk (Kd.R_lower ho1 (below_size (by repeat (first | (with_reducible first | exact HB.out | apply below_alloc | apply pw_below_drewN | apply below_drew1 | refine below_set ?_ GE464.out) | exact HB.out)))); have n2_ := Aside0.mk (blk_below (g := gb464) (o := .cells #[.slice A0_0 l0_0.length c0_0, .int .i64 a0_1, .int .i64 a0_2] 24 (0, 0)) (by (with_reducible repeat (first | refine blk_drewN ?_ _ | refine blk_drew ?_ | refine blk_alloc ?_ _)); exact BK464.out) hb); have n3_ := Aside0.mk (below_step (by repeat (first | (with_reducible first | exact HB.out | apply below_alloc | apply pw_below_drewN | apply below_drew1 | refine below_set ?_ GE464.out) | exact HB.out)) hb); clear BK464; clear HB; have HO471 := n0_; have HO476 := n1_; have BK464 := n2_; have HB := n3_; clear n0_ n1_ n2_ n3_; (try clear hb); (try clear hb2); (try clear hk); (try clear hi); (try clear ho0); (try clear ho1)) | ((with_reducible refine gate_dst (N := 7) rfl ?_); (try (refine gate_guard (by rfl) ?_; dsimp only)); refine box_event ?hg (N := 7) ?hd (cs := #[.slice none 0 0, .int .i64 0, .int .i64 0]) (t := 24) ?hr ?_; (case hd => rfl); (case hg => rfl); (case hr => first | (go_simp; done) | (go_simp; rfl)); intro gb478 hg w48 hbox hb; have n0_ := Aside0.mk (Kd.S_below (by (with_reducible repeat (first | apply Kd.S_alloc | apply Kd.S_drewN | apply Kd.S_drew)); exact HO471.out) hb); have n1_ := Aside0.mk (Kd.R_below (by (with_reducible repeat (first | apply Kd.R_alloc | apply Kd.R_drewN | apply Kd.R_drew)); exact HO476.out) hb); have n2_ := Aside0.mk (blk_below (g := gb464) (o := .cells #[.slice A0_0 l0_0.length c0_0, .int .i64 a0_1, .int .i64 a0_2] 24 (0, 0)) (by (with_reducible repeat (first | refine blk_drewN ?_ _ | refine blk_drew ?_ | refine blk_alloc ?_ _)); exact BK464.out) hb); have n3_ := Aside0.mk (below_step (by repeat (first | (with_reducible first | exact HB.out | apply below_alloc | apply pw_below_drewN | apply below_drew1 | refine below_set ?_ GE464.out) | exact HB.out)) hb); have n4_ := Aside0.mk (hbox); have n5_ := Aside0.mk ((by rw [hg]; exact (below_size (by repeat (first | (with_reducible first | exact HB.out | apply below_alloc | apply pw_below_drewN | apply below_drew1 | refine below_set ?_ GE464.out) | exact HB.out))) : w.heap.size ≤ gb478)); have n6_ := Aside0.mk ((by rw [hg]; exact (below_size (by repeat (first | (with_reducible first | exact HB.out | apply below_alloc | apply pw_below_drewN | apply below_drew1 | refine below_set ?_ GE464.out) | exact HB.out))) : w.heap.size ≤ gb478)); have n7_ := Aside0.mk ((by rw [hg]; exact Nat.ne_of_lt (blk_lt (g := gb464) (o := .cells #[.slice A0_0 l0_0.length c0_0, .int .i64 a0_1, .int .i64 a0_2] 24 (0, 0)) (by (with_reducible repeat (first | refine blk_drewN ?_ _ | refine blk_drew ?_ | refine blk_alloc ?_ _)); exact BK464.out)) : gb464 ≠ gb478)); have n8_ := Aside0.mk ((by rw [hg]; exact Nat.ne_of_gt (blk_lt (g := gb464) (o := .cells #[.slice A0_0 l0_0.length c0_0, .int .i64 a0_1, .int .i64 a0_2] 24 (0, 0)) (by (with_reducible repeat (first | refine blk_drewN ?_ _ | refine blk_drew ?_ | refine blk_alloc ?_ _)); exact BK464.out)) : gb478 ≠ gb464)); clear HO471; clear HO476; clear BK464; clear HB; have HO471 := n0_; have HO476 := n1_; have BK464 := n2_; have HB := n3_; have BK478 := n4_; have GW478 := n5_; have GE478 := n6_; have NB464_478 := n7_; have NB478_464 := n8_; clear n0_ n1_ n2_ n3_ n4_ n5_ n6_ n7_ n8_; clear hb hbox hg; obtain ⟨Ao49, co49, eo49⟩ := Kd.S_slice HO471.out; subst eo49; have hnb50 := NB478_464.out; have hnc50 := NB464_478.out; have hcz51_0 : w48.cell? ⟨gb478, 0, none⟩ = some (.slice none 0 0) := (blk_cell BK478.out 0).trans rfl; have hcz51_1 : w48.cell? ⟨gb478, 1, none⟩ = some (.int .i64 0) := (blk_cell BK478.out 1).trans rfl; have hcz51_2 : w48.cell? ⟨gb478, 2, none⟩ = some (.int .i64 0) := (blk_cell BK478.out 2).trans rfl; have hfz51_0 := blk_frozen BK478.out 0; have hfz51_1 := blk_frozen BK478.out 1; have hfz51_2 := blk_frozen BK478.out 2))
     go_loopg [10] kj3 (fun kq v10 w' => ∃ (x10_2 : Int), v10 = .int .i64 x10_2 ∧ Aside0 (anamnesislaw05_MoveWays.l0 kq l1 l2 t474 x10_2 l0_0 a0_1 a0_2 t469 t472 t473 = some r) ∧ Aside0 (kq ≤ kj3) ∧ Aside0 (Kd.R (Kd.int .i64) 3 w' w.heap.size (fun _ => True) v475 t474) ∧ Aside0 (Kd.S k44 44 w' w.heap.size (fun k_ => some k_ ≠ (v475 : Value).ownBlock) (.slice Ao49 t469.length co49) t469) ∧ Aside0 (w'.heap[gb464]? = some (.cells #[(.slice A0_0 l0_0.length c0_0), .int .i64 a0_1, .int .i64 a0_2] 24 (0, 0))) ∧ Aside0 (w'.heap[gb478]? = some (.cells #[(.slice Ao49 t469.length co49), .int .i64 t472, .int .i64 t473] 24 (0, 0))) ∧ Aside0 (Below w.heap.size w w'))
     case atStart => exact ⟨(0), (by first | rfl | (simp; done) | (simp [*]; done)), H', ⟨Nat.le_refl _⟩, ⟨by (with_reducible repeat (first | apply Kd.R_alloc | apply Kd.R_drewN | apply Kd.R_drew)); exact Kd.R_mono (Kd.R_far (p := ⟨gb478, 2, none⟩) (Kd.R_far (p := ⟨gb478, 1, none⟩) (Kd.R_far (p := ⟨gb478, 0, none⟩) (Kd.R_types HO476.out BK478.out (by decide)) (fun _ hk => hk.2) (.slice Ao49 t469.length co49)) (fun _ hk => hk.2) (.int .i64 t472)) (fun _ hk => hk.2) (.int .i64 t473)) (fun _ hk => trivial)⟩, ⟨by (with_reducible repeat (first | apply Kd.S_alloc | apply Kd.S_drewN | apply Kd.S_drew)); exact Kd.S_mono (Kd.S_far (p := ⟨gb478, 2, none⟩) (Kd.S_far (p := ⟨gb478, 1, none⟩) (Kd.S_far (p := ⟨gb478, 0, none⟩) (Kd.S_types HO471.out BK478.out (by decide)) (fun _ hk => hk.2) (.slice Ao49 t469.length co49)) (fun _ hk => hk.2) (.int .i64 t472)) (fun _ hk => hk.2) (.int .i64 t473)) (fun _ hk => hk.1)⟩, ⟨by (with_reducible repeat (first | refine blk_drewN ?_ _ | refine blk_drew ?_ | refine blk_alloc ?_ _)); refine blk_far ?_ NB464_478.out _; (with_reducible repeat (first | refine blk_drewN ?_ _ | refine blk_drew ?_ | refine blk_alloc ?_ _)); refine blk_far ?_ NB464_478.out _; (with_reducible repeat (first | refine blk_drewN ?_ _ | refine blk_drew ?_ | refine blk_alloc ?_ _)); refine blk_far ?_ NB464_478.out _; (with_reducible repeat (first | refine blk_drewN ?_ _ | refine blk_drew ?_ | refine blk_alloc ?_ _)); exact BK464.out⟩, ⟨by (with_reducible repeat (first | refine blk_drewN ?_ _ | refine blk_drew ?_ | refine blk_alloc ?_ _)); refine blk_put (cs := #[.slice Ao49 t469.length co49, .int .i64 t472, .int .i64 0]) ?_ 2 _ rfl; (with_reducible repeat (first | refine blk_drewN ?_ _ | refine blk_drew ?_ | refine blk_alloc ?_ _)); refine blk_put (cs := #[.slice Ao49 t469.length co49, .int .i64 0, .int .i64 0]) ?_ 1 _ rfl; (with_reducible repeat (first | refine blk_drewN ?_ _ | refine blk_drew ?_ | refine blk_alloc ?_ _)); refine blk_put (cs := #[.slice none 0 0, .int .i64 0, .int .i64 0]) ?_ 0 _ rfl; (with_reducible repeat (first | refine blk_drewN ?_ _ | refine blk_drew ?_ | refine blk_alloc ?_ _)); exact BK478.out⟩, ⟨by repeat (first | (with_reducible first | exact HB.out | apply below_alloc | apply pw_below_drewN | apply below_drew1 | refine below_set ?_ GE464.out | refine below_set ?_ GE478.out) | exact HB.out)⟩⟩
     case round =>
      clear H'
      try clear c1
      try clear c2
      try clear p2
      try clear c4
      try clear c5
      try clear c7
      try clear c9
      try clear c11
      try clear c12
      try clear c12b0
      try clear c12b1
      try clear c19
      try clear c19b0
      try clear c19b1
      try clear c41
      try clear c45
      try clear c45b0
      try clear c45b1
      try clear c50
      try clear hcz14_0
      try clear hcz14_1
      try clear hcz14_2
      try clear hcz16_0
      try clear hcz16_1
      try clear hcz16_2
      try clear hcz18_0
      try clear hcz18_1
      try clear hcz18_2
      try clear hcz21_0
      try clear hcz21_1
      try clear hcz21_2
      try clear hcz23_0
      try clear hcz23_1
      try clear hcz23_2
      try clear hcz25_0
      try clear hcz25_1
      try clear hcz25_2
      try clear hcz27_0
      try clear hcz27_1
      try clear hcz27_2
      try clear hcz29_0
      try clear hcz29_1
      try clear hcz29_2
      try clear hcz31_0
      try clear hcz31_1
      try clear hcz31_2
      try clear hcz33_0
      try clear hcz33_1
      try clear hcz33_2
      try clear hcz35_0
      try clear hcz35_1
      try clear hcz35_2
      try clear hcz38_0
      try clear hcz38_1
      try clear hcz38_2
      try clear hcz46_0
      try clear hcz46_1
      try clear hcz46_2
      try clear hcz51_0
      try clear hcz51_1
      try clear hcz51_2
      try clear hfz14_0
      try clear hfz14_1
      try clear hfz14_2
      try clear hfz16_0
      try clear hfz16_1
      try clear hfz16_2
      try clear hfz18_0
      try clear hfz18_1
      try clear hfz18_2
      try clear hfz21_0
      try clear hfz21_1
      try clear hfz21_2
      try clear hfz23_0
      try clear hfz23_1
      try clear hfz23_2
      try clear hfz25_0
      try clear hfz25_1
      try clear hfz25_2
      try clear hfz27_0
      try clear hfz27_1
      try clear hfz27_2
      try clear hfz29_0
      try clear hfz29_1
      try clear hfz29_2
      try clear hfz31_0
      try clear hfz31_1
      try clear hfz31_2
      try clear hfz33_0
      try clear hfz33_1
      try clear hfz33_2
      try clear hfz35_0
      try clear hfz35_1
      try clear hfz35_2
      try clear hfz38_0
      try clear hfz38_1
      try clear hfz38_2
      try clear hfz46_0
      try clear hfz46_1
      try clear hfz46_2
      try clear hfz51_0
      try clear hfz51_1
      try clear hfz51_2
      try clear p2
      obtain ⟨x10_2, rfl, HA, HK2, HO_8, HO_479000, BK464, BK478, HB⟩ := hrel
      cases gk with
      | zero => exact absurd HA.out (by simp [anamnesislaw05_MoveWays.l0])
      | succ k2 =>
       have H := HA.out
       clear HA
       simp only [anamnesislaw05_MoveWays.l0] at H
       by_cases c52 : x10_2 < (l1.length : Int)
       ·rw [if_pos c52] at H
        have c52b0 : decide (x10_2 < (l1.length : Int)) = true := decide_eq_true c52
        clear c52
        by_cases c53 : (t474.length : Int) = (l1.length : Int)
        ·rw [if_pos c53] at H
         have c53b0 : ((t474.length : Int) == (l1.length : Int)) = true := beq_iff_eq.mpr c53
         have c53b1 : ((t474.length : Int) != (l1.length : Int)) = false := bne_eq_false_iff_eq.mpr c53
         have c53b2 : (t474.length == l1.length) = true := by first | simpa using c53 | (simp at c53 ⊢; omega)
         clear c53
         by_cases c54 : 0 ≤ x10_2
         ·rw [if_pos c54] at H
          have c54b0 : decide (0 ≤ x10_2) = true := decide_eq_true c54
          clear c54
          replace H := Option.bind_eq_some_iff.mp H
          obtain ⟨⟨t480, t481⟩, A550, H⟩ := H
          replace H : (if x10_2 < (t474.length : Int) then ((anamnesislaw05_end.f k2 t469 t472 t473 (rd t474 x10_2) l2).bind fun bt483 => (if (t481 != bt483.2) = true then (none) else ((anamnesisref01_N.f t480).bind fun bt485 => (if t481 = true then (anamnesislaw05_MoveWays.j2 k2 l1 l2 t474 x10_2 t480 bt483.1 bt485.2 l0_0 a0_1 a0_2 t469 t472 t473) else (anamnesislaw05_MoveWays.j2 k2 l1 l2 t474 x10_2 t480 bt483.1 true l0_0 a0_1 a0_2 t469 t472 t473))))) else (none)) = some r := H
          have A55 := Aside0.mk A550
          clear A550
          by_cases c56 : x10_2 < (t474.length : Int)
          ·rw [if_pos c56] at H
           have c56b0 : decide (x10_2 < (t474.length : Int)) = true := decide_eq_true c56
           clear c56
           replace H := Option.bind_eq_some_iff.mp H
           obtain ⟨⟨t483, t484⟩, A570, H⟩ := H
           replace H : (if (t481 != t484) = true then (none) else ((anamnesisref01_N.f t480).bind fun bt485 => (if t481 = true then (anamnesislaw05_MoveWays.j2 k2 l1 l2 t474 x10_2 t480 t483 bt485.2 l0_0 a0_1 a0_2 t469 t472 t473) else (anamnesislaw05_MoveWays.j2 k2 l1 l2 t474 x10_2 t480 t483 true l0_0 a0_1 a0_2 t469 t472 t473)))) = some r := H
           have A57 := Aside0.mk A570
           clear A570
           by_cases c58 : (t481 != t484) = true
           ·rw [if_pos c58] at H
            exact absurd H (by simp)
           ·rw [if_neg c58] at H
            have c58b0 : (t481 != t484) = false := by simpa using c58
            (try (have c58b1 : decide (t481 = t484) = true := by simpa using c58))
            (try (have c58b2 : (t481 == t484) = true := by simpa using c58))
            clear c58
            replace H := Option.bind_eq_some_iff.mp H
            obtain ⟨⟨t485, t486⟩, A590, H⟩ := H
            replace H : (if t481 = true then (anamnesislaw05_MoveWays.j2 k2 l1 l2 t474 x10_2 t480 t483 t486 l0_0 a0_1 a0_2 t469 t472 t473) else (anamnesislaw05_MoveWays.j2 k2 l1 l2 t474 x10_2 t480 t483 true l0_0 a0_1 a0_2 t469 t472 t473)) = some r := H
            have A59 := Aside0.mk A590
            clear A590
            have HC60 := Aside0.mk H
            clear H
            obtain ⟨Ao61, co61, eo61⟩ := Kd.R_slice HO_8.out
            subst eo61
            try go_wp2
            have n0_ := Aside0.mk (Kd.R_drew HO_8.out)
            have n1_ := Aside0.mk (Kd.S_drew HO_479000.out)
            have n2_ := Aside0.mk (blk_drew BK464.out)
            have n3_ := Aside0.mk (blk_drew BK478.out)
            have n4_ := Aside0.mk (below_drew1 HB.out)
            clear HO_8
            clear HO_479000
            clear BK464
            clear BK478
            clear HB
            have HO_8 := n0_
            have HO_479000 := n1_
            have BK464 := n2_
            have BK478 := n3_
            have HB := n4_
            clear n0_ n1_ n2_ n3_ n4_
            have p479 : 0 ≤ (x10_2 : Int) := of_decide_eq_true (by first | (with_reducible assumption) | assumption)
            have q479 : x10_2 < (l1.length : Int) := of_decide_eq_true (by first | (with_reducible assumption) | assumption)
            obtain ⟨ad479, e479, hx479_0⟩ := Kd.at_int HR1.out x10_2 p479 q479
            have hw479_0 := hx479_0
            cases e479
            replace hx479_0 := (HB.out.cell (World.block_lt_of_cell? w _ hx479_0)).trans hx479_0
            replace p479 := eq_true p479
            replace q479 := eq_true q479
            refine start_ (n := 12) (S := fun w' => w'.cell? ⟨gb464, 0, none⟩ = some (.slice A0_0 l0_0.length c0_0) ∧ w'.cell? ⟨gb464, 1, none⟩ = some (.int .i64 a0_1) ∧ w'.cell? ⟨gb464, 2, none⟩ = some (.int .i64 a0_2) ∧ w'.cell? (ad479.add (x10_2).toNat) = some (.int .i64 (rd l1 x10_2))) (ds := []) #[false, false, false, false, false, false, false, false, false, false, false, false] (by kernel_rfl) rfl rfl ⟨(blk_cell BK464.out 0).trans rfl, (blk_cell BK464.out 1).trans rfl, (blk_cell BK464.out 2).trans rfl, ((HB.out.cell (World.block_lt_of_cell? w _ hw479_0)).trans hw479_0)⟩ (fun hHeld => ?_); refine with_tabW anamnesislaw05_MoveWays.tab11 anamnesislaw05_MoveWays.bits11 (fun HT_ HW_ => ?_)
            generalize wr.drew = w62 at HO_8 HO_479000 BK464 BK478 HB hx479_0 hHeld ⊢
            refine pure1 (i := 1) (N := some 70) #[false, true, false, false, false, false, false, false, false, false, false, false] HT_.out ?_
            refine pure1 (i := 2) (N := some 71) #[false, true, true, false, false, false, false, false, false, false, false, false] HT_.out ?_
            refine pure1 (i := 3) (N := some 72) #[false, true, true, true, false, false, false, false, false, false, false, false] HT_.out ?_
            refine pure1 (i := 5) (N := some 74) #[false, true, true, true, false, true, false, false, false, false, false, false] HT_.out ?_
            refine take1 (i := 0) (N := some 69) #[true, true, true, true, false, true, false, false, false, false, false, false] HT_.out HW_.out hHeld ?_
            refine take1 (i := 4) (N := some 73) #[true, true, true, true, true, true, false, false, false, false, false, false] HT_.out HW_.out hHeld ?_
            refine one_ (i := 6) (N := some 75) #[true, true, true, true, true, true, true, false, false, false, false, false] rfl rfl (one_of HT_.out (by kernel_rfl)) (by decide) (fun K hK => ?_)
            refine goes_ Try.func20 (by kernel_rfl) rfl #[.agg #[.slice A0_0 l0_0.length c0_0, .int .i64 a0_1, .int .i64 a0_2], .int .i64 (rd l1 x10_2), .slice A2 l2.length c2] (by rfl) rfl rfl (by (try simp only [List.map_toArray, List.map_cons, List.map_nil]); first | done | rfl | (simp only [List.length_drop, List.length_take]; rfl)) ?_
            with_reducible refine (anamnesislaw05_end.calls k2 _ _ l0_0 a0_1 a0_2 (rd l1 x10_2) _ _ l2 t480 t481 _ ?side1 ?side2 ?side3 ?side4 A55.out).mono ?_
            (case side1 => repeat (first | exact (Kd.C_below HR0_0.out HB.out) | (with_reducible refine Kd.C_alloc ?_ _) | (with_reducible refine Kd.C_drewN ?_ _) | (with_reducible refine Kd.C_drew ?_)))
            (case side2 => exact HC0_0.out)
            (case side3 => repeat (first | exact (Kd.C_below HR2.out HB.out) | (with_reducible refine Kd.C_alloc ?_ _) | (with_reducible refine Kd.C_drewN ?_ _) | (with_reducible refine Kd.C_drew ?_)))
            (case side4 => exact HC2.out)
            rintro e w63 ⟨rfl, hb⟩
            refine ⟨_, rfl, ?_⟩
            have n0_ := Aside0.mk (Kd.R_below (by (with_reducible repeat (first | apply Kd.R_alloc | apply Kd.R_drewN | apply Kd.R_drew)); exact HO_8.out) hb)
            have n1_ := Aside0.mk (Kd.S_below (by (with_reducible repeat (first | apply Kd.S_alloc | apply Kd.S_drewN | apply Kd.S_drew)); exact HO_479000.out) hb)
            have n2_ := Aside0.mk (blk_below (g := gb464) (o := .cells #[.slice A0_0 l0_0.length c0_0, .int .i64 a0_1, .int .i64 a0_2] 24 (0, 0)) (by (with_reducible repeat (first | refine blk_drewN ?_ _ | refine blk_drew ?_ | refine blk_alloc ?_ _)); exact BK464.out) hb)
            have n3_ := Aside0.mk (blk_below (g := gb478) (o := .cells #[.slice Ao49 t469.length co49, .int .i64 t472, .int .i64 t473] 24 (0, 0)) (by (with_reducible repeat (first | refine blk_drewN ?_ _ | refine blk_drew ?_ | refine blk_alloc ?_ _)); exact BK478.out) hb)
            have n4_ := Aside0.mk (below_step (by repeat (first | (with_reducible first | exact HB.out | apply below_alloc | apply pw_below_drewN | apply below_drew1 | refine below_set ?_ GE464.out | refine below_set ?_ GE478.out) | exact HB.out)) hb)
            clear HO_8
            clear HO_479000
            clear BK464
            clear BK478
            clear HB
            have HO_8 := n0_
            have HO_479000 := n1_
            have BK464 := n2_
            have BK478 := n3_
            have HB := n4_
            clear n0_ n1_ n2_ n3_ n4_
            (try clear hb)
            (try clear hb2)
            (try clear hk)
            (try clear hi)
            refine hK.out _ _ ⟨(blk_cell BK464.out 0).trans rfl, (blk_cell BK464.out 1).trans rfl, (blk_cell BK464.out 2).trans rfl, ((HB.out.cell (World.block_lt_of_cell? w _ hw479_0)).trans hw479_0)⟩ (fun hHeld => ?_)
            clear hK K
            refine norm_ (a' := ?_) ?_ ?_
            rotate_left
            ·show Act.put _ (some 75) _ = _
             simp only [Act.put, List.setIfInBounds_toArray, List.set_cons_zero, List.set_cons_succ, i64_w, i32_w]
             rfl
            refine pure1 (i := 7) (N := some 68) #[true, true, true, true, true, true, true, true, false, false, false, false] HT_.out ?_
            refine pure1 (i := 8) (N := some 76) #[true, true, true, true, true, true, true, true, true, false, false, false] HT_.out ?_
            refine pure1 (i := 9) (N := some 77) #[true, true, true, true, true, true, true, true, true, true, false, false] HT_.out ?_
            refine pure1 (i := 10) (N := some 11) #[true, true, true, true, true, true, true, true, true, true, true, false] HT_.out ?_
            refine pure1 (i := 11) (N := some 12) #[true, true, true, true, true, true, true, true, true, true, true, true] HT_.out ?_
            refine done_ (done_of HT_.out (by kernel_rfl)) ?_
            try go_wp2
            have n0_ := Aside0.mk (Kd.R_drew HO_8.out)
            have n1_ := Aside0.mk (Kd.S_drew HO_479000.out)
            have n2_ := Aside0.mk (blk_drew BK464.out)
            have n3_ := Aside0.mk (blk_drew BK478.out)
            have n4_ := Aside0.mk (below_drew1 HB.out)
            clear HO_8
            clear HO_479000
            clear BK464
            clear BK478
            clear HB
            have HO_8 := n0_
            have HO_479000 := n1_
            have BK464 := n2_
            have BK478 := n3_
            have HB := n4_
            clear n0_ n1_ n2_ n3_ n4_
            have p482 : 0 ≤ (x10_2 : Int) := of_decide_eq_true (by first | (with_reducible assumption) | assumption)
            have q482 : x10_2 < (t474.length : Int) := of_decide_eq_true (by first | (with_reducible assumption) | assumption)
            obtain ⟨ad482, e482, hx482_0⟩ := Kd.at_int (Kd.R_reads' HO_8.out).2.2 x10_2 p482 q482
            cases e482
            replace p482 := eq_true p482
            replace q482 := eq_true q482
            refine start_ (n := 12) (S := fun w' => w'.cell? ⟨gb478, 0, none⟩ = some (.slice Ao49 t469.length co49) ∧ w'.cell? ⟨gb478, 1, none⟩ = some (.int .i64 t472) ∧ w'.cell? ⟨gb478, 2, none⟩ = some (.int .i64 t473) ∧ w'.cell? (ad482.add (x10_2).toNat) = some (.int .i64 (rd t474 x10_2))) (ds := []) #[false, false, false, false, false, false, false, false, false, false, false, false] (by kernel_rfl) rfl rfl ⟨(blk_cell BK478.out 0).trans rfl, (blk_cell BK478.out 1).trans rfl, (blk_cell BK478.out 2).trans rfl, hx482_0⟩ (fun hHeld => ?_); refine with_tabW anamnesislaw05_MoveWays.tab12 anamnesislaw05_MoveWays.bits12 (fun HT_ HW_ => ?_)
            generalize w63.drew = w64 at HO_8 HO_479000 BK464 BK478 HB hx482_0 hHeld ⊢
            refine pure1 (i := 1) (N := some 80) #[false, true, false, false, false, false, false, false, false, false, false, false] HT_.out ?_
            refine pure1 (i := 2) (N := some 81) #[false, true, true, false, false, false, false, false, false, false, false, false] HT_.out ?_
            refine pure1 (i := 3) (N := some 82) #[false, true, true, true, false, false, false, false, false, false, false, false] HT_.out ?_
            refine pure1 (i := 5) (N := some 84) #[false, true, true, true, false, true, false, false, false, false, false, false] HT_.out ?_
            refine take1 (i := 0) (N := some 79) #[true, true, true, true, false, true, false, false, false, false, false, false] HT_.out HW_.out hHeld ?_
            refine take1 (i := 4) (N := some 83) #[true, true, true, true, true, true, false, false, false, false, false, false] HT_.out HW_.out hHeld ?_
            refine one_ (i := 6) (N := some 85) #[true, true, true, true, true, true, true, false, false, false, false, false] rfl rfl (one_of HT_.out (by kernel_rfl)) (by decide) (fun K hK => ?_)
            refine goes_ Try.func20 (by kernel_rfl) rfl #[.agg #[.slice Ao49 t469.length co49, .int .i64 t472, .int .i64 t473], .int .i64 (rd t474 x10_2), .slice A2 l2.length c2] (by rfl) rfl rfl (by (try simp only [List.map_toArray, List.map_cons, List.map_nil]); first | done | rfl | (simp only [List.length_drop, List.length_take]; rfl)) ?_
            with_reducible refine (anamnesislaw05_end.calls k2 _ _ t469 t472 t473 (rd t474 x10_2) _ _ l2 t483 t484 _ ?side1 ?side2 ?side3 ?side4 A57.out).mono ?_
            (case side1 => repeat (first | exact (Kd.S_reads' HO_479000.out).2.2 | (with_reducible refine Kd.C_alloc ?_ _) | (with_reducible refine Kd.C_drewN ?_ _) | (with_reducible refine Kd.C_drew ?_)))
            (case side2 => exact (Kd.S_reads' HO_479000.out).2.1)
            (case side3 => repeat (first | exact (Kd.C_below HR2.out HB.out) | (with_reducible refine Kd.C_alloc ?_ _) | (with_reducible refine Kd.C_drewN ?_ _) | (with_reducible refine Kd.C_drew ?_)))
            (case side4 => exact HC2.out)
            rintro e w65 ⟨rfl, hb⟩
            have HS3_ := (hb.cell (World.block_lt_of_cell? _ _ (hHeld.2.2.2))).trans (hHeld.2.2.2)
            refine ⟨_, rfl, ?_⟩
            have n0_ := Aside0.mk (Kd.R_below (by (with_reducible repeat (first | apply Kd.R_alloc | apply Kd.R_drewN | apply Kd.R_drew)); exact HO_8.out) hb)
            have n1_ := Aside0.mk (Kd.S_below (by (with_reducible repeat (first | apply Kd.S_alloc | apply Kd.S_drewN | apply Kd.S_drew)); exact HO_479000.out) hb)
            have n2_ := Aside0.mk (blk_below (g := gb464) (o := .cells #[.slice A0_0 l0_0.length c0_0, .int .i64 a0_1, .int .i64 a0_2] 24 (0, 0)) (by (with_reducible repeat (first | refine blk_drewN ?_ _ | refine blk_drew ?_ | refine blk_alloc ?_ _)); exact BK464.out) hb)
            have n3_ := Aside0.mk (blk_below (g := gb478) (o := .cells #[.slice Ao49 t469.length co49, .int .i64 t472, .int .i64 t473] 24 (0, 0)) (by (with_reducible repeat (first | refine blk_drewN ?_ _ | refine blk_drew ?_ | refine blk_alloc ?_ _)); exact BK478.out) hb)
            have n4_ := Aside0.mk (below_step (by repeat (first | (with_reducible first | exact HB.out | apply below_alloc | apply pw_below_drewN | apply below_drew1 | refine below_set ?_ GE464.out | refine below_set ?_ GE478.out) | exact HB.out)) hb)
            clear HO_8
            clear HO_479000
            clear BK464
            clear BK478
            clear HB
            have HO_8 := n0_
            have HO_479000 := n1_
            have BK464 := n2_
            have BK478 := n3_
            have HB := n4_
            clear n0_ n1_ n2_ n3_ n4_
            (try clear hb)
            (try clear hb2)
            (try clear hk)
            (try clear hi)
            refine hK.out _ _ ⟨(blk_cell BK478.out 0).trans rfl, (blk_cell BK478.out 1).trans rfl, (blk_cell BK478.out 2).trans rfl, HS3_⟩ (fun hHeld => ?_)
            clear hK K
            refine norm_ (a' := ?_) ?_ ?_
            rotate_left
            ·show Act.put _ (some 85) _ = _
             simp only [Act.put, List.setIfInBounds_toArray, List.set_cons_zero, List.set_cons_succ, i64_w, i32_w]
             rfl
            refine pure1 (i := 7) (N := some 78) #[true, true, true, true, true, true, true, true, false, false, false, false] HT_.out ?_
            refine pure1 (i := 8) (N := some 86) #[true, true, true, true, true, true, true, true, true, false, false, false] HT_.out ?_
            refine pure1 (i := 9) (N := some 87) #[true, true, true, true, true, true, true, true, true, true, false, false] HT_.out ?_
            refine pure1 (i := 10) (N := some 13) #[true, true, true, true, true, true, true, true, true, true, true, false] HT_.out ?_
            refine pure1 (i := 11) (N := some 14) #[true, true, true, true, true, true, true, true, true, true, true, true] HT_.out ?_
            refine done_ (done_of HT_.out (by kernel_rfl)) ?_
            go_upto_region 16 with (first | ((with_reducible refine gate_callee (f := 21) rfl ?_); refine goesL_ (some 93) rfl rfl Try.func21 (by kernel_rfl) rfl #[.int .i64 t480] rfl (by (try simp only [List.map_toArray, List.map_cons, List.map_nil]); first | done | rfl | (simp only [List.length_drop, List.length_take]; rfl)) ?_; (with_reducible refine (anamnesisref01_N.calls t480 t485 t486 _ A59.out).mono ?_); rintro e w' ⟨rfl, ⟨nd, rfl⟩⟩; refine ⟨_, rfl, ?_⟩))
            (try simp only [Act.put, List.setIfInBounds_toArray, List.set_cons_zero, List.set_cons_succ])
            go_cut [100] (fun v100 wc => ∃ (kq : Nat) (x100_59 : Bool), v100 = .bool x100_59 ∧ Aside0 (anamnesislaw05_MoveWays.j2 kq l1 l2 t474 x10_2 t480 t483 x100_59 l0_0 a0_1 a0_2 t469 t472 t473 = some r) ∧ Aside0 (kq ≤ k2) ∧ Aside0 (Kd.R (Kd.int .i64) 3 wc w.heap.size (fun _ => True) (.slice (some ad482) t474.length co61) t474) ∧ Aside0 (Kd.S k44 44 wc w.heap.size (fun k_ => some k_ ≠ ((.slice (some ad482) t474.length co61) : Value).ownBlock) (.slice Ao49 t469.length co49) t469) ∧ Aside0 (wc.heap[gb464]? = some (.cells #[(.slice A0_0 l0_0.length c0_0), .int .i64 a0_1, .int .i64 a0_2] 24 (0, 0))) ∧ Aside0 (wc.heap[gb478]? = some (.cells #[(.slice Ao49 t469.length co49), .int .i64 t472, .int .i64 t473] 24 (0, 0))) ∧ Aside0 (Below w.heap.size w wc))
            case first =>
             have H := HC60.out
             clear HC60
             by_cases c66 : t481 = true
             ·subst c66
              have H1 : (anamnesislaw05_MoveWays.j2 k2 l1 l2 t474 x10_2 t480 t483 t486 l0_0 a0_1 a0_2 t469 t472 t473) = some r := by rw [if_pos rfl] at H; exact H
              clear H
              have H := H1
              clear H1
              have H' := Aside0.mk H
              clear H
              go_wp2
              go_meet
              case rel => exact ⟨_, (t486), (by first | rfl | (simp; done) | (simp [*]; done)), H', ⟨by have := HJ3.out; have := HK2.out; first | omega | exact Nat.le_refl _⟩, ⟨by (with_reducible repeat (first | apply Kd.R_alloc | apply Kd.R_drewN | apply Kd.R_drew)); exact HO_8.out⟩, ⟨by (with_reducible repeat (first | apply Kd.S_alloc | apply Kd.S_drewN | apply Kd.S_drew)); exact HO_479000.out⟩, ⟨by (with_reducible repeat (first | refine blk_drewN ?_ _ | refine blk_drew ?_ | refine blk_alloc ?_ _)); exact BK464.out⟩, ⟨by (with_reducible repeat (first | refine blk_drewN ?_ _ | refine blk_drew ?_ | refine blk_alloc ?_ _)); exact BK478.out⟩, ⟨by repeat (first | (with_reducible first | exact HB.out | apply below_alloc | apply pw_below_drewN | apply below_drew1 | refine below_set ?_ GE464.out | refine below_set ?_ GE478.out) | exact HB.out)⟩⟩
             ·replace c66 := Bool.eq_false_iff.mpr c66
              subst c66
              have H1 : (anamnesislaw05_MoveWays.j2 k2 l1 l2 t474 x10_2 t480 t483 true l0_0 a0_1 a0_2 t469 t472 t473) = some r := by rw [if_neg (show ¬ (false = true) by decide)] at H; exact H
              clear H
              have H := H1
              clear H1
              have H' := Aside0.mk H
              clear H
              go_wp2
              go_meet
              case rel => exact ⟨_, (true), (by first | rfl | (simp; done) | (simp [*]; done)), H', ⟨by have := HJ3.out; have := HK2.out; first | omega | exact Nat.le_refl _⟩, ⟨by (with_reducible repeat (first | apply Kd.R_alloc | apply Kd.R_drewN | apply Kd.R_drew)); exact HO_8.out⟩, ⟨by (with_reducible repeat (first | apply Kd.S_alloc | apply Kd.S_drewN | apply Kd.S_drew)); exact HO_479000.out⟩, ⟨by (with_reducible repeat (first | refine blk_drewN ?_ _ | refine blk_drew ?_ | refine blk_alloc ?_ _)); exact BK464.out⟩, ⟨by (with_reducible repeat (first | refine blk_drewN ?_ _ | refine blk_drew ?_ | refine blk_alloc ?_ _)); exact BK478.out⟩, ⟨by repeat (first | (with_reducible first | exact HB.out | apply below_alloc | apply pw_below_drewN | apply below_drew1 | refine below_set ?_ GE464.out | refine below_set ?_ GE478.out) | exact HB.out)⟩⟩
            case rest =>
             clear HC60
             try clear c1
             try clear c2
             try clear p2
             try clear c4
             try clear p4
             try clear q4
             try clear hx4
             try clear c5
             try clear c6
             try clear c7
             try clear c9
             try clear c11
             try clear c12
             try clear c12b0
             try clear c12b1
             try clear c19
             try clear c19b0
             try clear c19b1
             try clear c20
             try clear c21
             try clear c41
             try clear c45
             try clear c45b0
             try clear c45b1
             try clear p47
             try clear q47
             try clear hx47
             try clear p48
             try clear q48
             try clear hx48
             try clear c50
             try clear c52
             try clear c52b0
             try clear c53
             try clear c53b0
             try clear c53b1
             try clear c53b2
             try clear c54
             try clear c54b0
             try clear c56
             try clear c56b0
             try clear c58
             try clear c58b0
             try clear c58b1
             try clear c58b2
             try clear c66
             try clear hcz14_0
             try clear hcz14_1
             try clear hcz14_2
             try clear hcz16_0
             try clear hcz16_1
             try clear hcz16_2
             try clear hcz18_0
             try clear hcz18_1
             try clear hcz18_2
             try clear hcz21_0
             try clear hcz21_1
             try clear hcz21_2
             try clear hcz23_0
             try clear hcz23_1
             try clear hcz23_2
             try clear hcz25_0
             try clear hcz25_1
             try clear hcz25_2
             try clear hcz27_0
             try clear hcz27_1
             try clear hcz27_2
             try clear hcz29_0
             try clear hcz29_1
             try clear hcz29_2
             try clear hcz31_0
             try clear hcz31_1
             try clear hcz31_2
             try clear hcz33_0
             try clear hcz33_1
             try clear hcz33_2
             try clear hcz35_0
             try clear hcz35_1
             try clear hcz35_2
             try clear hcz38_0
             try clear hcz38_1
             try clear hcz38_2
             try clear hcz46_0
             try clear hcz46_1
             try clear hcz46_2
             try clear hcz51_0
             try clear hcz51_1
             try clear hcz51_2
             try clear hfz14_0
             try clear hfz14_1
             try clear hfz14_2
             try clear hfz16_0
             try clear hfz16_1
             try clear hfz16_2
             try clear hfz18_0
             try clear hfz18_1
             try clear hfz18_2
             try clear hfz21_0
             try clear hfz21_1
             try clear hfz21_2
             try clear hfz23_0
             try clear hfz23_1
             try clear hfz23_2
             try clear hfz25_0
             try clear hfz25_1
             try clear hfz25_2
             try clear hfz27_0
             try clear hfz27_1
             try clear hfz27_2
             try clear hfz29_0
             try clear hfz29_1
             try clear hfz29_2
             try clear hfz31_0
             try clear hfz31_1
             try clear hfz31_2
             try clear hfz33_0
             try clear hfz33_1
             try clear hfz33_2
             try clear hfz35_0
             try clear hfz35_1
             try clear hfz35_2
             try clear hfz38_0
             try clear hfz38_1
             try clear hfz38_2
             try clear hfz46_0
             try clear hfz46_1
             try clear hfz46_2
             try clear hfz51_0
             try clear hfz51_1
             try clear hfz51_2
             try clear hx479_0
             try clear hx482_0
             try clear p2
             try clear p479
             try clear p482
             try clear q479
             try clear q482
             obtain ⟨kq, x100_59, rfl, HA, HJ59, HO_8, HO_479000, BK464, BK478, HB⟩ := hcut
             cases kq with
             | zero => exact absurd HA.out (by simp [anamnesislaw05_MoveWays.j2])
             | succ kj59 =>
              have H := HA.out
              clear HA
              simp only [anamnesislaw05_MoveWays.j2] at H
              by_cases c67 : x100_59 = true
              ·subst c67
               have H1 : (if t480 = t483 then (anamnesislaw05_MoveWays.l0 kj59 l1 l2 t474 (wrap64 (x10_2 + 1)) l0_0 a0_1 a0_2 t469 t472 t473) else (none)) = some r := by rw [if_pos rfl] at H; exact H
               clear H
               have H := H1
               clear H1
               by_cases c68 : t480 = t483
               ·rw [if_pos c68] at H
                have c68b0 : (t480 == t483) = true := beq_iff_eq.mpr c68
                have c68b1 : (t480 != t483) = false := bne_eq_false_iff_eq.mpr c68
                clear c68
                have H' := Aside0.mk H
                clear H
                go_wp2
                go_roundg kj59
                case measure => have := HJ3.out; have := HK2.out; have := HJ59.out; omega
                case rel => exact ⟨(wrap64 (x10_2 + 1)), (by first | rfl | (simp; done) | (simp [*]; done)), H', ⟨by have := HJ3.out; have := HK2.out; have := HJ59.out; omega⟩, ⟨by (with_reducible repeat (first | apply Kd.R_alloc | apply Kd.R_drewN | apply Kd.R_drew)); exact HO_8.out⟩, ⟨by (with_reducible repeat (first | apply Kd.S_alloc | apply Kd.S_drewN | apply Kd.S_drew)); exact HO_479000.out⟩, ⟨by (with_reducible repeat (first | refine blk_drewN ?_ _ | refine blk_drew ?_ | refine blk_alloc ?_ _)); exact BK464.out⟩, ⟨by (with_reducible repeat (first | refine blk_drewN ?_ _ | refine blk_drew ?_ | refine blk_alloc ?_ _)); exact BK478.out⟩, ⟨by repeat (first | (with_reducible first | exact HB.out | apply below_alloc | apply pw_below_drewN | apply below_drew1 | refine below_set ?_ GE464.out | refine below_set ?_ GE478.out) | exact HB.out)⟩⟩
               ·rw [if_neg c68] at H
                exact absurd H (by simp)
              ·replace c67 := Bool.eq_false_iff.mpr c67
               subst c67
               have H1 : ((anamnesisref03_Ref.f l0_0 a0_1 a0_2 t480).bind fun t487 => (if 0 ≤ t487 then (if t487 < (l0_0.length : Int) then ((anamnesisref03_Ref.f t469 t472 t473 t483).bind fun t490 => (if t490 < 0 then (none) else ((anamnesisref03_Ref.f t469 t472 t473 t483).bind fun t491 => (if 0 ≤ t491 then (if t491 < (t469.length : Int) then (if ((rd_T44 l0_0 t487).f1) = ((rd_T44 t469 t491).f1) then (if ((rd_T44 l0_0 t487).f3).toList = ((rd_T44 t469 t491).f3).toList then (if ((rd_T44 l0_0 t487).f4) = ((rd_T44 t469 t491).f4) then (if ((rd_T44 l0_0 t487).f5) = ((rd_T44 t469 t491).f5) then (if (((rd_T44 l0_0 t487).f2).length : Int) = (((rd_T44 t469 t491).f2).length : Int) then (anamnesislaw05_MoveWays.l0 kj59 l1 l2 t474 (wrap64 (x10_2 + 1)) l0_0 a0_1 a0_2 t469 t472 t473) else (none)) else (none)) else (none)) else (none)) else (none)) else (none)) else (none))))) else (none)) else (none))) = some r := by rw [if_neg (show ¬ (false = true) by decide)] at H; exact H
               clear H
               have H := H1
               clear H1
               replace H := Option.bind_eq_some_iff.mp H
               obtain ⟨t487, A690, H⟩ := H
               replace H : (if 0 ≤ t487 then (if t487 < (l0_0.length : Int) then ((anamnesisref03_Ref.f t469 t472 t473 t483).bind fun t490 => (if t490 < 0 then (none) else ((anamnesisref03_Ref.f t469 t472 t473 t483).bind fun t491 => (if 0 ≤ t491 then (if t491 < (t469.length : Int) then (if ((rd_T44 l0_0 t487).f1) = ((rd_T44 t469 t491).f1) then (if ((rd_T44 l0_0 t487).f3).toList = ((rd_T44 t469 t491).f3).toList then (if ((rd_T44 l0_0 t487).f4) = ((rd_T44 t469 t491).f4) then (if ((rd_T44 l0_0 t487).f5) = ((rd_T44 t469 t491).f5) then (if (((rd_T44 l0_0 t487).f2).length : Int) = (((rd_T44 t469 t491).f2).length : Int) then (anamnesislaw05_MoveWays.l0 kj59 l1 l2 t474 (wrap64 (x10_2 + 1)) l0_0 a0_1 a0_2 t469 t472 t473) else (none)) else (none)) else (none)) else (none)) else (none)) else (none)) else (none))))) else (none)) else (none)) = some r := H
               have A69 := Aside0.mk A690
               clear A690
               by_cases c70 : 0 ≤ t487
               ·rw [if_pos c70] at H
                have c70b0 : decide (0 ≤ t487) = true := decide_eq_true c70
                clear c70
                by_cases c71 : t487 < (l0_0.length : Int)
                ·rw [if_pos c71] at H
                 have c71b0 : decide (t487 < (l0_0.length : Int)) = true := decide_eq_true c71
                 clear c71
                 replace H := Option.bind_eq_some_iff.mp H
                 obtain ⟨t490, A720, H⟩ := H
                 replace H : (if t490 < 0 then (none) else ((anamnesisref03_Ref.f t469 t472 t473 t483).bind fun t491 => (if 0 ≤ t491 then (if t491 < (t469.length : Int) then (if ((rd_T44 l0_0 t487).f1) = ((rd_T44 t469 t491).f1) then (if ((rd_T44 l0_0 t487).f3).toList = ((rd_T44 t469 t491).f3).toList then (if ((rd_T44 l0_0 t487).f4) = ((rd_T44 t469 t491).f4) then (if ((rd_T44 l0_0 t487).f5) = ((rd_T44 t469 t491).f5) then (if (((rd_T44 l0_0 t487).f2).length : Int) = (((rd_T44 t469 t491).f2).length : Int) then (anamnesislaw05_MoveWays.l0 kj59 l1 l2 t474 (wrap64 (x10_2 + 1)) l0_0 a0_1 a0_2 t469 t472 t473) else (none)) else (none)) else (none)) else (none)) else (none)) else (none)) else (none)))) = some r := H
                 have A72 := Aside0.mk A720
                 clear A720
                 by_cases c73 : t490 < 0
                 ·rw [if_pos c73] at H
                  exact absurd H (by simp)
                 ·rw [if_neg c73] at H
                  have c73b0 : decide (t490 < 0) = false := decide_eq_false c73
                  clear c73
                  replace H := Option.bind_eq_some_iff.mp H
                  obtain ⟨t491, A740, H⟩ := H
                  replace H : (if 0 ≤ t491 then (if t491 < (t469.length : Int) then (if ((rd_T44 l0_0 t487).f1) = ((rd_T44 t469 t491).f1) then (if ((rd_T44 l0_0 t487).f3).toList = ((rd_T44 t469 t491).f3).toList then (if ((rd_T44 l0_0 t487).f4) = ((rd_T44 t469 t491).f4) then (if ((rd_T44 l0_0 t487).f5) = ((rd_T44 t469 t491).f5) then (if (((rd_T44 l0_0 t487).f2).length : Int) = (((rd_T44 t469 t491).f2).length : Int) then (anamnesislaw05_MoveWays.l0 kj59 l1 l2 t474 (wrap64 (x10_2 + 1)) l0_0 a0_1 a0_2 t469 t472 t473) else (none)) else (none)) else (none)) else (none)) else (none)) else (none)) else (none)) = some r := H
                  have A74 := Aside0.mk A740
                  clear A740
                  by_cases c75 : 0 ≤ t491
                  ·rw [if_pos c75] at H
                   have c75b0 : decide (0 ≤ t491) = true := decide_eq_true c75
                   clear c75
                   by_cases c76 : t491 < (t469.length : Int)
                   ·rw [if_pos c76] at H
                    have c76b0 : decide (t491 < (t469.length : Int)) = true := decide_eq_true c76
                    clear c76
                    by_cases c77 : ((rd_T44 l0_0 t487).f1) = ((rd_T44 t469 t491).f1)
                    ·rw [if_pos c77] at H
                     have c77b0 : (((rd_T44 l0_0 t487).f1) == ((rd_T44 t469 t491).f1)) = true := beq_iff_eq.mpr c77
                     have c77b1 : (((rd_T44 l0_0 t487).f1) != ((rd_T44 t469 t491).f1)) = false := bne_eq_false_iff_eq.mpr c77
                     clear c77
                     by_cases c78 : ((rd_T44 l0_0 t487).f3).toList = ((rd_T44 t469 t491).f3).toList
                     ·rw [if_pos c78] at H
                      have c78b0 : (((rd_T44 l0_0 t487).f3).toList == ((rd_T44 t469 t491).f3).toList) = true := beq_iff_eq.mpr c78
                      have c78b1 : (((rd_T44 l0_0 t487).f3).toList != ((rd_T44 t469 t491).f3).toList) = false := bne_eq_false_iff_eq.mpr c78
                      clear c78
                      by_cases c79 : ((rd_T44 l0_0 t487).f4) = ((rd_T44 t469 t491).f4)
                      ·rw [if_pos c79] at H
                       have c79b0 : (((rd_T44 l0_0 t487).f4) == ((rd_T44 t469 t491).f4)) = true := beq_iff_eq.mpr c79
                       have c79b1 : (((rd_T44 l0_0 t487).f4) != ((rd_T44 t469 t491).f4)) = false := bne_eq_false_iff_eq.mpr c79
                       clear c79
                       by_cases c80 : ((rd_T44 l0_0 t487).f5) = ((rd_T44 t469 t491).f5)
                       ·rw [if_pos c80] at H
                        have c80b0 : (((rd_T44 l0_0 t487).f5) == ((rd_T44 t469 t491).f5)) = true := beq_iff_eq.mpr c80
                        have c80b1 : (((rd_T44 l0_0 t487).f5) != ((rd_T44 t469 t491).f5)) = false := bne_eq_false_iff_eq.mpr c80
                        clear c80
                        by_cases c81 : (((rd_T44 l0_0 t487).f2).length : Int) = (((rd_T44 t469 t491).f2).length : Int)
                        ·rw [if_pos c81] at H
                         have c81b0 : ((((rd_T44 l0_0 t487).f2).length : Int) == (((rd_T44 t469 t491).f2).length : Int)) = true := beq_iff_eq.mpr c81
                         have c81b1 : ((((rd_T44 l0_0 t487).f2).length : Int) != (((rd_T44 t469 t491).f2).length : Int)) = false := bne_eq_false_iff_eq.mpr c81
                         have c81b2 : (((rd_T44 l0_0 t487).f2).length == ((rd_T44 t469 t491).f2).length) = true := by first | simpa using c81 | (simp at c81 ⊢; omega)
                         clear c81
                         have H' := Aside0.mk H
                         clear H
                         try go_wp2
                         have n0_ := Aside0.mk (Kd.R_drew HO_8.out)
                         have n1_ := Aside0.mk (Kd.S_drew HO_479000.out)
                         have n2_ := Aside0.mk (blk_drew BK464.out)
                         have n3_ := Aside0.mk (blk_drew BK478.out)
                         have n4_ := Aside0.mk (below_drew1 HB.out)
                         clear HO_8
                         clear HO_479000
                         clear BK464
                         clear BK478
                         clear HB
                         have HO_8 := n0_
                         have HO_479000 := n1_
                         have BK464 := n2_
                         have BK478 := n3_
                         have HB := n4_
                         clear n0_ n1_ n2_ n3_ n4_
                         have p488 : 0 ≤ (t487 : Int) := of_decide_eq_true (by first | (with_reducible assumption) | assumption)
                         have q488 : t487 < (l0_0.length : Int) := of_decide_eq_true (by first | (with_reducible assumption) | assumption)
                         obtain ⟨ad488, A488_2, c488_2, e488, hx488_0, hx488_1, hx488_2, hx488_3, hx488_4, hx488_5, hl488_2, hi488_2⟩ := at_T44 HR0_0.out t487 p488 q488
                         have hw488_5 := hx488_5
                         have hw488_4 := hx488_4
                         have hw488_3 := hx488_3
                         have hw488_2 := hx488_2
                         have hw488_1 := hx488_1
                         have hw488_0 := hx488_0
                         cases e488
                         replace hx488_0 := (HB.out.cell (World.block_lt_of_cell? w _ hx488_0)).trans hx488_0
                         replace hx488_1 := (HB.out.cell (World.block_lt_of_cell? w _ hx488_1)).trans hx488_1
                         replace hx488_2 := (HB.out.cell (World.block_lt_of_cell? w _ hx488_2)).trans hx488_2
                         replace hx488_3 := (HB.out.cell (World.block_lt_of_cell? w _ hx488_3)).trans hx488_3
                         replace hx488_4 := (HB.out.cell (World.block_lt_of_cell? w _ hx488_4)).trans hx488_4
                         replace hx488_5 := (HB.out.cell (World.block_lt_of_cell? w _ hx488_5)).trans hx488_5
                         have HR488_2 := Aside0.mk hi488_2
                         have HC488_2 := Aside0.mk hl488_2
                         clear hi488_2 hl488_2
                         replace p488 := eq_true p488
                         replace q488 := eq_true q488
                         refine start_ (n := 9) (S := fun w' => w'.cell? ⟨gb464, 0, none⟩ = some (.slice (some ad488) l0_0.length c0_0) ∧ w'.cell? ⟨gb464, 1, none⟩ = some (.int .i64 a0_1) ∧ w'.cell? ⟨gb464, 2, none⟩ = some (.int .i64 a0_2) ∧ w'.cell? (ad488.add ((t487).toNat * 6)) = some (.int .i64 ((rd_T44 l0_0 t487).f0)) ∧ w'.cell? ⟨(ad488.add ((t487).toNat * 6)).block, (ad488.add ((t487).toNat * 6)).off + 1, none⟩ = some (.int .i64 ((rd_T44 l0_0 t487).f1)) ∧ w'.cell? ⟨(ad488.add ((t487).toNat * 6)).block, (ad488.add ((t487).toNat * 6)).off + 2, none⟩ = some (.slice A488_2 ((rd_T44 l0_0 t487).f2).length c488_2) ∧ w'.cell? ⟨(ad488.add ((t487).toNat * 6)).block, (ad488.add ((t487).toNat * 6)).off + 3, none⟩ = some (.string ((rd_T44 l0_0 t487).f3)) ∧ w'.cell? ⟨(ad488.add ((t487).toNat * 6)).block, (ad488.add ((t487).toNat * 6)).off + 4, none⟩ = some (.int .i64 ((rd_T44 l0_0 t487).f4)) ∧ w'.cell? ⟨(ad488.add ((t487).toNat * 6)).block, (ad488.add ((t487).toNat * 6)).off + 5, none⟩ = some (.int .i64 ((rd_T44 l0_0 t487).f5))) (ds := []) #[false, false, false, false, false, false, false, false, false] (by kernel_rfl) rfl rfl ⟨(blk_cell BK464.out 0).trans rfl, (blk_cell BK464.out 1).trans rfl, (blk_cell BK464.out 2).trans rfl, ((HB.out.cell (World.block_lt_of_cell? w _ hw488_0)).trans hw488_0), ((HB.out.cell (World.block_lt_of_cell? w _ hw488_1)).trans hw488_1), ((HB.out.cell (World.block_lt_of_cell? w _ hw488_2)).trans hw488_2), ((HB.out.cell (World.block_lt_of_cell? w _ hw488_3)).trans hw488_3), ((HB.out.cell (World.block_lt_of_cell? w _ hw488_4)).trans hw488_4), ((HB.out.cell (World.block_lt_of_cell? w _ hw488_5)).trans hw488_5)⟩ (fun hHeld => ?_); refine with_tabW anamnesislaw05_MoveWays.tab19 anamnesislaw05_MoveWays.bits19 (fun HT_ HW_ => ?_)
                         generalize wc.drew = w82 at HO_8 HO_479000 BK464 BK478 HB HR488_2 hx488_0 hx488_1 hx488_2 hx488_3 hx488_4 hx488_5 hHeld ⊢
                         refine pure1 (i := 0) (N := some 104) #[true, false, false, false, false, false, false, false, false] HT_.out ?_
                         refine pure1 (i := 3) (N := some 107) #[true, false, false, true, false, false, false, false, false] HT_.out ?_
                         refine take1 (i := 1) (N := some 105) #[true, true, false, true, false, false, false, false, false] HT_.out HW_.out hHeld ?_
                         refine take1 (i := 2) (N := some 106) #[true, true, true, true, false, false, false, false, false] HT_.out HW_.out hHeld ?_
                         refine join_ (σ := Nat) 1 #[true, true, true, true, true, true, true, true, false] (fun s_ => [(108, .int .i64 t487), (17, .pointer (some ⟨s_, 0, none⟩)), (109, .pointer (some (ad488.add ((t487).toNat * 6)))), (110, .agg #[.int .i64 ((rd_T44 l0_0 t487).f0), .int .i64 ((rd_T44 l0_0 t487).f1), .slice A488_2 ((rd_T44 l0_0 t487).f2).length c488_2, .string ((rd_T44 l0_0 t487).f3), .int .i64 ((rd_T44 l0_0 t487).f4), .int .i64 ((rd_T44 l0_0 t487).f5)])]) (fun s_ w' => (w'.cell? ⟨gb464, 0, none⟩ = some (.slice (some ad488) l0_0.length c0_0) ∧ w'.cell? ⟨gb464, 1, none⟩ = some (.int .i64 a0_1) ∧ w'.cell? ⟨gb464, 2, none⟩ = some (.int .i64 a0_2) ∧ w'.cell? (ad488.add ((t487).toNat * 6)) = some (.int .i64 ((rd_T44 l0_0 t487).f0)) ∧ w'.cell? ⟨(ad488.add ((t487).toNat * 6)).block, (ad488.add ((t487).toNat * 6)).off + 1, none⟩ = some (.int .i64 ((rd_T44 l0_0 t487).f1)) ∧ w'.cell? ⟨(ad488.add ((t487).toNat * 6)).block, (ad488.add ((t487).toNat * 6)).off + 2, none⟩ = some (.slice A488_2 ((rd_T44 l0_0 t487).f2).length c488_2) ∧ w'.cell? ⟨(ad488.add ((t487).toNat * 6)).block, (ad488.add ((t487).toNat * 6)).off + 3, none⟩ = some (.string ((rd_T44 l0_0 t487).f3)) ∧ w'.cell? ⟨(ad488.add ((t487).toNat * 6)).block, (ad488.add ((t487).toNat * 6)).off + 4, none⟩ = some (.int .i64 ((rd_T44 l0_0 t487).f4)) ∧ w'.cell? ⟨(ad488.add ((t487).toNat * 6)).block, (ad488.add ((t487).toNat * 6)).off + 5, none⟩ = some (.int .i64 ((rd_T44 l0_0 t487).f5))) ∧ (Kd.S k44 44 w' w.heap.size (fun k_ => some k_ ≠ (.slice (some ad482) t474.length co61 : Value).ownBlock ∧ k_ ≠ s_) (.slice Ao49 t469.length co49) t469) ∧ (Kd.R (Kd.int .i64) 3 w' w.heap.size (fun _ => True) (.slice (some ad482) t474.length co61) t474) ∧ (w'.heap[gb464]? = some (.cells #[.slice (some ad488) l0_0.length c0_0, .int .i64 a0_1, .int .i64 a0_2] 24 (0, 0))) ∧ (w'.heap[gb478]? = some (.cells #[.slice Ao49 t469.length co49, .int .i64 t472, .int .i64 t473] 24 (0, 0))) ∧ (w'.heap[s_]? = some (.cells #[.int .i64 0, .int .i64 0, .slice none 0 0, .string (⟨#[]⟩ : ByteArray), .int .i64 0, .int .i64 0] 44 (0, 0))) ∧ (w.heap.size ≤ s_) ∧ (w.heap.size ≤ s_) ∧ (gb464 ≠ s_) ∧ (s_ ≠ gb464) ∧ (gb478 ≠ s_) ∧ (s_ ≠ gb478) ∧ (Below w.heap.size w w')) ?_ ?_
                         rotate_left
                         ·intro hCont
                          refine two_ (i := 4) (j := 7) (Ni := some 108) (Nj := some 17) #[true, true, true, true, true, false, false, false, false] #[true, true, true, true, false, false, false, true, false] rfl rfl rfl rfl (two_of HT_.out (by kernel_rfl)) (by decide) (by decide) (fun K hK => ?_) (fun K hK => ?_)
                          ·skip
                           refine goes_ Try.func22 (by kernel_rfl) rfl #[.agg #[.slice (some ad488) l0_0.length c0_0, .int .i64 a0_1, .int .i64 a0_2], .int .i64 t480] (by rfl) rfl rfl (by (try simp only [List.map_toArray, List.map_cons, List.map_nil]); first | done | rfl | (simp only [List.length_drop, List.length_take]; rfl)) ?_
                           with_reducible refine (anamnesisref03_Ref.calls _ _ l0_0 a0_1 a0_2 t480 t487 _ ?side1 ?side2 A69.out).mono ?_
                           (case side1 => repeat (first | exact (Kd.C_below HR0_0.out HB.out) | (with_reducible refine Kd.C_alloc ?_ _) | (with_reducible refine Kd.C_drewN ?_ _) | (with_reducible refine Kd.C_drew ?_)))
                           (case side2 => exact HC0_0.out)
                           rintro e w83 ⟨rfl, hb⟩
                           refine ⟨_, rfl, ?_⟩
                           have n0_ := Aside0.mk (Kd.R_below (by (with_reducible repeat (first | apply Kd.R_alloc | apply Kd.R_drewN | apply Kd.R_drew)); exact HO_8.out) hb)
                           have n1_ := Aside0.mk (Kd.S_below (by (with_reducible repeat (first | apply Kd.S_alloc | apply Kd.S_drewN | apply Kd.S_drew)); exact HO_479000.out) hb)
                           have n2_ := Aside0.mk (blk_below (g := gb464) (o := .cells #[.slice (some ad488) l0_0.length c0_0, .int .i64 a0_1, .int .i64 a0_2] 24 (0, 0)) (by (with_reducible repeat (first | refine blk_drewN ?_ _ | refine blk_drew ?_ | refine blk_alloc ?_ _)); exact BK464.out) hb)
                           have n3_ := Aside0.mk (blk_below (g := gb478) (o := .cells #[.slice Ao49 t469.length co49, .int .i64 t472, .int .i64 t473] 24 (0, 0)) (by (with_reducible repeat (first | refine blk_drewN ?_ _ | refine blk_drew ?_ | refine blk_alloc ?_ _)); exact BK478.out) hb)
                           have n4_ := Aside0.mk (below_step (by repeat (first | (with_reducible first | exact HB.out | apply below_alloc | apply pw_below_drewN | apply below_drew1 | refine below_set ?_ GE464.out | refine below_set ?_ GE478.out) | exact HB.out)) hb)
                           clear HO_8
                           clear HO_479000
                           clear BK464
                           clear BK478
                           clear HB
                           have HO_8 := n0_
                           have HO_479000 := n1_
                           have BK464 := n2_
                           have BK478 := n3_
                           have HB := n4_
                           clear n0_ n1_ n2_ n3_ n4_
                           (try clear hb)
                           (try clear hb2)
                           (try clear hk)
                           (try clear hi)
                           refine hK.out _ _ ⟨(blk_cell BK464.out 0).trans rfl, (blk_cell BK464.out 1).trans rfl, (blk_cell BK464.out 2).trans rfl, ((HB.out.cell (World.block_lt_of_cell? w _ hw488_0)).trans hw488_0), ((HB.out.cell (World.block_lt_of_cell? w _ hw488_1)).trans hw488_1), ((HB.out.cell (World.block_lt_of_cell? w _ hw488_2)).trans hw488_2), ((HB.out.cell (World.block_lt_of_cell? w _ hw488_3)).trans hw488_3), ((HB.out.cell (World.block_lt_of_cell? w _ hw488_4)).trans hw488_4), ((HB.out.cell (World.block_lt_of_cell? w _ hw488_5)).trans hw488_5)⟩ (fun hHeld => ?_)
                           clear hK K
                           refine norm_ (a' := ?_) ?_ ?_
                           rotate_left
                           ·show Act.put _ (some 108) _ = _
                            simp only [Act.put, List.setIfInBounds_toArray, List.set_cons_zero, List.set_cons_succ, i64_w, i32_w]
                            rfl
                           refine pure1 (i := 5) (N := some 109) #[true, true, true, true, true, true, false, false, false] HT_.out ?_
                           refine take1 (i := 6) (N := some 110) #[true, true, true, true, true, true, true, false, false] HT_.out HW_.out hHeld ?_
                           refine one_ (i := 7) (N := some 17) #[true, true, true, true, true, true, true, true, false] rfl rfl (one_of HT_.out (by kernel_rfl)) (by decide) (fun K hK => ?_)
                           refine box_step ?hg (N := 17) ?hd (cs := #[.int .i64 0, .int .i64 0, .slice none 0 0, .string (⟨#[]⟩ : ByteArray), .int .i64 0, .int .i64 0]) (t := 44) ?hr ?_; (case hd => rfl); (case hg => rfl); (case hr => first | (go_simp; done) | (go_simp; rfl))
                           intro gb489 hg w84 hbox hb
                           have n0_ := Aside0.mk (Kd.R_below (by (with_reducible repeat (first | apply Kd.R_alloc | apply Kd.R_drewN | apply Kd.R_drew)); exact HO_8.out) hb)
                           have n1_ := Aside0.mk (Kd.S_below (Kd.S_elderB (by (with_reducible repeat (first | apply Kd.S_alloc | apply Kd.S_drewN | apply Kd.S_drew)); exact HO_479000.out) gb489 (Nat.le_of_eq hg.symm)) hb)
                           have n2_ := Aside0.mk (blk_below (g := gb464) (o := .cells #[.slice (some ad488) l0_0.length c0_0, .int .i64 a0_1, .int .i64 a0_2] 24 (0, 0)) (by (with_reducible repeat (first | refine blk_drewN ?_ _ | refine blk_drew ?_ | refine blk_alloc ?_ _)); exact BK464.out) hb)
                           have n3_ := Aside0.mk (blk_below (g := gb478) (o := .cells #[.slice Ao49 t469.length co49, .int .i64 t472, .int .i64 t473] 24 (0, 0)) (by (with_reducible repeat (first | refine blk_drewN ?_ _ | refine blk_drew ?_ | refine blk_alloc ?_ _)); exact BK478.out) hb)
                           have n4_ := Aside0.mk (below_step (by repeat (first | (with_reducible first | exact HB.out | apply below_alloc | apply pw_below_drewN | apply below_drew1 | refine below_set ?_ GE464.out | refine below_set ?_ GE478.out) | exact HB.out)) hb)
                           have n5_ := Aside0.mk (hbox)
                           have n6_ := Aside0.mk ((by rw [hg]; exact (below_size (by repeat (first | (with_reducible first | exact HB.out | apply below_alloc | apply pw_below_drewN | apply below_drew1 | refine below_set ?_ GE464.out | refine below_set ?_ GE478.out) | exact HB.out))) : w.heap.size ≤ gb489))
                           have n7_ := Aside0.mk ((by rw [hg]; exact (below_size (by repeat (first | (with_reducible first | exact HB.out | apply below_alloc | apply pw_below_drewN | apply below_drew1 | refine below_set ?_ GE464.out | refine below_set ?_ GE478.out) | exact HB.out))) : w.heap.size ≤ gb489))
                           have n8_ := Aside0.mk ((by rw [hg]; exact Nat.ne_of_lt (blk_lt (g := gb464) (o := .cells #[.slice (some ad488) l0_0.length c0_0, .int .i64 a0_1, .int .i64 a0_2] 24 (0, 0)) (by (with_reducible repeat (first | refine blk_drewN ?_ _ | refine blk_drew ?_ | refine blk_alloc ?_ _)); exact BK464.out)) : gb464 ≠ gb489))
                           have n9_ := Aside0.mk ((by rw [hg]; exact Nat.ne_of_gt (blk_lt (g := gb464) (o := .cells #[.slice (some ad488) l0_0.length c0_0, .int .i64 a0_1, .int .i64 a0_2] 24 (0, 0)) (by (with_reducible repeat (first | refine blk_drewN ?_ _ | refine blk_drew ?_ | refine blk_alloc ?_ _)); exact BK464.out)) : gb489 ≠ gb464))
                           have n10_ := Aside0.mk ((by rw [hg]; exact Nat.ne_of_lt (blk_lt (g := gb478) (o := .cells #[.slice Ao49 t469.length co49, .int .i64 t472, .int .i64 t473] 24 (0, 0)) (by (with_reducible repeat (first | refine blk_drewN ?_ _ | refine blk_drew ?_ | refine blk_alloc ?_ _)); exact BK478.out)) : gb478 ≠ gb489))
                           have n11_ := Aside0.mk ((by rw [hg]; exact Nat.ne_of_gt (blk_lt (g := gb478) (o := .cells #[.slice Ao49 t469.length co49, .int .i64 t472, .int .i64 t473] 24 (0, 0)) (by (with_reducible repeat (first | refine blk_drewN ?_ _ | refine blk_drew ?_ | refine blk_alloc ?_ _)); exact BK478.out)) : gb489 ≠ gb478))
                           clear HO_8
                           clear HO_479000
                           clear BK464
                           clear BK478
                           clear HB
                           have HO_8 := n0_
                           have HO_479000 := n1_
                           have BK464 := n2_
                           have BK478 := n3_
                           have HB := n4_
                           have BK489 := n5_
                           have GW489 := n6_
                           have GE489 := n7_
                           have NB464_489 := n8_
                           have NB489_464 := n9_
                           have NB478_489 := n10_
                           have NB489_478 := n11_
                           clear n0_ n1_ n2_ n3_ n4_ n5_ n6_ n7_ n8_ n9_ n10_ n11_
                           clear hb hbox hg
                           refine hK.out _ _ ⟨(blk_cell BK464.out 0).trans rfl, (blk_cell BK464.out 1).trans rfl, (blk_cell BK464.out 2).trans rfl, ((HB.out.cell (World.block_lt_of_cell? w _ hw488_0)).trans hw488_0), ((HB.out.cell (World.block_lt_of_cell? w _ hw488_1)).trans hw488_1), ((HB.out.cell (World.block_lt_of_cell? w _ hw488_2)).trans hw488_2), ((HB.out.cell (World.block_lt_of_cell? w _ hw488_3)).trans hw488_3), ((HB.out.cell (World.block_lt_of_cell? w _ hw488_4)).trans hw488_4), ((HB.out.cell (World.block_lt_of_cell? w _ hw488_5)).trans hw488_5)⟩ (fun hHeld => ?_)
                           clear hK K
                           refine norm_ (a' := ?_) ?_ ?_
                           rotate_left
                           ·show Act.put _ (some 17) _ = _
                            simp only [Act.put, List.setIfInBounds_toArray, List.set_cons_zero, List.set_cons_succ, i64_w, i32_w]
                            rfl
                           exact norm_ (by simp only [putAll, Act.put, List.setIfInBounds_toArray, List.set_cons_zero, List.set_cons_succ]) (hCont (gb489) _ ⟨hHeld, (by (with_reducible repeat (first | apply Kd.S_alloc | apply Kd.S_drewN | apply Kd.S_drew)); exact HO_479000.out), (by (with_reducible repeat (first | apply Kd.R_alloc | apply Kd.R_drewN | apply Kd.R_drew)); exact HO_8.out), (by (with_reducible repeat (first | refine blk_drewN ?_ _ | refine blk_drew ?_ | refine blk_alloc ?_ _)); exact BK464.out), (by (with_reducible repeat (first | refine blk_drewN ?_ _ | refine blk_drew ?_ | refine blk_alloc ?_ _)); exact BK478.out), (by (with_reducible repeat (first | refine blk_drewN ?_ _ | refine blk_drew ?_ | refine blk_alloc ?_ _)); exact BK489.out), GW489.out, GE489.out, NB464_489.out, NB489_464.out, NB478_489.out, NB489_478.out, (by repeat (first | (with_reducible first | exact HB.out | apply below_alloc | apply pw_below_drewN | apply below_drew1 | refine below_set ?_ GE464.out | refine below_set ?_ GE478.out | refine below_set ?_ GE489.out) | exact HB.out))⟩)
                          ·skip
                           refine box_step ?hg (N := 17) ?hd (cs := #[.int .i64 0, .int .i64 0, .slice none 0 0, .string (⟨#[]⟩ : ByteArray), .int .i64 0, .int .i64 0]) (t := 44) ?hr ?_; (case hd => rfl); (case hg => rfl); (case hr => first | (go_simp; done) | (go_simp; rfl))
                           intro gb489 hg w83 hbox hb
                           have n0_ := Aside0.mk (Kd.R_below (by (with_reducible repeat (first | apply Kd.R_alloc | apply Kd.R_drewN | apply Kd.R_drew)); exact HO_8.out) hb)
                           have n1_ := Aside0.mk (Kd.S_below (Kd.S_elderB (by (with_reducible repeat (first | apply Kd.S_alloc | apply Kd.S_drewN | apply Kd.S_drew)); exact HO_479000.out) gb489 (Nat.le_of_eq hg.symm)) hb)
                           have n2_ := Aside0.mk (blk_below (g := gb464) (o := .cells #[.slice (some ad488) l0_0.length c0_0, .int .i64 a0_1, .int .i64 a0_2] 24 (0, 0)) (by (with_reducible repeat (first | refine blk_drewN ?_ _ | refine blk_drew ?_ | refine blk_alloc ?_ _)); exact BK464.out) hb)
                           have n3_ := Aside0.mk (blk_below (g := gb478) (o := .cells #[.slice Ao49 t469.length co49, .int .i64 t472, .int .i64 t473] 24 (0, 0)) (by (with_reducible repeat (first | refine blk_drewN ?_ _ | refine blk_drew ?_ | refine blk_alloc ?_ _)); exact BK478.out) hb)
                           have n4_ := Aside0.mk (below_step (by repeat (first | (with_reducible first | exact HB.out | apply below_alloc | apply pw_below_drewN | apply below_drew1 | refine below_set ?_ GE464.out | refine below_set ?_ GE478.out) | exact HB.out)) hb)
                           have n5_ := Aside0.mk (hbox)
                           have n6_ := Aside0.mk ((by rw [hg]; exact (below_size (by repeat (first | (with_reducible first | exact HB.out | apply below_alloc | apply pw_below_drewN | apply below_drew1 | refine below_set ?_ GE464.out | refine below_set ?_ GE478.out) | exact HB.out))) : w.heap.size ≤ gb489))
                           have n7_ := Aside0.mk ((by rw [hg]; exact (below_size (by repeat (first | (with_reducible first | exact HB.out | apply below_alloc | apply pw_below_drewN | apply below_drew1 | refine below_set ?_ GE464.out | refine below_set ?_ GE478.out) | exact HB.out))) : w.heap.size ≤ gb489))
                           have n8_ := Aside0.mk ((by rw [hg]; exact Nat.ne_of_lt (blk_lt (g := gb464) (o := .cells #[.slice (some ad488) l0_0.length c0_0, .int .i64 a0_1, .int .i64 a0_2] 24 (0, 0)) (by (with_reducible repeat (first | refine blk_drewN ?_ _ | refine blk_drew ?_ | refine blk_alloc ?_ _)); exact BK464.out)) : gb464 ≠ gb489))
                           have n9_ := Aside0.mk ((by rw [hg]; exact Nat.ne_of_gt (blk_lt (g := gb464) (o := .cells #[.slice (some ad488) l0_0.length c0_0, .int .i64 a0_1, .int .i64 a0_2] 24 (0, 0)) (by (with_reducible repeat (first | refine blk_drewN ?_ _ | refine blk_drew ?_ | refine blk_alloc ?_ _)); exact BK464.out)) : gb489 ≠ gb464))
                           have n10_ := Aside0.mk ((by rw [hg]; exact Nat.ne_of_lt (blk_lt (g := gb478) (o := .cells #[.slice Ao49 t469.length co49, .int .i64 t472, .int .i64 t473] 24 (0, 0)) (by (with_reducible repeat (first | refine blk_drewN ?_ _ | refine blk_drew ?_ | refine blk_alloc ?_ _)); exact BK478.out)) : gb478 ≠ gb489))
                           have n11_ := Aside0.mk ((by rw [hg]; exact Nat.ne_of_gt (blk_lt (g := gb478) (o := .cells #[.slice Ao49 t469.length co49, .int .i64 t472, .int .i64 t473] 24 (0, 0)) (by (with_reducible repeat (first | refine blk_drewN ?_ _ | refine blk_drew ?_ | refine blk_alloc ?_ _)); exact BK478.out)) : gb489 ≠ gb478))
                           clear HO_8
                           clear HO_479000
                           clear BK464
                           clear BK478
                           clear HB
                           have HO_8 := n0_
                           have HO_479000 := n1_
                           have BK464 := n2_
                           have BK478 := n3_
                           have HB := n4_
                           have BK489 := n5_
                           have GW489 := n6_
                           have GE489 := n7_
                           have NB464_489 := n8_
                           have NB489_464 := n9_
                           have NB478_489 := n10_
                           have NB489_478 := n11_
                           clear n0_ n1_ n2_ n3_ n4_ n5_ n6_ n7_ n8_ n9_ n10_ n11_
                           clear hb hbox hg
                           refine hK.out _ _ ⟨(blk_cell BK464.out 0).trans rfl, (blk_cell BK464.out 1).trans rfl, (blk_cell BK464.out 2).trans rfl, ((HB.out.cell (World.block_lt_of_cell? w _ hw488_0)).trans hw488_0), ((HB.out.cell (World.block_lt_of_cell? w _ hw488_1)).trans hw488_1), ((HB.out.cell (World.block_lt_of_cell? w _ hw488_2)).trans hw488_2), ((HB.out.cell (World.block_lt_of_cell? w _ hw488_3)).trans hw488_3), ((HB.out.cell (World.block_lt_of_cell? w _ hw488_4)).trans hw488_4), ((HB.out.cell (World.block_lt_of_cell? w _ hw488_5)).trans hw488_5)⟩ (fun hHeld => ?_)
                           clear hK K
                           refine norm_ (a' := ?_) ?_ ?_
                           rotate_left
                           ·show Act.put _ (some 17) _ = _
                            simp only [Act.put, List.setIfInBounds_toArray, List.set_cons_zero, List.set_cons_succ, i64_w, i32_w]
                            rfl
                           refine one_ (i := 4) (N := some 108) #[true, true, true, true, true, false, false, true, false] rfl rfl (one_of HT_.out (by kernel_rfl)) (by decide) (fun K hK => ?_)
                           refine goes_ Try.func22 (by kernel_rfl) rfl #[.agg #[.slice (some ad488) l0_0.length c0_0, .int .i64 a0_1, .int .i64 a0_2], .int .i64 t480] (by rfl) rfl rfl (by (try simp only [List.map_toArray, List.map_cons, List.map_nil]); first | done | rfl | (simp only [List.length_drop, List.length_take]; rfl)) ?_
                           with_reducible refine (anamnesisref03_Ref.calls _ _ l0_0 a0_1 a0_2 t480 t487 _ ?side1 ?side2 A69.out).mono ?_
                           (case side1 => repeat (first | exact (Kd.C_below HR0_0.out HB.out) | (with_reducible refine Kd.C_alloc ?_ _) | (with_reducible refine Kd.C_drewN ?_ _) | (with_reducible refine Kd.C_drew ?_)))
                           (case side2 => exact HC0_0.out)
                           rintro e w84 ⟨rfl, hb⟩
                           refine ⟨_, rfl, ?_⟩
                           have n0_ := Aside0.mk (Kd.R_below (by (with_reducible repeat (first | apply Kd.R_alloc | apply Kd.R_drewN | apply Kd.R_drew)); exact HO_8.out) hb)
                           have n1_ := Aside0.mk (Kd.S_below (by (with_reducible repeat (first | apply Kd.S_alloc | apply Kd.S_drewN | apply Kd.S_drew)); exact HO_479000.out) hb)
                           have n2_ := Aside0.mk (blk_below (g := gb464) (o := .cells #[.slice (some ad488) l0_0.length c0_0, .int .i64 a0_1, .int .i64 a0_2] 24 (0, 0)) (by (with_reducible repeat (first | refine blk_drewN ?_ _ | refine blk_drew ?_ | refine blk_alloc ?_ _)); exact BK464.out) hb)
                           have n3_ := Aside0.mk (blk_below (g := gb478) (o := .cells #[.slice Ao49 t469.length co49, .int .i64 t472, .int .i64 t473] 24 (0, 0)) (by (with_reducible repeat (first | refine blk_drewN ?_ _ | refine blk_drew ?_ | refine blk_alloc ?_ _)); exact BK478.out) hb)
                           have n4_ := Aside0.mk (blk_below (g := gb489) (o := .cells #[.int .i64 0, .int .i64 0, .slice none 0 0, .string (⟨#[]⟩ : ByteArray), .int .i64 0, .int .i64 0] 44 (0, 0)) (by (with_reducible repeat (first | refine blk_drewN ?_ _ | refine blk_drew ?_ | refine blk_alloc ?_ _)); exact BK489.out) hb)
                           have n5_ := Aside0.mk (below_step (by repeat (first | (with_reducible first | exact HB.out | apply below_alloc | apply pw_below_drewN | apply below_drew1 | refine below_set ?_ GE464.out | refine below_set ?_ GE478.out | refine below_set ?_ GE489.out) | exact HB.out)) hb)
                           clear HO_8
                           clear HO_479000
                           clear BK464
                           clear BK478
                           clear BK489
                           clear HB
                           have HO_8 := n0_
                           have HO_479000 := n1_
                           have BK464 := n2_
                           have BK478 := n3_
                           have BK489 := n4_
                           have HB := n5_
                           clear n0_ n1_ n2_ n3_ n4_ n5_
                           (try clear hb)
                           (try clear hb2)
                           (try clear hk)
                           (try clear hi)
                           refine hK.out _ _ ⟨(blk_cell BK464.out 0).trans rfl, (blk_cell BK464.out 1).trans rfl, (blk_cell BK464.out 2).trans rfl, ((HB.out.cell (World.block_lt_of_cell? w _ hw488_0)).trans hw488_0), ((HB.out.cell (World.block_lt_of_cell? w _ hw488_1)).trans hw488_1), ((HB.out.cell (World.block_lt_of_cell? w _ hw488_2)).trans hw488_2), ((HB.out.cell (World.block_lt_of_cell? w _ hw488_3)).trans hw488_3), ((HB.out.cell (World.block_lt_of_cell? w _ hw488_4)).trans hw488_4), ((HB.out.cell (World.block_lt_of_cell? w _ hw488_5)).trans hw488_5)⟩ (fun hHeld => ?_)
                           clear hK K
                           refine norm_ (a' := ?_) ?_ ?_
                           rotate_left
                           ·show Act.put _ (some 108) _ = _
                            simp only [Act.put, List.setIfInBounds_toArray, List.set_cons_zero, List.set_cons_succ, i64_w, i32_w]
                            rfl
                           refine pure1 (i := 5) (N := some 109) #[true, true, true, true, true, true, false, true, false] HT_.out ?_
                           refine take1 (i := 6) (N := some 110) #[true, true, true, true, true, true, true, true, false] HT_.out HW_.out hHeld ?_
                           exact norm_ (by simp only [putAll, Act.put, List.setIfInBounds_toArray, List.set_cons_zero, List.set_cons_succ]) (hCont (gb489) _ ⟨hHeld, (by (with_reducible repeat (first | apply Kd.S_alloc | apply Kd.S_drewN | apply Kd.S_drew)); exact HO_479000.out), (by (with_reducible repeat (first | apply Kd.R_alloc | apply Kd.R_drewN | apply Kd.R_drew)); exact HO_8.out), (by (with_reducible repeat (first | refine blk_drewN ?_ _ | refine blk_drew ?_ | refine blk_alloc ?_ _)); exact BK464.out), (by (with_reducible repeat (first | refine blk_drewN ?_ _ | refine blk_drew ?_ | refine blk_alloc ?_ _)); exact BK478.out), (by (with_reducible repeat (first | refine blk_drewN ?_ _ | refine blk_drew ?_ | refine blk_alloc ?_ _)); exact BK489.out), GW489.out, GE489.out, NB464_489.out, NB489_464.out, NB478_489.out, NB489_478.out, (by repeat (first | (with_reducible first | exact HB.out | apply below_alloc | apply pw_below_drewN | apply below_drew1 | refine below_set ?_ GE464.out | refine below_set ?_ GE478.out | refine below_set ?_ GE489.out) | exact HB.out))⟩)
                         rintro gb489 w85 ⟨hS_, h0_, h1_, h2_, h3_, h4_, h5_, h6_, h7_, h8_, h9_, h10_, h11_⟩
                         have n0_ : Aside0 (Kd.S k44 44 w85 w.heap.size (fun k_ => some k_ ≠ (.slice (some ad482) t474.length co61 : Value).ownBlock ∧ k_ ≠ gb489) (.slice Ao49 t469.length co49) t469) := ⟨h0_⟩
                         have n1_ : Aside0 (Kd.R (Kd.int .i64) 3 w85 w.heap.size (fun _ => True) (.slice (some ad482) t474.length co61) t474) := ⟨h1_⟩
                         have n2_ : Aside0 (w85.heap[gb464]? = some (.cells #[.slice (some ad488) l0_0.length c0_0, .int .i64 a0_1, .int .i64 a0_2] 24 (0, 0))) := ⟨h2_⟩
                         have n3_ : Aside0 (w85.heap[gb478]? = some (.cells #[.slice Ao49 t469.length co49, .int .i64 t472, .int .i64 t473] 24 (0, 0))) := ⟨h3_⟩
                         have n4_ : Aside0 (w85.heap[gb489]? = some (.cells #[.int .i64 0, .int .i64 0, .slice none 0 0, .string (⟨#[]⟩ : ByteArray), .int .i64 0, .int .i64 0] 44 (0, 0))) := ⟨h4_⟩
                         have n5_ : Aside0 (w.heap.size ≤ gb489) := ⟨h5_⟩
                         have n6_ : Aside0 (w.heap.size ≤ gb489) := ⟨h6_⟩
                         have n7_ : Aside0 (gb464 ≠ gb489) := ⟨h7_⟩
                         have n8_ : Aside0 (gb489 ≠ gb464) := ⟨h8_⟩
                         have n9_ : Aside0 (gb478 ≠ gb489) := ⟨h9_⟩
                         have n10_ : Aside0 (gb489 ≠ gb478) := ⟨h10_⟩
                         have n11_ : Aside0 (Below w.heap.size w w85) := ⟨h11_⟩
                         clear HO_8
                         clear HO_479000
                         clear BK464
                         clear BK478
                         clear HB
                         clear h0_ h1_ h2_ h3_ h4_ h5_ h6_ h7_ h8_ h9_ h10_ h11_
                         have HO_479000 := n0_
                         have HO_8 := n1_
                         have BK464 := n2_
                         have BK478 := n3_
                         have BK489 := n4_
                         have GW489 := n5_
                         have GE489 := n6_
                         have NB464_489 := n7_
                         have NB489_464 := n8_
                         have NB478_489 := n9_
                         have NB489_478 := n10_
                         have HB := n11_
                         clear n0_ n1_ n2_ n3_ n4_ n5_ n6_ n7_ n8_ n9_ n10_ n11_
                         have hHeld : w85.cell? ⟨gb464, 0, none⟩ = some (.slice (some ad488) l0_0.length c0_0) ∧ w85.cell? ⟨gb464, 1, none⟩ = some (.int .i64 a0_1) ∧ w85.cell? ⟨gb464, 2, none⟩ = some (.int .i64 a0_2) ∧ w85.cell? (ad488.add ((t487).toNat * 6)) = some (.int .i64 ((rd_T44 l0_0 t487).f0)) ∧ w85.cell? ⟨(ad488.add ((t487).toNat * 6)).block, (ad488.add ((t487).toNat * 6)).off + 1, none⟩ = some (.int .i64 ((rd_T44 l0_0 t487).f1)) ∧ w85.cell? ⟨(ad488.add ((t487).toNat * 6)).block, (ad488.add ((t487).toNat * 6)).off + 2, none⟩ = some (.slice A488_2 ((rd_T44 l0_0 t487).f2).length c488_2) ∧ w85.cell? ⟨(ad488.add ((t487).toNat * 6)).block, (ad488.add ((t487).toNat * 6)).off + 3, none⟩ = some (.string ((rd_T44 l0_0 t487).f3)) ∧ w85.cell? ⟨(ad488.add ((t487).toNat * 6)).block, (ad488.add ((t487).toNat * 6)).off + 4, none⟩ = some (.int .i64 ((rd_T44 l0_0 t487).f4)) ∧ w85.cell? ⟨(ad488.add ((t487).toNat * 6)).block, (ad488.add ((t487).toNat * 6)).off + 5, none⟩ = some (.int .i64 ((rd_T44 l0_0 t487).f5)) := hS_
                         refine norm_ (a' := ?_) ?_ ?_
                         rotate_left
                         ·simp only [putAll, Act.put, List.setIfInBounds_toArray, List.set_cons_zero, List.set_cons_succ]
                          rfl
                         refine one_ (i := 8) (N := none) #[true, true, true, true, true, true, true, true, true] rfl rfl (one_of HT_.out (by kernel_rfl)) (by decide) (fun K hK => ?_)
                         have hs86 : w85.cell? ⟨gb489, 0, none⟩ = some (.int .i64 0) := (blk_cell BK489.out 0).trans rfl
                         have hfs86 := blk_frozen BK489.out 0
                         have hns86_0 := NB464_489.out
                         have hns86_1 := NB478_489.out
                         have hms86_0 := NB489_464.out
                         have hms86_1 := NB489_478.out
                         have hs87 : w85.cell? ⟨gb489, 1, none⟩ = some (.int .i64 0) := (blk_cell BK489.out 1).trans rfl
                         have hfs87 := blk_frozen BK489.out 1
                         have hns87_0 := NB464_489.out
                         have hns87_1 := NB478_489.out
                         have hms87_0 := NB489_464.out
                         have hms87_1 := NB489_478.out
                         have hs88 : w85.cell? ⟨gb489, 2, none⟩ = some (.slice none 0 0) := (blk_cell BK489.out 2).trans rfl
                         have hfs88 := blk_frozen BK489.out 2
                         have hns88_0 := NB464_489.out
                         have hns88_1 := NB478_489.out
                         have hms88_0 := NB489_464.out
                         have hms88_1 := NB489_478.out
                         have hs89 : w85.cell? ⟨gb489, 3, none⟩ = some (.string (⟨#[]⟩ : ByteArray)) := (blk_cell BK489.out 3).trans rfl
                         have hfs89 := blk_frozen BK489.out 3
                         have hns89_0 := NB464_489.out
                         have hns89_1 := NB478_489.out
                         have hms89_0 := NB489_464.out
                         have hms89_1 := NB489_478.out
                         have hs90 : w85.cell? ⟨gb489, 4, none⟩ = some (.int .i64 0) := (blk_cell BK489.out 4).trans rfl
                         have hfs90 := blk_frozen BK489.out 4
                         have hns90_0 := NB464_489.out
                         have hns90_1 := NB478_489.out
                         have hms90_0 := NB489_464.out
                         have hms90_1 := NB489_478.out
                         have hs91 : w85.cell? ⟨gb489, 5, none⟩ = some (.int .i64 0) := (blk_cell BK489.out 5).trans rfl
                         have hfs91 := blk_frozen BK489.out 5
                         have hns91_0 := NB464_489.out
                         have hns91_1 := NB478_489.out
                         have hms91_0 := NB489_464.out
                         have hms91_1 := NB489_478.out
                         refine skip_ (w1 := ?_) (by rfl) rfl ?_ ?_
                         rotate_left
                         ·go_simp
                          rfl
                         refine hK.out _ _ ⟨((cell_far (p := ⟨gb489, _, none⟩) NB464_489.out _).trans (((cell_far (p := ⟨gb489, _, none⟩) NB464_489.out _).trans (((cell_far (p := ⟨gb489, _, none⟩) NB464_489.out _).trans (((cell_far (p := ⟨gb489, _, none⟩) NB464_489.out _).trans (((cell_far (p := ⟨gb489, _, none⟩) NB464_489.out _).trans (((cell_far (p := ⟨gb489, _, none⟩) NB464_489.out _).trans (hHeld.1)))))))))))), ((cell_far (p := ⟨gb489, _, none⟩) NB464_489.out _).trans (((cell_far (p := ⟨gb489, _, none⟩) NB464_489.out _).trans (((cell_far (p := ⟨gb489, _, none⟩) NB464_489.out _).trans (((cell_far (p := ⟨gb489, _, none⟩) NB464_489.out _).trans (((cell_far (p := ⟨gb489, _, none⟩) NB464_489.out _).trans (((cell_far (p := ⟨gb489, _, none⟩) NB464_489.out _).trans (hHeld.2.1)))))))))))), ((cell_far (p := ⟨gb489, _, none⟩) NB464_489.out _).trans (((cell_far (p := ⟨gb489, _, none⟩) NB464_489.out _).trans (((cell_far (p := ⟨gb489, _, none⟩) NB464_489.out _).trans (((cell_far (p := ⟨gb489, _, none⟩) NB464_489.out _).trans (((cell_far (p := ⟨gb489, _, none⟩) NB464_489.out _).trans (((cell_far (p := ⟨gb489, _, none⟩) NB464_489.out _).trans (hHeld.2.2.1)))))))))))), ((cell_far (p := ⟨gb489, _, none⟩) (by first | exact Nat.ne_of_lt (Nat.lt_of_lt_of_le (by have := World.block_lt_of_cell? _ _ hw488_0; first | rwa [add_block] at this | exact this) GW489.out) | (rw [add_block]; exact Nat.ne_of_lt (Nat.lt_of_lt_of_le (by have := World.block_lt_of_cell? _ _ hw488_0; first | rwa [add_block] at this | exact this) GW489.out)) | (show (Addr.add _ _).block ≠ _; rw [add_block]; exact Nat.ne_of_lt (Nat.lt_of_lt_of_le (by have := World.block_lt_of_cell? _ _ hw488_0; first | rwa [add_block] at this | exact this) GW489.out)) | (dsimp only; exact Nat.ne_of_lt (Nat.lt_of_lt_of_le (by have := World.block_lt_of_cell? _ _ hw488_0; first | rwa [add_block] at this | exact this) GW489.out))) _).trans (((cell_far (p := ⟨gb489, _, none⟩) (by first | exact Nat.ne_of_lt (Nat.lt_of_lt_of_le (by have := World.block_lt_of_cell? _ _ hw488_0; first | rwa [add_block] at this | exact this) GW489.out) | (rw [add_block]; exact Nat.ne_of_lt (Nat.lt_of_lt_of_le (by have := World.block_lt_of_cell? _ _ hw488_0; first | rwa [add_block] at this | exact this) GW489.out)) | (show (Addr.add _ _).block ≠ _; rw [add_block]; exact Nat.ne_of_lt (Nat.lt_of_lt_of_le (by have := World.block_lt_of_cell? _ _ hw488_0; first | rwa [add_block] at this | exact this) GW489.out)) | (dsimp only; exact Nat.ne_of_lt (Nat.lt_of_lt_of_le (by have := World.block_lt_of_cell? _ _ hw488_0; first | rwa [add_block] at this | exact this) GW489.out))) _).trans (((cell_far (p := ⟨gb489, _, none⟩) (by first | exact Nat.ne_of_lt (Nat.lt_of_lt_of_le (by have := World.block_lt_of_cell? _ _ hw488_0; first | rwa [add_block] at this | exact this) GW489.out) | (rw [add_block]; exact Nat.ne_of_lt (Nat.lt_of_lt_of_le (by have := World.block_lt_of_cell? _ _ hw488_0; first | rwa [add_block] at this | exact this) GW489.out)) | (show (Addr.add _ _).block ≠ _; rw [add_block]; exact Nat.ne_of_lt (Nat.lt_of_lt_of_le (by have := World.block_lt_of_cell? _ _ hw488_0; first | rwa [add_block] at this | exact this) GW489.out)) | (dsimp only; exact Nat.ne_of_lt (Nat.lt_of_lt_of_le (by have := World.block_lt_of_cell? _ _ hw488_0; first | rwa [add_block] at this | exact this) GW489.out))) _).trans (((cell_far (p := ⟨gb489, _, none⟩) (by first | exact Nat.ne_of_lt (Nat.lt_of_lt_of_le (by have := World.block_lt_of_cell? _ _ hw488_0; first | rwa [add_block] at this | exact this) GW489.out) | (rw [add_block]; exact Nat.ne_of_lt (Nat.lt_of_lt_of_le (by have := World.block_lt_of_cell? _ _ hw488_0; first | rwa [add_block] at this | exact this) GW489.out)) | (show (Addr.add _ _).block ≠ _; rw [add_block]; exact Nat.ne_of_lt (Nat.lt_of_lt_of_le (by have := World.block_lt_of_cell? _ _ hw488_0; first | rwa [add_block] at this | exact this) GW489.out)) | (dsimp only; exact Nat.ne_of_lt (Nat.lt_of_lt_of_le (by have := World.block_lt_of_cell? _ _ hw488_0; first | rwa [add_block] at this | exact this) GW489.out))) _).trans (((cell_far (p := ⟨gb489, _, none⟩) (by first | exact Nat.ne_of_lt (Nat.lt_of_lt_of_le (by have := World.block_lt_of_cell? _ _ hw488_0; first | rwa [add_block] at this | exact this) GW489.out) | (rw [add_block]; exact Nat.ne_of_lt (Nat.lt_of_lt_of_le (by have := World.block_lt_of_cell? _ _ hw488_0; first | rwa [add_block] at this | exact this) GW489.out)) | (show (Addr.add _ _).block ≠ _; rw [add_block]; exact Nat.ne_of_lt (Nat.lt_of_lt_of_le (by have := World.block_lt_of_cell? _ _ hw488_0; first | rwa [add_block] at this | exact this) GW489.out)) | (dsimp only; exact Nat.ne_of_lt (Nat.lt_of_lt_of_le (by have := World.block_lt_of_cell? _ _ hw488_0; first | rwa [add_block] at this | exact this) GW489.out))) _).trans (((cell_far (p := ⟨gb489, _, none⟩) (by first | exact Nat.ne_of_lt (Nat.lt_of_lt_of_le (by have := World.block_lt_of_cell? _ _ hw488_0; first | rwa [add_block] at this | exact this) GW489.out) | (rw [add_block]; exact Nat.ne_of_lt (Nat.lt_of_lt_of_le (by have := World.block_lt_of_cell? _ _ hw488_0; first | rwa [add_block] at this | exact this) GW489.out)) | (show (Addr.add _ _).block ≠ _; rw [add_block]; exact Nat.ne_of_lt (Nat.lt_of_lt_of_le (by have := World.block_lt_of_cell? _ _ hw488_0; first | rwa [add_block] at this | exact this) GW489.out)) | (dsimp only; exact Nat.ne_of_lt (Nat.lt_of_lt_of_le (by have := World.block_lt_of_cell? _ _ hw488_0; first | rwa [add_block] at this | exact this) GW489.out))) _).trans (hHeld.2.2.2.1)))))))))))), ((cell_far (p := ⟨gb489, _, none⟩) (by first | exact Nat.ne_of_lt (Nat.lt_of_lt_of_le (by have := World.block_lt_of_cell? _ _ hw488_1; first | rwa [add_block] at this | exact this) GW489.out) | (rw [add_block]; exact Nat.ne_of_lt (Nat.lt_of_lt_of_le (by have := World.block_lt_of_cell? _ _ hw488_1; first | rwa [add_block] at this | exact this) GW489.out)) | (show (Addr.add _ _).block ≠ _; rw [add_block]; exact Nat.ne_of_lt (Nat.lt_of_lt_of_le (by have := World.block_lt_of_cell? _ _ hw488_1; first | rwa [add_block] at this | exact this) GW489.out)) | (dsimp only; exact Nat.ne_of_lt (Nat.lt_of_lt_of_le (by have := World.block_lt_of_cell? _ _ hw488_1; first | rwa [add_block] at this | exact this) GW489.out))) _).trans (((cell_far (p := ⟨gb489, _, none⟩) (by first | exact Nat.ne_of_lt (Nat.lt_of_lt_of_le (by have := World.block_lt_of_cell? _ _ hw488_1; first | rwa [add_block] at this | exact this) GW489.out) | (rw [add_block]; exact Nat.ne_of_lt (Nat.lt_of_lt_of_le (by have := World.block_lt_of_cell? _ _ hw488_1; first | rwa [add_block] at this | exact this) GW489.out)) | (show (Addr.add _ _).block ≠ _; rw [add_block]; exact Nat.ne_of_lt (Nat.lt_of_lt_of_le (by have := World.block_lt_of_cell? _ _ hw488_1; first | rwa [add_block] at this | exact this) GW489.out)) | (dsimp only; exact Nat.ne_of_lt (Nat.lt_of_lt_of_le (by have := World.block_lt_of_cell? _ _ hw488_1; first | rwa [add_block] at this | exact this) GW489.out))) _).trans (((cell_far (p := ⟨gb489, _, none⟩) (by first | exact Nat.ne_of_lt (Nat.lt_of_lt_of_le (by have := World.block_lt_of_cell? _ _ hw488_1; first | rwa [add_block] at this | exact this) GW489.out) | (rw [add_block]; exact Nat.ne_of_lt (Nat.lt_of_lt_of_le (by have := World.block_lt_of_cell? _ _ hw488_1; first | rwa [add_block] at this | exact this) GW489.out)) | (show (Addr.add _ _).block ≠ _; rw [add_block]; exact Nat.ne_of_lt (Nat.lt_of_lt_of_le (by have := World.block_lt_of_cell? _ _ hw488_1; first | rwa [add_block] at this | exact this) GW489.out)) | (dsimp only; exact Nat.ne_of_lt (Nat.lt_of_lt_of_le (by have := World.block_lt_of_cell? _ _ hw488_1; first | rwa [add_block] at this | exact this) GW489.out))) _).trans (((cell_far (p := ⟨gb489, _, none⟩) (by first | exact Nat.ne_of_lt (Nat.lt_of_lt_of_le (by have := World.block_lt_of_cell? _ _ hw488_1; first | rwa [add_block] at this | exact this) GW489.out) | (rw [add_block]; exact Nat.ne_of_lt (Nat.lt_of_lt_of_le (by have := World.block_lt_of_cell? _ _ hw488_1; first | rwa [add_block] at this | exact this) GW489.out)) | (show (Addr.add _ _).block ≠ _; rw [add_block]; exact Nat.ne_of_lt (Nat.lt_of_lt_of_le (by have := World.block_lt_of_cell? _ _ hw488_1; first | rwa [add_block] at this | exact this) GW489.out)) | (dsimp only; exact Nat.ne_of_lt (Nat.lt_of_lt_of_le (by have := World.block_lt_of_cell? _ _ hw488_1; first | rwa [add_block] at this | exact this) GW489.out))) _).trans (((cell_far (p := ⟨gb489, _, none⟩) (by first | exact Nat.ne_of_lt (Nat.lt_of_lt_of_le (by have := World.block_lt_of_cell? _ _ hw488_1; first | rwa [add_block] at this | exact this) GW489.out) | (rw [add_block]; exact Nat.ne_of_lt (Nat.lt_of_lt_of_le (by have := World.block_lt_of_cell? _ _ hw488_1; first | rwa [add_block] at this | exact this) GW489.out)) | (show (Addr.add _ _).block ≠ _; rw [add_block]; exact Nat.ne_of_lt (Nat.lt_of_lt_of_le (by have := World.block_lt_of_cell? _ _ hw488_1; first | rwa [add_block] at this | exact this) GW489.out)) | (dsimp only; exact Nat.ne_of_lt (Nat.lt_of_lt_of_le (by have := World.block_lt_of_cell? _ _ hw488_1; first | rwa [add_block] at this | exact this) GW489.out))) _).trans (((cell_far (p := ⟨gb489, _, none⟩) (by first | exact Nat.ne_of_lt (Nat.lt_of_lt_of_le (by have := World.block_lt_of_cell? _ _ hw488_1; first | rwa [add_block] at this | exact this) GW489.out) | (rw [add_block]; exact Nat.ne_of_lt (Nat.lt_of_lt_of_le (by have := World.block_lt_of_cell? _ _ hw488_1; first | rwa [add_block] at this | exact this) GW489.out)) | (show (Addr.add _ _).block ≠ _; rw [add_block]; exact Nat.ne_of_lt (Nat.lt_of_lt_of_le (by have := World.block_lt_of_cell? _ _ hw488_1; first | rwa [add_block] at this | exact this) GW489.out)) | (dsimp only; exact Nat.ne_of_lt (Nat.lt_of_lt_of_le (by have := World.block_lt_of_cell? _ _ hw488_1; first | rwa [add_block] at this | exact this) GW489.out))) _).trans (hHeld.2.2.2.2.1)))))))))))), ((cell_far (p := ⟨gb489, _, none⟩) (by first | exact Nat.ne_of_lt (Nat.lt_of_lt_of_le (by have := World.block_lt_of_cell? _ _ hw488_2; first | rwa [add_block] at this | exact this) GW489.out) | (rw [add_block]; exact Nat.ne_of_lt (Nat.lt_of_lt_of_le (by have := World.block_lt_of_cell? _ _ hw488_2; first | rwa [add_block] at this | exact this) GW489.out)) | (show (Addr.add _ _).block ≠ _; rw [add_block]; exact Nat.ne_of_lt (Nat.lt_of_lt_of_le (by have := World.block_lt_of_cell? _ _ hw488_2; first | rwa [add_block] at this | exact this) GW489.out)) | (dsimp only; exact Nat.ne_of_lt (Nat.lt_of_lt_of_le (by have := World.block_lt_of_cell? _ _ hw488_2; first | rwa [add_block] at this | exact this) GW489.out))) _).trans (((cell_far (p := ⟨gb489, _, none⟩) (by first | exact Nat.ne_of_lt (Nat.lt_of_lt_of_le (by have := World.block_lt_of_cell? _ _ hw488_2; first | rwa [add_block] at this | exact this) GW489.out) | (rw [add_block]; exact Nat.ne_of_lt (Nat.lt_of_lt_of_le (by have := World.block_lt_of_cell? _ _ hw488_2; first | rwa [add_block] at this | exact this) GW489.out)) | (show (Addr.add _ _).block ≠ _; rw [add_block]; exact Nat.ne_of_lt (Nat.lt_of_lt_of_le (by have := World.block_lt_of_cell? _ _ hw488_2; first | rwa [add_block] at this | exact this) GW489.out)) | (dsimp only; exact Nat.ne_of_lt (Nat.lt_of_lt_of_le (by have := World.block_lt_of_cell? _ _ hw488_2; first | rwa [add_block] at this | exact this) GW489.out))) _).trans (((cell_far (p := ⟨gb489, _, none⟩) (by first | exact Nat.ne_of_lt (Nat.lt_of_lt_of_le (by have := World.block_lt_of_cell? _ _ hw488_2; first | rwa [add_block] at this | exact this) GW489.out) | (rw [add_block]; exact Nat.ne_of_lt (Nat.lt_of_lt_of_le (by have := World.block_lt_of_cell? _ _ hw488_2; first | rwa [add_block] at this | exact this) GW489.out)) | (show (Addr.add _ _).block ≠ _; rw [add_block]; exact Nat.ne_of_lt (Nat.lt_of_lt_of_le (by have := World.block_lt_of_cell? _ _ hw488_2; first | rwa [add_block] at this | exact this) GW489.out)) | (dsimp only; exact Nat.ne_of_lt (Nat.lt_of_lt_of_le (by have := World.block_lt_of_cell? _ _ hw488_2; first | rwa [add_block] at this | exact this) GW489.out))) _).trans (((cell_far (p := ⟨gb489, _, none⟩) (by first | exact Nat.ne_of_lt (Nat.lt_of_lt_of_le (by have := World.block_lt_of_cell? _ _ hw488_2; first | rwa [add_block] at this | exact this) GW489.out) | (rw [add_block]; exact Nat.ne_of_lt (Nat.lt_of_lt_of_le (by have := World.block_lt_of_cell? _ _ hw488_2; first | rwa [add_block] at this | exact this) GW489.out)) | (show (Addr.add _ _).block ≠ _; rw [add_block]; exact Nat.ne_of_lt (Nat.lt_of_lt_of_le (by have := World.block_lt_of_cell? _ _ hw488_2; first | rwa [add_block] at this | exact this) GW489.out)) | (dsimp only; exact Nat.ne_of_lt (Nat.lt_of_lt_of_le (by have := World.block_lt_of_cell? _ _ hw488_2; first | rwa [add_block] at this | exact this) GW489.out))) _).trans (((cell_far (p := ⟨gb489, _, none⟩) (by first | exact Nat.ne_of_lt (Nat.lt_of_lt_of_le (by have := World.block_lt_of_cell? _ _ hw488_2; first | rwa [add_block] at this | exact this) GW489.out) | (rw [add_block]; exact Nat.ne_of_lt (Nat.lt_of_lt_of_le (by have := World.block_lt_of_cell? _ _ hw488_2; first | rwa [add_block] at this | exact this) GW489.out)) | (show (Addr.add _ _).block ≠ _; rw [add_block]; exact Nat.ne_of_lt (Nat.lt_of_lt_of_le (by have := World.block_lt_of_cell? _ _ hw488_2; first | rwa [add_block] at this | exact this) GW489.out)) | (dsimp only; exact Nat.ne_of_lt (Nat.lt_of_lt_of_le (by have := World.block_lt_of_cell? _ _ hw488_2; first | rwa [add_block] at this | exact this) GW489.out))) _).trans (((cell_far (p := ⟨gb489, _, none⟩) (by first | exact Nat.ne_of_lt (Nat.lt_of_lt_of_le (by have := World.block_lt_of_cell? _ _ hw488_2; first | rwa [add_block] at this | exact this) GW489.out) | (rw [add_block]; exact Nat.ne_of_lt (Nat.lt_of_lt_of_le (by have := World.block_lt_of_cell? _ _ hw488_2; first | rwa [add_block] at this | exact this) GW489.out)) | (show (Addr.add _ _).block ≠ _; rw [add_block]; exact Nat.ne_of_lt (Nat.lt_of_lt_of_le (by have := World.block_lt_of_cell? _ _ hw488_2; first | rwa [add_block] at this | exact this) GW489.out)) | (dsimp only; exact Nat.ne_of_lt (Nat.lt_of_lt_of_le (by have := World.block_lt_of_cell? _ _ hw488_2; first | rwa [add_block] at this | exact this) GW489.out))) _).trans (hHeld.2.2.2.2.2.1)))))))))))), ((cell_far (p := ⟨gb489, _, none⟩) (by first | exact Nat.ne_of_lt (Nat.lt_of_lt_of_le (by have := World.block_lt_of_cell? _ _ hw488_3; first | rwa [add_block] at this | exact this) GW489.out) | (rw [add_block]; exact Nat.ne_of_lt (Nat.lt_of_lt_of_le (by have := World.block_lt_of_cell? _ _ hw488_3; first | rwa [add_block] at this | exact this) GW489.out)) | (show (Addr.add _ _).block ≠ _; rw [add_block]; exact Nat.ne_of_lt (Nat.lt_of_lt_of_le (by have := World.block_lt_of_cell? _ _ hw488_3; first | rwa [add_block] at this | exact this) GW489.out)) | (dsimp only; exact Nat.ne_of_lt (Nat.lt_of_lt_of_le (by have := World.block_lt_of_cell? _ _ hw488_3; first | rwa [add_block] at this | exact this) GW489.out))) _).trans (((cell_far (p := ⟨gb489, _, none⟩) (by first | exact Nat.ne_of_lt (Nat.lt_of_lt_of_le (by have := World.block_lt_of_cell? _ _ hw488_3; first | rwa [add_block] at this | exact this) GW489.out) | (rw [add_block]; exact Nat.ne_of_lt (Nat.lt_of_lt_of_le (by have := World.block_lt_of_cell? _ _ hw488_3; first | rwa [add_block] at this | exact this) GW489.out)) | (show (Addr.add _ _).block ≠ _; rw [add_block]; exact Nat.ne_of_lt (Nat.lt_of_lt_of_le (by have := World.block_lt_of_cell? _ _ hw488_3; first | rwa [add_block] at this | exact this) GW489.out)) | (dsimp only; exact Nat.ne_of_lt (Nat.lt_of_lt_of_le (by have := World.block_lt_of_cell? _ _ hw488_3; first | rwa [add_block] at this | exact this) GW489.out))) _).trans (((cell_far (p := ⟨gb489, _, none⟩) (by first | exact Nat.ne_of_lt (Nat.lt_of_lt_of_le (by have := World.block_lt_of_cell? _ _ hw488_3; first | rwa [add_block] at this | exact this) GW489.out) | (rw [add_block]; exact Nat.ne_of_lt (Nat.lt_of_lt_of_le (by have := World.block_lt_of_cell? _ _ hw488_3; first | rwa [add_block] at this | exact this) GW489.out)) | (show (Addr.add _ _).block ≠ _; rw [add_block]; exact Nat.ne_of_lt (Nat.lt_of_lt_of_le (by have := World.block_lt_of_cell? _ _ hw488_3; first | rwa [add_block] at this | exact this) GW489.out)) | (dsimp only; exact Nat.ne_of_lt (Nat.lt_of_lt_of_le (by have := World.block_lt_of_cell? _ _ hw488_3; first | rwa [add_block] at this | exact this) GW489.out))) _).trans (((cell_far (p := ⟨gb489, _, none⟩) (by first | exact Nat.ne_of_lt (Nat.lt_of_lt_of_le (by have := World.block_lt_of_cell? _ _ hw488_3; first | rwa [add_block] at this | exact this) GW489.out) | (rw [add_block]; exact Nat.ne_of_lt (Nat.lt_of_lt_of_le (by have := World.block_lt_of_cell? _ _ hw488_3; first | rwa [add_block] at this | exact this) GW489.out)) | (show (Addr.add _ _).block ≠ _; rw [add_block]; exact Nat.ne_of_lt (Nat.lt_of_lt_of_le (by have := World.block_lt_of_cell? _ _ hw488_3; first | rwa [add_block] at this | exact this) GW489.out)) | (dsimp only; exact Nat.ne_of_lt (Nat.lt_of_lt_of_le (by have := World.block_lt_of_cell? _ _ hw488_3; first | rwa [add_block] at this | exact this) GW489.out))) _).trans (((cell_far (p := ⟨gb489, _, none⟩) (by first | exact Nat.ne_of_lt (Nat.lt_of_lt_of_le (by have := World.block_lt_of_cell? _ _ hw488_3; first | rwa [add_block] at this | exact this) GW489.out) | (rw [add_block]; exact Nat.ne_of_lt (Nat.lt_of_lt_of_le (by have := World.block_lt_of_cell? _ _ hw488_3; first | rwa [add_block] at this | exact this) GW489.out)) | (show (Addr.add _ _).block ≠ _; rw [add_block]; exact Nat.ne_of_lt (Nat.lt_of_lt_of_le (by have := World.block_lt_of_cell? _ _ hw488_3; first | rwa [add_block] at this | exact this) GW489.out)) | (dsimp only; exact Nat.ne_of_lt (Nat.lt_of_lt_of_le (by have := World.block_lt_of_cell? _ _ hw488_3; first | rwa [add_block] at this | exact this) GW489.out))) _).trans (((cell_far (p := ⟨gb489, _, none⟩) (by first | exact Nat.ne_of_lt (Nat.lt_of_lt_of_le (by have := World.block_lt_of_cell? _ _ hw488_3; first | rwa [add_block] at this | exact this) GW489.out) | (rw [add_block]; exact Nat.ne_of_lt (Nat.lt_of_lt_of_le (by have := World.block_lt_of_cell? _ _ hw488_3; first | rwa [add_block] at this | exact this) GW489.out)) | (show (Addr.add _ _).block ≠ _; rw [add_block]; exact Nat.ne_of_lt (Nat.lt_of_lt_of_le (by have := World.block_lt_of_cell? _ _ hw488_3; first | rwa [add_block] at this | exact this) GW489.out)) | (dsimp only; exact Nat.ne_of_lt (Nat.lt_of_lt_of_le (by have := World.block_lt_of_cell? _ _ hw488_3; first | rwa [add_block] at this | exact this) GW489.out))) _).trans (hHeld.2.2.2.2.2.2.1)))))))))))), ((cell_far (p := ⟨gb489, _, none⟩) (by first | exact Nat.ne_of_lt (Nat.lt_of_lt_of_le (by have := World.block_lt_of_cell? _ _ hw488_4; first | rwa [add_block] at this | exact this) GW489.out) | (rw [add_block]; exact Nat.ne_of_lt (Nat.lt_of_lt_of_le (by have := World.block_lt_of_cell? _ _ hw488_4; first | rwa [add_block] at this | exact this) GW489.out)) | (show (Addr.add _ _).block ≠ _; rw [add_block]; exact Nat.ne_of_lt (Nat.lt_of_lt_of_le (by have := World.block_lt_of_cell? _ _ hw488_4; first | rwa [add_block] at this | exact this) GW489.out)) | (dsimp only; exact Nat.ne_of_lt (Nat.lt_of_lt_of_le (by have := World.block_lt_of_cell? _ _ hw488_4; first | rwa [add_block] at this | exact this) GW489.out))) _).trans (((cell_far (p := ⟨gb489, _, none⟩) (by first | exact Nat.ne_of_lt (Nat.lt_of_lt_of_le (by have := World.block_lt_of_cell? _ _ hw488_4; first | rwa [add_block] at this | exact this) GW489.out) | (rw [add_block]; exact Nat.ne_of_lt (Nat.lt_of_lt_of_le (by have := World.block_lt_of_cell? _ _ hw488_4; first | rwa [add_block] at this | exact this) GW489.out)) | (show (Addr.add _ _).block ≠ _; rw [add_block]; exact Nat.ne_of_lt (Nat.lt_of_lt_of_le (by have := World.block_lt_of_cell? _ _ hw488_4; first | rwa [add_block] at this | exact this) GW489.out)) | (dsimp only; exact Nat.ne_of_lt (Nat.lt_of_lt_of_le (by have := World.block_lt_of_cell? _ _ hw488_4; first | rwa [add_block] at this | exact this) GW489.out))) _).trans (((cell_far (p := ⟨gb489, _, none⟩) (by first | exact Nat.ne_of_lt (Nat.lt_of_lt_of_le (by have := World.block_lt_of_cell? _ _ hw488_4; first | rwa [add_block] at this | exact this) GW489.out) | (rw [add_block]; exact Nat.ne_of_lt (Nat.lt_of_lt_of_le (by have := World.block_lt_of_cell? _ _ hw488_4; first | rwa [add_block] at this | exact this) GW489.out)) | (show (Addr.add _ _).block ≠ _; rw [add_block]; exact Nat.ne_of_lt (Nat.lt_of_lt_of_le (by have := World.block_lt_of_cell? _ _ hw488_4; first | rwa [add_block] at this | exact this) GW489.out)) | (dsimp only; exact Nat.ne_of_lt (Nat.lt_of_lt_of_le (by have := World.block_lt_of_cell? _ _ hw488_4; first | rwa [add_block] at this | exact this) GW489.out))) _).trans (((cell_far (p := ⟨gb489, _, none⟩) (by first | exact Nat.ne_of_lt (Nat.lt_of_lt_of_le (by have := World.block_lt_of_cell? _ _ hw488_4; first | rwa [add_block] at this | exact this) GW489.out) | (rw [add_block]; exact Nat.ne_of_lt (Nat.lt_of_lt_of_le (by have := World.block_lt_of_cell? _ _ hw488_4; first | rwa [add_block] at this | exact this) GW489.out)) | (show (Addr.add _ _).block ≠ _; rw [add_block]; exact Nat.ne_of_lt (Nat.lt_of_lt_of_le (by have := World.block_lt_of_cell? _ _ hw488_4; first | rwa [add_block] at this | exact this) GW489.out)) | (dsimp only; exact Nat.ne_of_lt (Nat.lt_of_lt_of_le (by have := World.block_lt_of_cell? _ _ hw488_4; first | rwa [add_block] at this | exact this) GW489.out))) _).trans (((cell_far (p := ⟨gb489, _, none⟩) (by first | exact Nat.ne_of_lt (Nat.lt_of_lt_of_le (by have := World.block_lt_of_cell? _ _ hw488_4; first | rwa [add_block] at this | exact this) GW489.out) | (rw [add_block]; exact Nat.ne_of_lt (Nat.lt_of_lt_of_le (by have := World.block_lt_of_cell? _ _ hw488_4; first | rwa [add_block] at this | exact this) GW489.out)) | (show (Addr.add _ _).block ≠ _; rw [add_block]; exact Nat.ne_of_lt (Nat.lt_of_lt_of_le (by have := World.block_lt_of_cell? _ _ hw488_4; first | rwa [add_block] at this | exact this) GW489.out)) | (dsimp only; exact Nat.ne_of_lt (Nat.lt_of_lt_of_le (by have := World.block_lt_of_cell? _ _ hw488_4; first | rwa [add_block] at this | exact this) GW489.out))) _).trans (((cell_far (p := ⟨gb489, _, none⟩) (by first | exact Nat.ne_of_lt (Nat.lt_of_lt_of_le (by have := World.block_lt_of_cell? _ _ hw488_4; first | rwa [add_block] at this | exact this) GW489.out) | (rw [add_block]; exact Nat.ne_of_lt (Nat.lt_of_lt_of_le (by have := World.block_lt_of_cell? _ _ hw488_4; first | rwa [add_block] at this | exact this) GW489.out)) | (show (Addr.add _ _).block ≠ _; rw [add_block]; exact Nat.ne_of_lt (Nat.lt_of_lt_of_le (by have := World.block_lt_of_cell? _ _ hw488_4; first | rwa [add_block] at this | exact this) GW489.out)) | (dsimp only; exact Nat.ne_of_lt (Nat.lt_of_lt_of_le (by have := World.block_lt_of_cell? _ _ hw488_4; first | rwa [add_block] at this | exact this) GW489.out))) _).trans (hHeld.2.2.2.2.2.2.2.1)))))))))))), ((cell_far (p := ⟨gb489, _, none⟩) (by first | exact Nat.ne_of_lt (Nat.lt_of_lt_of_le (by have := World.block_lt_of_cell? _ _ hw488_5; first | rwa [add_block] at this | exact this) GW489.out) | (rw [add_block]; exact Nat.ne_of_lt (Nat.lt_of_lt_of_le (by have := World.block_lt_of_cell? _ _ hw488_5; first | rwa [add_block] at this | exact this) GW489.out)) | (show (Addr.add _ _).block ≠ _; rw [add_block]; exact Nat.ne_of_lt (Nat.lt_of_lt_of_le (by have := World.block_lt_of_cell? _ _ hw488_5; first | rwa [add_block] at this | exact this) GW489.out)) | (dsimp only; exact Nat.ne_of_lt (Nat.lt_of_lt_of_le (by have := World.block_lt_of_cell? _ _ hw488_5; first | rwa [add_block] at this | exact this) GW489.out))) _).trans (((cell_far (p := ⟨gb489, _, none⟩) (by first | exact Nat.ne_of_lt (Nat.lt_of_lt_of_le (by have := World.block_lt_of_cell? _ _ hw488_5; first | rwa [add_block] at this | exact this) GW489.out) | (rw [add_block]; exact Nat.ne_of_lt (Nat.lt_of_lt_of_le (by have := World.block_lt_of_cell? _ _ hw488_5; first | rwa [add_block] at this | exact this) GW489.out)) | (show (Addr.add _ _).block ≠ _; rw [add_block]; exact Nat.ne_of_lt (Nat.lt_of_lt_of_le (by have := World.block_lt_of_cell? _ _ hw488_5; first | rwa [add_block] at this | exact this) GW489.out)) | (dsimp only; exact Nat.ne_of_lt (Nat.lt_of_lt_of_le (by have := World.block_lt_of_cell? _ _ hw488_5; first | rwa [add_block] at this | exact this) GW489.out))) _).trans (((cell_far (p := ⟨gb489, _, none⟩) (by first | exact Nat.ne_of_lt (Nat.lt_of_lt_of_le (by have := World.block_lt_of_cell? _ _ hw488_5; first | rwa [add_block] at this | exact this) GW489.out) | (rw [add_block]; exact Nat.ne_of_lt (Nat.lt_of_lt_of_le (by have := World.block_lt_of_cell? _ _ hw488_5; first | rwa [add_block] at this | exact this) GW489.out)) | (show (Addr.add _ _).block ≠ _; rw [add_block]; exact Nat.ne_of_lt (Nat.lt_of_lt_of_le (by have := World.block_lt_of_cell? _ _ hw488_5; first | rwa [add_block] at this | exact this) GW489.out)) | (dsimp only; exact Nat.ne_of_lt (Nat.lt_of_lt_of_le (by have := World.block_lt_of_cell? _ _ hw488_5; first | rwa [add_block] at this | exact this) GW489.out))) _).trans (((cell_far (p := ⟨gb489, _, none⟩) (by first | exact Nat.ne_of_lt (Nat.lt_of_lt_of_le (by have := World.block_lt_of_cell? _ _ hw488_5; first | rwa [add_block] at this | exact this) GW489.out) | (rw [add_block]; exact Nat.ne_of_lt (Nat.lt_of_lt_of_le (by have := World.block_lt_of_cell? _ _ hw488_5; first | rwa [add_block] at this | exact this) GW489.out)) | (show (Addr.add _ _).block ≠ _; rw [add_block]; exact Nat.ne_of_lt (Nat.lt_of_lt_of_le (by have := World.block_lt_of_cell? _ _ hw488_5; first | rwa [add_block] at this | exact this) GW489.out)) | (dsimp only; exact Nat.ne_of_lt (Nat.lt_of_lt_of_le (by have := World.block_lt_of_cell? _ _ hw488_5; first | rwa [add_block] at this | exact this) GW489.out))) _).trans (((cell_far (p := ⟨gb489, _, none⟩) (by first | exact Nat.ne_of_lt (Nat.lt_of_lt_of_le (by have := World.block_lt_of_cell? _ _ hw488_5; first | rwa [add_block] at this | exact this) GW489.out) | (rw [add_block]; exact Nat.ne_of_lt (Nat.lt_of_lt_of_le (by have := World.block_lt_of_cell? _ _ hw488_5; first | rwa [add_block] at this | exact this) GW489.out)) | (show (Addr.add _ _).block ≠ _; rw [add_block]; exact Nat.ne_of_lt (Nat.lt_of_lt_of_le (by have := World.block_lt_of_cell? _ _ hw488_5; first | rwa [add_block] at this | exact this) GW489.out)) | (dsimp only; exact Nat.ne_of_lt (Nat.lt_of_lt_of_le (by have := World.block_lt_of_cell? _ _ hw488_5; first | rwa [add_block] at this | exact this) GW489.out))) _).trans (((cell_far (p := ⟨gb489, _, none⟩) (by first | exact Nat.ne_of_lt (Nat.lt_of_lt_of_le (by have := World.block_lt_of_cell? _ _ hw488_5; first | rwa [add_block] at this | exact this) GW489.out) | (rw [add_block]; exact Nat.ne_of_lt (Nat.lt_of_lt_of_le (by have := World.block_lt_of_cell? _ _ hw488_5; first | rwa [add_block] at this | exact this) GW489.out)) | (show (Addr.add _ _).block ≠ _; rw [add_block]; exact Nat.ne_of_lt (Nat.lt_of_lt_of_le (by have := World.block_lt_of_cell? _ _ hw488_5; first | rwa [add_block] at this | exact this) GW489.out)) | (dsimp only; exact Nat.ne_of_lt (Nat.lt_of_lt_of_le (by have := World.block_lt_of_cell? _ _ hw488_5; first | rwa [add_block] at this | exact this) GW489.out))) _).trans (hHeld.2.2.2.2.2.2.2.2))))))))))))⟩ (fun hHeld => ?_)
                         clear hK K
                         refine done_ (done_of HT_.out (by kernel_rfl)) ?_
                         have hnb92 := NB478_464.out
                         have hnc92 := NB464_478.out
                         have hnb93 := NB478_489.out
                         have hnc93 := NB489_478.out
                         have hcz94_0 : w85.cell? ⟨gb478, 0, none⟩ = some (.slice Ao49 t469.length co49) := (blk_cell BK478.out 0).trans rfl
                         have hcz94_1 : w85.cell? ⟨gb478, 1, none⟩ = some (.int .i64 t472) := (blk_cell BK478.out 1).trans rfl
                         have hcz94_2 : w85.cell? ⟨gb478, 2, none⟩ = some (.int .i64 t473) := (blk_cell BK478.out 2).trans rfl
                         have hfz94_0 := blk_frozen BK478.out 0
                         have hfz94_1 := blk_frozen BK478.out 1
                         have hfz94_2 := blk_frozen BK478.out 2
                         try go_wp2_with (first | ((with_reducible refine gate_callee (f := 22) rfl ?_); refine goesL_ (some 113) rfl rfl Try.func22 (by kernel_rfl) rfl #[.agg #[.slice Ao49 t469.length co49, .int .i64 t472, .int .i64 t473], .int .i64 t483] rfl (by (try simp only [List.map_toArray, List.map_cons, List.map_nil]); first | done | rfl | (simp only [List.length_drop, List.length_take]; rfl)) ?_; (with_reducible refine (anamnesisref03_Ref.calls _ _ t469 t472 t473 t483 t490 _ ?side1 ?side2 A72.out).mono ?_); (case side1 => refine (Kd.S_reads' (e := 44) (base := w.heap.size) (ok := fun k_ => (some k_ ≠ (.slice (some ad482) t474.length co61 : Value).ownBlock ∧ k_ ≠ gb489)) (n := t469.length) (c := co49) ?_).2.2; exact (by (with_reducible repeat (first | apply Kd.S_alloc | apply Kd.S_drewN | apply Kd.S_drew)); exact (Kd.S_mono (Kd.S_far (p := ⟨gb489, 5, none⟩) (Kd.S_far (p := ⟨gb489, 4, none⟩) (Kd.S_far (p := ⟨gb489, 3, none⟩) (Kd.S_far (p := ⟨gb489, 2, none⟩) (Kd.S_far (p := ⟨gb489, 1, none⟩) (Kd.S_far (p := ⟨gb489, 0, none⟩) (Kd.S_mono HO_479000.out (fun k_ hk => (⟨hk, hk.2⟩ : _ ∧ k_ ≠ gb489))) (fun _ hk => hk.2) (.int .i64 ((rd_T44 l0_0 t487).f0))) (fun _ hk => hk.2) (.int .i64 ((rd_T44 l0_0 t487).f1))) (fun _ hk => hk.2) (.slice A488_2 ((rd_T44 l0_0 t487).f2).length c488_2)) (fun _ hk => hk.2) (.string ((rd_T44 l0_0 t487).f3))) (fun _ hk => hk.2) (.int .i64 ((rd_T44 l0_0 t487).f4))) (fun _ hk => hk.2) (.int .i64 ((rd_T44 l0_0 t487).f5))) (fun _ h_ => h_.1)))); (case side2 => exact (Kd.S_reads' HO_479000.out).2.1); rintro e w95 ⟨rfl, hb⟩; refine ⟨_, rfl, ?_⟩; have n0_ := Aside0.mk (Kd.R_below (by (with_reducible repeat (first | apply Kd.R_alloc | apply Kd.R_drewN | apply Kd.R_drew)); exact (Kd.R_mono (Kd.R_far (p := ⟨gb489, 5, none⟩) (Kd.R_far (p := ⟨gb489, 4, none⟩) (Kd.R_far (p := ⟨gb489, 3, none⟩) (Kd.R_far (p := ⟨gb489, 2, none⟩) (Kd.R_far (p := ⟨gb489, 1, none⟩) (Kd.R_far (p := ⟨gb489, 0, none⟩) (Kd.R_types HO_8.out BK489.out (by decide)) (fun _ hk => hk.2) (.int .i64 ((rd_T44 l0_0 t487).f0))) (fun _ hk => hk.2) (.int .i64 ((rd_T44 l0_0 t487).f1))) (fun _ hk => hk.2) (.slice A488_2 ((rd_T44 l0_0 t487).f2).length c488_2)) (fun _ hk => hk.2) (.string ((rd_T44 l0_0 t487).f3))) (fun _ hk => hk.2) (.int .i64 ((rd_T44 l0_0 t487).f4))) (fun _ hk => hk.2) (.int .i64 ((rd_T44 l0_0 t487).f5))) (fun _ h_ => h_.1))) hb); have n1_ := Aside0.mk (Kd.S_below (by (with_reducible repeat (first | apply Kd.S_alloc | apply Kd.S_drewN | apply Kd.S_drew)); exact (Kd.S_mono (Kd.S_far (p := ⟨gb489, 5, none⟩) (Kd.S_far (p := ⟨gb489, 4, none⟩) (Kd.S_far (p := ⟨gb489, 3, none⟩) (Kd.S_far (p := ⟨gb489, 2, none⟩) (Kd.S_far (p := ⟨gb489, 1, none⟩) (Kd.S_far (p := ⟨gb489, 0, none⟩) (Kd.S_mono HO_479000.out (fun k_ hk => (⟨hk, hk.2⟩ : _ ∧ k_ ≠ gb489))) (fun _ hk => hk.2) (.int .i64 ((rd_T44 l0_0 t487).f0))) (fun _ hk => hk.2) (.int .i64 ((rd_T44 l0_0 t487).f1))) (fun _ hk => hk.2) (.slice A488_2 ((rd_T44 l0_0 t487).f2).length c488_2)) (fun _ hk => hk.2) (.string ((rd_T44 l0_0 t487).f3))) (fun _ hk => hk.2) (.int .i64 ((rd_T44 l0_0 t487).f4))) (fun _ hk => hk.2) (.int .i64 ((rd_T44 l0_0 t487).f5))) (fun _ h_ => h_.1))) hb); have n2_ := Aside0.mk (blk_below (g := gb464) (o := .cells #[.slice (some ad488) l0_0.length c0_0, .int .i64 a0_1, .int .i64 a0_2] 24 (0, 0)) (by (with_reducible repeat (first | refine blk_drewN ?_ _ | refine blk_drew ?_ | refine blk_alloc ?_ _)); refine blk_far ?_ NB464_489.out _; (with_reducible repeat (first | refine blk_drewN ?_ _ | refine blk_drew ?_ | refine blk_alloc ?_ _)); refine blk_far ?_ NB464_489.out _; (with_reducible repeat (first | refine blk_drewN ?_ _ | refine blk_drew ?_ | refine blk_alloc ?_ _)); refine blk_far ?_ NB464_489.out _; (with_reducible repeat (first | refine blk_drewN ?_ _ | refine blk_drew ?_ | refine blk_alloc ?_ _)); refine blk_far ?_ NB464_489.out _; (with_reducible repeat (first | refine blk_drewN ?_ _ | refine blk_drew ?_ | refine blk_alloc ?_ _)); refine blk_far ?_ NB464_489.out _; (with_reducible repeat (first | refine blk_drewN ?_ _ | refine blk_drew ?_ | refine blk_alloc ?_ _)); refine blk_far ?_ NB464_489.out _; (with_reducible repeat (first | refine blk_drewN ?_ _ | refine blk_drew ?_ | refine blk_alloc ?_ _)); exact BK464.out) hb); have n3_ := Aside0.mk (blk_below (g := gb478) (o := .cells #[.slice Ao49 t469.length co49, .int .i64 t472, .int .i64 t473] 24 (0, 0)) (by (with_reducible repeat (first | refine blk_drewN ?_ _ | refine blk_drew ?_ | refine blk_alloc ?_ _)); refine blk_far ?_ NB478_489.out _; (with_reducible repeat (first | refine blk_drewN ?_ _ | refine blk_drew ?_ | refine blk_alloc ?_ _)); refine blk_far ?_ NB478_489.out _; (with_reducible repeat (first | refine blk_drewN ?_ _ | refine blk_drew ?_ | refine blk_alloc ?_ _)); refine blk_far ?_ NB478_489.out _; (with_reducible repeat (first | refine blk_drewN ?_ _ | refine blk_drew ?_ | refine blk_alloc ?_ _)); refine blk_far ?_ NB478_489.out _; (with_reducible repeat (first | refine blk_drewN ?_ _ | refine blk_drew ?_ | refine blk_alloc ?_ _)); refine blk_far ?_ NB478_489.out _; (with_reducible repeat (first | refine blk_drewN ?_ _ | refine blk_drew ?_ | refine blk_alloc ?_ _)); refine blk_far ?_ NB478_489.out _; (with_reducible repeat (first | refine blk_drewN ?_ _ | refine blk_drew ?_ | refine blk_alloc ?_ _)); exact BK478.out) hb); have n4_ := Aside0.mk (blk_below (g := gb489) (o := .cells #[.int .i64 ((rd_T44 l0_0 t487).f0), .int .i64 ((rd_T44 l0_0 t487).f1), .slice A488_2 ((rd_T44 l0_0 t487).f2).length c488_2, .string ((rd_T44 l0_0 t487).f3), .int .i64 ((rd_T44 l0_0 t487).f4), .int .i64 ((rd_T44 l0_0 t487).f5)] 44 (0, 0)) (by (with_reducible repeat (first | refine blk_drewN ?_ _ | refine blk_drew ?_ | refine blk_alloc ?_ _)); refine blk_put (cs := #[.int .i64 ((rd_T44 l0_0 t487).f0), .int .i64 ((rd_T44 l0_0 t487).f1), .slice A488_2 ((rd_T44 l0_0 t487).f2).length c488_2, .string ((rd_T44 l0_0 t487).f3), .int .i64 ((rd_T44 l0_0 t487).f4), .int .i64 0]) ?_ 5 _ rfl; (with_reducible repeat (first | refine blk_drewN ?_ _ | refine blk_drew ?_ | refine blk_alloc ?_ _)); refine blk_put (cs := #[.int .i64 ((rd_T44 l0_0 t487).f0), .int .i64 ((rd_T44 l0_0 t487).f1), .slice A488_2 ((rd_T44 l0_0 t487).f2).length c488_2, .string ((rd_T44 l0_0 t487).f3), .int .i64 0, .int .i64 0]) ?_ 4 _ rfl; (with_reducible repeat (first | refine blk_drewN ?_ _ | refine blk_drew ?_ | refine blk_alloc ?_ _)); refine blk_put (cs := #[.int .i64 ((rd_T44 l0_0 t487).f0), .int .i64 ((rd_T44 l0_0 t487).f1), .slice A488_2 ((rd_T44 l0_0 t487).f2).length c488_2, .string (⟨#[]⟩ : ByteArray), .int .i64 0, .int .i64 0]) ?_ 3 _ rfl; (with_reducible repeat (first | refine blk_drewN ?_ _ | refine blk_drew ?_ | refine blk_alloc ?_ _)); refine blk_put (cs := #[.int .i64 ((rd_T44 l0_0 t487).f0), .int .i64 ((rd_T44 l0_0 t487).f1), .slice none 0 0, .string (⟨#[]⟩ : ByteArray), .int .i64 0, .int .i64 0]) ?_ 2 _ rfl; (with_reducible repeat (first | refine blk_drewN ?_ _ | refine blk_drew ?_ | refine blk_alloc ?_ _)); refine blk_put (cs := #[.int .i64 ((rd_T44 l0_0 t487).f0), .int .i64 0, .slice none 0 0, .string (⟨#[]⟩ : ByteArray), .int .i64 0, .int .i64 0]) ?_ 1 _ rfl; (with_reducible repeat (first | refine blk_drewN ?_ _ | refine blk_drew ?_ | refine blk_alloc ?_ _)); refine blk_put (cs := #[.int .i64 0, .int .i64 0, .slice none 0 0, .string (⟨#[]⟩ : ByteArray), .int .i64 0, .int .i64 0]) ?_ 0 _ rfl; (with_reducible repeat (first | refine blk_drewN ?_ _ | refine blk_drew ?_ | refine blk_alloc ?_ _)); exact BK489.out) hb); have n5_ := Aside0.mk (below_step (by repeat (first | (with_reducible first | exact HB.out | apply below_alloc | apply pw_below_drewN | apply below_drew1 | refine below_set ?_ GE464.out | refine below_set ?_ GE478.out | refine below_set ?_ GE489.out) | exact HB.out)) hb); clear HO_8; clear HO_479000; clear BK464; clear BK478; clear BK489; clear HB; have HO_8 := n0_; have HO_479000 := n1_; have BK464 := n2_; have BK478 := n3_; have BK489 := n4_; have HB := n5_; clear n0_ n1_ n2_ n3_ n4_ n5_; (try clear hb); (try clear hb2); (try clear hk); (try clear hi)))
                         have n0_ := Aside0.mk (Kd.R_drew HO_8.out)
                         have n1_ := Aside0.mk (Kd.S_drew HO_479000.out)
                         have n2_ := Aside0.mk (blk_drew BK464.out)
                         have n3_ := Aside0.mk (blk_drew BK478.out)
                         have n4_ := Aside0.mk (blk_drew BK489.out)
                         have n5_ := Aside0.mk (below_drew1 HB.out)
                         clear HO_8
                         clear HO_479000
                         clear BK464
                         clear BK478
                         clear BK489
                         clear HB
                         have HO_8 := n0_
                         have HO_479000 := n1_
                         have BK464 := n2_
                         have BK478 := n3_
                         have BK489 := n4_
                         have HB := n5_
                         clear n0_ n1_ n2_ n3_ n4_ n5_
                         have p492 : 0 ≤ (t491 : Int) := of_decide_eq_true (by first | (with_reducible assumption) | assumption)
                         have q492 : t491 < (t469.length : Int) := of_decide_eq_true (by first | (with_reducible assumption) | assumption)
                         obtain ⟨ad492, A492_2, c492_2, e492, hx492_0, hx492_1, hx492_2, hx492_3, hx492_4, hx492_5, hl492_2, hi492_2⟩ := at_T44 (Kd.S_reads' HO_479000.out).2.2 t491 p492 q492
                         cases e492
                         obtain ⟨ce492, hce492, hMe492, hcc492⟩ := Kd.S_get HO_479000.out z44 t491 p492 (by first | exact q492 | exact of_decide_eq_true (by first | (with_reducible assumption) | assumption) | (have e_ := (Kd.S_reads' HO_479000.out).1; omega))
                         obtain ⟨ve492_2, rfl, ge492_2⟩ := k44_openM hMe492
                         have hv492_2 := hcc492 2 _ rfl
                         rw [add_field _ _ 2 (by omega)] at hv492_2
                         replace hv492_2 := Option.some.inj (hv492_2.symm.trans hx492_2)
                         rw [hv492_2] at ge492_2
                         have HL492_2 := Aside0.mk (show Kd.R (Kd.int .i64) 3 _ _ _ _ ((rd_T44 t469 t491).f2) from ge492_2)
                         clear hv492_2 ge492_2
                         clear hcc492 hce492
                         have HR492_2 := Aside0.mk hi492_2
                         have HC492_2 := Aside0.mk hl492_2
                         clear hi492_2 hl492_2
                         replace p492 := eq_true p492
                         replace q492 := eq_true q492
                         refine start_ (n := 9) (S := fun w' => w'.cell? ⟨gb478, 0, none⟩ = some (.slice (some ad492) t469.length co49) ∧ w'.cell? ⟨gb478, 1, none⟩ = some (.int .i64 t472) ∧ w'.cell? ⟨gb478, 2, none⟩ = some (.int .i64 t473) ∧ w'.cell? (ad492.add ((t491).toNat * 6)) = some (.int .i64 ((rd_T44 t469 t491).f0)) ∧ w'.cell? ⟨(ad492.add ((t491).toNat * 6)).block, (ad492.add ((t491).toNat * 6)).off + 1, none⟩ = some (.int .i64 ((rd_T44 t469 t491).f1)) ∧ w'.cell? ⟨(ad492.add ((t491).toNat * 6)).block, (ad492.add ((t491).toNat * 6)).off + 2, none⟩ = some (.slice A492_2 ((rd_T44 t469 t491).f2).length c492_2) ∧ w'.cell? ⟨(ad492.add ((t491).toNat * 6)).block, (ad492.add ((t491).toNat * 6)).off + 3, none⟩ = some (.string ((rd_T44 t469 t491).f3)) ∧ w'.cell? ⟨(ad492.add ((t491).toNat * 6)).block, (ad492.add ((t491).toNat * 6)).off + 4, none⟩ = some (.int .i64 ((rd_T44 t469 t491).f4)) ∧ w'.cell? ⟨(ad492.add ((t491).toNat * 6)).block, (ad492.add ((t491).toNat * 6)).off + 5, none⟩ = some (.int .i64 ((rd_T44 t469 t491).f5))) (ds := []) #[false, false, false, false, false, false, false, false, false] (by kernel_rfl) rfl rfl ⟨(blk_cell BK478.out 0).trans rfl, (blk_cell BK478.out 1).trans rfl, (blk_cell BK478.out 2).trans rfl, hx492_0, hx492_1, hx492_2, hx492_3, hx492_4, hx492_5⟩ (fun hHeld => ?_); refine with_tabW anamnesislaw05_MoveWays.tab22 anamnesislaw05_MoveWays.bits22 (fun HT_ HW_ => ?_)
                         generalize w95.drew = w96 at HO_8 HO_479000 BK464 BK478 BK489 HB HL492_2 HR492_2 hx492_0 hx492_1 hx492_2 hx492_3 hx492_4 hx492_5 hHeld ⊢
                         refine pure1 (i := 0) (N := some 115) #[true, false, false, false, false, false, false, false, false] HT_.out ?_
                         refine pure1 (i := 3) (N := some 118) #[true, false, false, true, false, false, false, false, false] HT_.out ?_
                         refine take1 (i := 1) (N := some 116) #[true, true, false, true, false, false, false, false, false] HT_.out HW_.out hHeld ?_
                         refine take1 (i := 2) (N := some 117) #[true, true, true, true, false, false, false, false, false] HT_.out HW_.out hHeld ?_
                         refine join_ (σ := Nat) 1 #[true, true, true, true, true, true, true, true, false] (fun s_ => [(119, .int .i64 t491), (18, .pointer (some ⟨s_, 0, none⟩)), (120, .pointer (some (ad492.add ((t491).toNat * 6)))), (121, .agg #[.int .i64 ((rd_T44 t469 t491).f0), .int .i64 ((rd_T44 t469 t491).f1), .slice A492_2 ((rd_T44 t469 t491).f2).length c492_2, .string ((rd_T44 t469 t491).f3), .int .i64 ((rd_T44 t469 t491).f4), .int .i64 ((rd_T44 t469 t491).f5)])]) (fun s_ w' => (w'.cell? ⟨gb478, 0, none⟩ = some (.slice (some ad492) t469.length co49) ∧ w'.cell? ⟨gb478, 1, none⟩ = some (.int .i64 t472) ∧ w'.cell? ⟨gb478, 2, none⟩ = some (.int .i64 t473) ∧ w'.cell? (ad492.add ((t491).toNat * 6)) = some (.int .i64 ((rd_T44 t469 t491).f0)) ∧ w'.cell? ⟨(ad492.add ((t491).toNat * 6)).block, (ad492.add ((t491).toNat * 6)).off + 1, none⟩ = some (.int .i64 ((rd_T44 t469 t491).f1)) ∧ w'.cell? ⟨(ad492.add ((t491).toNat * 6)).block, (ad492.add ((t491).toNat * 6)).off + 2, none⟩ = some (.slice A492_2 ((rd_T44 t469 t491).f2).length c492_2) ∧ w'.cell? ⟨(ad492.add ((t491).toNat * 6)).block, (ad492.add ((t491).toNat * 6)).off + 3, none⟩ = some (.string ((rd_T44 t469 t491).f3)) ∧ w'.cell? ⟨(ad492.add ((t491).toNat * 6)).block, (ad492.add ((t491).toNat * 6)).off + 4, none⟩ = some (.int .i64 ((rd_T44 t469 t491).f4)) ∧ w'.cell? ⟨(ad492.add ((t491).toNat * 6)).block, (ad492.add ((t491).toNat * 6)).off + 5, none⟩ = some (.int .i64 ((rd_T44 t469 t491).f5))) ∧ (Kd.S k44 44 w' w.heap.size (fun k_ => some k_ ≠ (.slice (some ad482) t474.length co61 : Value).ownBlock ∧ k_ ≠ gb489 ∧ k_ ≠ s_) (.slice (some ad492) t469.length co49) t469) ∧ (Kd.R (Kd.int .i64) 3 w' w.heap.size (fun _ => True) (.slice (some ad482) t474.length co61) t474) ∧ (w'.heap[gb464]? = some (.cells #[.slice (some ad488) l0_0.length c0_0, .int .i64 a0_1, .int .i64 a0_2] 24 (0, 0))) ∧ (w'.heap[gb478]? = some (.cells #[.slice (some ad492) t469.length co49, .int .i64 t472, .int .i64 t473] 24 (0, 0))) ∧ (w'.heap[gb489]? = some (.cells #[.int .i64 ((rd_T44 l0_0 t487).f0), .int .i64 ((rd_T44 l0_0 t487).f1), .slice A488_2 ((rd_T44 l0_0 t487).f2).length c488_2, .string ((rd_T44 l0_0 t487).f3), .int .i64 ((rd_T44 l0_0 t487).f4), .int .i64 ((rd_T44 l0_0 t487).f5)] 44 (0, 0))) ∧ (w'.heap[s_]? = some (.cells #[.int .i64 0, .int .i64 0, .slice none 0 0, .string (⟨#[]⟩ : ByteArray), .int .i64 0, .int .i64 0] 44 (0, 0))) ∧ (w.heap.size ≤ s_) ∧ (w.heap.size ≤ s_) ∧ (gb464 ≠ s_) ∧ (s_ ≠ gb464) ∧ (gb478 ≠ s_) ∧ (s_ ≠ gb478) ∧ (gb489 ≠ s_) ∧ (s_ ≠ gb489) ∧ (Below w.heap.size w w')) ?_ ?_
                         rotate_left
                         ·intro hCont
                          refine two_ (i := 4) (j := 7) (Ni := some 119) (Nj := some 18) #[true, true, true, true, true, false, false, false, false] #[true, true, true, true, false, false, false, true, false] rfl rfl rfl rfl (two_of HT_.out (by kernel_rfl)) (by decide) (by decide) (fun K hK => ?_) (fun K hK => ?_)
                          ·skip
                           refine goes_ Try.func22 (by kernel_rfl) rfl #[.agg #[.slice (some ad492) t469.length co49, .int .i64 t472, .int .i64 t473], .int .i64 t483] (by rfl) rfl rfl (by (try simp only [List.map_toArray, List.map_cons, List.map_nil]); first | done | rfl | (simp only [List.length_drop, List.length_take]; rfl)) ?_
                           with_reducible refine (anamnesisref03_Ref.calls _ _ t469 t472 t473 t483 t491 _ ?side1 ?side2 A74.out).mono ?_
                           (case side1 => repeat (first | exact (Kd.S_reads' HO_479000.out).2.2 | (with_reducible refine Kd.C_alloc ?_ _) | (with_reducible refine Kd.C_drewN ?_ _) | (with_reducible refine Kd.C_drew ?_)))
                           (case side2 => exact (Kd.S_reads' HO_479000.out).2.1)
                           rintro e w97 ⟨rfl, hb⟩
                           have HS3_ := (hb.cell (World.block_lt_of_cell? _ _ (hHeld.2.2.2.1))).trans (hHeld.2.2.2.1)
                           have HS4_ := (hb.cell (World.block_lt_of_cell? _ _ (hHeld.2.2.2.2.1))).trans (hHeld.2.2.2.2.1)
                           have HS5_ := (hb.cell (World.block_lt_of_cell? _ _ (hHeld.2.2.2.2.2.1))).trans (hHeld.2.2.2.2.2.1)
                           have HS6_ := (hb.cell (World.block_lt_of_cell? _ _ (hHeld.2.2.2.2.2.2.1))).trans (hHeld.2.2.2.2.2.2.1)
                           have HS7_ := (hb.cell (World.block_lt_of_cell? _ _ (hHeld.2.2.2.2.2.2.2.1))).trans (hHeld.2.2.2.2.2.2.2.1)
                           have HS8_ := (hb.cell (World.block_lt_of_cell? _ _ (hHeld.2.2.2.2.2.2.2.2))).trans (hHeld.2.2.2.2.2.2.2.2)
                           refine ⟨_, rfl, ?_⟩
                           have n0_ := Aside0.mk (Kd.R_below (by (with_reducible repeat (first | apply Kd.R_alloc | apply Kd.R_drewN | apply Kd.R_drew)); exact HO_8.out) hb)
                           have n1_ := Aside0.mk (Kd.S_below (by (with_reducible repeat (first | apply Kd.S_alloc | apply Kd.S_drewN | apply Kd.S_drew)); exact HO_479000.out) hb)
                           have n2_ := Aside0.mk (blk_below (g := gb464) (o := .cells #[.slice (some ad488) l0_0.length c0_0, .int .i64 a0_1, .int .i64 a0_2] 24 (0, 0)) (by (with_reducible repeat (first | refine blk_drewN ?_ _ | refine blk_drew ?_ | refine blk_alloc ?_ _)); exact BK464.out) hb)
                           have n3_ := Aside0.mk (blk_below (g := gb478) (o := .cells #[.slice (some ad492) t469.length co49, .int .i64 t472, .int .i64 t473] 24 (0, 0)) (by (with_reducible repeat (first | refine blk_drewN ?_ _ | refine blk_drew ?_ | refine blk_alloc ?_ _)); exact BK478.out) hb)
                           have n4_ := Aside0.mk (blk_below (g := gb489) (o := .cells #[.int .i64 ((rd_T44 l0_0 t487).f0), .int .i64 ((rd_T44 l0_0 t487).f1), .slice A488_2 ((rd_T44 l0_0 t487).f2).length c488_2, .string ((rd_T44 l0_0 t487).f3), .int .i64 ((rd_T44 l0_0 t487).f4), .int .i64 ((rd_T44 l0_0 t487).f5)] 44 (0, 0)) (by (with_reducible repeat (first | refine blk_drewN ?_ _ | refine blk_drew ?_ | refine blk_alloc ?_ _)); exact BK489.out) hb)
                           have n5_ := Aside0.mk (below_step (by repeat (first | (with_reducible first | exact HB.out | apply below_alloc | apply pw_below_drewN | apply below_drew1 | refine below_set ?_ GE464.out | refine below_set ?_ GE478.out | refine below_set ?_ GE489.out) | exact HB.out)) hb)
                           clear HO_8
                           clear HO_479000
                           clear BK464
                           clear BK478
                           clear BK489
                           clear HB
                           have HO_8 := n0_
                           have HO_479000 := n1_
                           have BK464 := n2_
                           have BK478 := n3_
                           have BK489 := n4_
                           have HB := n5_
                           clear n0_ n1_ n2_ n3_ n4_ n5_
                           (try clear hb)
                           (try clear hb2)
                           (try clear hk)
                           (try clear hi)
                           refine hK.out _ _ ⟨(blk_cell BK478.out 0).trans rfl, (blk_cell BK478.out 1).trans rfl, (blk_cell BK478.out 2).trans rfl, HS3_, HS4_, HS5_, HS6_, HS7_, HS8_⟩ (fun hHeld => ?_)
                           clear hK K
                           refine norm_ (a' := ?_) ?_ ?_
                           rotate_left
                           ·show Act.put _ (some 119) _ = _
                            simp only [Act.put, List.setIfInBounds_toArray, List.set_cons_zero, List.set_cons_succ, i64_w, i32_w]
                            rfl
                           refine pure1 (i := 5) (N := some 120) #[true, true, true, true, true, true, false, false, false] HT_.out ?_
                           refine take1 (i := 6) (N := some 121) #[true, true, true, true, true, true, true, false, false] HT_.out HW_.out hHeld ?_
                           refine one_ (i := 7) (N := some 18) #[true, true, true, true, true, true, true, true, false] rfl rfl (one_of HT_.out (by kernel_rfl)) (by decide) (fun K hK => ?_)
                           refine box_step ?hg (N := 18) ?hd (cs := #[.int .i64 0, .int .i64 0, .slice none 0 0, .string (⟨#[]⟩ : ByteArray), .int .i64 0, .int .i64 0]) (t := 44) ?hr ?_; (case hd => rfl); (case hg => rfl); (case hr => first | (go_simp; done) | (go_simp; rfl))
                           intro gb493 hg w98 hbox hb
                           have HS3_ := (hb.cell (World.block_lt_of_cell? _ _ (hHeld.2.2.2.1))).trans (hHeld.2.2.2.1)
                           have HS4_ := (hb.cell (World.block_lt_of_cell? _ _ (hHeld.2.2.2.2.1))).trans (hHeld.2.2.2.2.1)
                           have HS5_ := (hb.cell (World.block_lt_of_cell? _ _ (hHeld.2.2.2.2.2.1))).trans (hHeld.2.2.2.2.2.1)
                           have HS6_ := (hb.cell (World.block_lt_of_cell? _ _ (hHeld.2.2.2.2.2.2.1))).trans (hHeld.2.2.2.2.2.2.1)
                           have HS7_ := (hb.cell (World.block_lt_of_cell? _ _ (hHeld.2.2.2.2.2.2.2.1))).trans (hHeld.2.2.2.2.2.2.2.1)
                           have HS8_ := (hb.cell (World.block_lt_of_cell? _ _ (hHeld.2.2.2.2.2.2.2.2))).trans (hHeld.2.2.2.2.2.2.2.2)
                           have n0_ := Aside0.mk (Kd.R_below (by (with_reducible repeat (first | apply Kd.R_alloc | apply Kd.R_drewN | apply Kd.R_drew)); exact HO_8.out) hb)
                           have n1_ := Aside0.mk (Kd.S_below (Kd.S_elderB (by (with_reducible repeat (first | apply Kd.S_alloc | apply Kd.S_drewN | apply Kd.S_drew)); exact HO_479000.out) gb493 (Nat.le_of_eq hg.symm)) hb)
                           have n2_ := Aside0.mk (blk_below (g := gb464) (o := .cells #[.slice (some ad488) l0_0.length c0_0, .int .i64 a0_1, .int .i64 a0_2] 24 (0, 0)) (by (with_reducible repeat (first | refine blk_drewN ?_ _ | refine blk_drew ?_ | refine blk_alloc ?_ _)); exact BK464.out) hb)
                           have n3_ := Aside0.mk (blk_below (g := gb478) (o := .cells #[.slice (some ad492) t469.length co49, .int .i64 t472, .int .i64 t473] 24 (0, 0)) (by (with_reducible repeat (first | refine blk_drewN ?_ _ | refine blk_drew ?_ | refine blk_alloc ?_ _)); exact BK478.out) hb)
                           have n4_ := Aside0.mk (blk_below (g := gb489) (o := .cells #[.int .i64 ((rd_T44 l0_0 t487).f0), .int .i64 ((rd_T44 l0_0 t487).f1), .slice A488_2 ((rd_T44 l0_0 t487).f2).length c488_2, .string ((rd_T44 l0_0 t487).f3), .int .i64 ((rd_T44 l0_0 t487).f4), .int .i64 ((rd_T44 l0_0 t487).f5)] 44 (0, 0)) (by (with_reducible repeat (first | refine blk_drewN ?_ _ | refine blk_drew ?_ | refine blk_alloc ?_ _)); exact BK489.out) hb)
                           have n5_ := Aside0.mk (below_step (by repeat (first | (with_reducible first | exact HB.out | apply below_alloc | apply pw_below_drewN | apply below_drew1 | refine below_set ?_ GE464.out | refine below_set ?_ GE478.out | refine below_set ?_ GE489.out) | exact HB.out)) hb)
                           have n6_ := Aside0.mk (hbox)
                           have n7_ := Aside0.mk ((by rw [hg]; exact (below_size (by repeat (first | (with_reducible first | exact HB.out | apply below_alloc | apply pw_below_drewN | apply below_drew1 | refine below_set ?_ GE464.out | refine below_set ?_ GE478.out | refine below_set ?_ GE489.out) | exact HB.out))) : w.heap.size ≤ gb493))
                           have n8_ := Aside0.mk ((by rw [hg]; exact (below_size (by repeat (first | (with_reducible first | exact HB.out | apply below_alloc | apply pw_below_drewN | apply below_drew1 | refine below_set ?_ GE464.out | refine below_set ?_ GE478.out | refine below_set ?_ GE489.out) | exact HB.out))) : w.heap.size ≤ gb493))
                           have n9_ := Aside0.mk ((by rw [hg]; exact Nat.ne_of_lt (blk_lt (g := gb464) (o := .cells #[.slice (some ad488) l0_0.length c0_0, .int .i64 a0_1, .int .i64 a0_2] 24 (0, 0)) (by (with_reducible repeat (first | refine blk_drewN ?_ _ | refine blk_drew ?_ | refine blk_alloc ?_ _)); exact BK464.out)) : gb464 ≠ gb493))
                           have n10_ := Aside0.mk ((by rw [hg]; exact Nat.ne_of_gt (blk_lt (g := gb464) (o := .cells #[.slice (some ad488) l0_0.length c0_0, .int .i64 a0_1, .int .i64 a0_2] 24 (0, 0)) (by (with_reducible repeat (first | refine blk_drewN ?_ _ | refine blk_drew ?_ | refine blk_alloc ?_ _)); exact BK464.out)) : gb493 ≠ gb464))
                           have n11_ := Aside0.mk ((by rw [hg]; exact Nat.ne_of_lt (blk_lt (g := gb478) (o := .cells #[.slice (some ad492) t469.length co49, .int .i64 t472, .int .i64 t473] 24 (0, 0)) (by (with_reducible repeat (first | refine blk_drewN ?_ _ | refine blk_drew ?_ | refine blk_alloc ?_ _)); exact BK478.out)) : gb478 ≠ gb493))
                           have n12_ := Aside0.mk ((by rw [hg]; exact Nat.ne_of_gt (blk_lt (g := gb478) (o := .cells #[.slice (some ad492) t469.length co49, .int .i64 t472, .int .i64 t473] 24 (0, 0)) (by (with_reducible repeat (first | refine blk_drewN ?_ _ | refine blk_drew ?_ | refine blk_alloc ?_ _)); exact BK478.out)) : gb493 ≠ gb478))
                           have n13_ := Aside0.mk ((by rw [hg]; exact Nat.ne_of_lt (blk_lt (g := gb489) (o := .cells #[.int .i64 ((rd_T44 l0_0 t487).f0), .int .i64 ((rd_T44 l0_0 t487).f1), .slice A488_2 ((rd_T44 l0_0 t487).f2).length c488_2, .string ((rd_T44 l0_0 t487).f3), .int .i64 ((rd_T44 l0_0 t487).f4), .int .i64 ((rd_T44 l0_0 t487).f5)] 44 (0, 0)) (by (with_reducible repeat (first | refine blk_drewN ?_ _ | refine blk_drew ?_ | refine blk_alloc ?_ _)); exact BK489.out)) : gb489 ≠ gb493))
                           have n14_ := Aside0.mk ((by rw [hg]; exact Nat.ne_of_gt (blk_lt (g := gb489) (o := .cells #[.int .i64 ((rd_T44 l0_0 t487).f0), .int .i64 ((rd_T44 l0_0 t487).f1), .slice A488_2 ((rd_T44 l0_0 t487).f2).length c488_2, .string ((rd_T44 l0_0 t487).f3), .int .i64 ((rd_T44 l0_0 t487).f4), .int .i64 ((rd_T44 l0_0 t487).f5)] 44 (0, 0)) (by (with_reducible repeat (first | refine blk_drewN ?_ _ | refine blk_drew ?_ | refine blk_alloc ?_ _)); exact BK489.out)) : gb493 ≠ gb489))
                           clear HO_8
                           clear HO_479000
                           clear BK464
                           clear BK478
                           clear BK489
                           clear HB
                           have HO_8 := n0_
                           have HO_479000 := n1_
                           have BK464 := n2_
                           have BK478 := n3_
                           have BK489 := n4_
                           have HB := n5_
                           have BK493 := n6_
                           have GW493 := n7_
                           have GE493 := n8_
                           have NB464_493 := n9_
                           have NB493_464 := n10_
                           have NB478_493 := n11_
                           have NB493_478 := n12_
                           have NB489_493 := n13_
                           have NB493_489 := n14_
                           clear n0_ n1_ n2_ n3_ n4_ n5_ n6_ n7_ n8_ n9_ n10_ n11_ n12_ n13_ n14_
                           clear hb hbox hg
                           refine hK.out _ _ ⟨(blk_cell BK478.out 0).trans rfl, (blk_cell BK478.out 1).trans rfl, (blk_cell BK478.out 2).trans rfl, HS3_, HS4_, HS5_, HS6_, HS7_, HS8_⟩ (fun hHeld => ?_)
                           clear hK K
                           refine norm_ (a' := ?_) ?_ ?_
                           rotate_left
                           ·show Act.put _ (some 18) _ = _
                            simp only [Act.put, List.setIfInBounds_toArray, List.set_cons_zero, List.set_cons_succ, i64_w, i32_w]
                            rfl
                           exact norm_ (by simp only [putAll, Act.put, List.setIfInBounds_toArray, List.set_cons_zero, List.set_cons_succ]) (hCont (gb493) _ ⟨hHeld, (by (with_reducible repeat (first | apply Kd.S_alloc | apply Kd.S_drewN | apply Kd.S_drew)); exact Kd.S_mono HO_479000.out (fun _ hk => ⟨hk.1.1, ⟨hk.1.2, hk.2⟩⟩)), (by (with_reducible repeat (first | apply Kd.R_alloc | apply Kd.R_drewN | apply Kd.R_drew)); exact HO_8.out), (by (with_reducible repeat (first | refine blk_drewN ?_ _ | refine blk_drew ?_ | refine blk_alloc ?_ _)); exact BK464.out), (by (with_reducible repeat (first | refine blk_drewN ?_ _ | refine blk_drew ?_ | refine blk_alloc ?_ _)); exact BK478.out), (by (with_reducible repeat (first | refine blk_drewN ?_ _ | refine blk_drew ?_ | refine blk_alloc ?_ _)); exact BK489.out), (by (with_reducible repeat (first | refine blk_drewN ?_ _ | refine blk_drew ?_ | refine blk_alloc ?_ _)); exact BK493.out), GW493.out, GE493.out, NB464_493.out, NB493_464.out, NB478_493.out, NB493_478.out, NB489_493.out, NB493_489.out, (by repeat (first | (with_reducible first | exact HB.out | apply below_alloc | apply pw_below_drewN | apply below_drew1 | refine below_set ?_ GE464.out | refine below_set ?_ GE478.out | refine below_set ?_ GE489.out | refine below_set ?_ GE493.out) | exact HB.out))⟩)
                          ·skip
                           refine box_step ?hg (N := 18) ?hd (cs := #[.int .i64 0, .int .i64 0, .slice none 0 0, .string (⟨#[]⟩ : ByteArray), .int .i64 0, .int .i64 0]) (t := 44) ?hr ?_; (case hd => rfl); (case hg => rfl); (case hr => first | (go_simp; done) | (go_simp; rfl))
                           intro gb493 hg w97 hbox hb
                           have HS3_ := (hb.cell (World.block_lt_of_cell? _ _ (hHeld.2.2.2.1))).trans (hHeld.2.2.2.1)
                           have HS4_ := (hb.cell (World.block_lt_of_cell? _ _ (hHeld.2.2.2.2.1))).trans (hHeld.2.2.2.2.1)
                           have HS5_ := (hb.cell (World.block_lt_of_cell? _ _ (hHeld.2.2.2.2.2.1))).trans (hHeld.2.2.2.2.2.1)
                           have HS6_ := (hb.cell (World.block_lt_of_cell? _ _ (hHeld.2.2.2.2.2.2.1))).trans (hHeld.2.2.2.2.2.2.1)
                           have HS7_ := (hb.cell (World.block_lt_of_cell? _ _ (hHeld.2.2.2.2.2.2.2.1))).trans (hHeld.2.2.2.2.2.2.2.1)
                           have HS8_ := (hb.cell (World.block_lt_of_cell? _ _ (hHeld.2.2.2.2.2.2.2.2))).trans (hHeld.2.2.2.2.2.2.2.2)
                           have n0_ := Aside0.mk (Kd.R_below (by (with_reducible repeat (first | apply Kd.R_alloc | apply Kd.R_drewN | apply Kd.R_drew)); exact HO_8.out) hb)
                           have n1_ := Aside0.mk (Kd.S_below (Kd.S_elderB (by (with_reducible repeat (first | apply Kd.S_alloc | apply Kd.S_drewN | apply Kd.S_drew)); exact HO_479000.out) gb493 (Nat.le_of_eq hg.symm)) hb)
                           have n2_ := Aside0.mk (blk_below (g := gb464) (o := .cells #[.slice (some ad488) l0_0.length c0_0, .int .i64 a0_1, .int .i64 a0_2] 24 (0, 0)) (by (with_reducible repeat (first | refine blk_drewN ?_ _ | refine blk_drew ?_ | refine blk_alloc ?_ _)); exact BK464.out) hb)
                           have n3_ := Aside0.mk (blk_below (g := gb478) (o := .cells #[.slice (some ad492) t469.length co49, .int .i64 t472, .int .i64 t473] 24 (0, 0)) (by (with_reducible repeat (first | refine blk_drewN ?_ _ | refine blk_drew ?_ | refine blk_alloc ?_ _)); exact BK478.out) hb)
                           have n4_ := Aside0.mk (blk_below (g := gb489) (o := .cells #[.int .i64 ((rd_T44 l0_0 t487).f0), .int .i64 ((rd_T44 l0_0 t487).f1), .slice A488_2 ((rd_T44 l0_0 t487).f2).length c488_2, .string ((rd_T44 l0_0 t487).f3), .int .i64 ((rd_T44 l0_0 t487).f4), .int .i64 ((rd_T44 l0_0 t487).f5)] 44 (0, 0)) (by (with_reducible repeat (first | refine blk_drewN ?_ _ | refine blk_drew ?_ | refine blk_alloc ?_ _)); exact BK489.out) hb)
                           have n5_ := Aside0.mk (below_step (by repeat (first | (with_reducible first | exact HB.out | apply below_alloc | apply pw_below_drewN | apply below_drew1 | refine below_set ?_ GE464.out | refine below_set ?_ GE478.out | refine below_set ?_ GE489.out) | exact HB.out)) hb)
                           have n6_ := Aside0.mk (hbox)
                           have n7_ := Aside0.mk ((by rw [hg]; exact (below_size (by repeat (first | (with_reducible first | exact HB.out | apply below_alloc | apply pw_below_drewN | apply below_drew1 | refine below_set ?_ GE464.out | refine below_set ?_ GE478.out | refine below_set ?_ GE489.out) | exact HB.out))) : w.heap.size ≤ gb493))
                           have n8_ := Aside0.mk ((by rw [hg]; exact (below_size (by repeat (first | (with_reducible first | exact HB.out | apply below_alloc | apply pw_below_drewN | apply below_drew1 | refine below_set ?_ GE464.out | refine below_set ?_ GE478.out | refine below_set ?_ GE489.out) | exact HB.out))) : w.heap.size ≤ gb493))
                           have n9_ := Aside0.mk ((by rw [hg]; exact Nat.ne_of_lt (blk_lt (g := gb464) (o := .cells #[.slice (some ad488) l0_0.length c0_0, .int .i64 a0_1, .int .i64 a0_2] 24 (0, 0)) (by (with_reducible repeat (first | refine blk_drewN ?_ _ | refine blk_drew ?_ | refine blk_alloc ?_ _)); exact BK464.out)) : gb464 ≠ gb493))
                           have n10_ := Aside0.mk ((by rw [hg]; exact Nat.ne_of_gt (blk_lt (g := gb464) (o := .cells #[.slice (some ad488) l0_0.length c0_0, .int .i64 a0_1, .int .i64 a0_2] 24 (0, 0)) (by (with_reducible repeat (first | refine blk_drewN ?_ _ | refine blk_drew ?_ | refine blk_alloc ?_ _)); exact BK464.out)) : gb493 ≠ gb464))
                           have n11_ := Aside0.mk ((by rw [hg]; exact Nat.ne_of_lt (blk_lt (g := gb478) (o := .cells #[.slice (some ad492) t469.length co49, .int .i64 t472, .int .i64 t473] 24 (0, 0)) (by (with_reducible repeat (first | refine blk_drewN ?_ _ | refine blk_drew ?_ | refine blk_alloc ?_ _)); exact BK478.out)) : gb478 ≠ gb493))
                           have n12_ := Aside0.mk ((by rw [hg]; exact Nat.ne_of_gt (blk_lt (g := gb478) (o := .cells #[.slice (some ad492) t469.length co49, .int .i64 t472, .int .i64 t473] 24 (0, 0)) (by (with_reducible repeat (first | refine blk_drewN ?_ _ | refine blk_drew ?_ | refine blk_alloc ?_ _)); exact BK478.out)) : gb493 ≠ gb478))
                           have n13_ := Aside0.mk ((by rw [hg]; exact Nat.ne_of_lt (blk_lt (g := gb489) (o := .cells #[.int .i64 ((rd_T44 l0_0 t487).f0), .int .i64 ((rd_T44 l0_0 t487).f1), .slice A488_2 ((rd_T44 l0_0 t487).f2).length c488_2, .string ((rd_T44 l0_0 t487).f3), .int .i64 ((rd_T44 l0_0 t487).f4), .int .i64 ((rd_T44 l0_0 t487).f5)] 44 (0, 0)) (by (with_reducible repeat (first | refine blk_drewN ?_ _ | refine blk_drew ?_ | refine blk_alloc ?_ _)); exact BK489.out)) : gb489 ≠ gb493))
                           have n14_ := Aside0.mk ((by rw [hg]; exact Nat.ne_of_gt (blk_lt (g := gb489) (o := .cells #[.int .i64 ((rd_T44 l0_0 t487).f0), .int .i64 ((rd_T44 l0_0 t487).f1), .slice A488_2 ((rd_T44 l0_0 t487).f2).length c488_2, .string ((rd_T44 l0_0 t487).f3), .int .i64 ((rd_T44 l0_0 t487).f4), .int .i64 ((rd_T44 l0_0 t487).f5)] 44 (0, 0)) (by (with_reducible repeat (first | refine blk_drewN ?_ _ | refine blk_drew ?_ | refine blk_alloc ?_ _)); exact BK489.out)) : gb493 ≠ gb489))
                           clear HO_8
                           clear HO_479000
                           clear BK464
                           clear BK478
                           clear BK489
                           clear HB
                           have HO_8 := n0_
                           have HO_479000 := n1_
                           have BK464 := n2_
                           have BK478 := n3_
                           have BK489 := n4_
                           have HB := n5_
                           have BK493 := n6_
                           have GW493 := n7_
                           have GE493 := n8_
                           have NB464_493 := n9_
                           have NB493_464 := n10_
                           have NB478_493 := n11_
                           have NB493_478 := n12_
                           have NB489_493 := n13_
                           have NB493_489 := n14_
                           clear n0_ n1_ n2_ n3_ n4_ n5_ n6_ n7_ n8_ n9_ n10_ n11_ n12_ n13_ n14_
                           clear hb hbox hg
                           refine hK.out _ _ ⟨(blk_cell BK478.out 0).trans rfl, (blk_cell BK478.out 1).trans rfl, (blk_cell BK478.out 2).trans rfl, HS3_, HS4_, HS5_, HS6_, HS7_, HS8_⟩ (fun hHeld => ?_)
                           clear hK K
                           refine norm_ (a' := ?_) ?_ ?_
                           rotate_left
                           ·show Act.put _ (some 18) _ = _
                            simp only [Act.put, List.setIfInBounds_toArray, List.set_cons_zero, List.set_cons_succ, i64_w, i32_w]
                            rfl
                           refine one_ (i := 4) (N := some 119) #[true, true, true, true, true, false, false, true, false] rfl rfl (one_of HT_.out (by kernel_rfl)) (by decide) (fun K hK => ?_)
                           refine goes_ Try.func22 (by kernel_rfl) rfl #[.agg #[.slice (some ad492) t469.length co49, .int .i64 t472, .int .i64 t473], .int .i64 t483] (by rfl) rfl rfl (by (try simp only [List.map_toArray, List.map_cons, List.map_nil]); first | done | rfl | (simp only [List.length_drop, List.length_take]; rfl)) ?_
                           with_reducible refine (anamnesisref03_Ref.calls _ _ t469 t472 t473 t483 t491 _ ?side1 ?side2 A74.out).mono ?_
                           (case side1 => repeat (first | exact (Kd.S_reads' HO_479000.out).2.2 | (with_reducible refine Kd.C_alloc ?_ _) | (with_reducible refine Kd.C_drewN ?_ _) | (with_reducible refine Kd.C_drew ?_)))
                           (case side2 => exact (Kd.S_reads' HO_479000.out).2.1)
                           rintro e w98 ⟨rfl, hb⟩
                           have HS3_ := (hb.cell (World.block_lt_of_cell? _ _ (hHeld.2.2.2.1))).trans (hHeld.2.2.2.1)
                           have HS4_ := (hb.cell (World.block_lt_of_cell? _ _ (hHeld.2.2.2.2.1))).trans (hHeld.2.2.2.2.1)
                           have HS5_ := (hb.cell (World.block_lt_of_cell? _ _ (hHeld.2.2.2.2.2.1))).trans (hHeld.2.2.2.2.2.1)
                           have HS6_ := (hb.cell (World.block_lt_of_cell? _ _ (hHeld.2.2.2.2.2.2.1))).trans (hHeld.2.2.2.2.2.2.1)
                           have HS7_ := (hb.cell (World.block_lt_of_cell? _ _ (hHeld.2.2.2.2.2.2.2.1))).trans (hHeld.2.2.2.2.2.2.2.1)
                           have HS8_ := (hb.cell (World.block_lt_of_cell? _ _ (hHeld.2.2.2.2.2.2.2.2))).trans (hHeld.2.2.2.2.2.2.2.2)
                           refine ⟨_, rfl, ?_⟩
                           have n0_ := Aside0.mk (Kd.R_below (by (with_reducible repeat (first | apply Kd.R_alloc | apply Kd.R_drewN | apply Kd.R_drew)); exact HO_8.out) hb)
                           have n1_ := Aside0.mk (Kd.S_below (by (with_reducible repeat (first | apply Kd.S_alloc | apply Kd.S_drewN | apply Kd.S_drew)); exact HO_479000.out) hb)
                           have n2_ := Aside0.mk (blk_below (g := gb464) (o := .cells #[.slice (some ad488) l0_0.length c0_0, .int .i64 a0_1, .int .i64 a0_2] 24 (0, 0)) (by (with_reducible repeat (first | refine blk_drewN ?_ _ | refine blk_drew ?_ | refine blk_alloc ?_ _)); exact BK464.out) hb)
                           have n3_ := Aside0.mk (blk_below (g := gb478) (o := .cells #[.slice (some ad492) t469.length co49, .int .i64 t472, .int .i64 t473] 24 (0, 0)) (by (with_reducible repeat (first | refine blk_drewN ?_ _ | refine blk_drew ?_ | refine blk_alloc ?_ _)); exact BK478.out) hb)
                           have n4_ := Aside0.mk (blk_below (g := gb489) (o := .cells #[.int .i64 ((rd_T44 l0_0 t487).f0), .int .i64 ((rd_T44 l0_0 t487).f1), .slice A488_2 ((rd_T44 l0_0 t487).f2).length c488_2, .string ((rd_T44 l0_0 t487).f3), .int .i64 ((rd_T44 l0_0 t487).f4), .int .i64 ((rd_T44 l0_0 t487).f5)] 44 (0, 0)) (by (with_reducible repeat (first | refine blk_drewN ?_ _ | refine blk_drew ?_ | refine blk_alloc ?_ _)); exact BK489.out) hb)
                           have n5_ := Aside0.mk (blk_below (g := gb493) (o := .cells #[.int .i64 0, .int .i64 0, .slice none 0 0, .string (⟨#[]⟩ : ByteArray), .int .i64 0, .int .i64 0] 44 (0, 0)) (by (with_reducible repeat (first | refine blk_drewN ?_ _ | refine blk_drew ?_ | refine blk_alloc ?_ _)); exact BK493.out) hb)
                           have n6_ := Aside0.mk (below_step (by repeat (first | (with_reducible first | exact HB.out | apply below_alloc | apply pw_below_drewN | apply below_drew1 | refine below_set ?_ GE464.out | refine below_set ?_ GE478.out | refine below_set ?_ GE489.out | refine below_set ?_ GE493.out) | exact HB.out)) hb)
                           clear HO_8
                           clear HO_479000
                           clear BK464
                           clear BK478
                           clear BK489
                           clear BK493
                           clear HB
                           have HO_8 := n0_
                           have HO_479000 := n1_
                           have BK464 := n2_
                           have BK478 := n3_
                           have BK489 := n4_
                           have BK493 := n5_
                           have HB := n6_
                           clear n0_ n1_ n2_ n3_ n4_ n5_ n6_
                           (try clear hb)
                           (try clear hb2)
                           (try clear hk)
                           (try clear hi)
                           refine hK.out _ _ ⟨(blk_cell BK478.out 0).trans rfl, (blk_cell BK478.out 1).trans rfl, (blk_cell BK478.out 2).trans rfl, HS3_, HS4_, HS5_, HS6_, HS7_, HS8_⟩ (fun hHeld => ?_)
                           clear hK K
                           refine norm_ (a' := ?_) ?_ ?_
                           rotate_left
                           ·show Act.put _ (some 119) _ = _
                            simp only [Act.put, List.setIfInBounds_toArray, List.set_cons_zero, List.set_cons_succ, i64_w, i32_w]
                            rfl
                           refine pure1 (i := 5) (N := some 120) #[true, true, true, true, true, true, false, true, false] HT_.out ?_
                           refine take1 (i := 6) (N := some 121) #[true, true, true, true, true, true, true, true, false] HT_.out HW_.out hHeld ?_
                           exact norm_ (by simp only [putAll, Act.put, List.setIfInBounds_toArray, List.set_cons_zero, List.set_cons_succ]) (hCont (gb493) _ ⟨hHeld, (by (with_reducible repeat (first | apply Kd.S_alloc | apply Kd.S_drewN | apply Kd.S_drew)); exact Kd.S_mono HO_479000.out (fun _ hk => ⟨hk.1.1, ⟨hk.1.2, hk.2⟩⟩)), (by (with_reducible repeat (first | apply Kd.R_alloc | apply Kd.R_drewN | apply Kd.R_drew)); exact HO_8.out), (by (with_reducible repeat (first | refine blk_drewN ?_ _ | refine blk_drew ?_ | refine blk_alloc ?_ _)); exact BK464.out), (by (with_reducible repeat (first | refine blk_drewN ?_ _ | refine blk_drew ?_ | refine blk_alloc ?_ _)); exact BK478.out), (by (with_reducible repeat (first | refine blk_drewN ?_ _ | refine blk_drew ?_ | refine blk_alloc ?_ _)); exact BK489.out), (by (with_reducible repeat (first | refine blk_drewN ?_ _ | refine blk_drew ?_ | refine blk_alloc ?_ _)); exact BK493.out), GW493.out, GE493.out, NB464_493.out, NB493_464.out, NB478_493.out, NB493_478.out, NB489_493.out, NB493_489.out, (by repeat (first | (with_reducible first | exact HB.out | apply below_alloc | apply pw_below_drewN | apply below_drew1 | refine below_set ?_ GE464.out | refine below_set ?_ GE478.out | refine below_set ?_ GE489.out | refine below_set ?_ GE493.out) | exact HB.out))⟩)
                         rintro gb493 w99 ⟨hS_, h0_, h1_, h2_, h3_, h4_, h5_, h6_, h7_, h8_, h9_, h10_, h11_, h12_, h13_, h14_⟩
                         have n0_ : Aside0 (Kd.S k44 44 w99 w.heap.size (fun k_ => some k_ ≠ (.slice (some ad482) t474.length co61 : Value).ownBlock ∧ k_ ≠ gb489 ∧ k_ ≠ gb493) (.slice (some ad492) t469.length co49) t469) := ⟨h0_⟩
                         have n1_ : Aside0 (Kd.R (Kd.int .i64) 3 w99 w.heap.size (fun _ => True) (.slice (some ad482) t474.length co61) t474) := ⟨h1_⟩
                         have n2_ : Aside0 (w99.heap[gb464]? = some (.cells #[.slice (some ad488) l0_0.length c0_0, .int .i64 a0_1, .int .i64 a0_2] 24 (0, 0))) := ⟨h2_⟩
                         have n3_ : Aside0 (w99.heap[gb478]? = some (.cells #[.slice (some ad492) t469.length co49, .int .i64 t472, .int .i64 t473] 24 (0, 0))) := ⟨h3_⟩
                         have n4_ : Aside0 (w99.heap[gb489]? = some (.cells #[.int .i64 ((rd_T44 l0_0 t487).f0), .int .i64 ((rd_T44 l0_0 t487).f1), .slice A488_2 ((rd_T44 l0_0 t487).f2).length c488_2, .string ((rd_T44 l0_0 t487).f3), .int .i64 ((rd_T44 l0_0 t487).f4), .int .i64 ((rd_T44 l0_0 t487).f5)] 44 (0, 0))) := ⟨h4_⟩
                         have n5_ : Aside0 (w99.heap[gb493]? = some (.cells #[.int .i64 0, .int .i64 0, .slice none 0 0, .string (⟨#[]⟩ : ByteArray), .int .i64 0, .int .i64 0] 44 (0, 0))) := ⟨h5_⟩
                         have n6_ : Aside0 (w.heap.size ≤ gb493) := ⟨h6_⟩
                         have n7_ : Aside0 (w.heap.size ≤ gb493) := ⟨h7_⟩
                         have n8_ : Aside0 (gb464 ≠ gb493) := ⟨h8_⟩
                         have n9_ : Aside0 (gb493 ≠ gb464) := ⟨h9_⟩
                         have n10_ : Aside0 (gb478 ≠ gb493) := ⟨h10_⟩
                         have n11_ : Aside0 (gb493 ≠ gb478) := ⟨h11_⟩
                         have n12_ : Aside0 (gb489 ≠ gb493) := ⟨h12_⟩
                         have n13_ : Aside0 (gb493 ≠ gb489) := ⟨h13_⟩
                         have n14_ : Aside0 (Below w.heap.size w w99) := ⟨h14_⟩
                         clear HO_8
                         clear HO_479000
                         clear BK464
                         clear BK478
                         clear BK489
                         clear HB
                         clear h0_ h1_ h2_ h3_ h4_ h5_ h6_ h7_ h8_ h9_ h10_ h11_ h12_ h13_ h14_
                         have HO_479000 := n0_
                         have HO_8 := n1_
                         have BK464 := n2_
                         have BK478 := n3_
                         have BK489 := n4_
                         have BK493 := n5_
                         have GW493 := n6_
                         have GE493 := n7_
                         have NB464_493 := n8_
                         have NB493_464 := n9_
                         have NB478_493 := n10_
                         have NB493_478 := n11_
                         have NB489_493 := n12_
                         have NB493_489 := n13_
                         have HB := n14_
                         clear n0_ n1_ n2_ n3_ n4_ n5_ n6_ n7_ n8_ n9_ n10_ n11_ n12_ n13_ n14_
                         have hHeld : w99.cell? ⟨gb478, 0, none⟩ = some (.slice (some ad492) t469.length co49) ∧ w99.cell? ⟨gb478, 1, none⟩ = some (.int .i64 t472) ∧ w99.cell? ⟨gb478, 2, none⟩ = some (.int .i64 t473) ∧ w99.cell? (ad492.add ((t491).toNat * 6)) = some (.int .i64 ((rd_T44 t469 t491).f0)) ∧ w99.cell? ⟨(ad492.add ((t491).toNat * 6)).block, (ad492.add ((t491).toNat * 6)).off + 1, none⟩ = some (.int .i64 ((rd_T44 t469 t491).f1)) ∧ w99.cell? ⟨(ad492.add ((t491).toNat * 6)).block, (ad492.add ((t491).toNat * 6)).off + 2, none⟩ = some (.slice A492_2 ((rd_T44 t469 t491).f2).length c492_2) ∧ w99.cell? ⟨(ad492.add ((t491).toNat * 6)).block, (ad492.add ((t491).toNat * 6)).off + 3, none⟩ = some (.string ((rd_T44 t469 t491).f3)) ∧ w99.cell? ⟨(ad492.add ((t491).toNat * 6)).block, (ad492.add ((t491).toNat * 6)).off + 4, none⟩ = some (.int .i64 ((rd_T44 t469 t491).f4)) ∧ w99.cell? ⟨(ad492.add ((t491).toNat * 6)).block, (ad492.add ((t491).toNat * 6)).off + 5, none⟩ = some (.int .i64 ((rd_T44 t469 t491).f5)) := hS_
                         refine norm_ (a' := ?_) ?_ ?_
                         rotate_left
                         ·simp only [putAll, Act.put, List.setIfInBounds_toArray, List.set_cons_zero, List.set_cons_succ]
                          rfl
                         refine one_ (i := 8) (N := none) #[true, true, true, true, true, true, true, true, true] rfl rfl (one_of HT_.out (by kernel_rfl)) (by decide) (fun K hK => ?_)
                         have hs100 : w99.cell? ⟨gb493, 0, none⟩ = some (.int .i64 0) := (blk_cell BK493.out 0).trans rfl
                         have hfs100 := blk_frozen BK493.out 0
                         have hns100_0 := NB464_493.out
                         have hns100_1 := NB478_493.out
                         have hns100_2 := NB489_493.out
                         have hms100_0 := NB493_464.out
                         have hms100_1 := NB493_478.out
                         have hms100_2 := NB493_489.out
                         have hs101 : w99.cell? ⟨gb493, 1, none⟩ = some (.int .i64 0) := (blk_cell BK493.out 1).trans rfl
                         have hfs101 := blk_frozen BK493.out 1
                         have hns101_0 := NB464_493.out
                         have hns101_1 := NB478_493.out
                         have hns101_2 := NB489_493.out
                         have hms101_0 := NB493_464.out
                         have hms101_1 := NB493_478.out
                         have hms101_2 := NB493_489.out
                         have hs102 : w99.cell? ⟨gb493, 2, none⟩ = some (.slice none 0 0) := (blk_cell BK493.out 2).trans rfl
                         have hfs102 := blk_frozen BK493.out 2
                         have hns102_0 := NB464_493.out
                         have hns102_1 := NB478_493.out
                         have hns102_2 := NB489_493.out
                         have hms102_0 := NB493_464.out
                         have hms102_1 := NB493_478.out
                         have hms102_2 := NB493_489.out
                         have hs103 : w99.cell? ⟨gb493, 3, none⟩ = some (.string (⟨#[]⟩ : ByteArray)) := (blk_cell BK493.out 3).trans rfl
                         have hfs103 := blk_frozen BK493.out 3
                         have hns103_0 := NB464_493.out
                         have hns103_1 := NB478_493.out
                         have hns103_2 := NB489_493.out
                         have hms103_0 := NB493_464.out
                         have hms103_1 := NB493_478.out
                         have hms103_2 := NB493_489.out
                         have hs104 : w99.cell? ⟨gb493, 4, none⟩ = some (.int .i64 0) := (blk_cell BK493.out 4).trans rfl
                         have hfs104 := blk_frozen BK493.out 4
                         have hns104_0 := NB464_493.out
                         have hns104_1 := NB478_493.out
                         have hns104_2 := NB489_493.out
                         have hms104_0 := NB493_464.out
                         have hms104_1 := NB493_478.out
                         have hms104_2 := NB493_489.out
                         have hs105 : w99.cell? ⟨gb493, 5, none⟩ = some (.int .i64 0) := (blk_cell BK493.out 5).trans rfl
                         have hfs105 := blk_frozen BK493.out 5
                         have hns105_0 := NB464_493.out
                         have hns105_1 := NB478_493.out
                         have hns105_2 := NB489_493.out
                         have hms105_0 := NB493_464.out
                         have hms105_1 := NB493_478.out
                         have hms105_2 := NB493_489.out
                         refine skip_ (w1 := ?_) (by rfl) rfl ?_ ?_
                         rotate_left
                         ·go_simp
                          rfl
                         refine hK.out _ _ ⟨((cell_far (p := ⟨gb493, _, none⟩) NB478_493.out _).trans (((cell_far (p := ⟨gb493, _, none⟩) NB478_493.out _).trans (((cell_far (p := ⟨gb493, _, none⟩) NB478_493.out _).trans (((cell_far (p := ⟨gb493, _, none⟩) NB478_493.out _).trans (((cell_far (p := ⟨gb493, _, none⟩) NB478_493.out _).trans (((cell_far (p := ⟨gb493, _, none⟩) NB478_493.out _).trans (hHeld.1)))))))))))), ((cell_far (p := ⟨gb493, _, none⟩) NB478_493.out _).trans (((cell_far (p := ⟨gb493, _, none⟩) NB478_493.out _).trans (((cell_far (p := ⟨gb493, _, none⟩) NB478_493.out _).trans (((cell_far (p := ⟨gb493, _, none⟩) NB478_493.out _).trans (((cell_far (p := ⟨gb493, _, none⟩) NB478_493.out _).trans (((cell_far (p := ⟨gb493, _, none⟩) NB478_493.out _).trans (hHeld.2.1)))))))))))), ((cell_far (p := ⟨gb493, _, none⟩) NB478_493.out _).trans (((cell_far (p := ⟨gb493, _, none⟩) NB478_493.out _).trans (((cell_far (p := ⟨gb493, _, none⟩) NB478_493.out _).trans (((cell_far (p := ⟨gb493, _, none⟩) NB478_493.out _).trans (((cell_far (p := ⟨gb493, _, none⟩) NB478_493.out _).trans (((cell_far (p := ⟨gb493, _, none⟩) NB478_493.out _).trans (hHeld.2.2.1)))))))))))), ((cell_far (p := ⟨gb493, _, none⟩) (by first | exact Kd.own_blk (Kd.S_away HO_479000.out (fun _ hk => hk.2.2)) | (rw [add_block]; exact Kd.own_blk (Kd.S_away HO_479000.out (fun _ hk => hk.2.2))) | (show (Addr.add _ _).block ≠ _; rw [add_block]; exact Kd.own_blk (Kd.S_away HO_479000.out (fun _ hk => hk.2.2))) | (dsimp only; exact Kd.own_blk (Kd.S_away HO_479000.out (fun _ hk => hk.2.2)))) _).trans (((cell_far (p := ⟨gb493, _, none⟩) (by first | exact Kd.own_blk (Kd.S_away HO_479000.out (fun _ hk => hk.2.2)) | (rw [add_block]; exact Kd.own_blk (Kd.S_away HO_479000.out (fun _ hk => hk.2.2))) | (show (Addr.add _ _).block ≠ _; rw [add_block]; exact Kd.own_blk (Kd.S_away HO_479000.out (fun _ hk => hk.2.2))) | (dsimp only; exact Kd.own_blk (Kd.S_away HO_479000.out (fun _ hk => hk.2.2)))) _).trans (((cell_far (p := ⟨gb493, _, none⟩) (by first | exact Kd.own_blk (Kd.S_away HO_479000.out (fun _ hk => hk.2.2)) | (rw [add_block]; exact Kd.own_blk (Kd.S_away HO_479000.out (fun _ hk => hk.2.2))) | (show (Addr.add _ _).block ≠ _; rw [add_block]; exact Kd.own_blk (Kd.S_away HO_479000.out (fun _ hk => hk.2.2))) | (dsimp only; exact Kd.own_blk (Kd.S_away HO_479000.out (fun _ hk => hk.2.2)))) _).trans (((cell_far (p := ⟨gb493, _, none⟩) (by first | exact Kd.own_blk (Kd.S_away HO_479000.out (fun _ hk => hk.2.2)) | (rw [add_block]; exact Kd.own_blk (Kd.S_away HO_479000.out (fun _ hk => hk.2.2))) | (show (Addr.add _ _).block ≠ _; rw [add_block]; exact Kd.own_blk (Kd.S_away HO_479000.out (fun _ hk => hk.2.2))) | (dsimp only; exact Kd.own_blk (Kd.S_away HO_479000.out (fun _ hk => hk.2.2)))) _).trans (((cell_far (p := ⟨gb493, _, none⟩) (by first | exact Kd.own_blk (Kd.S_away HO_479000.out (fun _ hk => hk.2.2)) | (rw [add_block]; exact Kd.own_blk (Kd.S_away HO_479000.out (fun _ hk => hk.2.2))) | (show (Addr.add _ _).block ≠ _; rw [add_block]; exact Kd.own_blk (Kd.S_away HO_479000.out (fun _ hk => hk.2.2))) | (dsimp only; exact Kd.own_blk (Kd.S_away HO_479000.out (fun _ hk => hk.2.2)))) _).trans (((cell_far (p := ⟨gb493, _, none⟩) (by first | exact Kd.own_blk (Kd.S_away HO_479000.out (fun _ hk => hk.2.2)) | (rw [add_block]; exact Kd.own_blk (Kd.S_away HO_479000.out (fun _ hk => hk.2.2))) | (show (Addr.add _ _).block ≠ _; rw [add_block]; exact Kd.own_blk (Kd.S_away HO_479000.out (fun _ hk => hk.2.2))) | (dsimp only; exact Kd.own_blk (Kd.S_away HO_479000.out (fun _ hk => hk.2.2)))) _).trans (hHeld.2.2.2.1)))))))))))), ((cell_far (p := ⟨gb493, _, none⟩) (by first | exact Kd.own_blk (Kd.S_away HO_479000.out (fun _ hk => hk.2.2)) | (rw [add_block]; exact Kd.own_blk (Kd.S_away HO_479000.out (fun _ hk => hk.2.2))) | (show (Addr.add _ _).block ≠ _; rw [add_block]; exact Kd.own_blk (Kd.S_away HO_479000.out (fun _ hk => hk.2.2))) | (dsimp only; exact Kd.own_blk (Kd.S_away HO_479000.out (fun _ hk => hk.2.2)))) _).trans (((cell_far (p := ⟨gb493, _, none⟩) (by first | exact Kd.own_blk (Kd.S_away HO_479000.out (fun _ hk => hk.2.2)) | (rw [add_block]; exact Kd.own_blk (Kd.S_away HO_479000.out (fun _ hk => hk.2.2))) | (show (Addr.add _ _).block ≠ _; rw [add_block]; exact Kd.own_blk (Kd.S_away HO_479000.out (fun _ hk => hk.2.2))) | (dsimp only; exact Kd.own_blk (Kd.S_away HO_479000.out (fun _ hk => hk.2.2)))) _).trans (((cell_far (p := ⟨gb493, _, none⟩) (by first | exact Kd.own_blk (Kd.S_away HO_479000.out (fun _ hk => hk.2.2)) | (rw [add_block]; exact Kd.own_blk (Kd.S_away HO_479000.out (fun _ hk => hk.2.2))) | (show (Addr.add _ _).block ≠ _; rw [add_block]; exact Kd.own_blk (Kd.S_away HO_479000.out (fun _ hk => hk.2.2))) | (dsimp only; exact Kd.own_blk (Kd.S_away HO_479000.out (fun _ hk => hk.2.2)))) _).trans (((cell_far (p := ⟨gb493, _, none⟩) (by first | exact Kd.own_blk (Kd.S_away HO_479000.out (fun _ hk => hk.2.2)) | (rw [add_block]; exact Kd.own_blk (Kd.S_away HO_479000.out (fun _ hk => hk.2.2))) | (show (Addr.add _ _).block ≠ _; rw [add_block]; exact Kd.own_blk (Kd.S_away HO_479000.out (fun _ hk => hk.2.2))) | (dsimp only; exact Kd.own_blk (Kd.S_away HO_479000.out (fun _ hk => hk.2.2)))) _).trans (((cell_far (p := ⟨gb493, _, none⟩) (by first | exact Kd.own_blk (Kd.S_away HO_479000.out (fun _ hk => hk.2.2)) | (rw [add_block]; exact Kd.own_blk (Kd.S_away HO_479000.out (fun _ hk => hk.2.2))) | (show (Addr.add _ _).block ≠ _; rw [add_block]; exact Kd.own_blk (Kd.S_away HO_479000.out (fun _ hk => hk.2.2))) | (dsimp only; exact Kd.own_blk (Kd.S_away HO_479000.out (fun _ hk => hk.2.2)))) _).trans (((cell_far (p := ⟨gb493, _, none⟩) (by first | exact Kd.own_blk (Kd.S_away HO_479000.out (fun _ hk => hk.2.2)) | (rw [add_block]; exact Kd.own_blk (Kd.S_away HO_479000.out (fun _ hk => hk.2.2))) | (show (Addr.add _ _).block ≠ _; rw [add_block]; exact Kd.own_blk (Kd.S_away HO_479000.out (fun _ hk => hk.2.2))) | (dsimp only; exact Kd.own_blk (Kd.S_away HO_479000.out (fun _ hk => hk.2.2)))) _).trans (hHeld.2.2.2.2.1)))))))))))), ((cell_far (p := ⟨gb493, _, none⟩) (by first | exact Kd.own_blk (Kd.S_away HO_479000.out (fun _ hk => hk.2.2)) | (rw [add_block]; exact Kd.own_blk (Kd.S_away HO_479000.out (fun _ hk => hk.2.2))) | (show (Addr.add _ _).block ≠ _; rw [add_block]; exact Kd.own_blk (Kd.S_away HO_479000.out (fun _ hk => hk.2.2))) | (dsimp only; exact Kd.own_blk (Kd.S_away HO_479000.out (fun _ hk => hk.2.2)))) _).trans (((cell_far (p := ⟨gb493, _, none⟩) (by first | exact Kd.own_blk (Kd.S_away HO_479000.out (fun _ hk => hk.2.2)) | (rw [add_block]; exact Kd.own_blk (Kd.S_away HO_479000.out (fun _ hk => hk.2.2))) | (show (Addr.add _ _).block ≠ _; rw [add_block]; exact Kd.own_blk (Kd.S_away HO_479000.out (fun _ hk => hk.2.2))) | (dsimp only; exact Kd.own_blk (Kd.S_away HO_479000.out (fun _ hk => hk.2.2)))) _).trans (((cell_far (p := ⟨gb493, _, none⟩) (by first | exact Kd.own_blk (Kd.S_away HO_479000.out (fun _ hk => hk.2.2)) | (rw [add_block]; exact Kd.own_blk (Kd.S_away HO_479000.out (fun _ hk => hk.2.2))) | (show (Addr.add _ _).block ≠ _; rw [add_block]; exact Kd.own_blk (Kd.S_away HO_479000.out (fun _ hk => hk.2.2))) | (dsimp only; exact Kd.own_blk (Kd.S_away HO_479000.out (fun _ hk => hk.2.2)))) _).trans (((cell_far (p := ⟨gb493, _, none⟩) (by first | exact Kd.own_blk (Kd.S_away HO_479000.out (fun _ hk => hk.2.2)) | (rw [add_block]; exact Kd.own_blk (Kd.S_away HO_479000.out (fun _ hk => hk.2.2))) | (show (Addr.add _ _).block ≠ _; rw [add_block]; exact Kd.own_blk (Kd.S_away HO_479000.out (fun _ hk => hk.2.2))) | (dsimp only; exact Kd.own_blk (Kd.S_away HO_479000.out (fun _ hk => hk.2.2)))) _).trans (((cell_far (p := ⟨gb493, _, none⟩) (by first | exact Kd.own_blk (Kd.S_away HO_479000.out (fun _ hk => hk.2.2)) | (rw [add_block]; exact Kd.own_blk (Kd.S_away HO_479000.out (fun _ hk => hk.2.2))) | (show (Addr.add _ _).block ≠ _; rw [add_block]; exact Kd.own_blk (Kd.S_away HO_479000.out (fun _ hk => hk.2.2))) | (dsimp only; exact Kd.own_blk (Kd.S_away HO_479000.out (fun _ hk => hk.2.2)))) _).trans (((cell_far (p := ⟨gb493, _, none⟩) (by first | exact Kd.own_blk (Kd.S_away HO_479000.out (fun _ hk => hk.2.2)) | (rw [add_block]; exact Kd.own_blk (Kd.S_away HO_479000.out (fun _ hk => hk.2.2))) | (show (Addr.add _ _).block ≠ _; rw [add_block]; exact Kd.own_blk (Kd.S_away HO_479000.out (fun _ hk => hk.2.2))) | (dsimp only; exact Kd.own_blk (Kd.S_away HO_479000.out (fun _ hk => hk.2.2)))) _).trans (hHeld.2.2.2.2.2.1)))))))))))), ((cell_far (p := ⟨gb493, _, none⟩) (by first | exact Kd.own_blk (Kd.S_away HO_479000.out (fun _ hk => hk.2.2)) | (rw [add_block]; exact Kd.own_blk (Kd.S_away HO_479000.out (fun _ hk => hk.2.2))) | (show (Addr.add _ _).block ≠ _; rw [add_block]; exact Kd.own_blk (Kd.S_away HO_479000.out (fun _ hk => hk.2.2))) | (dsimp only; exact Kd.own_blk (Kd.S_away HO_479000.out (fun _ hk => hk.2.2)))) _).trans (((cell_far (p := ⟨gb493, _, none⟩) (by first | exact Kd.own_blk (Kd.S_away HO_479000.out (fun _ hk => hk.2.2)) | (rw [add_block]; exact Kd.own_blk (Kd.S_away HO_479000.out (fun _ hk => hk.2.2))) | (show (Addr.add _ _).block ≠ _; rw [add_block]; exact Kd.own_blk (Kd.S_away HO_479000.out (fun _ hk => hk.2.2))) | (dsimp only; exact Kd.own_blk (Kd.S_away HO_479000.out (fun _ hk => hk.2.2)))) _).trans (((cell_far (p := ⟨gb493, _, none⟩) (by first | exact Kd.own_blk (Kd.S_away HO_479000.out (fun _ hk => hk.2.2)) | (rw [add_block]; exact Kd.own_blk (Kd.S_away HO_479000.out (fun _ hk => hk.2.2))) | (show (Addr.add _ _).block ≠ _; rw [add_block]; exact Kd.own_blk (Kd.S_away HO_479000.out (fun _ hk => hk.2.2))) | (dsimp only; exact Kd.own_blk (Kd.S_away HO_479000.out (fun _ hk => hk.2.2)))) _).trans (((cell_far (p := ⟨gb493, _, none⟩) (by first | exact Kd.own_blk (Kd.S_away HO_479000.out (fun _ hk => hk.2.2)) | (rw [add_block]; exact Kd.own_blk (Kd.S_away HO_479000.out (fun _ hk => hk.2.2))) | (show (Addr.add _ _).block ≠ _; rw [add_block]; exact Kd.own_blk (Kd.S_away HO_479000.out (fun _ hk => hk.2.2))) | (dsimp only; exact Kd.own_blk (Kd.S_away HO_479000.out (fun _ hk => hk.2.2)))) _).trans (((cell_far (p := ⟨gb493, _, none⟩) (by first | exact Kd.own_blk (Kd.S_away HO_479000.out (fun _ hk => hk.2.2)) | (rw [add_block]; exact Kd.own_blk (Kd.S_away HO_479000.out (fun _ hk => hk.2.2))) | (show (Addr.add _ _).block ≠ _; rw [add_block]; exact Kd.own_blk (Kd.S_away HO_479000.out (fun _ hk => hk.2.2))) | (dsimp only; exact Kd.own_blk (Kd.S_away HO_479000.out (fun _ hk => hk.2.2)))) _).trans (((cell_far (p := ⟨gb493, _, none⟩) (by first | exact Kd.own_blk (Kd.S_away HO_479000.out (fun _ hk => hk.2.2)) | (rw [add_block]; exact Kd.own_blk (Kd.S_away HO_479000.out (fun _ hk => hk.2.2))) | (show (Addr.add _ _).block ≠ _; rw [add_block]; exact Kd.own_blk (Kd.S_away HO_479000.out (fun _ hk => hk.2.2))) | (dsimp only; exact Kd.own_blk (Kd.S_away HO_479000.out (fun _ hk => hk.2.2)))) _).trans (hHeld.2.2.2.2.2.2.1)))))))))))), ((cell_far (p := ⟨gb493, _, none⟩) (by first | exact Kd.own_blk (Kd.S_away HO_479000.out (fun _ hk => hk.2.2)) | (rw [add_block]; exact Kd.own_blk (Kd.S_away HO_479000.out (fun _ hk => hk.2.2))) | (show (Addr.add _ _).block ≠ _; rw [add_block]; exact Kd.own_blk (Kd.S_away HO_479000.out (fun _ hk => hk.2.2))) | (dsimp only; exact Kd.own_blk (Kd.S_away HO_479000.out (fun _ hk => hk.2.2)))) _).trans (((cell_far (p := ⟨gb493, _, none⟩) (by first | exact Kd.own_blk (Kd.S_away HO_479000.out (fun _ hk => hk.2.2)) | (rw [add_block]; exact Kd.own_blk (Kd.S_away HO_479000.out (fun _ hk => hk.2.2))) | (show (Addr.add _ _).block ≠ _; rw [add_block]; exact Kd.own_blk (Kd.S_away HO_479000.out (fun _ hk => hk.2.2))) | (dsimp only; exact Kd.own_blk (Kd.S_away HO_479000.out (fun _ hk => hk.2.2)))) _).trans (((cell_far (p := ⟨gb493, _, none⟩) (by first | exact Kd.own_blk (Kd.S_away HO_479000.out (fun _ hk => hk.2.2)) | (rw [add_block]; exact Kd.own_blk (Kd.S_away HO_479000.out (fun _ hk => hk.2.2))) | (show (Addr.add _ _).block ≠ _; rw [add_block]; exact Kd.own_blk (Kd.S_away HO_479000.out (fun _ hk => hk.2.2))) | (dsimp only; exact Kd.own_blk (Kd.S_away HO_479000.out (fun _ hk => hk.2.2)))) _).trans (((cell_far (p := ⟨gb493, _, none⟩) (by first | exact Kd.own_blk (Kd.S_away HO_479000.out (fun _ hk => hk.2.2)) | (rw [add_block]; exact Kd.own_blk (Kd.S_away HO_479000.out (fun _ hk => hk.2.2))) | (show (Addr.add _ _).block ≠ _; rw [add_block]; exact Kd.own_blk (Kd.S_away HO_479000.out (fun _ hk => hk.2.2))) | (dsimp only; exact Kd.own_blk (Kd.S_away HO_479000.out (fun _ hk => hk.2.2)))) _).trans (((cell_far (p := ⟨gb493, _, none⟩) (by first | exact Kd.own_blk (Kd.S_away HO_479000.out (fun _ hk => hk.2.2)) | (rw [add_block]; exact Kd.own_blk (Kd.S_away HO_479000.out (fun _ hk => hk.2.2))) | (show (Addr.add _ _).block ≠ _; rw [add_block]; exact Kd.own_blk (Kd.S_away HO_479000.out (fun _ hk => hk.2.2))) | (dsimp only; exact Kd.own_blk (Kd.S_away HO_479000.out (fun _ hk => hk.2.2)))) _).trans (((cell_far (p := ⟨gb493, _, none⟩) (by first | exact Kd.own_blk (Kd.S_away HO_479000.out (fun _ hk => hk.2.2)) | (rw [add_block]; exact Kd.own_blk (Kd.S_away HO_479000.out (fun _ hk => hk.2.2))) | (show (Addr.add _ _).block ≠ _; rw [add_block]; exact Kd.own_blk (Kd.S_away HO_479000.out (fun _ hk => hk.2.2))) | (dsimp only; exact Kd.own_blk (Kd.S_away HO_479000.out (fun _ hk => hk.2.2)))) _).trans (hHeld.2.2.2.2.2.2.2.1)))))))))))), ((cell_far (p := ⟨gb493, _, none⟩) (by first | exact Kd.own_blk (Kd.S_away HO_479000.out (fun _ hk => hk.2.2)) | (rw [add_block]; exact Kd.own_blk (Kd.S_away HO_479000.out (fun _ hk => hk.2.2))) | (show (Addr.add _ _).block ≠ _; rw [add_block]; exact Kd.own_blk (Kd.S_away HO_479000.out (fun _ hk => hk.2.2))) | (dsimp only; exact Kd.own_blk (Kd.S_away HO_479000.out (fun _ hk => hk.2.2)))) _).trans (((cell_far (p := ⟨gb493, _, none⟩) (by first | exact Kd.own_blk (Kd.S_away HO_479000.out (fun _ hk => hk.2.2)) | (rw [add_block]; exact Kd.own_blk (Kd.S_away HO_479000.out (fun _ hk => hk.2.2))) | (show (Addr.add _ _).block ≠ _; rw [add_block]; exact Kd.own_blk (Kd.S_away HO_479000.out (fun _ hk => hk.2.2))) | (dsimp only; exact Kd.own_blk (Kd.S_away HO_479000.out (fun _ hk => hk.2.2)))) _).trans (((cell_far (p := ⟨gb493, _, none⟩) (by first | exact Kd.own_blk (Kd.S_away HO_479000.out (fun _ hk => hk.2.2)) | (rw [add_block]; exact Kd.own_blk (Kd.S_away HO_479000.out (fun _ hk => hk.2.2))) | (show (Addr.add _ _).block ≠ _; rw [add_block]; exact Kd.own_blk (Kd.S_away HO_479000.out (fun _ hk => hk.2.2))) | (dsimp only; exact Kd.own_blk (Kd.S_away HO_479000.out (fun _ hk => hk.2.2)))) _).trans (((cell_far (p := ⟨gb493, _, none⟩) (by first | exact Kd.own_blk (Kd.S_away HO_479000.out (fun _ hk => hk.2.2)) | (rw [add_block]; exact Kd.own_blk (Kd.S_away HO_479000.out (fun _ hk => hk.2.2))) | (show (Addr.add _ _).block ≠ _; rw [add_block]; exact Kd.own_blk (Kd.S_away HO_479000.out (fun _ hk => hk.2.2))) | (dsimp only; exact Kd.own_blk (Kd.S_away HO_479000.out (fun _ hk => hk.2.2)))) _).trans (((cell_far (p := ⟨gb493, _, none⟩) (by first | exact Kd.own_blk (Kd.S_away HO_479000.out (fun _ hk => hk.2.2)) | (rw [add_block]; exact Kd.own_blk (Kd.S_away HO_479000.out (fun _ hk => hk.2.2))) | (show (Addr.add _ _).block ≠ _; rw [add_block]; exact Kd.own_blk (Kd.S_away HO_479000.out (fun _ hk => hk.2.2))) | (dsimp only; exact Kd.own_blk (Kd.S_away HO_479000.out (fun _ hk => hk.2.2)))) _).trans (((cell_far (p := ⟨gb493, _, none⟩) (by first | exact Kd.own_blk (Kd.S_away HO_479000.out (fun _ hk => hk.2.2)) | (rw [add_block]; exact Kd.own_blk (Kd.S_away HO_479000.out (fun _ hk => hk.2.2))) | (show (Addr.add _ _).block ≠ _; rw [add_block]; exact Kd.own_blk (Kd.S_away HO_479000.out (fun _ hk => hk.2.2))) | (dsimp only; exact Kd.own_blk (Kd.S_away HO_479000.out (fun _ hk => hk.2.2)))) _).trans (hHeld.2.2.2.2.2.2.2.2))))))))))))⟩ (fun hHeld => ?_)
                         clear hK K
                         refine done_ (done_of HT_.out (by kernel_rfl)) ?_
                         have hnb106 := NB489_464.out
                         have hnc106 := NB464_489.out
                         have hnb107 := NB489_493.out
                         have hnc107 := NB493_489.out
                         have hcz108_0 : w99.cell? ⟨gb489, 0, none⟩ = some (.int .i64 ((rd_T44 l0_0 t487).f0)) := (blk_cell BK489.out 0).trans rfl
                         have hcz108_1 : w99.cell? ⟨gb489, 1, none⟩ = some (.int .i64 ((rd_T44 l0_0 t487).f1)) := (blk_cell BK489.out 1).trans rfl
                         have hcz108_2 : w99.cell? ⟨gb489, 2, none⟩ = some (.slice A488_2 ((rd_T44 l0_0 t487).f2).length c488_2) := (blk_cell BK489.out 2).trans rfl
                         have hcz108_3 : w99.cell? ⟨gb489, 3, none⟩ = some (.string ((rd_T44 l0_0 t487).f3)) := (blk_cell BK489.out 3).trans rfl
                         have hcz108_4 : w99.cell? ⟨gb489, 4, none⟩ = some (.int .i64 ((rd_T44 l0_0 t487).f4)) := (blk_cell BK489.out 4).trans rfl
                         have hcz108_5 : w99.cell? ⟨gb489, 5, none⟩ = some (.int .i64 ((rd_T44 l0_0 t487).f5)) := (blk_cell BK489.out 5).trans rfl
                         have hfz108_0 := blk_frozen BK489.out 0
                         have hfz108_1 := blk_frozen BK489.out 1
                         have hfz108_2 := blk_frozen BK489.out 2
                         have hfz108_3 := blk_frozen BK489.out 3
                         have hfz108_4 := blk_frozen BK489.out 4
                         have hfz108_5 := blk_frozen BK489.out 5
                         have hnb109 := NB493_464.out
                         have hnc109 := NB464_493.out
                         have hnb110 := NB493_478.out
                         have hnc110 := NB478_493.out
                         have hcz111_0 : w99.cell? ⟨gb493, 0, none⟩ = some (.int .i64 0) := (blk_cell BK493.out 0).trans rfl
                         have hcz111_1 : w99.cell? ⟨gb493, 1, none⟩ = some (.int .i64 0) := (blk_cell BK493.out 1).trans rfl
                         have hcz111_2 : w99.cell? ⟨gb493, 2, none⟩ = some (.slice none 0 0) := (blk_cell BK493.out 2).trans rfl
                         have hcz111_3 : w99.cell? ⟨gb493, 3, none⟩ = some (.string (⟨#[]⟩ : ByteArray)) := (blk_cell BK493.out 3).trans rfl
                         have hcz111_4 : w99.cell? ⟨gb493, 4, none⟩ = some (.int .i64 0) := (blk_cell BK493.out 4).trans rfl
                         have hcz111_5 : w99.cell? ⟨gb493, 5, none⟩ = some (.int .i64 0) := (blk_cell BK493.out 5).trans rfl
                         have hfz111_0 := blk_frozen BK493.out 0
                         have hfz111_1 := blk_frozen BK493.out 1
                         have hfz111_2 := blk_frozen BK493.out 2
                         have hfz111_3 := blk_frozen BK493.out 3
                         have hfz111_4 := blk_frozen BK493.out 4
                         have hfz111_5 := blk_frozen BK493.out 5
                         try go_wp2
                         go_roundg kj59
                         case measure => have := HJ3.out; have := HK2.out; have := HJ59.out; omega
                         case rel => exact ⟨(wrap64 (x10_2 + 1)), (by first | rfl | (simp; done) | (simp [*]; done)), H', ⟨by have := HJ3.out; have := HK2.out; have := HJ59.out; omega⟩, ⟨by (with_reducible repeat (first | apply Kd.R_alloc | apply Kd.R_drewN | apply Kd.R_drew)); exact Kd.R_mono (Kd.R_far (p := ⟨gb493, 5, none⟩) (Kd.R_far (p := ⟨gb493, 4, none⟩) (Kd.R_far (p := ⟨gb493, 3, none⟩) (Kd.R_far (p := ⟨gb493, 2, none⟩) (Kd.R_far (p := ⟨gb493, 1, none⟩) (Kd.R_far (p := ⟨gb493, 0, none⟩) (Kd.R_types HO_8.out BK493.out (by decide)) (fun _ hk => hk.2) (.int .i64 ((rd_T44 t469 t491).f0))) (fun _ hk => hk.2) (.int .i64 ((rd_T44 t469 t491).f1))) (fun _ hk => hk.2) (.slice A492_2 ((rd_T44 t469 t491).f2).length c492_2)) (fun _ hk => hk.2) (.string ((rd_T44 t469 t491).f3))) (fun _ hk => hk.2) (.int .i64 ((rd_T44 t469 t491).f4))) (fun _ hk => hk.2) (.int .i64 ((rd_T44 t469 t491).f5))) (fun _ hk => trivial)⟩, ⟨by (with_reducible repeat (first | apply Kd.S_alloc | apply Kd.S_drewN | apply Kd.S_drew)); exact Kd.S_mono (Kd.S_far (p := ⟨gb493, 5, none⟩) (Kd.S_far (p := ⟨gb493, 4, none⟩) (Kd.S_far (p := ⟨gb493, 3, none⟩) (Kd.S_far (p := ⟨gb493, 2, none⟩) (Kd.S_far (p := ⟨gb493, 1, none⟩) (Kd.S_far (p := ⟨gb493, 0, none⟩) (Kd.S_mono HO_479000.out (fun k_ hk => (⟨hk, hk.2.2⟩ : _ ∧ k_ ≠ gb493))) (fun _ hk => hk.2) (.int .i64 ((rd_T44 t469 t491).f0))) (fun _ hk => hk.2) (.int .i64 ((rd_T44 t469 t491).f1))) (fun _ hk => hk.2) (.slice A492_2 ((rd_T44 t469 t491).f2).length c492_2)) (fun _ hk => hk.2) (.string ((rd_T44 t469 t491).f3))) (fun _ hk => hk.2) (.int .i64 ((rd_T44 t469 t491).f4))) (fun _ hk => hk.2) (.int .i64 ((rd_T44 t469 t491).f5))) (fun _ hk => hk.1.1)⟩, ⟨by (with_reducible repeat (first | refine blk_drewN ?_ _ | refine blk_drew ?_ | refine blk_alloc ?_ _)); refine blk_far ?_ NB464_493.out _; (with_reducible repeat (first | refine blk_drewN ?_ _ | refine blk_drew ?_ | refine blk_alloc ?_ _)); refine blk_far ?_ NB464_493.out _; (with_reducible repeat (first | refine blk_drewN ?_ _ | refine blk_drew ?_ | refine blk_alloc ?_ _)); refine blk_far ?_ NB464_493.out _; (with_reducible repeat (first | refine blk_drewN ?_ _ | refine blk_drew ?_ | refine blk_alloc ?_ _)); refine blk_far ?_ NB464_493.out _; (with_reducible repeat (first | refine blk_drewN ?_ _ | refine blk_drew ?_ | refine blk_alloc ?_ _)); refine blk_far ?_ NB464_493.out _; (with_reducible repeat (first | refine blk_drewN ?_ _ | refine blk_drew ?_ | refine blk_alloc ?_ _)); refine blk_far ?_ NB464_493.out _; (with_reducible repeat (first | refine blk_drewN ?_ _ | refine blk_drew ?_ | refine blk_alloc ?_ _)); exact BK464.out⟩, ⟨by (with_reducible repeat (first | refine blk_drewN ?_ _ | refine blk_drew ?_ | refine blk_alloc ?_ _)); refine blk_far ?_ NB478_493.out _; (with_reducible repeat (first | refine blk_drewN ?_ _ | refine blk_drew ?_ | refine blk_alloc ?_ _)); refine blk_far ?_ NB478_493.out _; (with_reducible repeat (first | refine blk_drewN ?_ _ | refine blk_drew ?_ | refine blk_alloc ?_ _)); refine blk_far ?_ NB478_493.out _; (with_reducible repeat (first | refine blk_drewN ?_ _ | refine blk_drew ?_ | refine blk_alloc ?_ _)); refine blk_far ?_ NB478_493.out _; (with_reducible repeat (first | refine blk_drewN ?_ _ | refine blk_drew ?_ | refine blk_alloc ?_ _)); refine blk_far ?_ NB478_493.out _; (with_reducible repeat (first | refine blk_drewN ?_ _ | refine blk_drew ?_ | refine blk_alloc ?_ _)); refine blk_far ?_ NB478_493.out _; (with_reducible repeat (first | refine blk_drewN ?_ _ | refine blk_drew ?_ | refine blk_alloc ?_ _)); exact BK478.out⟩, ⟨by repeat (first | (with_reducible first | exact HB.out | apply below_alloc | apply pw_below_drewN | apply below_drew1 | refine below_set ?_ GE464.out | refine below_set ?_ GE478.out | refine below_set ?_ GE489.out | refine below_set ?_ GE493.out) | exact HB.out)⟩⟩
                        ·rw [if_neg c81] at H
                         exact absurd H (by simp)
                       ·rw [if_neg c80] at H
                        exact absurd H (by simp)
                      ·rw [if_neg c79] at H
                       exact absurd H (by simp)
                     ·rw [if_neg c78] at H
                      exact absurd H (by simp)
                    ·rw [if_neg c77] at H
                     exact absurd H (by simp)
                   ·rw [if_neg c76] at H
                    exact absurd H (by simp)
                  ·rw [if_neg c75] at H
                   exact absurd H (by simp)
                ·rw [if_neg c71] at H
                 exact absurd H (by simp)
               ·rw [if_neg c70] at H
                exact absurd H (by simp)
          ·rw [if_neg c56] at H
           exact absurd H (by simp)
         ·rw [if_neg c54] at H
          exact absurd H (by simp)
        ·rw [if_neg c53] at H
         exact absurd H (by simp)
       ·rw [if_neg c52] at H
        have c52b0 : decide (x10_2 < (l1.length : Int)) = false := decide_eq_false c52
        clear c52
        obtain rfl := Option.some.inj H
        go_wp2
        go_ret
        exact ⟨by first | rfl | (simp [errW_none, errW_some] <;> rfl) | (simp [*, errW_none, errW_some] <;> rfl), by repeat (first | (with_reducible first | exact HB.out | apply below_alloc | apply pw_below_drewN | apply below_drew1 | refine below_set ?_ GE464.out | refine below_set ?_ GE478.out) | exact HB.out)⟩
    ·rw [if_neg c45] at H
     have c45b0 : (t477 == 0) = false := beq_eq_false_iff_ne.mpr c45
     have c45b1 : (t477 != 0) = true := bne_iff_ne.mpr c45
     obtain rfl := Option.some.inj H
     have hcz112_0 : wc.cell? ⟨gb464, 0, none⟩ = some (.slice A0_0 l0_0.length c0_0) := (blk_cell BK464.out 0).trans rfl
     have hcz112_1 : wc.cell? ⟨gb464, 1, none⟩ = some (.int .i64 a0_1) := (blk_cell BK464.out 1).trans rfl
     have hcz112_2 : wc.cell? ⟨gb464, 2, none⟩ = some (.int .i64 a0_2) := (blk_cell BK464.out 2).trans rfl
     have hfz112_0 := blk_frozen BK464.out 0
     have hfz112_1 := blk_frozen BK464.out 1
     have hfz112_2 := blk_frozen BK464.out 2
     go_wp2_with (first | ((with_reducible refine gate_callee (f := 12) rfl ?_); refine goesL_ (some 51) rfl rfl Try.func12 (by kernel_rfl) rfl #[.agg #[.slice A0_0 l0_0.length c0_0, .int .i64 a0_1, .int .i64 a0_2], .slice A1 l1.length c1] rfl (by (try simp only [List.map_toArray, List.map_cons, List.map_nil]); first | done | rfl | (simp only [List.length_drop, List.length_take]; rfl)) ?_; (with_reducible refine (move_Compact.calls kj3 _ _ l0_0 a0_1 a0_2 _ _ l1 t469 t472 t473 t474 t477 _ ?side1 ?side2 ?side3 ?side4 A44.out).mono ?_); (case side1 => repeat (first | exact (Kd.C_below HR0_0.out HB.out) | (with_reducible refine Kd.C_alloc ?_ _) | (with_reducible refine Kd.C_drewN ?_ _) | (with_reducible refine Kd.C_drew ?_))); (case side2 => exact HC0_0.out); (case side3 => repeat (first | exact (Kd.C_below HR1.out HB.out) | (with_reducible refine Kd.C_alloc ?_ _) | (with_reducible refine Kd.C_drewN ?_ _) | (with_reducible refine Kd.C_drew ?_))); (case side4 => exact HC1.out); rintro e w113 ⟨v470, v475, rfl, ho0, ho1, hb⟩; refine ⟨_, rfl, ?_⟩; have n0_ := Aside0.mk (Kd.S_lower ho0 (below_size (by repeat (first | (with_reducible first | exact HB.out | apply below_alloc | apply pw_below_drewN | apply below_drew1 | refine below_set ?_ GE464.out) | exact HB.out)))); have n1_ := Aside0.mk (Kd.R_lower ho1 (below_size (by repeat (first | (with_reducible first | exact HB.out | apply below_alloc | apply pw_below_drewN | apply below_drew1 | refine below_set ?_ GE464.out) | exact HB.out)))); have n2_ := Aside0.mk (blk_below (g := gb464) (o := .cells #[.slice A0_0 l0_0.length c0_0, .int .i64 a0_1, .int .i64 a0_2] 24 (0, 0)) (by (with_reducible repeat (first | refine blk_drewN ?_ _ | refine blk_drew ?_ | refine blk_alloc ?_ _)); exact BK464.out) hb); have n3_ := Aside0.mk (below_step (by repeat (first | (with_reducible first | exact HB.out | apply below_alloc | apply pw_below_drewN | apply below_drew1 | refine below_set ?_ GE464.out) | exact HB.out)) hb); clear BK464; clear HB; have HO471 := n0_; have HO476 := n1_; have BK464 := n2_; have HB := n3_; clear n0_ n1_ n2_ n3_; (try clear hb); (try clear hb2); (try clear hk); (try clear hi); (try clear ho0); (try clear ho1)) | ((with_reducible refine gate_dst (N := 7) rfl ?_); (try (refine gate_guard (by rfl) ?_; dsimp only)); refine box_event ?hg (N := 7) ?hd (cs := #[.slice none 0 0, .int .i64 0, .int .i64 0]) (t := 24) ?hr ?_; (case hd => rfl); (case hg => rfl); (case hr => first | (go_simp; done) | (go_simp; rfl)); intro gb478 hg w114 hbox hb; have n0_ := Aside0.mk (Kd.S_below (by (with_reducible repeat (first | apply Kd.S_alloc | apply Kd.S_drewN | apply Kd.S_drew)); exact HO471.out) hb); have n1_ := Aside0.mk (Kd.R_below (by (with_reducible repeat (first | apply Kd.R_alloc | apply Kd.R_drewN | apply Kd.R_drew)); exact HO476.out) hb); have n2_ := Aside0.mk (blk_below (g := gb464) (o := .cells #[.slice A0_0 l0_0.length c0_0, .int .i64 a0_1, .int .i64 a0_2] 24 (0, 0)) (by (with_reducible repeat (first | refine blk_drewN ?_ _ | refine blk_drew ?_ | refine blk_alloc ?_ _)); exact BK464.out) hb); have n3_ := Aside0.mk (below_step (by repeat (first | (with_reducible first | exact HB.out | apply below_alloc | apply pw_below_drewN | apply below_drew1 | refine below_set ?_ GE464.out) | exact HB.out)) hb); have n4_ := Aside0.mk (hbox); have n5_ := Aside0.mk ((by rw [hg]; exact (below_size (by repeat (first | (with_reducible first | exact HB.out | apply below_alloc | apply pw_below_drewN | apply below_drew1 | refine below_set ?_ GE464.out) | exact HB.out))) : w.heap.size ≤ gb478)); have n6_ := Aside0.mk ((by rw [hg]; exact (below_size (by repeat (first | (with_reducible first | exact HB.out | apply below_alloc | apply pw_below_drewN | apply below_drew1 | refine below_set ?_ GE464.out) | exact HB.out))) : w.heap.size ≤ gb478)); have n7_ := Aside0.mk ((by rw [hg]; exact Nat.ne_of_lt (blk_lt (g := gb464) (o := .cells #[.slice A0_0 l0_0.length c0_0, .int .i64 a0_1, .int .i64 a0_2] 24 (0, 0)) (by (with_reducible repeat (first | refine blk_drewN ?_ _ | refine blk_drew ?_ | refine blk_alloc ?_ _)); exact BK464.out)) : gb464 ≠ gb478)); have n8_ := Aside0.mk ((by rw [hg]; exact Nat.ne_of_gt (blk_lt (g := gb464) (o := .cells #[.slice A0_0 l0_0.length c0_0, .int .i64 a0_1, .int .i64 a0_2] 24 (0, 0)) (by (with_reducible repeat (first | refine blk_drewN ?_ _ | refine blk_drew ?_ | refine blk_alloc ?_ _)); exact BK464.out)) : gb478 ≠ gb464)); clear HO471; clear HO476; clear BK464; clear HB; have HO471 := n0_; have HO476 := n1_; have BK464 := n2_; have HB := n3_; have BK478 := n4_; have GW478 := n5_; have GE478 := n6_; have NB464_478 := n7_; have NB478_464 := n8_; clear n0_ n1_ n2_ n3_ n4_ n5_ n6_ n7_ n8_; clear hb hbox hg; obtain ⟨Ao115, co115, eo115⟩ := Kd.S_slice HO471.out; subst eo115; have hnb116 := NB478_464.out; have hnc116 := NB464_478.out; have hcz117_0 : w114.cell? ⟨gb478, 0, none⟩ = some (.slice none 0 0) := (blk_cell BK478.out 0).trans rfl; have hcz117_1 : w114.cell? ⟨gb478, 1, none⟩ = some (.int .i64 0) := (blk_cell BK478.out 1).trans rfl; have hcz117_2 : w114.cell? ⟨gb478, 2, none⟩ = some (.int .i64 0) := (blk_cell BK478.out 2).trans rfl; have hfz117_0 := blk_frozen BK478.out 0; have hfz117_1 := blk_frozen BK478.out 1; have hfz117_2 := blk_frozen BK478.out 2))
     go_ret
     exact ⟨by first | rfl | (simp [errW_none, errW_some] <;> rfl) | (simp [*, errW_none, errW_some] <;> rfl), by repeat (first | (with_reducible first | exact HB.out | apply below_alloc | apply pw_below_drewN | apply below_drew1 | refine below_set ?_ GE464.out | refine below_set ?_ GE478.out) | exact HB.out)⟩
end Go.Proofs.Ytlmejfcfdhinlaa.PMove
