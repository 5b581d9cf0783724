import Derived.Test.YtlmejfcfdhinlaaPMovex0
import Derived.Test.YtlmejfcfdhinlaaPMovex8
import Derived.Test.YtlmejfcfdhinlaaPMovex10
import Derived.Test.YtlmejfcfdhinlaaPMovex11
namespace Go.Proofs.Ytlmejfcfdhinlaa.PMove
open Go.RowKit Go.Proofs.YtlmejfcfdhinlaaW.PrintWords Go.Proofs.YtlmejfcfdhinlaaW.PrintLast Go.Proofs.YtlmejfcfdhinlaaW.PrintMore
attribute [local go_sem] max2_int min2_int max_two min_two max_three min_three max_four min_four
set_option linter.unusedVariables false
set_option linter.unusedSimpArgs false
attribute [local go_sem] setCell_drewN
mutual
def anamnesisref04_Live.l0 : Nat → List Int → List Bool → Int → List (S44) → Int → Int → Option (List Int × Int)
 | 0, _, _, _, _, _, _ => none
 | k + 1, x1, x6, x7, x301000, x301001, x301002 => if x7 < (x1.length : Int) then (if 0 ≤ x7 then ((anamnesisref03_Has.f x301000 x301001 x301002 (rd x1 x7)).bind fun t306 => (if t306 = true then ((anamnesisref03_Ref.f x301000 x301001 x301002 (rd x1 x7)).bind fun t308 => (if t308 ≥ 0 then ((anamnesisref03_Ref.f x301000 x301001 x301002 (rd x1 x7)).bind fun t310 => (if 0 ≤ t310 then (if t310 < (x6.length : Int) then (anamnesisref04_Live.l0 k x1 (x6.set (t310 : Int).toNat true) (wrap64 (x7 + 1)) x301000 x301001 x301002) else (none)) else (none))) else (anamnesisref04_Live.l0 k x1 x6 (wrap64 (x7 + 1)) x301000 x301001 x301002))) else (some (([] : List Int), 31)))) else (none)) else (anamnesisref04_Live.l1 k x6 0 x301000 x301001 x301002)
def anamnesisref04_Live.l1 : Nat → List Bool → Int → List (S44) → Int → Int → Option (List Int × Int)
 | 0, _, _, _, _, _ => none
 | k + 1, x6, x8, x301000, x301001, x301002 => if x8 < (x301000.length : Int) then ((anamnesisref04_near.f k x301000 x301001 x301002 x6).bind fun t312 => (anamnesisref04_Live.l1 k t312 (wrap64 (x8 + 1)) x301000 x301001 x301002)) else (anamnesisref04_Live.l2 k x6 (([] : List Int)) 0)
def anamnesisref04_Live.l2 : Nat → List Bool → List Int → Int → Option (List Int × Int)
 | 0, _, _, _ => none
 | k + 1, x6, x9, x10 => if x10 < (x6.length : Int) then (if 0 ≤ x10 then (if rdOf false x6 x10 = true then (if x9.length < 17592186044416 then (anamnesisref04_Live.l2 k x6 (x9 ++ [x10]) (wrap64 (x10 + 1))) else (none)) else (anamnesisref04_Live.l2 k x6 x9 (wrap64 (x10 + 1)))) else (none)) else (some (x9, 0))
end
def anamnesisref04_Live.f (k : Nat) (l0_0 : List (S44)) (a0_1 : Int) (a0_2 : Int) (l1 : List Int) : Option (List Int × Int) := (anamnesisref03_May.f k l0_0 a0_1 a0_2).bind fun t301 => (if t301 = true then (if 0 ≤ (l0_0.length : Int) then (if ((l0_0.length : Int) : Int).toNat ≤ 281474976710656 then (anamnesisref04_Live.l0 k l1 (List.replicate ((l0_0.length : Int) : Int).toNat false) 0 l0_0 a0_1 a0_2) else (none)) else (none)) else (some (([] : List Int), 1)))
theorem anamnesisref04_Live.mono_l : ∀ k, (∀ y0 y1 y2 y3 y4 y5, LeO (anamnesisref04_Live.l0 k y0 y1 y2 y3 y4 y5) (anamnesisref04_Live.l0 (k + 1) y0 y1 y2 y3 y4 y5)) ∧ (∀ y0 y1 y2 y3 y4, LeO (anamnesisref04_Live.l1 k y0 y1 y2 y3 y4) (anamnesisref04_Live.l1 (k + 1) y0 y1 y2 y3 y4)) ∧ (∀ y0 y1 y2, LeO (anamnesisref04_Live.l2 k y0 y1 y2) (anamnesisref04_Live.l2 (k + 1) y0 y1 y2))
 | 0 => ⟨fun _ _ _ _ _ _ r h => by simp [anamnesisref04_Live.l0] at h, fun _ _ _ _ _ r h => by simp [anamnesisref04_Live.l1] at h, fun _ _ _ r h => by simp [anamnesisref04_Live.l2] at h⟩
 | k + 1 => by
  obtain ⟨ih0, ih1, ih2⟩ := anamnesisref04_Live.mono_l k
  refine ⟨?_, ?_, ?_⟩
  ·intro y0 y1 y2 y3 y4 y5
   unfold anamnesisref04_Live.l0
   repeat' first
   | (with_reducible exact ih0 _ _ _ _ _ _)
   | (with_reducible exact ih1 _ _ _ _ _)
   | (with_reducible exact ih2 _ _ _)
   | (with_reducible exact anamnesisref03_May.mono _ _ _ _)
   | (with_reducible exact anamnesisref04_near.mono _ _ _ _ _)
   | (with_reducible exact LeO.refl _)
   | (with_reducible exact LeO.none _)
   | (with_reducible refine LeO.ite ?_ ?_)
   | (with_reducible refine LeO.bind ?_ (fun _ => ?_))
   | exact ih0 _ _ _ _ _ _
   | exact ih1 _ _ _ _ _
   | exact ih2 _ _ _
   | exact anamnesisref03_May.mono _ _ _ _
   | exact anamnesisref04_near.mono _ _ _ _ _
   | exact LeO.none _
   | refine LeO.ite ?_ ?_
   | refine LeO.bind ?_ (fun _ => ?_)
  ·intro y0 y1 y2 y3 y4
   unfold anamnesisref04_Live.l1
   repeat' first
   | (with_reducible exact ih0 _ _ _ _ _ _)
   | (with_reducible exact ih1 _ _ _ _ _)
   | (with_reducible exact ih2 _ _ _)
   | (with_reducible exact anamnesisref03_May.mono _ _ _ _)
   | (with_reducible exact anamnesisref04_near.mono _ _ _ _ _)
   | (with_reducible exact LeO.refl _)
   | (with_reducible exact LeO.none _)
   | (with_reducible refine LeO.ite ?_ ?_)
   | (with_reducible refine LeO.bind ?_ (fun _ => ?_))
   | exact ih0 _ _ _ _ _ _
   | exact ih1 _ _ _ _ _
   | exact ih2 _ _ _
   | exact anamnesisref03_May.mono _ _ _ _
   | exact anamnesisref04_near.mono _ _ _ _ _
   | exact LeO.none _
   | refine LeO.ite ?_ ?_
   | refine LeO.bind ?_ (fun _ => ?_)
  ·intro y0 y1 y2
   unfold anamnesisref04_Live.l2
   repeat' first
   | (with_reducible exact ih0 _ _ _ _ _ _)
   | (with_reducible exact ih1 _ _ _ _ _)
   | (with_reducible exact ih2 _ _ _)
   | (with_reducible exact anamnesisref03_May.mono _ _ _ _)
   | (with_reducible exact anamnesisref04_near.mono _ _ _ _ _)
   | (with_reducible exact LeO.refl _)
   | (with_reducible exact LeO.none _)
   | (with_reducible refine LeO.ite ?_ ?_)
   | (with_reducible refine LeO.bind ?_ (fun _ => ?_))
   | exact ih0 _ _ _ _ _ _
   | exact ih1 _ _ _ _ _
   | exact ih2 _ _ _
   | exact anamnesisref03_May.mono _ _ _ _
   | exact anamnesisref04_near.mono _ _ _ _ _
   | exact LeO.none _
   | refine LeO.ite ?_ ?_
   | refine LeO.bind ?_ (fun _ => ?_)
theorem anamnesisref04_Live.mono : ∀ a0 a1 a2 a3 k, LeO (anamnesisref04_Live.f k a0 a1 a2 a3) (anamnesisref04_Live.f (k + 1) a0 a1 a2 a3) := by
 intro a0 a1 a2 a3 k
 obtain ⟨ih0, ih1, ih2⟩ := anamnesisref04_Live.mono_l k
 unfold anamnesisref04_Live.f
 repeat' first
   | (with_reducible exact ih0 _ _ _ _ _ _)
   | (with_reducible exact ih1 _ _ _ _ _)
   | (with_reducible exact ih2 _ _ _)
   | (with_reducible exact anamnesisref03_May.mono _ _ _ _)
   | (with_reducible exact anamnesisref04_near.mono _ _ _ _ _)
   | (with_reducible exact LeO.refl _)
   | (with_reducible exact LeO.none _)
   | (with_reducible refine LeO.ite ?_ ?_)
   | (with_reducible refine LeO.bind ?_ (fun _ => ?_))
   | exact ih0 _ _ _ _ _ _
   | exact ih1 _ _ _ _ _
   | exact ih2 _ _ _
   | exact anamnesisref03_May.mono _ _ _ _
   | exact anamnesisref04_near.mono _ _ _ _ _
   | exact LeO.none _
   | refine LeO.ite ?_ ?_
   | refine LeO.bind ?_ (fun _ => ?_)
def anamnesisref04_Live.T10 : Bool × List (List Nat × List Nat) := (true, [([], []), ([], []), ([], []), ([], []), ([2, 3], [2, 3]), ([4], [4]), ([1, 5], [1, 5]), ([0, 6, 0, 1, 2, 3, 4, 5, 6], [0, 6]), ([7, 6, 0, 1, 2, 3, 4, 5, 6], [7])])
def anamnesisref04_Live.B10 : List Nat := [0, 0, 0, 0, 12, 28, 62, 127, 255]
theorem anamnesisref04_Live.tab10 : rtab .any (opsOf Try.f19 10) = anamnesisref04_Live.T10 := by kernel_rfl
theorem anamnesisref04_Live.bits10 : waitsOk anamnesisref04_Live.T10.2 anamnesisref04_Live.B10 = true := by kernel_rfl
set_option maxHeartbeats 8000000 in
set_option maxRecDepth 100000 in
theorem anamnesisref04_Live.calls (k : Nat) (A0_0 : Option Addr) (c0_0 : Nat) (l0_0 : List (S44)) (a0_1 : Int) (a0_2 : Int) (A1 : Option Addr) (c1 : Nat) (l1 : List Int) (r1 : List Int) (r2 : Int) (w : World) (hr0_0 : Kd.C k44 w A0_0 l0_0.length l0_0) (hc0_0 : l0_0.length ≤ c0_0) (hr1 : Kd.C (Kd.int .i64) w A1 l1.length l1) (hc1 : l1.length ≤ c1) (h : anamnesisref04_Live.f k l0_0 a0_1 a0_2 l1 = some (r1, r2)) :
  Calls Try.prog 19 #[.agg #[.slice A0_0 l0_0.length c0_0, .int .i64 a0_1, .int .i64 a0_2], .slice A1 l1.length c1] w fun e w' => ∃ v0_ : Value, e = .returned (.tuple #[v0_, .int .i64 r2]) ∧ Kd.R (Kd.int .i64) 3 w' w.heap.size (fun _ => True) v0_ r1 ∧ Below w.heap.size w w' := by
 have hu24 := Try.underlying24
 have HR0_0 := Aside0.mk hr0_0
 have HC0_0 := Aside0.mk hc0_0
 clear hr0_0 hc0_0
 have HR1 := Aside0.mk hr1
 have HC1 := Aside0.mk hc1
 clear hr1 hc1
 have HB := Aside0.mk (Below.refl w.heap.size w)
 have H : ((anamnesisref03_May.f k l0_0 a0_1 a0_2).bind fun t301 => (if t301 = true then (if 0 ≤ (l0_0.length : Int) then (if ((l0_0.length : Int) : Int).toNat ≤ 281474976710656 then (anamnesisref04_Live.l0 k l1 (List.replicate ((l0_0.length : Int) : Int).toNat false) 0 l0_0 a0_1 a0_2) else (none)) else (none)) else (some (([] : List Int), 1)))) = some (r1, r2) := h
 clear h
 replace H := Option.bind_eq_some_iff.mp H
 obtain ⟨t301, A30, H⟩ := H
 replace H : (if t301 = true then (if 0 ≤ (l0_0.length : Int) then (if ((l0_0.length : Int) : Int).toNat ≤ 281474976710656 then (anamnesisref04_Live.l0 k l1 (List.replicate ((l0_0.length : Int) : Int).toNat false) 0 l0_0 a0_1 a0_2) else (none)) else (none)) else (some (([] : List Int), 1))) = some (r1, r2) := H
 have A3 := Aside0.mk A30
 clear A30
 by_cases c4 : t301 = true
 ·subst c4
  have H1 : (if 0 ≤ (l0_0.length : Int) then (if ((l0_0.length : Int) : Int).toNat ≤ 281474976710656 then (anamnesisref04_Live.l0 k l1 (List.replicate ((l0_0.length : Int) : Int).toNat false) 0 l0_0 a0_1 a0_2) else (none)) else (none)) = some (r1, r2) := by rw [if_pos rfl] at H; exact H
  clear H
  have H := H1
  clear H1
  by_cases c5 : 0 ≤ (l0_0.length : Int)
  ·rw [if_pos c5] at H
   have c5b0 := eq_true c5
   have c5b1 : decide (0 ≤ (l0_0.length : Int)) = true := decide_eq_true c5
   clear c5
   by_cases c6 : ((l0_0.length : Int) : Int).toNat ≤ 281474976710656
   ·rw [if_pos c6] at H
    have c6b0 := eq_true c6
    have c6b1 : decide (((l0_0.length : Int) : Int).toNat ≤ 281474976710656) = true := decide_eq_true c6
    clear c6
    obtain ⟨y302, hy302⟩ : ∃ y_ : List Bool, y_ = (List.replicate ((l0_0.length : Int) : Int).toNat false) := ⟨_, rfl⟩
    replace H : (anamnesisref04_Live.l0 k l1 y302 0 l0_0 a0_1 a0_2) = some (r1, r2) := by first | (rw [hy302]; with_reducible exact H) | (have H2_ := (Option.bind_some _ _).symm.trans H; rw [hy302]; with_reducible exact H2_) | (have H2_ := (Option.bind_some _ _).symm.trans H; with_reducible exact H2_) | with_reducible exact H | (rw [hy302]; exact H) | exact H
    have Ny302 := Aside0.mk hy302
    clear hy302
    have H' := Aside0.mk H
    clear H
    go_enter Try.func19, Try.ntmps19
    go_wp2_with (first | ((with_reducible refine gate_dst (N := 2) rfl ?_); refine box_event ?hg (N := 2) ?hd (cs := #[.slice A0_0 l0_0.length c0_0, .int .i64 a0_1, .int .i64 a0_2]) (t := 24) ?hr ?_; (case hd => rfl); (case hg => rfl); (case hr => first | (go_simp; done) | (go_simp; rfl)); intro gb300 hg w7 hbox hb; have n0_ := Aside0.mk (below_step (by repeat (first | (with_reducible first | exact HB.out | apply below_alloc | apply pw_below_drewN | apply below_drew1) | exact HB.out)) hb); have n1_ := Aside0.mk (hbox); have n2_ := Aside0.mk ((by rw [hg]; exact (below_size (by repeat (first | (with_reducible first | exact HB.out | apply below_alloc | apply pw_below_drewN | apply below_drew1) | exact HB.out))) : w.heap.size ≤ gb300)); have n3_ := Aside0.mk ((by rw [hg]; exact (below_size (by repeat (first | (with_reducible first | exact HB.out | apply below_alloc | apply pw_below_drewN | apply below_drew1) | exact HB.out))) : w.heap.size ≤ gb300)); clear HB; have HB := n0_; have BK300 := n1_; have GW300 := n2_; have GE300 := n3_; clear n0_ n1_ n2_ n3_; clear hb hbox hg; have hcz8_0 : w7.cell? ⟨gb300, 0, none⟩ = some (.slice A0_0 l0_0.length c0_0) := (blk_cell BK300.out 0).trans rfl; have hcz8_1 : w7.cell? ⟨gb300, 1, none⟩ = some (.int .i64 a0_1) := (blk_cell BK300.out 1).trans rfl; have hcz8_2 : w7.cell? ⟨gb300, 2, none⟩ = some (.int .i64 a0_2) := (blk_cell BK300.out 2).trans rfl; have hfz8_0 := blk_frozen BK300.out 0; have hfz8_1 := blk_frozen BK300.out 1; have hfz8_2 := blk_frozen BK300.out 2) | ((with_reducible refine gate_callee (f := 18) rfl ?_); refine goesL_ (some 12) rfl rfl Try.func18 (by kernel_rfl) rfl #[.agg #[.slice A0_0 l0_0.length c0_0, .int .i64 a0_1, .int .i64 a0_2]] rfl (by (try simp only [List.map_toArray, List.map_cons, List.map_nil]); first | done | rfl | (simp only [List.length_drop, List.length_take]; rfl)) ?_; (with_reducible refine (anamnesisref03_May.calls k _ _ l0_0 a0_1 a0_2 true _ ?side1 ?side2 A3.out).mono ?_); (case side1 => repeat (first | exact (Kd.C_below HR0_0.out HB.out) | (with_reducible refine Kd.C_alloc ?_ _) | (with_reducible refine Kd.C_drewN ?_ _) | (with_reducible refine Kd.C_drew ?_))); (case side2 => exact HC0_0.out); rintro e w9 ⟨rfl, hb⟩; refine ⟨_, rfl, ?_⟩; have n0_ := Aside0.mk (blk_below (g := gb300) (o := .cells #[.slice A0_0 l0_0.length c0_0, .int .i64 a0_1, .int .i64 a0_2] 24 (0, 0)) (by (with_reducible repeat (first | refine blk_drewN ?_ _ | refine blk_drew ?_ | refine blk_alloc ?_ _)); exact BK300.out) hb); have n1_ := Aside0.mk (below_step (by repeat (first | (with_reducible first | exact HB.out | apply below_alloc | apply pw_below_drewN | apply below_drew1 | refine below_set ?_ GE300.out) | exact HB.out)) hb); clear BK300; clear HB; have BK300 := n0_; have HB := n1_; clear n0_ n1_; (try clear hb); (try clear hb2); (try clear hk); (try clear hi); have hcz10_0 : w9.cell? ⟨gb300, 0, none⟩ = some (.slice A0_0 l0_0.length c0_0) := (blk_cell BK300.out 0).trans rfl; have hcz10_1 : w9.cell? ⟨gb300, 1, none⟩ = some (.int .i64 a0_1) := (blk_cell BK300.out 1).trans rfl; have hcz10_2 : w9.cell? ⟨gb300, 2, none⟩ = some (.int .i64 a0_2) := (blk_cell BK300.out 2).trans rfl; have hfz10_0 := blk_frozen BK300.out 0; have hfz10_1 := blk_frozen BK300.out 1; have hfz10_2 := blk_frozen BK300.out 2) | ((with_reducible refine gate_dst (N := 17) rfl ?_); refine Kd.R_make Kd.bool _ 4 rfl (N := 17) rfl 58 _ _ rfl (l0_0.length : Int) rfl rfl Try.underlying58 (.bool false) 1 info4 rfl (by decide) (by omega) false (ok := fun _ => True) (okp := fun _ => True) rfl (fun _ hk => hk) trivial (of_decide_eq_true (by first | (with_reducible assumption) | assumption)) (Nat.le_trans (Nat.mul_le_mul_right _ (of_decide_eq_true (by first | (with_reducible assumption) | assumption) : (l0_0.length : Int).toNat ≤ 281474976710656)) (by omega)) (Below.refl _ _) (Nat.le_refl _) ?_; intro v303 w11 ho12 hb hg_ hnew_; clear hg_ hnew_; (first | rw [← Ny302.out] at ho12 | (simp only [Int.reduceToNat] at ho12; rw [← Ny302.out] at ho12)); have n0_ := Aside0.mk (Kd.R_lower ho12 (below_size (by repeat (first | (with_reducible first | exact HB.out | apply below_alloc | apply pw_below_drewN | apply below_drew1 | refine below_set ?_ GE300.out) | exact HB.out)))); have n1_ := Aside0.mk (blk_below (g := gb300) (o := .cells #[.slice A0_0 l0_0.length c0_0, .int .i64 a0_1, .int .i64 a0_2] 24 (0, 0)) (by (with_reducible repeat (first | refine blk_drewN ?_ _ | refine blk_drew ?_ | refine blk_alloc ?_ _)); exact BK300.out) hb); have n2_ := Aside0.mk (below_step (by repeat (first | (with_reducible first | exact HB.out | apply below_alloc | apply pw_below_drewN | apply below_drew1 | refine below_set ?_ GE300.out) | exact HB.out)) hb); clear BK300; clear HB; have HO304 := n0_; have BK300 := n1_; have HB := n2_; clear n0_ n1_ n2_; clear hb ho12))
    go_loopg [7] k (fun kq v7 w' => ∃ (x6_1 : List Bool) (x7_1 : Int), v7 = .int .i64 x7_1 ∧ Aside0 (anamnesisref04_Live.l0 kq l1 x6_1 x7_1 l0_0 a0_1 a0_2 = some (r1, r2)) ∧ Aside0 (kq ≤ k) ∧ Aside0 (Kd.R Kd.bool 4 w' w.heap.size (fun _ => True) v303 x6_1) ∧ Aside0 (w'.heap[gb300]? = some (.cells #[(.slice A0_0 l0_0.length c0_0), .int .i64 a0_1, .int .i64 a0_2] 24 (0, 0))) ∧ Aside0 (Below w.heap.size w w'))
    case atStart => exact ⟨(y302), (0), (by first | rfl | (simp; done) | (simp [*]; done)), H', ⟨Nat.le_refl _⟩, ⟨by (with_reducible repeat (first | apply Kd.R_alloc | apply Kd.R_drewN | apply Kd.R_drew)); exact HO304.out⟩, ⟨by (with_reducible repeat (first | refine blk_drewN ?_ _ | refine blk_drew ?_ | refine blk_alloc ?_ _)); exact BK300.out⟩, ⟨by repeat (first | (with_reducible first | exact HB.out | apply below_alloc | apply pw_below_drewN | apply below_drew1 | refine below_set ?_ GE300.out) | exact HB.out)⟩⟩
    case round =>
     clear H'
     try clear c1
     try clear p2
     try clear c4
     try clear c5
     try clear c5b0
     try clear c5b1
     try clear c6
     try clear c6b0
     try clear c6b1
     try clear hcz10_0
     try clear hcz10_1
     try clear hcz10_2
     try clear hcz8_0
     try clear hcz8_1
     try clear hcz8_2
     try clear hfz10_0
     try clear hfz10_1
     try clear hfz10_2
     try clear hfz8_0
     try clear hfz8_1
     try clear hfz8_2
     obtain ⟨x6_1, x7_1, rfl, HA, HK1, HO_6, BK300, HB⟩ := hrel
     cases gk with
     | zero => exact absurd HA.out (by simp [anamnesisref04_Live.l0])
     | succ k1 =>
      have H := HA.out
      clear HA
      simp only [anamnesisref04_Live.l0] at H
      by_cases c13 : x7_1 < (l1.length : Int)
      ·rw [if_pos c13] at H
       have c13b0 : decide (x7_1 < (l1.length : Int)) = true := decide_eq_true c13
       clear c13
       by_cases c14 : 0 ≤ x7_1
       ·rw [if_pos c14] at H
        have c14b0 : decide (0 ≤ x7_1) = true := decide_eq_true c14
        clear c14
        replace H := Option.bind_eq_some_iff.mp H
        obtain ⟨t306, A150, H⟩ := H
        replace H : (if t306 = true then ((anamnesisref03_Ref.f l0_0 a0_1 a0_2 (rd l1 x7_1)).bind fun t308 => (if t308 ≥ 0 then ((anamnesisref03_Ref.f l0_0 a0_1 a0_2 (rd l1 x7_1)).bind fun t310 => (if 0 ≤ t310 then (if t310 < (x6_1.length : Int) then (anamnesisref04_Live.l0 k1 l1 (x6_1.set (t310 : Int).toNat true) (wrap64 (x7_1 + 1)) l0_0 a0_1 a0_2) else (none)) else (none))) else (anamnesisref04_Live.l0 k1 l1 x6_1 (wrap64 (x7_1 + 1)) l0_0 a0_1 a0_2))) else (some (([] : List Int), 31))) = some (r1, r2) := H
        have A15 := Aside0.mk A150
        clear A150
        by_cases c16 : t306 = true
        ·subst c16
         have H1 : ((anamnesisref03_Ref.f l0_0 a0_1 a0_2 (rd l1 x7_1)).bind fun t308 => (if t308 ≥ 0 then ((anamnesisref03_Ref.f l0_0 a0_1 a0_2 (rd l1 x7_1)).bind fun t310 => (if 0 ≤ t310 then (if t310 < (x6_1.length : Int) then (anamnesisref04_Live.l0 k1 l1 (x6_1.set (t310 : Int).toNat true) (wrap64 (x7_1 + 1)) l0_0 a0_1 a0_2) else (none)) else (none))) else (anamnesisref04_Live.l0 k1 l1 x6_1 (wrap64 (x7_1 + 1)) l0_0 a0_1 a0_2))) = some (r1, r2) := by rw [if_pos rfl] at H; exact H
         clear H
         have H := H1
         clear H1
         replace H := Option.bind_eq_some_iff.mp H
         obtain ⟨t308, A170, H⟩ := H
         replace H : (if t308 ≥ 0 then ((anamnesisref03_Ref.f l0_0 a0_1 a0_2 (rd l1 x7_1)).bind fun t310 => (if 0 ≤ t310 then (if t310 < (x6_1.length : Int) then (anamnesisref04_Live.l0 k1 l1 (x6_1.set (t310 : Int).toNat true) (wrap64 (x7_1 + 1)) l0_0 a0_1 a0_2) else (none)) else (none))) else (anamnesisref04_Live.l0 k1 l1 x6_1 (wrap64 (x7_1 + 1)) l0_0 a0_1 a0_2)) = some (r1, r2) := H
         have A17 := Aside0.mk A170
         clear A170
         by_cases c18 : t308 ≥ 0
         ·rw [if_pos c18] at H
          have c18b0 : decide (0 ≤ t308) = true := decide_eq_true c18
          clear c18
          replace H := Option.bind_eq_some_iff.mp H
          obtain ⟨t310, A190, H⟩ := H
          replace H : (if 0 ≤ t310 then (if t310 < (x6_1.length : Int) then (anamnesisref04_Live.l0 k1 l1 (x6_1.set (t310 : Int).toNat true) (wrap64 (x7_1 + 1)) l0_0 a0_1 a0_2) else (none)) else (none)) = some (r1, r2) := H
          have A19 := Aside0.mk A190
          clear A190
          by_cases c20 : 0 ≤ t310
          ·rw [if_pos c20] at H
           have c20b0 : decide (0 ≤ t310) = true := decide_eq_true c20
           clear c20
           by_cases c21 : t310 < (x6_1.length : Int)
           ·rw [if_pos c21] at H
            have c21b0 : decide (t310 < (x6_1.length : Int)) = true := decide_eq_true c21
            clear c21
            obtain ⟨y311, hy311⟩ : ∃ y_ : List Bool, y_ = (x6_1.set (t310 : Int).toNat true) := ⟨_, rfl⟩
            replace H : (anamnesisref04_Live.l0 k1 l1 y311 (wrap64 (x7_1 + 1)) l0_0 a0_1 a0_2) = some (r1, r2) := by first | (rw [hy311]; with_reducible exact H) | (have H2_ := (Option.bind_some _ _).symm.trans H; rw [hy311]; with_reducible exact H2_) | (have H2_ := (Option.bind_some _ _).symm.trans H; with_reducible exact H2_) | with_reducible exact H | (rw [hy311]; exact H) | exact H
            have Ny311 := Aside0.mk hy311
            clear hy311
            have H' := Aside0.mk H
            clear H
            try go_wp2
            have n0_ := Aside0.mk (Kd.R_drew HO_6.out)
            have n1_ := Aside0.mk (blk_drew BK300.out)
            have n2_ := Aside0.mk (below_drew1 HB.out)
            clear HO_6
            clear BK300
            clear HB
            have HO_6 := n0_
            have BK300 := n1_
            have HB := n2_
            clear n0_ n1_ n2_
            have p305 : 0 ≤ (x7_1 : Int) := of_decide_eq_true (by first | (with_reducible assumption) | assumption)
            have q305 : x7_1 < (l1.length : Int) := of_decide_eq_true (by first | (with_reducible assumption) | assumption)
            obtain ⟨ad305, e305, hx305_0⟩ := Kd.at_int HR1.out x7_1 p305 q305
            have hw305_0 := hx305_0
            cases e305
            replace hx305_0 := (HB.out.cell (World.block_lt_of_cell? w _ hx305_0)).trans hx305_0
            replace p305 := eq_true p305
            replace q305 := eq_true q305
            refine start_ (n := 7) (S := fun w' => w'.cell? ⟨gb300, 0, none⟩ = some (.slice A0_0 l0_0.length c0_0) ∧ w'.cell? ⟨gb300, 1, none⟩ = some (.int .i64 a0_1) ∧ w'.cell? ⟨gb300, 2, none⟩ = some (.int .i64 a0_2) ∧ w'.cell? (ad305.add (x7_1).toNat) = some (.int .i64 (rd l1 x7_1))) (ds := []) #[false, false, false, false, false, false, false] (by kernel_rfl) rfl rfl ⟨(blk_cell BK300.out 0).trans rfl, (blk_cell BK300.out 1).trans rfl, (blk_cell BK300.out 2).trans rfl, ((HB.out.cell (World.block_lt_of_cell? w _ hw305_0)).trans hw305_0)⟩ (fun hHeld => ?_)
            generalize wr.drew = w23 at HO_6 BK300 HB hx305_0 hHeld ⊢
            refine pure_ (i := 1) (N := some 25) (v := ?_) (a' := ?_) #[false, true, false, false, false, false, false] rfl rfl (by kernel_rfl) (fun _ _ _ h => h) (Or.inl ⟨by rfl, ?_⟩) ?_ ?_
            rotate_left
            ·intro w'
             go_simp
             with_reducible rfl
            rotate_left
            ·simp only [Act.put, List.setIfInBounds_toArray, List.set_cons_zero, List.set_cons_succ, i64_w, i32_w]
             rfl
            refine pure_ (i := 2) (N := some 26) (v := ?_) (a' := ?_) #[false, true, true, false, false, false, false] rfl rfl (by kernel_rfl) (fun _ _ _ h => h) (Or.inl ⟨by rfl, ?_⟩) ?_ ?_
            rotate_left
            ·intro w'
             go_simp
             with_reducible rfl
            rotate_left
            ·simp only [Act.put, List.setIfInBounds_toArray, List.set_cons_zero, List.set_cons_succ, i64_w, i32_w]
             rfl
            refine pure_ (i := 3) (N := some 27) (v := ?_) (a' := ?_) #[false, true, true, true, false, false, false] rfl rfl (by kernel_rfl) (fun _ _ _ h => h) (Or.inl ⟨by rfl, ?_⟩) ?_ ?_
            rotate_left
            ·intro w'
             go_simp
             with_reducible rfl
            rotate_left
            ·simp only [Act.put, List.setIfInBounds_toArray, List.set_cons_zero, List.set_cons_succ, i64_w, i32_w]
             rfl
            refine take_ (i := 0) (N := some 24) (v := ?_) (a' := ?_) #[true, true, true, true, false, false, false] rfl rfl (by kernel_rfl) (fun _ _ _ h => h) (Or.inl ⟨by rfl, ?_⟩) hHeld ?_ ?_
            rotate_left
            ·rintro w' ⟨s0, s1, s2, s3⟩
             go_simp
             with_reducible rfl
            rotate_left
            ·simp only [Act.put, List.setIfInBounds_toArray, List.set_cons_zero, List.set_cons_succ, i64_w, i32_w]
             rfl
            refine take_ (i := 4) (N := some 28) (v := ?_) (a' := ?_) #[true, true, true, true, true, false, false] rfl rfl (by kernel_rfl) (fun _ _ _ h => h) (Or.inl ⟨by rfl, ?_⟩) hHeld ?_ ?_
            rotate_left
            ·rintro w' ⟨s0, s1, s2, s3⟩
             go_simp
             with_reducible rfl
            rotate_left
            ·simp only [Act.put, List.setIfInBounds_toArray, List.set_cons_zero, List.set_cons_succ, i64_w, i32_w]
             rfl
            refine one_ (i := 5) (N := some 29) #[true, true, true, true, true, true, false] rfl rfl (by kernel_rfl) (by decide) (fun K hK => ?_)
            refine goes_ Try.func23 (by kernel_rfl) rfl #[.agg #[.slice A0_0 l0_0.length c0_0, .int .i64 a0_1, .int .i64 a0_2], .int .i64 (rd l1 x7_1)] (by rfl) rfl rfl (by (try simp only [List.map_toArray, List.map_cons, List.map_nil]); first | done | rfl | (simp only [List.length_drop, List.length_take]; rfl)) ?_
            with_reducible refine (anamnesisref03_Has.calls _ _ l0_0 a0_1 a0_2 (rd l1 x7_1) true _ ?side1 ?side2 A15.out).mono ?_
            (case side1 => repeat (first | exact (Kd.C_below HR0_0.out HB.out) | (with_reducible refine Kd.C_alloc ?_ _) | (with_reducible refine Kd.C_drewN ?_ _) | (with_reducible refine Kd.C_drew ?_)))
            (case side2 => exact HC0_0.out)
            rintro e w24 ⟨rfl, hb⟩
            refine ⟨_, rfl, ?_⟩
            have n0_ := Aside0.mk (Kd.R_below (by (with_reducible repeat (first | apply Kd.R_alloc | apply Kd.R_drewN | apply Kd.R_drew)); exact HO_6.out) hb)
            have n1_ := Aside0.mk (blk_below (g := gb300) (o := .cells #[.slice A0_0 l0_0.length c0_0, .int .i64 a0_1, .int .i64 a0_2] 24 (0, 0)) (by (with_reducible repeat (first | refine blk_drewN ?_ _ | refine blk_drew ?_ | refine blk_alloc ?_ _)); exact BK300.out) hb)
            have n2_ := Aside0.mk (below_step (by repeat (first | (with_reducible first | exact HB.out | apply below_alloc | apply pw_below_drewN | apply below_drew1 | refine below_set ?_ GE300.out) | exact HB.out)) hb)
            clear HO_6
            clear BK300
            clear HB
            have HO_6 := n0_
            have BK300 := n1_
            have HB := n2_
            clear n0_ n1_ n2_
            (try clear hb)
            (try clear hb2)
            (try clear hk)
            (try clear hi)
            refine hK.out _ _ ⟨(blk_cell BK300.out 0).trans rfl, (blk_cell BK300.out 1).trans rfl, (blk_cell BK300.out 2).trans rfl, ((HB.out.cell (World.block_lt_of_cell? w _ hw305_0)).trans hw305_0)⟩ (fun hHeld => ?_)
            clear hK K
            refine norm_ (a' := ?_) ?_ ?_
            rotate_left
            ·show Act.put _ (some 29) _ = _
             simp only [Act.put, List.setIfInBounds_toArray, List.set_cons_zero, List.set_cons_succ, i64_w, i32_w]
             rfl
            refine pure_ (i := 6) (N := some 30) (v := ?_) (a' := ?_) #[true, true, true, true, true, true, true] rfl rfl (by kernel_rfl) (fun _ _ _ h => h) (Or.inl ⟨by rfl, ?_⟩) ?_ ?_
            rotate_left
            ·intro w'
             go_simp
             with_reducible rfl
            rotate_left
            ·simp only [Act.put, List.setIfInBounds_toArray, List.set_cons_zero, List.set_cons_succ, i64_w, i32_w]
             rfl
            refine done_ (by kernel_rfl) ?_
            try go_wp2
            have n0_ := Aside0.mk (Kd.R_drew HO_6.out)
            have n1_ := Aside0.mk (blk_drew BK300.out)
            have n2_ := Aside0.mk (below_drew1 HB.out)
            clear HO_6
            clear BK300
            clear HB
            have HO_6 := n0_
            have BK300 := n1_
            have HB := n2_
            clear n0_ n1_ n2_
            have p307 : 0 ≤ (x7_1 : Int) := of_decide_eq_true (by first | (with_reducible assumption) | assumption)
            have q307 : x7_1 < (l1.length : Int) := of_decide_eq_true (by first | (with_reducible assumption) | assumption)
            obtain ⟨ad307, e307, hx307_0⟩ := Kd.at_int HR1.out x7_1 p307 q307
            have hw307_0 := hx307_0
            obtain rfl : ad305 = ad307 := (by injection e307)
            replace hx307_0 := (HB.out.cell (World.block_lt_of_cell? w _ hx307_0)).trans hx307_0
            replace p307 := eq_true p307
            replace q307 := eq_true q307
            refine start_ (n := 7) (S := fun w' => w'.cell? ⟨gb300, 0, none⟩ = some (.slice A0_0 l0_0.length c0_0) ∧ w'.cell? ⟨gb300, 1, none⟩ = some (.int .i64 a0_1) ∧ w'.cell? ⟨gb300, 2, none⟩ = some (.int .i64 a0_2) ∧ w'.cell? (ad305.add (x7_1).toNat) = some (.int .i64 (rd l1 x7_1))) (ds := []) #[false, false, false, false, false, false, false] (by kernel_rfl) rfl rfl ⟨(blk_cell BK300.out 0).trans rfl, (blk_cell BK300.out 1).trans rfl, (blk_cell BK300.out 2).trans rfl, ((HB.out.cell (World.block_lt_of_cell? w _ hw307_0)).trans hw307_0)⟩ (fun hHeld => ?_)
            generalize w24.drew = w25 at HO_6 BK300 HB hx307_0 hHeld ⊢
            refine pure_ (i := 1) (N := some 32) (v := ?_) (a' := ?_) #[false, true, false, false, false, false, false] rfl rfl (by kernel_rfl) (fun _ _ _ h => h) (Or.inl ⟨by rfl, ?_⟩) ?_ ?_
            rotate_left
            ·intro w'
             go_simp
             with_reducible rfl
            rotate_left
            ·simp only [Act.put, List.setIfInBounds_toArray, List.set_cons_zero, List.set_cons_succ, i64_w, i32_w]
             rfl
            refine pure_ (i := 2) (N := some 33) (v := ?_) (a' := ?_) #[false, true, true, false, false, false, false] rfl rfl (by kernel_rfl) (fun _ _ _ h => h) (Or.inl ⟨by rfl, ?_⟩) ?_ ?_
            rotate_left
            ·intro w'
             go_simp
             with_reducible rfl
            rotate_left
            ·simp only [Act.put, List.setIfInBounds_toArray, List.set_cons_zero, List.set_cons_succ, i64_w, i32_w]
             rfl
            refine pure_ (i := 3) (N := some 34) (v := ?_) (a' := ?_) #[false, true, true, true, false, false, false] rfl rfl (by kernel_rfl) (fun _ _ _ h => h) (Or.inl ⟨by rfl, ?_⟩) ?_ ?_
            rotate_left
            ·intro w'
             go_simp
             with_reducible rfl
            rotate_left
            ·simp only [Act.put, List.setIfInBounds_toArray, List.set_cons_zero, List.set_cons_succ, i64_w, i32_w]
             rfl
            refine take_ (i := 0) (N := some 31) (v := ?_) (a' := ?_) #[true, true, true, true, false, false, false] rfl rfl (by kernel_rfl) (fun _ _ _ h => h) (Or.inl ⟨by rfl, ?_⟩) hHeld ?_ ?_
            rotate_left
            ·rintro w' ⟨s0, s1, s2, s3⟩
             go_simp
             with_reducible rfl
            rotate_left
            ·simp only [Act.put, List.setIfInBounds_toArray, List.set_cons_zero, List.set_cons_succ, i64_w, i32_w]
             rfl
            refine take_ (i := 4) (N := some 35) (v := ?_) (a' := ?_) #[true, true, true, true, true, false, false] rfl rfl (by kernel_rfl) (fun _ _ _ h => h) (Or.inl ⟨by rfl, ?_⟩) hHeld ?_ ?_
            rotate_left
            ·rintro w' ⟨s0, s1, s2, s3⟩
             go_simp
             with_reducible rfl
            rotate_left
            ·simp only [Act.put, List.setIfInBounds_toArray, List.set_cons_zero, List.set_cons_succ, i64_w, i32_w]
             rfl
            refine one_ (i := 5) (N := some 36) #[true, true, true, true, true, true, false] rfl rfl (by kernel_rfl) (by decide) (fun K hK => ?_)
            refine goes_ Try.func22 (by kernel_rfl) rfl #[.agg #[.slice A0_0 l0_0.length c0_0, .int .i64 a0_1, .int .i64 a0_2], .int .i64 (rd l1 x7_1)] (by rfl) rfl rfl (by (try simp only [List.map_toArray, List.map_cons, List.map_nil]); first | done | rfl | (simp only [List.length_drop, List.length_take]; rfl)) ?_
            with_reducible refine (anamnesisref03_Ref.calls _ _ l0_0 a0_1 a0_2 (rd l1 x7_1) t308 _ ?side1 ?side2 A17.out).mono ?_
            (case side1 => repeat (first | exact (Kd.C_below HR0_0.out HB.out) | (with_reducible refine Kd.C_alloc ?_ _) | (with_reducible refine Kd.C_drewN ?_ _) | (with_reducible refine Kd.C_drew ?_)))
            (case side2 => exact HC0_0.out)
            rintro e w26 ⟨rfl, hb⟩
            refine ⟨_, rfl, ?_⟩
            have n0_ := Aside0.mk (Kd.R_below (by (with_reducible repeat (first | apply Kd.R_alloc | apply Kd.R_drewN | apply Kd.R_drew)); exact HO_6.out) hb)
            have n1_ := Aside0.mk (blk_below (g := gb300) (o := .cells #[.slice A0_0 l0_0.length c0_0, .int .i64 a0_1, .int .i64 a0_2] 24 (0, 0)) (by (with_reducible repeat (first | refine blk_drewN ?_ _ | refine blk_drew ?_ | refine blk_alloc ?_ _)); exact BK300.out) hb)
            have n2_ := Aside0.mk (below_step (by repeat (first | (with_reducible first | exact HB.out | apply below_alloc | apply pw_below_drewN | apply below_drew1 | refine below_set ?_ GE300.out) | exact HB.out)) hb)
            clear HO_6
            clear BK300
            clear HB
            have HO_6 := n0_
            have BK300 := n1_
            have HB := n2_
            clear n0_ n1_ n2_
            (try clear hb)
            (try clear hb2)
            (try clear hk)
            (try clear hi)
            refine hK.out _ _ ⟨(blk_cell BK300.out 0).trans rfl, (blk_cell BK300.out 1).trans rfl, (blk_cell BK300.out 2).trans rfl, ((HB.out.cell (World.block_lt_of_cell? w _ hw307_0)).trans hw307_0)⟩ (fun hHeld => ?_)
            clear hK K
            refine norm_ (a' := ?_) ?_ ?_
            rotate_left
            ·show Act.put _ (some 36) _ = _
             simp only [Act.put, List.setIfInBounds_toArray, List.set_cons_zero, List.set_cons_succ, i64_w, i32_w]
             rfl
            refine pure_ (i := 6) (N := some 37) (v := ?_) (a' := ?_) #[true, true, true, true, true, true, true] rfl rfl (by kernel_rfl) (fun _ _ _ h => h) (Or.inl ⟨by rfl, ?_⟩) ?_ ?_
            rotate_left
            ·intro w'
             go_simp
             with_reducible rfl
            rotate_left
            ·simp only [Act.put, List.setIfInBounds_toArray, List.set_cons_zero, List.set_cons_succ, i64_w, i32_w]
             rfl
            refine done_ (by kernel_rfl) ?_
            try go_wp2
            have n0_ := Aside0.mk (Kd.R_drew HO_6.out)
            have n1_ := Aside0.mk (blk_drew BK300.out)
            have n2_ := Aside0.mk (below_drew1 HB.out)
            clear HO_6
            clear BK300
            clear HB
            have HO_6 := n0_
            have BK300 := n1_
            have HB := n2_
            clear n0_ n1_ n2_
            have p309 : 0 ≤ (x7_1 : Int) := of_decide_eq_true (by first | (with_reducible assumption) | assumption)
            have q309 : x7_1 < (l1.length : Int) := of_decide_eq_true (by first | (with_reducible assumption) | assumption)
            obtain ⟨ad309, e309, hx309_0⟩ := Kd.at_int HR1.out x7_1 p309 q309
            have hw309_0 := hx309_0
            obtain rfl : ad305 = ad309 := (by injection e309)
            replace hx309_0 := (HB.out.cell (World.block_lt_of_cell? w _ hx309_0)).trans hx309_0
            replace p309 := eq_true p309
            replace q309 := eq_true q309
            refine start_ (n := 9) (S := fun w' => w'.cell? ⟨gb300, 0, none⟩ = some (.slice A0_0 l0_0.length c0_0) ∧ w'.cell? ⟨gb300, 1, none⟩ = some (.int .i64 a0_1) ∧ w'.cell? ⟨gb300, 2, none⟩ = some (.int .i64 a0_2) ∧ w'.cell? (ad305.add (x7_1).toNat) = some (.int .i64 (rd l1 x7_1))) (ds := [8]) #[false, false, false, false, false, false, false, false, false] (by kernel_rfl) rfl rfl ⟨(blk_cell BK300.out 0).trans rfl, (blk_cell BK300.out 1).trans rfl, (blk_cell BK300.out 2).trans rfl, ((HB.out.cell (World.block_lt_of_cell? w _ hw309_0)).trans hw309_0)⟩ (fun hHeld => ?_); refine with_tabW anamnesisref04_Live.tab10 anamnesisref04_Live.bits10 (fun HT_ HW_ => ?_)
            generalize w26.drew = w27 at HO_6 BK300 HB hx309_0 hHeld ⊢
            refine pure1 (i := 0) (N := some 38) #[true, false, false, false, false, false, false, false, false] HT_.out ?_
            refine pure1 (i := 2) (N := some 40) #[true, false, true, false, false, false, false, false, false] HT_.out ?_
            refine pure1 (i := 3) (N := some 41) #[true, false, true, true, false, false, false, false, false] HT_.out ?_
            refine pure1 (i := 4) (N := some 42) #[true, false, true, true, true, false, false, false, false] HT_.out ?_
            refine take1 (i := 1) (N := some 39) #[true, true, true, true, true, false, false, false, false] HT_.out HW_.out hHeld ?_
            refine take1 (i := 5) (N := some 43) #[true, true, true, true, true, true, false, false, false] HT_.out HW_.out hHeld ?_
            refine one_ (i := 6) (N := some 44) #[true, true, true, true, true, true, true, false, false] rfl rfl (one_of HT_.out (by kernel_rfl)) (by decide) (fun K hK => ?_)
            refine goes_ Try.func22 (by kernel_rfl) rfl #[.agg #[.slice A0_0 l0_0.length c0_0, .int .i64 a0_1, .int .i64 a0_2], .int .i64 (rd l1 x7_1)] (by rfl) rfl rfl (by (try simp only [List.map_toArray, List.map_cons, List.map_nil]); first | done | rfl | (simp only [List.length_drop, List.length_take]; rfl)) ?_
            with_reducible refine (anamnesisref03_Ref.calls _ _ l0_0 a0_1 a0_2 (rd l1 x7_1) t310 _ ?side1 ?side2 A19.out).mono ?_
            (case side1 => repeat (first | exact (Kd.C_below HR0_0.out HB.out) | (with_reducible refine Kd.C_alloc ?_ _) | (with_reducible refine Kd.C_drewN ?_ _) | (with_reducible refine Kd.C_drew ?_)))
            (case side2 => exact HC0_0.out)
            rintro e w28 ⟨rfl, hb⟩
            refine ⟨_, rfl, ?_⟩
            have n0_ := Aside0.mk (Kd.R_below (by (with_reducible repeat (first | apply Kd.R_alloc | apply Kd.R_drewN | apply Kd.R_drew)); exact HO_6.out) hb)
            have n1_ := Aside0.mk (blk_below (g := gb300) (o := .cells #[.slice A0_0 l0_0.length c0_0, .int .i64 a0_1, .int .i64 a0_2] 24 (0, 0)) (by (with_reducible repeat (first | refine blk_drewN ?_ _ | refine blk_drew ?_ | refine blk_alloc ?_ _)); exact BK300.out) hb)
            have n2_ := Aside0.mk (below_step (by repeat (first | (with_reducible first | exact HB.out | apply below_alloc | apply pw_below_drewN | apply below_drew1 | refine below_set ?_ GE300.out) | exact HB.out)) hb)
            clear HO_6
            clear BK300
            clear HB
            have HO_6 := n0_
            have BK300 := n1_
            have HB := n2_
            clear n0_ n1_ n2_
            (try clear hb)
            (try clear hb2)
            (try clear hk)
            (try clear hi)
            have p22 : 0 ≤ (t310 : Int) := of_decide_eq_true (by first | (with_reducible assumption) | assumption)
            have q22 : (t310 : Int) < ((x6_1.length : Int) : Int) := of_decide_eq_true (by first | (with_reducible assumption) | assumption)
            obtain ⟨go22, co22, eo22, gb22, gl22, cl22, HG22⟩ := Kd.R_form HO_6.out (by omega)
            (first | cases eo22 | (injection eo22 with ea_ en_ ec_; (first | subst ea_ | (injection ea_ with ea_; subst ea_)); subst ec_; clear en_))
            have GB22 := Aside0.mk gb22
            have GG22 := Aside0.mk HG22
            clear gb22 gl22 HG22
            obtain ⟨hx22_0, hf22_0⟩ := Kd.R_celln false HO_6.out (t310 : Int) p22 q22
            replace p22 := eq_true p22
            replace q22 := eq_true q22
            have HP29 := Kd.R_putn HO_6.out (t310 : Int) true
            rw [← Ny311.out] at HP29
            have HQ29 := Aside0.mk HP29
            clear HP29
            refine hK.out _ _ ⟨(blk_cell BK300.out 0).trans rfl, (blk_cell BK300.out 1).trans rfl, (blk_cell BK300.out 2).trans rfl, ((HB.out.cell (World.block_lt_of_cell? w _ hw309_0)).trans hw309_0)⟩ (fun hHeld => ?_)
            clear hK K
            refine norm_ (a' := ?_) ?_ ?_
            rotate_left
            ·show Act.put _ (some 44) _ = _
             simp only [Act.put, List.setIfInBounds_toArray, List.set_cons_zero, List.set_cons_succ, i64_w, i32_w]
             rfl
            refine pure1 (i := 7) (N := some 45) #[true, true, true, true, true, true, true, true, false] HT_.out ?_
            refine last_ (i := 8) (N := none) #[true, true, true, true, true, true, true, true, true] rfl rfl (one_of HT_.out (by kernel_rfl)) (by decide) (fun K hK => ?_)
            refine skip_ (w1 := ?_) (by rfl) rfl ?_ ?_
            rotate_left
            ·go_simp
             rfl
            refine hK.out _ _ ?_
            clear hK K
            refine done_ (done_of HT_.out (by kernel_rfl)) ?_
            try go_wp2
            go_roundg k1
            case measure => have := HK1.out; omega
            case rel => exact ⟨(y311), (wrap64 (x7_1 + 1)), (by first | rfl | (simp; done) | (simp [*]; done)), H', ⟨by have := HK1.out; omega⟩, ⟨by (with_reducible repeat (first | apply Kd.R_alloc | apply Kd.R_drewN | apply Kd.R_drew)); exact HQ29.out⟩, ⟨by (with_reducible repeat (first | refine blk_drewN ?_ _ | refine blk_drew ?_ | refine blk_alloc ?_ _)); refine blk_far ?_ (by have h_ := Kd.R_ne HO_6.out BK300.out (by decide); intro e_; exact h_ (by rw [e_]; rfl)) _; (with_reducible repeat (first | refine blk_drewN ?_ _ | refine blk_drew ?_ | refine blk_alloc ?_ _)); exact BK300.out⟩, ⟨by repeat (first | (with_reducible first | exact HB.out | apply below_alloc | apply pw_below_drewN | apply below_drew1 | refine below_set ?_ GB22.out | refine below_set ?_ GE300.out) | exact HB.out)⟩⟩
           ·rw [if_neg c21] at H
            exact absurd H (by simp)
          ·rw [if_neg c20] at H
           exact absurd H (by simp)
         ·rw [if_neg c18] at H
          have c18b0 : decide (0 ≤ t308) = false := decide_eq_false c18
          clear c18
          have H' := Aside0.mk H
          clear H
          try go_wp2
          have n0_ := Aside0.mk (Kd.R_drew HO_6.out)
          have n1_ := Aside0.mk (blk_drew BK300.out)
          have n2_ := Aside0.mk (below_drew1 HB.out)
          clear HO_6
          clear BK300
          clear HB
          have HO_6 := n0_
          have BK300 := n1_
          have HB := n2_
          clear n0_ n1_ n2_
          have p305 : 0 ≤ (x7_1 : Int) := of_decide_eq_true (by first | (with_reducible assumption) | assumption)
          have q305 : x7_1 < (l1.length : Int) := of_decide_eq_true (by first | (with_reducible assumption) | assumption)
          obtain ⟨ad305, e305, hx305_0⟩ := Kd.at_int HR1.out x7_1 p305 q305
          have hw305_0 := hx305_0
          cases e305
          replace hx305_0 := (HB.out.cell (World.block_lt_of_cell? w _ hx305_0)).trans hx305_0
          replace p305 := eq_true p305
          replace q305 := eq_true q305
          refine start_ (n := 7) (S := fun w' => w'.cell? ⟨gb300, 0, none⟩ = some (.slice A0_0 l0_0.length c0_0) ∧ w'.cell? ⟨gb300, 1, none⟩ = some (.int .i64 a0_1) ∧ w'.cell? ⟨gb300, 2, none⟩ = some (.int .i64 a0_2) ∧ w'.cell? (ad305.add (x7_1).toNat) = some (.int .i64 (rd l1 x7_1))) (ds := []) #[false, false, false, false, false, false, false] (by kernel_rfl) rfl rfl ⟨(blk_cell BK300.out 0).trans rfl, (blk_cell BK300.out 1).trans rfl, (blk_cell BK300.out 2).trans rfl, ((HB.out.cell (World.block_lt_of_cell? w _ hw305_0)).trans hw305_0)⟩ (fun hHeld => ?_)
          generalize wr.drew = w30 at HO_6 BK300 HB hx305_0 hHeld ⊢
          refine pure_ (i := 1) (N := some 25) (v := ?_) (a' := ?_) #[false, true, false, false, false, false, false] rfl rfl (by kernel_rfl) (fun _ _ _ h => h) (Or.inl ⟨by rfl, ?_⟩) ?_ ?_
          rotate_left
          ·intro w'
           go_simp
           with_reducible rfl
          rotate_left
          ·simp only [Act.put, List.setIfInBounds_toArray, List.set_cons_zero, List.set_cons_succ, i64_w, i32_w]
           rfl
          refine pure_ (i := 2) (N := some 26) (v := ?_) (a' := ?_) #[false, true, true, false, false, false, false] rfl rfl (by kernel_rfl) (fun _ _ _ h => h) (Or.inl ⟨by rfl, ?_⟩) ?_ ?_
          rotate_left
          ·intro w'
           go_simp
           with_reducible rfl
          rotate_left
          ·simp only [Act.put, List.setIfInBounds_toArray, List.set_cons_zero, List.set_cons_succ, i64_w, i32_w]
           rfl
          refine pure_ (i := 3) (N := some 27) (v := ?_) (a' := ?_) #[false, true, true, true, false, false, false] rfl rfl (by kernel_rfl) (fun _ _ _ h => h) (Or.inl ⟨by rfl, ?_⟩) ?_ ?_
          rotate_left
          ·intro w'
           go_simp
           with_reducible rfl
          rotate_left
          ·simp only [Act.put, List.setIfInBounds_toArray, List.set_cons_zero, List.set_cons_succ, i64_w, i32_w]
           rfl
          refine take_ (i := 0) (N := some 24) (v := ?_) (a' := ?_) #[true, true, true, true, false, false, false] rfl rfl (by kernel_rfl) (fun _ _ _ h => h) (Or.inl ⟨by rfl, ?_⟩) hHeld ?_ ?_
          rotate_left
          ·rintro w' ⟨s0, s1, s2, s3⟩
           go_simp
           with_reducible rfl
          rotate_left
          ·simp only [Act.put, List.setIfInBounds_toArray, List.set_cons_zero, List.set_cons_succ, i64_w, i32_w]
           rfl
          refine take_ (i := 4) (N := some 28) (v := ?_) (a' := ?_) #[true, true, true, true, true, false, false] rfl rfl (by kernel_rfl) (fun _ _ _ h => h) (Or.inl ⟨by rfl, ?_⟩) hHeld ?_ ?_
          rotate_left
          ·rintro w' ⟨s0, s1, s2, s3⟩
           go_simp
           with_reducible rfl
          rotate_left
          ·simp only [Act.put, List.setIfInBounds_toArray, List.set_cons_zero, List.set_cons_succ, i64_w, i32_w]
           rfl
          refine one_ (i := 5) (N := some 29) #[true, true, true, true, true, true, false] rfl rfl (by kernel_rfl) (by decide) (fun K hK => ?_)
          refine goes_ Try.func23 (by kernel_rfl) rfl #[.agg #[.slice A0_0 l0_0.length c0_0, .int .i64 a0_1, .int .i64 a0_2], .int .i64 (rd l1 x7_1)] (by rfl) rfl rfl (by (try simp only [List.map_toArray, List.map_cons, List.map_nil]); first | done | rfl | (simp only [List.length_drop, List.length_take]; rfl)) ?_
          with_reducible refine (anamnesisref03_Has.calls _ _ l0_0 a0_1 a0_2 (rd l1 x7_1) true _ ?side1 ?side2 A15.out).mono ?_
          (case side1 => repeat (first | exact (Kd.C_below HR0_0.out HB.out) | (with_reducible refine Kd.C_alloc ?_ _) | (with_reducible refine Kd.C_drewN ?_ _) | (with_reducible refine Kd.C_drew ?_)))
          (case side2 => exact HC0_0.out)
          rintro e w31 ⟨rfl, hb⟩
          refine ⟨_, rfl, ?_⟩
          have n0_ := Aside0.mk (Kd.R_below (by (with_reducible repeat (first | apply Kd.R_alloc | apply Kd.R_drewN | apply Kd.R_drew)); exact HO_6.out) hb)
          have n1_ := Aside0.mk (blk_below (g := gb300) (o := .cells #[.slice A0_0 l0_0.length c0_0, .int .i64 a0_1, .int .i64 a0_2] 24 (0, 0)) (by (with_reducible repeat (first | refine blk_drewN ?_ _ | refine blk_drew ?_ | refine blk_alloc ?_ _)); exact BK300.out) hb)
          have n2_ := Aside0.mk (below_step (by repeat (first | (with_reducible first | exact HB.out | apply below_alloc | apply pw_below_drewN | apply below_drew1 | refine below_set ?_ GE300.out) | exact HB.out)) hb)
          clear HO_6
          clear BK300
          clear HB
          have HO_6 := n0_
          have BK300 := n1_
          have HB := n2_
          clear n0_ n1_ n2_
          (try clear hb)
          (try clear hb2)
          (try clear hk)
          (try clear hi)
          refine hK.out _ _ ⟨(blk_cell BK300.out 0).trans rfl, (blk_cell BK300.out 1).trans rfl, (blk_cell BK300.out 2).trans rfl, ((HB.out.cell (World.block_lt_of_cell? w _ hw305_0)).trans hw305_0)⟩ (fun hHeld => ?_)
          clear hK K
          refine norm_ (a' := ?_) ?_ ?_
          rotate_left
          ·show Act.put _ (some 29) _ = _
           simp only [Act.put, List.setIfInBounds_toArray, List.set_cons_zero, List.set_cons_succ, i64_w, i32_w]
           rfl
          refine pure_ (i := 6) (N := some 30) (v := ?_) (a' := ?_) #[true, true, true, true, true, true, true] rfl rfl (by kernel_rfl) (fun _ _ _ h => h) (Or.inl ⟨by rfl, ?_⟩) ?_ ?_
          rotate_left
          ·intro w'
           go_simp
           with_reducible rfl
          rotate_left
          ·simp only [Act.put, List.setIfInBounds_toArray, List.set_cons_zero, List.set_cons_succ, i64_w, i32_w]
           rfl
          refine done_ (by kernel_rfl) ?_
          try go_wp2
          have n0_ := Aside0.mk (Kd.R_drew HO_6.out)
          have n1_ := Aside0.mk (blk_drew BK300.out)
          have n2_ := Aside0.mk (below_drew1 HB.out)
          clear HO_6
          clear BK300
          clear HB
          have HO_6 := n0_
          have BK300 := n1_
          have HB := n2_
          clear n0_ n1_ n2_
          have p307 : 0 ≤ (x7_1 : Int) := of_decide_eq_true (by first | (with_reducible assumption) | assumption)
          have q307 : x7_1 < (l1.length : Int) := of_decide_eq_true (by first | (with_reducible assumption) | assumption)
          obtain ⟨ad307, e307, hx307_0⟩ := Kd.at_int HR1.out x7_1 p307 q307
          have hw307_0 := hx307_0
          obtain rfl : ad305 = ad307 := (by injection e307)
          replace hx307_0 := (HB.out.cell (World.block_lt_of_cell? w _ hx307_0)).trans hx307_0
          replace p307 := eq_true p307
          replace q307 := eq_true q307
          refine start_ (n := 7) (S := fun w' => w'.cell? ⟨gb300, 0, none⟩ = some (.slice A0_0 l0_0.length c0_0) ∧ w'.cell? ⟨gb300, 1, none⟩ = some (.int .i64 a0_1) ∧ w'.cell? ⟨gb300, 2, none⟩ = some (.int .i64 a0_2) ∧ w'.cell? (ad305.add (x7_1).toNat) = some (.int .i64 (rd l1 x7_1))) (ds := []) #[false, false, false, false, false, false, false] (by kernel_rfl) rfl rfl ⟨(blk_cell BK300.out 0).trans rfl, (blk_cell BK300.out 1).trans rfl, (blk_cell BK300.out 2).trans rfl, ((HB.out.cell (World.block_lt_of_cell? w _ hw307_0)).trans hw307_0)⟩ (fun hHeld => ?_)
          generalize w31.drew = w32 at HO_6 BK300 HB hx307_0 hHeld ⊢
          refine pure_ (i := 1) (N := some 32) (v := ?_) (a' := ?_) #[false, true, false, false, false, false, false] rfl rfl (by kernel_rfl) (fun _ _ _ h => h) (Or.inl ⟨by rfl, ?_⟩) ?_ ?_
          rotate_left
          ·intro w'
           go_simp
           with_reducible rfl
          rotate_left
          ·simp only [Act.put, List.setIfInBounds_toArray, List.set_cons_zero, List.set_cons_succ, i64_w, i32_w]
           rfl
          refine pure_ (i := 2) (N := some 33) (v := ?_) (a' := ?_) #[false, true, true, false, false, false, false] rfl rfl (by kernel_rfl) (fun _ _ _ h => h) (Or.inl ⟨by rfl, ?_⟩) ?_ ?_
          rotate_left
          ·intro w'
           go_simp
           with_reducible rfl
          rotate_left
          ·simp only [Act.put, List.setIfInBounds_toArray, List.set_cons_zero, List.set_cons_succ, i64_w, i32_w]
           rfl
          refine pure_ (i := 3) (N := some 34) (v := ?_) (a' := ?_) #[false, true, true, true, false, false, false] rfl rfl (by kernel_rfl) (fun _ _ _ h => h) (Or.inl ⟨by rfl, ?_⟩) ?_ ?_
          rotate_left
          ·intro w'
           go_simp
           with_reducible rfl
          rotate_left
          ·simp only [Act.put, List.setIfInBounds_toArray, List.set_cons_zero, List.set_cons_succ, i64_w, i32_w]
           rfl
          refine take_ (i := 0) (N := some 31) (v := ?_) (a' := ?_) #[true, true, true, true, false, false, false] rfl rfl (by kernel_rfl) (fun _ _ _ h => h) (Or.inl ⟨by rfl, ?_⟩) hHeld ?_ ?_
          rotate_left
          ·rintro w' ⟨s0, s1, s2, s3⟩
           go_simp
           with_reducible rfl
          rotate_left
          ·simp only [Act.put, List.setIfInBounds_toArray, List.set_cons_zero, List.set_cons_succ, i64_w, i32_w]
           rfl
          refine take_ (i := 4) (N := some 35) (v := ?_) (a' := ?_) #[true, true, true, true, true, false, false] rfl rfl (by kernel_rfl) (fun _ _ _ h => h) (Or.inl ⟨by rfl, ?_⟩) hHeld ?_ ?_
          rotate_left
          ·rintro w' ⟨s0, s1, s2, s3⟩
           go_simp
           with_reducible rfl
          rotate_left
          ·simp only [Act.put, List.setIfInBounds_toArray, List.set_cons_zero, List.set_cons_succ, i64_w, i32_w]
           rfl
          refine one_ (i := 5) (N := some 36) #[true, true, true, true, true, true, false] rfl rfl (by kernel_rfl) (by decide) (fun K hK => ?_)
          refine goes_ Try.func22 (by kernel_rfl) rfl #[.agg #[.slice A0_0 l0_0.length c0_0, .int .i64 a0_1, .int .i64 a0_2], .int .i64 (rd l1 x7_1)] (by rfl) rfl rfl (by (try simp only [List.map_toArray, List.map_cons, List.map_nil]); first | done | rfl | (simp only [List.length_drop, List.length_take]; rfl)) ?_
          with_reducible refine (anamnesisref03_Ref.calls _ _ l0_0 a0_1 a0_2 (rd l1 x7_1) t308 _ ?side1 ?side2 A17.out).mono ?_
          (case side1 => repeat (first | exact (Kd.C_below HR0_0.out HB.out) | (with_reducible refine Kd.C_alloc ?_ _) | (with_reducible refine Kd.C_drewN ?_ _) | (with_reducible refine Kd.C_drew ?_)))
          (case side2 => exact HC0_0.out)
          rintro e w33 ⟨rfl, hb⟩
          refine ⟨_, rfl, ?_⟩
          have n0_ := Aside0.mk (Kd.R_below (by (with_reducible repeat (first | apply Kd.R_alloc | apply Kd.R_drewN | apply Kd.R_drew)); exact HO_6.out) hb)
          have n1_ := Aside0.mk (blk_below (g := gb300) (o := .cells #[.slice A0_0 l0_0.length c0_0, .int .i64 a0_1, .int .i64 a0_2] 24 (0, 0)) (by (with_reducible repeat (first | refine blk_drewN ?_ _ | refine blk_drew ?_ | refine blk_alloc ?_ _)); exact BK300.out) hb)
          have n2_ := Aside0.mk (below_step (by repeat (first | (with_reducible first | exact HB.out | apply below_alloc | apply pw_below_drewN | apply below_drew1 | refine below_set ?_ GE300.out) | exact HB.out)) hb)
          clear HO_6
          clear BK300
          clear HB
          have HO_6 := n0_
          have BK300 := n1_
          have HB := n2_
          clear n0_ n1_ n2_
          (try clear hb)
          (try clear hb2)
          (try clear hk)
          (try clear hi)
          refine hK.out _ _ ⟨(blk_cell BK300.out 0).trans rfl, (blk_cell BK300.out 1).trans rfl, (blk_cell BK300.out 2).trans rfl, ((HB.out.cell (World.block_lt_of_cell? w _ hw307_0)).trans hw307_0)⟩ (fun hHeld => ?_)
          clear hK K
          refine norm_ (a' := ?_) ?_ ?_
          rotate_left
          ·show Act.put _ (some 36) _ = _
           simp only [Act.put, List.setIfInBounds_toArray, List.set_cons_zero, List.set_cons_succ, i64_w, i32_w]
           rfl
          refine pure_ (i := 6) (N := some 37) (v := ?_) (a' := ?_) #[true, true, true, true, true, true, true] rfl rfl (by kernel_rfl) (fun _ _ _ h => h) (Or.inl ⟨by rfl, ?_⟩) ?_ ?_
          rotate_left
          ·intro w'
           go_simp
           with_reducible rfl
          rotate_left
          ·simp only [Act.put, List.setIfInBounds_toArray, List.set_cons_zero, List.set_cons_succ, i64_w, i32_w]
           rfl
          refine done_ (by kernel_rfl) ?_
          try go_wp2
          go_roundg k1
          case measure => have := HK1.out; omega
          case rel => exact ⟨(x6_1), (wrap64 (x7_1 + 1)), (by first | rfl | (simp; done) | (simp [*]; done)), H', ⟨by have := HK1.out; omega⟩, ⟨by (with_reducible repeat (first | apply Kd.R_alloc | apply Kd.R_drewN | apply Kd.R_drew)); exact HO_6.out⟩, ⟨by (with_reducible repeat (first | refine blk_drewN ?_ _ | refine blk_drew ?_ | refine blk_alloc ?_ _)); exact BK300.out⟩, ⟨by repeat (first | (with_reducible first | exact HB.out | apply below_alloc | apply pw_below_drewN | apply below_drew1 | refine below_set ?_ GE300.out) | exact HB.out)⟩⟩
        ·replace c16 := Bool.eq_false_iff.mpr c16
         subst c16
         have H1 : (some (([] : List Int), 31)) = some (r1, r2) := by rw [if_neg (show ¬ (false = true) by decide)] at H; exact H
         clear H
         have H := H1
         clear H1
         simp only [Option.some.injEq, Prod.mk.injEq] at H
         obtain ⟨rfl, rfl⟩ := H
         try go_wp2
         have n0_ := Aside0.mk (Kd.R_drew HO_6.out)
         have n1_ := Aside0.mk (blk_drew BK300.out)
         have n2_ := Aside0.mk (below_drew1 HB.out)
         clear HO_6
         clear BK300
         clear HB
         have HO_6 := n0_
         have BK300 := n1_
         have HB := n2_
         clear n0_ n1_ n2_
         have p305 : 0 ≤ (x7_1 : Int) := of_decide_eq_true (by first | (with_reducible assumption) | assumption)
         have q305 : x7_1 < (l1.length : Int) := of_decide_eq_true (by first | (with_reducible assumption) | assumption)
         obtain ⟨ad305, e305, hx305_0⟩ := Kd.at_int HR1.out x7_1 p305 q305
         have hw305_0 := hx305_0
         cases e305
         replace hx305_0 := (HB.out.cell (World.block_lt_of_cell? w _ hx305_0)).trans hx305_0
         replace p305 := eq_true p305
         replace q305 := eq_true q305
         refine start_ (n := 7) (S := fun w' => w'.cell? ⟨gb300, 0, none⟩ = some (.slice A0_0 l0_0.length c0_0) ∧ w'.cell? ⟨gb300, 1, none⟩ = some (.int .i64 a0_1) ∧ w'.cell? ⟨gb300, 2, none⟩ = some (.int .i64 a0_2) ∧ w'.cell? (ad305.add (x7_1).toNat) = some (.int .i64 (rd l1 x7_1))) (ds := []) #[false, false, false, false, false, false, false] (by kernel_rfl) rfl rfl ⟨(blk_cell BK300.out 0).trans rfl, (blk_cell BK300.out 1).trans rfl, (blk_cell BK300.out 2).trans rfl, ((HB.out.cell (World.block_lt_of_cell? w _ hw305_0)).trans hw305_0)⟩ (fun hHeld => ?_)
         generalize wr.drew = w34 at HO_6 BK300 HB hx305_0 hHeld ⊢
         refine pure_ (i := 1) (N := some 25) (v := ?_) (a' := ?_) #[false, true, false, false, false, false, false] rfl rfl (by kernel_rfl) (fun _ _ _ h => h) (Or.inl ⟨by rfl, ?_⟩) ?_ ?_
         rotate_left
         ·intro w'
          go_simp
          with_reducible rfl
         rotate_left
         ·simp only [Act.put, List.setIfInBounds_toArray, List.set_cons_zero, List.set_cons_succ, i64_w, i32_w]
          rfl
         refine pure_ (i := 2) (N := some 26) (v := ?_) (a' := ?_) #[false, true, true, false, false, false, false] rfl rfl (by kernel_rfl) (fun _ _ _ h => h) (Or.inl ⟨by rfl, ?_⟩) ?_ ?_
         rotate_left
         ·intro w'
          go_simp
          with_reducible rfl
         rotate_left
         ·simp only [Act.put, List.setIfInBounds_toArray, List.set_cons_zero, List.set_cons_succ, i64_w, i32_w]
          rfl
         refine pure_ (i := 3) (N := some 27) (v := ?_) (a' := ?_) #[false, true, true, true, false, false, false] rfl rfl (by kernel_rfl) (fun _ _ _ h => h) (Or.inl ⟨by rfl, ?_⟩) ?_ ?_
         rotate_left
         ·intro w'
          go_simp
          with_reducible rfl
         rotate_left
         ·simp only [Act.put, List.setIfInBounds_toArray, List.set_cons_zero, List.set_cons_succ, i64_w, i32_w]
          rfl
         refine take_ (i := 0) (N := some 24) (v := ?_) (a' := ?_) #[true, true, true, true, false, false, false] rfl rfl (by kernel_rfl) (fun _ _ _ h => h) (Or.inl ⟨by rfl, ?_⟩) hHeld ?_ ?_
         rotate_left
         ·rintro w' ⟨s0, s1, s2, s3⟩
          go_simp
          with_reducible rfl
         rotate_left
         ·simp only [Act.put, List.setIfInBounds_toArray, List.set_cons_zero, List.set_cons_succ, i64_w, i32_w]
          rfl
         refine take_ (i := 4) (N := some 28) (v := ?_) (a' := ?_) #[true, true, true, true, true, false, false] rfl rfl (by kernel_rfl) (fun _ _ _ h => h) (Or.inl ⟨by rfl, ?_⟩) hHeld ?_ ?_
         rotate_left
         ·rintro w' ⟨s0, s1, s2, s3⟩
          go_simp
          with_reducible rfl
         rotate_left
         ·simp only [Act.put, List.setIfInBounds_toArray, List.set_cons_zero, List.set_cons_succ, i64_w, i32_w]
          rfl
         refine one_ (i := 5) (N := some 29) #[true, true, true, true, true, true, false] rfl rfl (by kernel_rfl) (by decide) (fun K hK => ?_)
         refine goes_ Try.func23 (by kernel_rfl) rfl #[.agg #[.slice A0_0 l0_0.length c0_0, .int .i64 a0_1, .int .i64 a0_2], .int .i64 (rd l1 x7_1)] (by rfl) rfl rfl (by (try simp only [List.map_toArray, List.map_cons, List.map_nil]); first | done | rfl | (simp only [List.length_drop, List.length_take]; rfl)) ?_
         with_reducible refine (anamnesisref03_Has.calls _ _ l0_0 a0_1 a0_2 (rd l1 x7_1) false _ ?side1 ?side2 A15.out).mono ?_
         (case side1 => repeat (first | exact (Kd.C_below HR0_0.out HB.out) | (with_reducible refine Kd.C_alloc ?_ _) | (with_reducible refine Kd.C_drewN ?_ _) | (with_reducible refine Kd.C_drew ?_)))
         (case side2 => exact HC0_0.out)
         rintro e w35 ⟨rfl, hb⟩
         refine ⟨_, rfl, ?_⟩
         have n0_ := Aside0.mk (Kd.R_below (by (with_reducible repeat (first | apply Kd.R_alloc | apply Kd.R_drewN | apply Kd.R_drew)); exact HO_6.out) hb)
         have n1_ := Aside0.mk (blk_below (g := gb300) (o := .cells #[.slice A0_0 l0_0.length c0_0, .int .i64 a0_1, .int .i64 a0_2] 24 (0, 0)) (by (with_reducible repeat (first | refine blk_drewN ?_ _ | refine blk_drew ?_ | refine blk_alloc ?_ _)); exact BK300.out) hb)
         have n2_ := Aside0.mk (below_step (by repeat (first | (with_reducible first | exact HB.out | apply below_alloc | apply pw_below_drewN | apply below_drew1 | refine below_set ?_ GE300.out) | exact HB.out)) hb)
         clear HO_6
         clear BK300
         clear HB
         have HO_6 := n0_
         have BK300 := n1_
         have HB := n2_
         clear n0_ n1_ n2_
         (try clear hb)
         (try clear hb2)
         (try clear hk)
         (try clear hi)
         refine hK.out _ _ ⟨(blk_cell BK300.out 0).trans rfl, (blk_cell BK300.out 1).trans rfl, (blk_cell BK300.out 2).trans rfl, ((HB.out.cell (World.block_lt_of_cell? w _ hw305_0)).trans hw305_0)⟩ (fun hHeld => ?_)
         clear hK K
         refine norm_ (a' := ?_) ?_ ?_
         rotate_left
         ·show Act.put _ (some 29) _ = _
          simp only [Act.put, List.setIfInBounds_toArray, List.set_cons_zero, List.set_cons_succ, i64_w, i32_w]
          rfl
         refine pure_ (i := 6) (N := some 30) (v := ?_) (a' := ?_) #[true, true, true, true, true, true, true] rfl rfl (by kernel_rfl) (fun _ _ _ h => h) (Or.inl ⟨by rfl, ?_⟩) ?_ ?_
         rotate_left
         ·intro w'
          go_simp
          with_reducible rfl
         rotate_left
         ·simp only [Act.put, List.setIfInBounds_toArray, List.set_cons_zero, List.set_cons_succ, i64_w, i32_w]
          rfl
         refine done_ (by kernel_rfl) ?_
         try go_wp2
         go_ret2
         exact ⟨_, by first | rfl | (simp [errW_none, errW_some] <;> rfl) | (simp [*, errW_none, errW_some] <;> rfl), by first | exact Kd.R_nil _ _ _ _ _ | exact Kd.N_nil _ _ _ _ _ | exact Kd.V_nil _ _ _ _ _ | exact Kd.Q_nil _ _ _ _ _ | exact Kd.S_nil _ _ _ _ _, by repeat (first | (with_reducible first | exact HB.out | apply below_alloc | apply pw_below_drewN | apply below_drew1 | refine below_set ?_ GE300.out) | exact HB.out)⟩
       ·rw [if_neg c14] at H
        exact absurd H (by simp)
      ·rw [if_neg c13] at H
       have c13b0 : decide (x7_1 < (l1.length : Int)) = false := decide_eq_false c13
       clear c13
       have H' := Aside0.mk H
       clear H
       go_wp2
       go_loopg [6, 8] k1 (fun kq v6 v8 w' => ∃ (x6_2 : List Bool) (x8_2 : Int), v8 = .int .i64 x8_2 ∧ Aside0 (anamnesisref04_Live.l1 kq x6_2 x8_2 l0_0 a0_1 a0_2 = some (r1, r2)) ∧ Aside0 (kq ≤ k1) ∧ Aside0 (Kd.R Kd.bool 4 w' w.heap.size (fun _ => True) v6 x6_2) ∧ Aside0 (w'.heap[gb300]? = some (.cells #[(.slice A0_0 l0_0.length c0_0), .int .i64 a0_1, .int .i64 a0_2] 24 (0, 0))) ∧ Aside0 (Below w.heap.size w w'))
       case atStart => exact ⟨(x6_1), (0), (by first | rfl | (simp; done) | (simp [*]; done)), H', ⟨Nat.le_refl _⟩, ⟨by (with_reducible repeat (first | apply Kd.R_alloc | apply Kd.R_drewN | apply Kd.R_drew)); exact HO_6.out⟩, ⟨by (with_reducible repeat (first | refine blk_drewN ?_ _ | refine blk_drew ?_ | refine blk_alloc ?_ _)); exact BK300.out⟩, ⟨by repeat (first | (with_reducible first | exact HB.out | apply below_alloc | apply pw_below_drewN | apply below_drew1 | refine below_set ?_ GE300.out) | exact HB.out)⟩⟩
       case round =>
        clear H'
        try clear c1
        try clear c2
        try clear p2
        try clear q2
        try clear hx2
        try clear hf2
        try clear p3
        try clear q3
        try clear hx3
        try clear p6
        try clear c13
        try clear c13b0
        try clear c14
        try clear c16
        try clear c18
        try clear c18b0
        try clear c20
        try clear c21
        try clear c22
        try clear p22
        try clear q22
        try clear hx22
        try clear hf22
        try clear c23
        try clear p30
        try clear q30
        try clear hx30
        try clear hx22_0
        try clear hx305_0
        try clear hx307_0
        try clear hx309_0
        try clear p22
        try clear p305
        try clear p307
        try clear p309
        try clear q22
        try clear q305
        try clear q307
        try clear q309
        obtain ⟨x6_2, x8_2, rfl, HA, HK2, HO_6, BK300, HB⟩ := hrel
        cases gk with
        | zero => exact absurd HA.out (by simp [anamnesisref04_Live.l1])
        | succ k2 =>
         have H := HA.out
         clear HA
         simp only [anamnesisref04_Live.l1] at H
         by_cases c36 : x8_2 < (l0_0.length : Int)
         ·rw [if_pos c36] at H
          have c36b0 : decide (x8_2 < (l0_0.length : Int)) = true := decide_eq_true c36
          clear c36
          replace H := Option.bind_eq_some_iff.mp H
          obtain ⟨t312, A370, H⟩ := H
          replace H : (anamnesisref04_Live.l1 k2 t312 (wrap64 (x8_2 + 1)) l0_0 a0_1 a0_2) = some (r1, r2) := H
          have A37 := Aside0.mk A370
          clear A370
          have H' := Aside0.mk H
          clear H
          have hcz38_0 : wr.cell? ⟨gb300, 0, none⟩ = some (.slice A0_0 l0_0.length c0_0) := (blk_cell BK300.out 0).trans rfl
          have hcz38_1 : wr.cell? ⟨gb300, 1, none⟩ = some (.int .i64 a0_1) := (blk_cell BK300.out 1).trans rfl
          have hcz38_2 : wr.cell? ⟨gb300, 2, none⟩ = some (.int .i64 a0_2) := (blk_cell BK300.out 2).trans rfl
          have hfz38_0 := blk_frozen BK300.out 0
          have hfz38_1 := blk_frozen BK300.out 1
          have hfz38_2 := blk_frozen BK300.out 2
          obtain ⟨Ao39, co39, eo39⟩ := Kd.R_slice HO_6.out
          subst eo39
          go_wp2_with (first | ((with_reducible refine gate_callee (f := 39) rfl ?_); refine goesL_ (some 55) rfl rfl Try.func39 (by kernel_rfl) rfl #[.agg #[.slice A0_0 l0_0.length c0_0, .int .i64 a0_1, .int .i64 a0_2], .slice Ao39 x6_2.length co39] rfl (by (try simp only [List.map_toArray, List.map_cons, List.map_nil]); first | done | rfl | (simp only [List.length_drop, List.length_take]; rfl)) ?_; (with_reducible refine (anamnesisref04_near.calls k2 _ _ l0_0 a0_1 a0_2 _ _ x6_2 t312 _ ?side1 ?side2 ?side3 ?side4 A37.out).mono ?_); (case side1 => repeat (first | exact (Kd.C_below HR0_0.out HB.out) | (with_reducible refine Kd.C_alloc ?_ _) | (with_reducible refine Kd.C_drewN ?_ _) | (with_reducible refine Kd.C_drew ?_))); (case side2 => exact HC0_0.out); (case side3 => repeat (first | exact (Kd.R_reads' HO_6.out).2.2 | (with_reducible refine Kd.C_alloc ?_ _) | (with_reducible refine Kd.C_drewN ?_ _) | (with_reducible refine Kd.C_drew ?_))); (case side4 => exact (Kd.R_reads' HO_6.out).2.1); rintro e w40 ⟨v313, rfl, ho0, hb⟩; refine ⟨_, rfl, ?_⟩; have n0_ := Aside0.mk (Kd.R_elder' (by (with_reducible repeat (first | apply Kd.R_alloc | apply Kd.R_drewN | apply Kd.R_drew)); exact HO_6.out) (Kd.R_base ho0) hb); have n1_ := Aside0.mk (Kd.R_lower (Kd.R_new' ho0 (Kd.R_lt (by (with_reducible repeat (first | apply Kd.R_alloc | apply Kd.R_drewN | apply Kd.R_drew)); exact HO_6.out))) (below_size (by repeat (first | (with_reducible first | exact HB.out | apply below_alloc | apply pw_below_drewN | apply below_drew1 | refine below_set ?_ GE300.out) | exact HB.out)))); have n2_ := Aside0.mk (blk_below (g := gb300) (o := .cells #[.slice A0_0 l0_0.length c0_0, .int .i64 a0_1, .int .i64 a0_2] 24 (0, 0)) (by (with_reducible repeat (first | refine blk_drewN ?_ _ | refine blk_drew ?_ | refine blk_alloc ?_ _)); exact BK300.out) hb); have n3_ := Aside0.mk (below_step (by repeat (first | (with_reducible first | exact HB.out | apply below_alloc | apply pw_below_drewN | apply below_drew1 | refine below_set ?_ GE300.out) | exact HB.out)) hb); clear HO_6; clear BK300; clear HB; have HO_6 := n0_; have HO314 := n1_; have BK300 := n2_; have HB := n3_; clear n0_ n1_ n2_ n3_; (try clear hb); (try clear hb2); (try clear hk); (try clear hi); (try clear ho0)))
          go_roundg k2
          case measure => have := HK1.out; have := HK2.out; omega
          case rel => exact ⟨(t312), (wrap64 (x8_2 + 1)), (by first | rfl | (simp; done) | (simp [*]; done)), H', ⟨by have := HK1.out; have := HK2.out; omega⟩, ⟨by (with_reducible repeat (first | apply Kd.R_alloc | apply Kd.R_drewN | apply Kd.R_drew)); exact Kd.R_mono HO314.out (fun _ hk => trivial)⟩, ⟨by (with_reducible repeat (first | refine blk_drewN ?_ _ | refine blk_drew ?_ | refine blk_alloc ?_ _)); exact BK300.out⟩, ⟨by repeat (first | (with_reducible first | exact HB.out | apply below_alloc | apply pw_below_drewN | apply below_drew1 | refine below_set ?_ GE300.out) | exact HB.out)⟩⟩
         ·rw [if_neg c36] at H
          have c36b0 : decide (x8_2 < (l0_0.length : Int)) = false := decide_eq_false c36
          clear c36
          obtain ⟨y315, hy315⟩ : ∃ y_ : List Int, y_ = (([] : List Int)) := ⟨_, rfl⟩
          replace H : (anamnesisref04_Live.l2 k2 x6_2 y315 0) = some (r1, r2) := by first | (rw [hy315]; with_reducible exact H) | (have H2_ := (Option.bind_some _ _).symm.trans H; rw [hy315]; with_reducible exact H2_) | (have H2_ := (Option.bind_some _ _).symm.trans H; with_reducible exact H2_) | with_reducible exact H | (rw [hy315]; exact H) | exact H
          have Ny315 := Aside0.mk hy315
          clear hy315
          have H' := Aside0.mk H
          clear H
          have hcz41_0 : wr.cell? ⟨gb300, 0, none⟩ = some (.slice A0_0 l0_0.length c0_0) := (blk_cell BK300.out 0).trans rfl
          have hcz41_1 : wr.cell? ⟨gb300, 1, none⟩ = some (.int .i64 a0_1) := (blk_cell BK300.out 1).trans rfl
          have hcz41_2 : wr.cell? ⟨gb300, 2, none⟩ = some (.int .i64 a0_2) := (blk_cell BK300.out 2).trans rfl
          have hfz41_0 := blk_frozen BK300.out 0
          have hfz41_1 := blk_frozen BK300.out 1
          have hfz41_2 := blk_frozen BK300.out 2
          go_wp2_with (first | ((with_reducible refine gate_dst (N := 56) rfl ?_); refine Kd.R_lit (Kd.int .i64) _ 3 ?hg (N := 56) ?hd (xs := ([] : List Int)) (inner := []) (ok := fun _ => True) (okp := fun _ => True) ?hr ?hp (fun _ hk => hk) trivial (Below.refl _ _) (Nat.le_refl _) (by simp) ?_; (case hd => rfl); (case hg => rfl); (case hr => first | (go_simp; done) | (go_simp; rfl)); (case hp => exact (Reps.none _ _)); intro v316 w42 ho43 hb hg_ hnew_; clear hg_ hnew_; (first | rw [← Ny315.out] at ho43 | (simp only [Int.reduceToNat] at ho43; rw [← Ny315.out] at ho43)); have n0_ := Aside0.mk (Kd.R_below (by (with_reducible repeat (first | apply Kd.R_alloc | apply Kd.R_drewN | apply Kd.R_drew)); exact HO_6.out) hb); have n1_ := Aside0.mk (Kd.R_lower ho43 (below_size (by repeat (first | (with_reducible first | exact HB.out | apply below_alloc | apply pw_below_drewN | apply below_drew1 | refine below_set ?_ GE300.out) | exact HB.out)))); have n2_ := Aside0.mk (blk_below (g := gb300) (o := .cells #[.slice A0_0 l0_0.length c0_0, .int .i64 a0_1, .int .i64 a0_2] 24 (0, 0)) (by (with_reducible repeat (first | refine blk_drewN ?_ _ | refine blk_drew ?_ | refine blk_alloc ?_ _)); exact BK300.out) hb); have n3_ := Aside0.mk (below_step (by repeat (first | (with_reducible first | exact HB.out | apply below_alloc | apply pw_below_drewN | apply below_drew1 | refine below_set ?_ GE300.out) | exact HB.out)) hb); clear HO_6; clear BK300; clear HB; have HO_6 := n0_; have HO317 := n1_; have BK300 := n2_; have HB := n3_; clear n0_ n1_ n2_ n3_; clear hb ho43))
          go_loopg [9, 10] k2 (fun kq v9 v10 w' => ∃ (x9_3 : List Int) (x10_3 : Int), v10 = .int .i64 x10_3 ∧ Aside0 (anamnesisref04_Live.l2 kq x6_2 x9_3 x10_3 = some (r1, r2)) ∧ Aside0 (kq ≤ k2) ∧ Aside0 (Kd.R Kd.bool 4 w' w.heap.size (fun _ => True) u6 x6_2) ∧ Aside0 (Kd.R (Kd.int .i64) 3 w' w.heap.size (fun _ => True) v9 x9_3) ∧ Aside0 (w'.heap[gb300]? = some (.cells #[(.slice A0_0 l0_0.length c0_0), .int .i64 a0_1, .int .i64 a0_2] 24 (0, 0))) ∧ Aside0 (Below w.heap.size w w'))
          case atStart => exact ⟨(y315), (0), (by first | rfl | (simp; done) | (simp [*]; done)), H', ⟨Nat.le_refl _⟩, ⟨by (with_reducible repeat (first | apply Kd.R_alloc | apply Kd.R_drewN | apply Kd.R_drew)); exact HO_6.out⟩, ⟨by (with_reducible repeat (first | apply Kd.R_alloc | apply Kd.R_drewN | apply Kd.R_drew)); exact HO317.out⟩, ⟨by (with_reducible repeat (first | refine blk_drewN ?_ _ | refine blk_drew ?_ | refine blk_alloc ?_ _)); exact BK300.out⟩, ⟨by repeat (first | (with_reducible first | exact HB.out | apply below_alloc | apply pw_below_drewN | apply below_drew1 | refine below_set ?_ GE300.out) | exact HB.out)⟩⟩
          case round =>
           clear H'
           try clear c1
           try clear c2
           try clear p2
           try clear q2
           try clear hx2
           try clear hf2
           try clear c3
           try clear p3
           try clear q3
           try clear hx3
           try clear p6
           try clear c13
           try clear c13b0
           try clear c14
           try clear c16
           try clear c18
           try clear c18b0
           try clear c20
           try clear c21
           try clear c22
           try clear p22
           try clear q22
           try clear hx22
           try clear hf22
           try clear c23
           try clear p30
           try clear q30
           try clear hx30
           try clear c36
           try clear c36b0
           try clear c39
           try clear hcz38_0
           try clear hcz38_1
           try clear hcz38_2
           try clear hcz41_0
           try clear hcz41_1
           try clear hcz41_2
           try clear hfz38_0
           try clear hfz38_1
           try clear hfz38_2
           try clear hfz41_0
           try clear hfz41_1
           try clear hfz41_2
           try clear hx22_0
           try clear hx305_0
           try clear hx307_0
           try clear hx309_0
           try clear p2
           try clear p22
           try clear p3
           try clear p30
           try clear p305
           try clear p307
           try clear p309
           try clear p6
           try clear q2
           try clear q22
           try clear q3
           try clear q30
           try clear q305
           try clear q307
           try clear q309
           obtain ⟨x9_3, x10_3, rfl, HA, HK3, HO_6, HO_9, BK300, HB⟩ := hrel
           cases gk with
           | zero => exact absurd HA.out (by simp [anamnesisref04_Live.l2])
           | succ k3 =>
            have H := HA.out
            clear HA
            simp only [anamnesisref04_Live.l2] at H
            by_cases c44 : x10_3 < (x6_2.length : Int)
            ·rw [if_pos c44] at H
             have c44b0 : decide (x10_3 < (x6_2.length : Int)) = true := decide_eq_true c44
             clear c44
             by_cases c45 : 0 ≤ x10_3
             ·rw [if_pos c45] at H
              have c45b0 : decide (0 ≤ x10_3) = true := decide_eq_true c45
              clear c45
              obtain ⟨bq46, hbq46⟩ : ∃ b_ : Bool, b_ = (rdOf false x6_2 x10_3) := ⟨_, rfl⟩
              replace H : (if bq46 = true then (if x9_3.length < 17592186044416 then (anamnesisref04_Live.l2 k3 x6_2 (x9_3 ++ [x10_3]) (wrap64 (x10_3 + 1))) else (none)) else (anamnesisref04_Live.l2 k3 x6_2 x9_3 (wrap64 (x10_3 + 1)))) = some (r1, r2) := by rw [← hbq46] at H; exact H
              have Nbq46 := Aside0.mk hbq46
              clear hbq46
              by_cases c47 : bq46 = true
              ·subst c47
               have H1 : (if x9_3.length < 17592186044416 then (anamnesisref04_Live.l2 k3 x6_2 (x9_3 ++ [x10_3]) (wrap64 (x10_3 + 1))) else (none)) = some (r1, r2) := by rw [if_pos rfl] at H; exact H
               clear H
               have H := H1
               clear H1
               by_cases c48 : x9_3.length < 17592186044416
               ·rw [if_pos c48] at H
                have LMc48 := Aside0.mk c48
                clear c48
                obtain ⟨y319, hy319⟩ : ∃ y_ : List Int, y_ = (x9_3 ++ [x10_3]) := ⟨_, rfl⟩
                replace H : (anamnesisref04_Live.l2 k3 x6_2 y319 (wrap64 (x10_3 + 1))) = some (r1, r2) := by first | (rw [hy319]; with_reducible exact H) | (have H2_ := (Option.bind_some _ _).symm.trans H; rw [hy319]; with_reducible exact H2_) | (have H2_ := (Option.bind_some _ _).symm.trans H; with_reducible exact H2_) | with_reducible exact H | (rw [hy319]; exact H) | exact H
                have Ny319 := Aside0.mk hy319
                clear hy319
                have H' := Aside0.mk H
                clear H
                obtain ⟨Ao49, co49, eo49⟩ := Kd.R_slice HO_6.out
                subst eo49
                have p318 : 0 ≤ (x10_3 : Int) := of_decide_eq_true (by first | (with_reducible assumption) | assumption)
                have q318 : x10_3 < (x6_2.length : Int) := of_decide_eq_true (by first | (with_reducible assumption) | assumption)
                obtain ⟨ad318, e318, hx318_0⟩ := Kd.at_bool (Kd.R_reads' HO_6.out).2.2 x10_3 p318 q318
                (try rw [← Nbq46.out] at hx318_0)
                cases e318
                replace p318 := eq_true p318
                replace q318 := eq_true q318
                go_wp2_with (first | ((with_reducible refine gate_builtin (b := .append) (xs := #[.tmp 67, .tmp 69]) rfl ?_); at_builtin; refine Kd.R_append (Kd.int .i64) (w0 := w) w.heap.size rfl (.tmp 67) (.tmp 69) 25 3 (.int .i64 0) 8 rfl Try.underlying25 info3 rfl (by decide) (by omega) u9 x9_3 x10_3 [.int .i64 x10_3] (fun _ => True) (fun _ => False) rfl rfl ?aP (fun _ hk => hk.elim) ?aF ?aO ?aB ?aS ?aL ?_; (case aP => exact rfl); (case aB => exact (by repeat (first | (with_reducible first | exact HB.out | apply below_alloc | apply pw_below_drewN | apply below_drew1 | refine below_set ?_ GE300.out) | exact HB.out))); (case aF => exact (fun _ _ => trivial)); (case aO => exact (by (with_reducible repeat (first | apply Kd.R_alloc | apply Kd.R_drewN | apply Kd.R_drew)); exact HO_9.out)); (case aS => exact (below_size (by repeat (first | (with_reducible first | exact HB.out | apply below_alloc | apply pw_below_drewN | apply below_drew1 | refine below_set ?_ GE300.out) | exact HB.out)))); (case aL => have := LMc48.out; omega); intro v320 w50 ho hb hg hat; rw [← Ny319.out] at ho; have n0_ := Aside0.mk (Kd.R_over' (by (with_reducible repeat (first | apply Kd.R_alloc | apply Kd.R_drewN | apply Kd.R_drew)); exact HO_6.out) (Kd.R_typed (by (with_reducible repeat (first | apply Kd.R_alloc | apply Kd.R_drewN | apply Kd.R_drew)); exact HO_9.out)) (by decide) hg); have n1_ := Aside0.mk (blk_grown (g := gb300) (o := .cells #[.slice A0_0 l0_0.length c0_0, .int .i64 a0_1, .int .i64 a0_2] 24 (0, 0)) (by (with_reducible repeat (first | refine blk_drewN ?_ _ | refine blk_drew ?_ | refine blk_alloc ?_ _)); exact BK300.out) hg (Kd.R_ne HO_9.out BK300.out (by decide))); have n2_ := Aside0.mk (hb); have n3_ := Aside0.mk (ho); clear HO_6; clear BK300; clear HB; clear HO_9; have HO_6 := n0_; have BK300 := n1_; have HB := n2_; have HO321 := n3_; clear n0_ n1_ n2_ n3_; clear ho hb hg hat))
                go_roundg k3
                case measure => have := HK1.out; have := HK2.out; have := HK3.out; omega
                case rel => exact ⟨(y319), (wrap64 (x10_3 + 1)), (by first | rfl | (simp; done) | (simp [*]; done)), H', ⟨by have := HK1.out; have := HK2.out; have := HK3.out; omega⟩, ⟨by (with_reducible repeat (first | apply Kd.R_alloc | apply Kd.R_drewN | apply Kd.R_drew)); exact HO_6.out⟩, ⟨by (with_reducible repeat (first | apply Kd.R_alloc | apply Kd.R_drewN | apply Kd.R_drew)); exact HO321.out⟩, ⟨by (with_reducible repeat (first | refine blk_drewN ?_ _ | refine blk_drew ?_ | refine blk_alloc ?_ _)); exact BK300.out⟩, ⟨by repeat (first | (with_reducible first | exact HB.out | apply below_alloc | apply pw_below_drewN | apply below_drew1 | refine below_set ?_ GE300.out) | exact HB.out)⟩⟩
               ·rw [if_neg c48] at H
                exact absurd H (by simp)
              ·replace c47 := Bool.eq_false_iff.mpr c47
               subst c47
               have H1 : (anamnesisref04_Live.l2 k3 x6_2 x9_3 (wrap64 (x10_3 + 1))) = some (r1, r2) := by rw [if_neg (show ¬ (false = true) by decide)] at H; exact H
               clear H
               have H := H1
               clear H1
               have H' := Aside0.mk H
               clear H
               obtain ⟨Ao51, co51, eo51⟩ := Kd.R_slice HO_6.out
               subst eo51
               have p318 : 0 ≤ (x10_3 : Int) := of_decide_eq_true (by first | (with_reducible assumption) | assumption)
               have q318 : x10_3 < (x6_2.length : Int) := of_decide_eq_true (by first | (with_reducible assumption) | assumption)
               obtain ⟨ad318, e318, hx318_0⟩ := Kd.at_bool (Kd.R_reads' HO_6.out).2.2 x10_3 p318 q318
               (try rw [← Nbq46.out] at hx318_0)
               cases e318
               replace p318 := eq_true p318
               replace q318 := eq_true q318
               go_wp2
               go_roundg k3
               case measure => have := HK1.out; have := HK2.out; have := HK3.out; omega
               case rel => exact ⟨(x9_3), (wrap64 (x10_3 + 1)), (by first | rfl | (simp; done) | (simp [*]; done)), H', ⟨by have := HK1.out; have := HK2.out; have := HK3.out; omega⟩, ⟨by (with_reducible repeat (first | apply Kd.R_alloc | apply Kd.R_drewN | apply Kd.R_drew)); exact HO_6.out⟩, ⟨by (with_reducible repeat (first | apply Kd.R_alloc | apply Kd.R_drewN | apply Kd.R_drew)); exact HO_9.out⟩, ⟨by (with_reducible repeat (first | refine blk_drewN ?_ _ | refine blk_drew ?_ | refine blk_alloc ?_ _)); exact BK300.out⟩, ⟨by repeat (first | (with_reducible first | exact HB.out | apply below_alloc | apply pw_below_drewN | apply below_drew1 | refine below_set ?_ GE300.out) | exact HB.out)⟩⟩
             ·rw [if_neg c45] at H
              exact absurd H (by simp)
            ·rw [if_neg c44] at H
             have c44b0 : decide (x10_3 < (x6_2.length : Int)) = false := decide_eq_false c44
             clear c44
             simp only [Option.some.injEq, Prod.mk.injEq] at H
             obtain ⟨rfl, rfl⟩ := H
             obtain ⟨Ao52, co52, eo52⟩ := Kd.R_slice HO_6.out
             subst eo52
             go_wp2
             go_ret2
             exact ⟨_, by first | rfl | (simp [errW_none, errW_some] <;> rfl) | (simp [*, errW_none, errW_some] <;> rfl), by (with_reducible repeat (first | apply Kd.R_alloc | apply Kd.R_drewN | apply Kd.R_drew)); exact HO_9.out, by repeat (first | (with_reducible first | exact HB.out | apply below_alloc | apply pw_below_drewN | apply below_drew1 | refine below_set ?_ GE300.out) | exact HB.out)⟩
   ·rw [if_neg c6] at H
    exact absurd H (by simp)
  ·rw [if_neg c5] at H
   exact absurd H (by simp)
 ·replace c4 := Bool.eq_false_iff.mpr c4
  subst c4
  have H1 : (some (([] : List Int), 1)) = some (r1, r2) := by rw [if_neg (show ¬ (false = true) by decide)] at H; exact H
  clear H
  have H := H1
  clear H1
  simp only [Option.some.injEq, Prod.mk.injEq] at H
  obtain ⟨rfl, rfl⟩ := H
  go_enter Try.func19, Try.ntmps19
  go_wp2_with (first | ((with_reducible refine gate_dst (N := 2) rfl ?_); refine box_event ?hg (N := 2) ?hd (cs := #[.slice A0_0 l0_0.length c0_0, .int .i64 a0_1, .int .i64 a0_2]) (t := 24) ?hr ?_; (case hd => rfl); (case hg => rfl); (case hr => first | (go_simp; done) | (go_simp; rfl)); intro gb300 hg w53 hbox hb; have n0_ := Aside0.mk (below_step (by repeat (first | (with_reducible first | exact HB.out | apply below_alloc | apply pw_below_drewN | apply below_drew1) | exact HB.out)) hb); have n1_ := Aside0.mk (hbox); have n2_ := Aside0.mk ((by rw [hg]; exact (below_size (by repeat (first | (with_reducible first | exact HB.out | apply below_alloc | apply pw_below_drewN | apply below_drew1) | exact HB.out))) : w.heap.size ≤ gb300)); have n3_ := Aside0.mk ((by rw [hg]; exact (below_size (by repeat (first | (with_reducible first | exact HB.out | apply below_alloc | apply pw_below_drewN | apply below_drew1) | exact HB.out))) : w.heap.size ≤ gb300)); clear HB; have HB := n0_; have BK300 := n1_; have GW300 := n2_; have GE300 := n3_; clear n0_ n1_ n2_ n3_; clear hb hbox hg; have hcz54_0 : w53.cell? ⟨gb300, 0, none⟩ = some (.slice A0_0 l0_0.length c0_0) := (blk_cell BK300.out 0).trans rfl; have hcz54_1 : w53.cell? ⟨gb300, 1, none⟩ = some (.int .i64 a0_1) := (blk_cell BK300.out 1).trans rfl; have hcz54_2 : w53.cell? ⟨gb300, 2, none⟩ = some (.int .i64 a0_2) := (blk_cell BK300.out 2).trans rfl; have hfz54_0 := blk_frozen BK300.out 0; have hfz54_1 := blk_frozen BK300.out 1; have hfz54_2 := blk_frozen BK300.out 2) | ((with_reducible refine gate_callee (f := 18) rfl ?_); refine goesL_ (some 12) rfl rfl Try.func18 (by kernel_rfl) rfl #[.agg #[.slice A0_0 l0_0.length c0_0, .int .i64 a0_1, .int .i64 a0_2]] rfl (by (try simp only [List.map_toArray, List.map_cons, List.map_nil]); first | done | rfl | (simp only [List.length_drop, List.length_take]; rfl)) ?_; (with_reducible refine (anamnesisref03_May.calls k _ _ l0_0 a0_1 a0_2 false _ ?side1 ?side2 A3.out).mono ?_); (case side1 => repeat (first | exact (Kd.C_below HR0_0.out HB.out) | (with_reducible refine Kd.C_alloc ?_ _) | (with_reducible refine Kd.C_drewN ?_ _) | (with_reducible refine Kd.C_drew ?_))); (case side2 => exact HC0_0.out); rintro e w55 ⟨rfl, hb⟩; refine ⟨_, rfl, ?_⟩; have n0_ := Aside0.mk (blk_below (g := gb300) (o := .cells #[.slice A0_0 l0_0.length c0_0, .int .i64 a0_1, .int .i64 a0_2] 24 (0, 0)) (by (with_reducible repeat (first | refine blk_drewN ?_ _ | refine blk_drew ?_ | refine blk_alloc ?_ _)); exact BK300.out) hb); have n1_ := Aside0.mk (below_step (by repeat (first | (with_reducible first | exact HB.out | apply below_alloc | apply pw_below_drewN | apply below_drew1 | refine below_set ?_ GE300.out) | exact HB.out)) hb); clear BK300; clear HB; have BK300 := n0_; have HB := n1_; clear n0_ n1_; (try clear hb); (try clear hb2); (try clear hk); (try clear hi)))
  go_ret2
  exact ⟨_, by first | rfl | (simp [errW_none, errW_some] <;> rfl) | (simp [*, errW_none, errW_some] <;> rfl), by first | exact Kd.R_nil _ _ _ _ _ | exact Kd.N_nil _ _ _ _ _ | exact Kd.V_nil _ _ _ _ _ | exact Kd.Q_nil _ _ _ _ _ | exact Kd.S_nil _ _ _ _ _, by repeat (first | (with_reducible first | exact HB.out | apply below_alloc | apply pw_below_drewN | apply below_drew1 | refine below_set ?_ GE300.out) | exact HB.out)⟩
end Go.Proofs.Ytlmejfcfdhinlaa.PMove
