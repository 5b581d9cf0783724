/- The statement of anamnesis/anamnesislaw08.SnapSums is proved: for every input the call returns true, and each argument reads afterwards as it read before. No conditions. -/
import Derived.Test.YtednpcfhefibdaaRows
import Derived.Test.YtednpcfhefibdaaPSnapx17
import Derived.Test.YtednpcfhefibdaaSaySnapSums
import Derived.Test.YtednpcfhefibdaaPureSnapSums
import Derived.WalkKit
import Derived.ProofKit
import Derived.OpenShut
import Derived.ShutString
import Derived.ChangeOld
import Derived.Below
import Derived.SizedLaws
namespace Go.Proofs.Ytednpcfhefibdaa.snapSums
open Go.ChangeShapes Go.WideShapes Go.ChangeAt Go.RowKit
open Go.ChangeMaps (open_string shut_string)
open Go.Proofs.Ytednpcfhefibdaa.PSnap Go.Proofs.Ytednpcfhefibdaa.Opn Go.Proofs.YtednpcfhefibdaaW.PrintWords
set_option linter.unusedVariables false
theorem own : ownKnob Try.prog.godebug = none := by kernel_rfl
theorem laidOut : laidOutB Try.prog = true := by kernel_rfl
set_option maxRecDepth 100000 in
theorem lifted (os : Os) (started : os.Started) (H : Type) (enc : TypeId × Value → H) :
  ReturnsInHanded {} Try.checked os 5 .any (Rows.snapSumsSpec.pre6 enc Try.prog Try.f5 Rows.snapSumsRow.domain false) (Rows.snapSumsSpec.post enc Try.prog Try.f5 false true false false) := by
 refine returnsInHanded_of_change_sized (C := Try.checked) own started (by kernel_rfl) Try.func5
  (ChangeSpec.witness6 (enc := enc) (C := Try.checked) false ⟨#[], #[.agg #[.slice none 0 0, .int .i64 0, .int .i64 0], .int .i64 0, .int .i64 0], []⟩ 8 (by kernel_rfl) (by kernel_rfl) (by kernel_rfl) (by kernel_rfl)) ?_
 intro W base args ds gs before hval0 hW hcnd hsz0 _
 have hsz : (DataW.weightsEach Try.prog (Try.f5.params.toList ++ Rows.snapSumsSpec.plain.varTypes Try.prog) (ds ++ gs)).all (· ≤ reachBytes) = true := hsz0
 have hval : ∀ (j : Nat) t v, Try.f5.params[j]? = some t → args[j]? = some v → Value.okWide Try.prog W .any base t v := hval0
 have hW' := hW
 obtain ⟨p, q, hA0, hV, rfl, hfz, hnd⟩ := hW
 have hA : DataW.TrodAll enc Try.prog W 0 (fun _ => true) true Try.f5.params.toList args.toList ds p := hA0
 rw [Try.params5] at hA hval hsz
 obtain ⟨v0, vs0, d0, ds0, p0, q0, hargs, rfl, rfl, h0, r0⟩ := trodAll_cons hA
 obtain ⟨v1, vs1, d1, ds1, p1, q1, rfl, rfl, rfl, h1, r1⟩ := trodAll_cons r0
 obtain ⟨v2, vs2, d2, ds2, p2, q2, rfl, rfl, rfl, h2, r2⟩ := trodAll_cons r1
 obtain ⟨rfl, rfl, rfl⟩ := trodAll_nil r2
 obtain rfl : args = #[v0, v1, v2] := by cases args; simp_all
 obtain ⟨rfl, rfl⟩ := trodVars_none hV
 obtain ⟨x0, K0, O0⟩ := Opens.arg (show Opens Try.prog 24 k24 (Ok24) from opens24) hsz (j := 0) rfl rfl h0
 have lt0 : ∀ x ∈ p0, x.block < W.heap.size := by obtain ⟨m, hm⟩ := h0; exact DataW.trod_lt m _ _ _ hm
 obtain ⟨A0_0, c0_0, e0, L0_0, C0_0⟩ := k24_open K0
 obtain rfl := arg_struct Try.underlying24 (hval 0 24 v0 rfl rfl) e0
 obtain ⟨x1, K1, O1⟩ := Opens.arg (show Opens Try.prog 3 (Kd.int .i64) (OkInt .i64) from (opens_int Try.underlying3 (by kernel_rfl))) hsz (j := 1) rfl rfl h1
 have lt1 : ∀ x ∈ p1, x.block < W.heap.size := by obtain ⟨m, hm⟩ := h1; exact DataW.trod_lt m _ _ _ hm
 obtain rfl : v1 = .int .i64 x1 := arg_int Try.underlying3 (hval 1 3 v1 rfl rfl) K1
 obtain ⟨x2, K2, O2⟩ := Opens.arg (show Opens Try.prog 3 (Kd.int .i64) (OkInt .i64) from (opens_int Try.underlying3 (by kernel_rfl))) hsz (j := 2) rfl rfl h2
 have lt2 : ∀ x ∈ p2, x.block < W.heap.size := by obtain ⟨m, hm⟩ := h2; exact DataW.trod_lt m _ _ _ hm
 obtain rfl : v2 = .int .i64 x2 := arg_int Try.underlying3 (hval 2 3 v2 rfl rfl) K2
 clear hA0 hval0 hsz0 hsz
 obtain ⟨k, hk⟩ := Pure.SnapSums x0.f0 x0.f1 x0.f2 x1 x2 O0 O1 O2
 refine (anamnesislaw08_SnapSums.calls k A0_0 c0_0 x0.f0 x0.f1 x0.f2 x1 x2 true W C0_0 L0_0 hk).mono fun e W' hpost => ?_
 obtain ⟨he, bel⟩ := hpost
 subst he
 exact ⟨_, rfl, _, _, _, [], _, [], hW', trodAll_mk1 (shut_bool Try.underlying4 _), (trodAll_cons_mk (Below.trod laidOut (by kernel_rfl) (of_decide_eq_true (by kernel_rfl)) h0 bel lt0) (trodAll_cons_mk (Below.trod laidOut (by kernel_rfl) (of_decide_eq_true (by kernel_rfl)) h1 bel lt1) (trodAll_cons_mk (Below.trod laidOut (by kernel_rfl) (of_decide_eq_true (by kernel_rfl)) h2 bel lt2) trodAll_mk0))), rfl, bel.frame _, fun h => by cases h⟩
theorem over : Rows.snapSumsRow.holds Try.pinned (OpenSpec.ofChange Rows.snapSumsSpec) :=
 OpenClaim.holds_of_wide 5 Try.f5 rfl rfl rfl rfl rfl rfl rfl ⟨rfl, rfl, rfl, rfl, rfl⟩ rfl rfl rfl rfl rfl (by kernel_rfl) Try.func5 (by kernel_rfl)
  (of_decide_eq_true (by kernel_rfl)) (by unfold Func.isWrapper; first | (rw [if_pos (by decide +kernel)]; kernel_rfl) | (rw [if_neg (by decide +kernel)]; exact ⟨rfl, rfl⟩))
  (fun os started H enc _ => lifted os started H enc)
theorem proved : Rows.SnapSumsSaid := over
#print axioms proved
end Go.Proofs.Ytednpcfhefibdaa.snapSums
namespace Go.Proofs.Ytednpcfhefibdaa
theorem snapSums_holds : Rows.SnapSumsSaid := snapSums.proved
end Go.Proofs.Ytednpcfhefibdaa
