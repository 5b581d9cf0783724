/- The statement of anamnesis/anamnesislaw08.SnapBack is proved: for every input the call returns true, and each argument reads afterwards as it read before. No conditions. -/
import Derived.Test.YtednpcfhefibdaaRows
import Derived.Test.YtednpcfhefibdaaPSnapx16
import Derived.Test.YtednpcfhefibdaaSaySnapBack
import Derived.Test.YtednpcfhefibdaaPureSnapBack
import Derived.WalkKit
import Derived.ProofKit
import Derived.OpenShut
import Derived.ShutString
import Derived.ChangeOld
import Derived.Below
import Derived.SizedLaws
namespace Go.Proofs.Ytednpcfhefibdaa.snapBack
open Go.ChangeShapes Go.WideShapes Go.ChangeAt Go.RowKit
open Go.ChangeMaps (open_string shut_string)
open Go.Proofs.Ytednpcfhefibdaa.PSnap Go.Proofs.Ytednpcfhefibdaa.Opn Go.Proofs.YtednpcfhefibdaaW.PrintWords
set_option linter.unusedVariables false
theorem own : ownKnob Try.prog.godebug = none := by kernel_rfl
theorem laidOut : laidOutB Try.prog = true := by kernel_rfl
set_option maxRecDepth 100000 in
theorem lifted (os : Os) (started : os.Started) (H : Type) (enc : TypeId × Value → H) :
  ReturnsInHanded {} Try.checked os 4 .any (Rows.snapBackSpec.pre6 enc Try.prog Try.f4 Rows.snapBackRow.domain false) (Rows.snapBackSpec.post enc Try.prog Try.f4 false true false false) := by
 refine returnsInHanded_of_change_sized (C := Try.checked) own started (by kernel_rfl) Try.func4
  (ChangeSpec.witness6 (enc := enc) (C := Try.checked) false ⟨#[], #[.agg #[.slice none 0 0, .int .i64 0, .int .i64 0], .slice none 0 0, .string ByteArray.empty], []⟩ 8 (by kernel_rfl) (by kernel_rfl) (by kernel_rfl) (by kernel_rfl)) ?_
 intro W base args ds gs before hval0 hW hcnd hsz0 _
 have hsz : (DataW.weightsEach Try.prog (Try.f4.params.toList ++ Rows.snapBackSpec.plain.varTypes Try.prog) (ds ++ gs)).all (· ≤ reachBytes) = true := hsz0
 have hval : ∀ (j : Nat) t v, Try.f4.params[j]? = some t → args[j]? = some v → Value.okWide Try.prog W .any base t v := hval0
 have hW' := hW
 obtain ⟨p, q, hA0, hV, rfl, hfz, hnd⟩ := hW
 have hA : DataW.TrodAll enc Try.prog W 0 (fun _ => true) true Try.f4.params.toList args.toList ds p := hA0
 rw [Try.params4] at hA hval hsz
 obtain ⟨v0, vs0, d0, ds0, p0, q0, hargs, rfl, rfl, h0, r0⟩ := trodAll_cons hA
 obtain ⟨v1, vs1, d1, ds1, p1, q1, rfl, rfl, rfl, h1, r1⟩ := trodAll_cons r0
 obtain ⟨v2, vs2, d2, ds2, p2, q2, rfl, rfl, rfl, h2, r2⟩ := trodAll_cons r1
 obtain ⟨rfl, rfl, rfl⟩ := trodAll_nil r2
 obtain rfl : args = #[v0, v1, v2] := by cases args; simp_all
 obtain ⟨rfl, rfl⟩ := trodVars_none hV
 obtain ⟨x0, K0, O0⟩ := Opens.arg (show Opens Try.prog 24 k24 (Ok24) from opens24) hsz (j := 0) rfl rfl h0
 have lt0 : ∀ x ∈ p0, x.block < W.heap.size := by obtain ⟨m, hm⟩ := h0; exact DataW.trod_lt m _ _ _ hm
 obtain ⟨A0_0, c0_0, e0, L0_0, C0_0⟩ := k24_open K0
 obtain rfl := arg_struct Try.underlying24 (hval 0 24 v0 rfl rfl) e0
 obtain ⟨x1, K1, O1⟩ := Opens.arg (show Opens Try.prog 25 (Kd.slice 3 (Kd.int .i64)) (OkSlice 8 (OkInt .i64)) from (opens_slice Try.underlying25 (by kernel_rfl) (opens_int Try.underlying3 (by kernel_rfl)) (B := 8) (by kernel_rfl))) hsz (j := 1) rfl rfl h1
 have lt1 : ∀ x ∈ p1, x.block < W.heap.size := by obtain ⟨m, hm⟩ := h1; exact DataW.trod_lt m _ _ _ hm
 obtain ⟨a1, len1, cap1, rfl⟩ := okWide_slice Try.underlying25 (hval 1 25 v1 rfl rfl)
 obtain ⟨A1, c1, e1, L1, C1⟩ := K1
 simp only [Value.cells, List.cons.injEq, and_true] at e1
 obtain ⟨qa1, ql1, qc1⟩ := Value.slice.inj e1
 subst qa1 ql1 qc1
 obtain ⟨x2, K2, O2⟩ := Opens.arg (show Opens Try.prog 9 Kd.string (OkStr) from (opens_string Try.underlying9 (by kernel_rfl))) hsz (j := 2) rfl rfl h2
 have lt2 : ∀ x ∈ p2, x.block < W.heap.size := by obtain ⟨m, hm⟩ := h2; exact DataW.trod_lt m _ _ _ hm
 obtain rfl : v2 = .string x2 := arg_string Try.underlying9 (hval 2 9 v2 rfl rfl) K2
 clear hA0 hval0 hsz0 hsz
 obtain ⟨k, hk⟩ := Pure.SnapBack x0.f0 x0.f1 x0.f2 x1 x2 O0 O1 O2
 refine (anamnesislaw08_SnapBack.calls k A0_0 c0_0 x0.f0 x0.f1 x0.f2 _ _ x1 x2 true W C0_0 L0_0 C1 L1 hk).mono fun e W' hpost => ?_
 obtain ⟨he, bel⟩ := hpost
 subst he
 exact ⟨_, rfl, _, _, _, [], _, [], hW', trodAll_mk1 (shut_bool Try.underlying4 _), (trodAll_cons_mk (Below.trod laidOut (by kernel_rfl) (of_decide_eq_true (by kernel_rfl)) h0 bel lt0) (trodAll_cons_mk (Below.trod laidOut (by kernel_rfl) (of_decide_eq_true (by kernel_rfl)) h1 bel lt1) (trodAll_cons_mk (Below.trod laidOut (by kernel_rfl) (of_decide_eq_true (by kernel_rfl)) h2 bel lt2) trodAll_mk0))), rfl, bel.frame _, fun h => by cases h⟩
theorem over : Rows.snapBackRow.holds Try.pinned (OpenSpec.ofChange Rows.snapBackSpec) :=
 OpenClaim.holds_of_wide 4 Try.f4 rfl rfl rfl rfl rfl rfl rfl ⟨rfl, rfl, rfl, rfl, rfl⟩ rfl rfl rfl rfl rfl (by kernel_rfl) Try.func4 (by kernel_rfl)
  (of_decide_eq_true (by kernel_rfl)) (by unfold Func.isWrapper; first | (rw [if_pos (by decide +kernel)]; kernel_rfl) | (rw [if_neg (by decide +kernel)]; exact ⟨rfl, rfl⟩))
  (fun os started H enc _ => lifted os started H enc)
theorem proved : Rows.SnapBackSaid := over
#print axioms proved
end Go.Proofs.Ytednpcfhefibdaa.snapBack
namespace Go.Proofs.Ytednpcfhefibdaa
theorem snapBack_holds : Rows.SnapBackSaid := snapBack.proved
end Go.Proofs.Ytednpcfhefibdaa
