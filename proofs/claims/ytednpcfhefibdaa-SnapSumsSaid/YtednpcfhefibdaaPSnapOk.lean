import Derived.Test.YtednpcfhefibdaaPSnapx0
import Derived.Test.YtednpcfhefibdaaOpens
namespace Go.Proofs.Ytednpcfhefibdaa.PSnap
open Go.RowKit Go.Proofs.Ytednpcfhefibdaa.Opn Go.Proofs.YtednpcfhefibdaaW.PrintWords
set_option linter.unusedVariables false
def OkInt (k : IntKind) (a : Int) : Prop := (Lit.int k a).wf = true
def OkBool (_ : Bool) : Prop := True
def OkStr (s : ByteArray) : Prop := s.size ≤ 140737488351232
def OkSlice {α : Type} (B : Nat) (Ok : α → Prop) (l : List α) : Prop := l.length * B ≤ 140737488351232 ∧ ∀ a ∈ l, Ok a
theorem arg_int {P : Program} {W : World} {r : Reach} {base : Nat} {t : TypeId} {v : Value} {k : IntKind} {x : Int} (hu : P.underlying t = some (.int k)) (h : Value.okWide P W r base t v) (hc : v.cells.toList = [.int k x]) : v = .int k x := by
 obtain ⟨n, rfl⟩ := Go.WideShapes.okWide_int hu h
 simpa [Value.cells] using hc
theorem arg_bool {P : Program} {W : World} {r : Reach} {base : Nat} {t : TypeId} {v : Value} {x : Bool} (hu : P.underlying t = some .bool) (h : Value.okWide P W r base t v) (hc : v.cells.toList = [.bool x]) : v = .bool x := by
 obtain ⟨n, rfl⟩ := Go.WideShapes.okWide_bool hu h
 simpa [Value.cells] using hc
theorem arg_string {P : Program} {W : World} {r : Reach} {base : Nat} {t : TypeId} {v : Value} {x : ByteArray} (hu : P.underlying t = some .string) (h : Value.okWide P W r base t v) (hc : v.cells.toList = [.string x]) : v = .string x := by
 obtain ⟨n, rfl⟩ := Go.WideShapes.okWide_string hu h
 simpa [Value.cells] using hc
def Ok41 (x : S41) : Prop := (OkInt .i64) x.f0 ∧ (OkInt .i64) x.f1 ∧ (OkSlice 8 (OkInt .i64)) x.f2 ∧ OkStr x.f3 ∧ (OkInt .i64) x.f4 ∧ (OkInt .i64) x.f5
instance : Inhabited S41 := ⟨z41⟩
theorem opens41 : Opens Try.prog 41 k41 Ok41 := opens_struct Try.underlying41 (by kernel_rfl) (opensF_cons rfl (opens_int Try.underlying3 (by kernel_rfl)) (opensF_cons rfl (opens_int Try.underlying3 (by kernel_rfl)) (opensF_cons rfl (opens_slice Try.underlying25 (by kernel_rfl) (opens_int Try.underlying3 (by kernel_rfl)) (B := 8) (by kernel_rfl)) (opensF_cons rfl (opens_string Try.underlying9 (by kernel_rfl)) (opensF_cons rfl (opens_int Try.underlying3 (by kernel_rfl)) (opensF_last rfl (opens_int Try.underlying3 (by kernel_rfl)))))))) (fun x : S41 => (x.f0, x.f1, x.f2, x.f3, x.f4, x.f5)) (fun b => ⟨b.1, b.2.1, b.2.2.1, b.2.2.2.1, b.2.2.2.2.1, b.2.2.2.2.2⟩) (fun _ => rfl)
def Ok24 (x : S24) : Prop := (OkSlice 72 (Ok41)) x.f0 ∧ (OkInt .i64) x.f1 ∧ (OkInt .i64) x.f2
instance : Inhabited S24 := ⟨z24⟩
theorem opens24 : Opens Try.prog 24 k24 Ok24 := opens_struct Try.underlying24 (by kernel_rfl) (opensF_cons rfl (opens_slice Try.underlying22 (by kernel_rfl) opens41 (B := 72) (by kernel_rfl)) (opensF_cons rfl (opens_int Try.underlying3 (by kernel_rfl)) (opensF_last rfl (opens_int Try.underlying3 (by kernel_rfl))))) (fun x : S24 => (x.f0, x.f1, x.f2)) (fun b => ⟨b.1, b.2.1, b.2.2⟩) (fun _ => rfl)
end Go.Proofs.Ytednpcfhefibdaa.PSnap
