import Derived.Test.YtlmejfcfdhinlaaPMovex0
import Derived.Test.YtlmejfcfdhinlaaOpens
namespace Go.Proofs.Ytlmejfcfdhinlaa.PMove
open Go.RowKit Go.Proofs.Ytlmejfcfdhinlaa.Opn Go.Proofs.YtlmejfcfdhinlaaW.PrintWords
set_option linter.unusedVariables false
def OkInt (k : IntKind) (a : Int) : Prop := (Lit.int k a).wf = true
def OkBool (_ : Bool) : Prop := True
def OkStr (s : ByteArray) : Prop := s.size ≤ 140737488351232
def OkSlice {α : Type} (B : Nat) (Ok : α → Prop) (l : List α) : Prop := l.length * B ≤ 140737488351232 ∧ ∀ a ∈ l, Ok a
def Ok44 (x : S44) : Prop := (OkInt .i64) x.f0 ∧ (OkInt .i64) x.f1 ∧ (OkSlice 8 (OkInt .i64)) x.f2 ∧ OkStr x.f3 ∧ (OkInt .i64) x.f4 ∧ (OkInt .i64) x.f5
instance : Inhabited S44 := ⟨z44⟩
theorem opens44 : Opens Try.prog 44 k44 Ok44 := opens_struct Try.underlying44 (by kernel_rfl) (opensF_cons rfl (opens_int Try.underlying3 (by kernel_rfl)) (opensF_cons rfl (opens_int Try.underlying3 (by kernel_rfl)) (opensF_cons rfl (opens_slice Try.underlying25 (by kernel_rfl) (opens_int Try.underlying3 (by kernel_rfl)) (B := 8) (by kernel_rfl)) (opensF_cons rfl (opens_string Try.underlying9 (by kernel_rfl)) (opensF_cons rfl (opens_int Try.underlying3 (by kernel_rfl)) (opensF_last rfl (opens_int Try.underlying3 (by kernel_rfl)))))))) (fun x : S44 => (x.f0, x.f1, x.f2, x.f3, x.f4, x.f5)) (fun b => ⟨b.1, b.2.1, b.2.2.1, b.2.2.2.1, b.2.2.2.2.1, b.2.2.2.2.2⟩) (fun _ => rfl)
def Ok24 (x : S24) : Prop := (OkSlice 72 (Ok44)) x.f0 ∧ (OkInt .i64) x.f1 ∧ (OkInt .i64) x.f2
instance : Inhabited S24 := ⟨z24⟩
theorem opens24 : Opens Try.prog 24 k24 Ok24 := opens_struct Try.underlying24 (by kernel_rfl) (opensF_cons rfl (opens_slice Try.underlying22 (by kernel_rfl) opens44 (B := 72) (by kernel_rfl)) (opensF_cons rfl (opens_int Try.underlying3 (by kernel_rfl)) (opensF_last rfl (opens_int Try.underlying3 (by kernel_rfl))))) (fun x : S24 => (x.f0, x.f1, x.f2)) (fun b => ⟨b.1, b.2.1, b.2.2⟩) (fun _ => rfl)
def Ok27 (x : S27) : Prop := (OkSlice 8 (OkInt .i64)) x.f0 ∧ (OkInt .i64) x.f1
instance : Inhabited S27 := ⟨z27⟩
theorem opens27 : Opens Try.prog 27 k27 Ok27 := opens_struct Try.underlying27 (by kernel_rfl) (opensF_cons rfl (opens_slice Try.underlying25 (by kernel_rfl) (opens_int Try.underlying3 (by kernel_rfl)) (B := 8) (by kernel_rfl)) (opensF_last rfl (opens_int Try.underlying3 (by kernel_rfl)))) (fun x : S27 => (x.f0, x.f1)) (fun b => ⟨b.1, b.2⟩) (fun _ => rfl)
def Ok47 (x : S47) : Prop := (OkInt .i64) x.f0 ∧ (OkInt .i64) x.f1
instance : Inhabited S47 := ⟨z47⟩
theorem opens47 : Opens Try.prog 47 k47 Ok47 := opens_array (c := 1) Try.underlying47 (by kernel_rfl) (by kernel_rfl) (opensF_cons rfl (opens_int Try.underlying3 (by kernel_rfl)) (opensF_last rfl (opens_int Try.underlying3 (by kernel_rfl)))) (fun x : S47 => (x.f0, x.f1)) (fun b => ⟨b.1, b.2⟩) (fun _ => rfl)
end Go.Proofs.Ytlmejfcfdhinlaa.PMove
