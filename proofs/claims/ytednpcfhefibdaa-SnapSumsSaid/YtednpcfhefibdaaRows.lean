/-
  No cell of these rows narrows 'for every input' (looked for: loops, veiled, ifaces, maps, wideKeys, modest, calm, conditions, laid).
  DERIVED. THE GIVEN ROWS OF THIS SEAT. 5 by the template 'for every input the law returns true; each argument reads behind the call as it read before'; 0 by the template 'total and deterministic' (their statements: YtednpcfhefibdaaTotals.lean).
  GIVEN WITH THE SEED: the statements are not yours to turn. If you find one false, say at which input.
  Laid BY PROGRAM, IN A SANDBOX (cutbox-rows.mjs): the forced cells as the released guide's own fill.sh prints them over the translation 2c7f0f1e4767e7c8… (all of the seat's roots in one cut). By AI agents, Wed Nov 11 2026. No macro, syntax, notation, axiom, sorry.
-/
import Derived.Test.YtednpcfhefibdaaChecked
import GoSem.Claim
import GoSem.ClaimJoined
import GoSem.ClaimMapViews
import Derived.JoinedTies
import Derived.KernelRfl
namespace Go.Proofs.Ytednpcfhefibdaa
/- THE CELL 'sum', in the pinned program and in every row, IS THE sha256 OF THE DUMP (.gsa) THAT YtednpcfhefibdaaProg.lean LOADS. Nothing in Lean hashes anything: it is a label: what it is worth is what the hold of that sum in a sandbox is worth. -/
noncomputable def Try.pinned : Pinned := { name := "ytednpcfhefibdaa", sum := "2c7f0f1e4767e7c8ce8a0a7127019c33c66ced5beef49e50e24333d29ef603cd", checked := Try.checked }
namespace Rows
def none {H : Type} : Left H := { results := [], args := [] }

/-- 'anamnesislaw08.SnapTells': WHATEVER THE INPUT: true; the input reads as it did. -/
def snapTellsSpec : ChangeSpec := { name := "snapTells", fn := fun _ => fun
  | [d1, d2, d3] => { results := [.lit (.bool true)], args := [d1, d2, d3] }
  | _ => none }
def snapTellsRow : OpenClaim := { program := "ytednpcfhefibdaa", sum := "2c7f0f1e4767e7c8ce8a0a7127019c33c66ced5beef49e50e24333d29ef603cd", func := "anamnesis/anamnesislaw08.SnapTells", spec := "snapTells", inPlace := ["math.Float64frombits", "math.Float64bits", "internal/abi.NoEscape"], unfollowed := true, recurses := true, apart := false }
def SnapTellsSaid : Prop := snapTellsRow.holds Try.pinned (OpenSpec.ofChange snapTellsSpec)

/-- ITS FALSE NEIGHBOUR: 'it returns false'. Refute it at one input. -/
def snapTellsWrong : ChangeSpec := { name := "snapTells", fn := fun _ => fun
  | [d1, d2, d3] => { results := [.lit (.bool false)], args := [d1, d2, d3] }
  | _ => none }
def SnapTellsWrongFalsely : Prop := snapTellsRow.holds Try.pinned (OpenSpec.ofChange snapTellsWrong)

/-- 'anamnesislaw08.SnapBack': WHATEVER THE INPUT: true; the input reads as it did. -/
def snapBackSpec : ChangeSpec := { name := "snapBack", fn := fun _ => fun
  | [d1, d2, d3] => { results := [.lit (.bool true)], args := [d1, d2, d3] }
  | _ => none }
def snapBackRow : OpenClaim := { program := "ytednpcfhefibdaa", sum := "2c7f0f1e4767e7c8ce8a0a7127019c33c66ced5beef49e50e24333d29ef603cd", func := "anamnesis/anamnesislaw08.SnapBack", spec := "snapBack", inPlace := ["math.Float64frombits", "math.Float64bits", "internal/abi.NoEscape"], unfollowed := true, recurses := true, apart := false }
def SnapBackSaid : Prop := snapBackRow.holds Try.pinned (OpenSpec.ofChange snapBackSpec)

/-- ITS FALSE NEIGHBOUR: 'it returns false'. Refute it at one input. -/
def snapBackWrong : ChangeSpec := { name := "snapBack", fn := fun _ => fun
  | [d1, d2, d3] => { results := [.lit (.bool false)], args := [d1, d2, d3] }
  | _ => none }
def SnapBackWrongFalsely : Prop := snapBackRow.holds Try.pinned (OpenSpec.ofChange snapBackWrong)

/-- 'anamnesislaw08.SnapSums': WHATEVER THE INPUT: true; the input reads as it did. -/
def snapSumsSpec : ChangeSpec := { name := "snapSums", fn := fun _ => fun
  | [d1, d2, d3] => { results := [.lit (.bool true)], args := [d1, d2, d3] }
  | _ => none }
def snapSumsRow : OpenClaim := { program := "ytednpcfhefibdaa", sum := "2c7f0f1e4767e7c8ce8a0a7127019c33c66ced5beef49e50e24333d29ef603cd", func := "anamnesis/anamnesislaw08.SnapSums", spec := "snapSums", inPlace := ["math.Float64frombits", "math.Float64bits", "internal/abi.NoEscape"], unfollowed := true, recurses := true, apart := false }
def SnapSumsSaid : Prop := snapSumsRow.holds Try.pinned (OpenSpec.ofChange snapSumsSpec)

/-- ITS FALSE NEIGHBOUR: 'it returns false'. Refute it at one input. -/
def snapSumsWrong : ChangeSpec := { name := "snapSums", fn := fun _ => fun
  | [d1, d2, d3] => { results := [.lit (.bool false)], args := [d1, d2, d3] }
  | _ => none }
def SnapSumsWrongFalsely : Prop := snapSumsRow.holds Try.pinned (OpenSpec.ofChange snapSumsWrong)

/-- 'anamnesislaw08.SnapSizes': WHATEVER THE INPUT: true; the input reads as it did. -/
def snapSizesSpec : ChangeSpec := { name := "snapSizes", fn := fun _ => fun
  | [d1, d2] => { results := [.lit (.bool true)], args := [d1, d2] }
  | _ => none }
def snapSizesRow : OpenClaim := { program := "ytednpcfhefibdaa", sum := "2c7f0f1e4767e7c8ce8a0a7127019c33c66ced5beef49e50e24333d29ef603cd", func := "anamnesis/anamnesislaw08.SnapSizes", spec := "snapSizes", inPlace := ["math.Float64frombits", "math.Float64bits", "internal/abi.NoEscape"], unfollowed := true, recurses := true, apart := false }
def SnapSizesSaid : Prop := snapSizesRow.holds Try.pinned (OpenSpec.ofChange snapSizesSpec)

/-- ITS FALSE NEIGHBOUR: 'it returns false'. Refute it at one input. -/
def snapSizesWrong : ChangeSpec := { name := "snapSizes", fn := fun _ => fun
  | [d1, d2] => { results := [.lit (.bool false)], args := [d1, d2] }
  | _ => none }
def SnapSizesWrongFalsely : Prop := snapSizesRow.holds Try.pinned (OpenSpec.ofChange snapSizesWrong)

/-- 'anamnesislaw08.SnapUnlike': WHATEVER THE INPUT: true; the input reads as it did. -/
def snapUnlikeSpec : ChangeSpec := { name := "snapUnlike", fn := fun _ => fun
  | [d1, d2, d3] => { results := [.lit (.bool true)], args := [d1, d2, d3] }
  | _ => none }
def snapUnlikeRow : OpenClaim := { program := "ytednpcfhefibdaa", sum := "2c7f0f1e4767e7c8ce8a0a7127019c33c66ced5beef49e50e24333d29ef603cd", func := "anamnesis/anamnesislaw08.SnapUnlike", spec := "snapUnlike", inPlace := ["math.Float64frombits", "math.Float64bits", "internal/abi.NoEscape"], unfollowed := true, recurses := true, apart := false }
def SnapUnlikeSaid : Prop := snapUnlikeRow.holds Try.pinned (OpenSpec.ofChange snapUnlikeSpec)

/-- ITS FALSE NEIGHBOUR: 'it returns false'. Refute it at one input. -/
def snapUnlikeWrong : ChangeSpec := { name := "snapUnlike", fn := fun _ => fun
  | [d1, d2, d3] => { results := [.lit (.bool false)], args := [d1, d2, d3] }
  | _ => none }
def SnapUnlikeWrongFalsely : Prop := snapUnlikeRow.holds Try.pinned (OpenSpec.ofChange snapUnlikeWrong)

/- THE SECOND FORM. 'bulk': how many values and letters a reading holds, each counted each time it is reached (what is shared counts as often as it is met; a slice's spare places count too). A statement '..UptoSaid' is the law's where the arguments, and the package variables that the reading takes, are together of bulk at most 1048576: NARROWER than '..Said'. Prove '..Said' where nothing that the law and all that it calls make is longer than what came in: it says more and counts as full. Else prove '..UptoSaid'. A law counts once. -/
mutual
def uptoBulk {H : Type} : DataW H → Nat
  | .lit (.string bytes) => bytes.length + 1
  | .lit _ => 1
  | .nil => 1
  | .ptr d => uptoBulk d + 1
  | .slice elems spare => uptoBulkAll elems + uptoBulkAll spare + 1
  | .agg parts => uptoBulkAll parts + 1
  | .iface _ d => uptoBulk d + 1
  | .map entries => uptoBulkEntries entries + 1
  | .held _ => 1
def uptoBulkAll {H : Type} : List (DataW H) → Nat
  | [] => 0
  | d :: r => uptoBulk d + uptoBulkAll r
def uptoBulkEntries {H : Type} : List (Lit × DataW H) → Nat
  | [] => 0
  | x :: r => uptoBulkEntry x + uptoBulkEntries r
def uptoBulkEntry {H : Type} : Lit × DataW H → Nat
  | (.string bytes, d) => bytes.length + uptoBulk d + 1
  | (_, d) => uptoBulk d + 1
 end
def uptoSmall : (H : Type) → List (DataW H) → Bool := fun _ ds => decide (uptoBulkAll ds ≤ 1048576)
def OpenSpec.upto (s : _root_.Go.ChangeSpec) : _root_.Go.OpenSpec := { _root_.Go.OpenSpec.ofChange s with cond := some uptoSmall }

/-- 'anamnesislaw08.SnapTells', WHERE WHAT IT READS IS OF BULK AT MOST 1048576: true; the input reads as it did. -/
def snapTellsUptoRow : OpenClaim := { program := "ytednpcfhefibdaa", sum := "2c7f0f1e4767e7c8ce8a0a7127019c33c66ced5beef49e50e24333d29ef603cd", func := "anamnesis/anamnesislaw08.SnapTells", spec := "snapTells", inPlace := ["math.Float64frombits", "math.Float64bits", "internal/abi.NoEscape"], unfollowed := true, recurses := true, apart := false, narrowed := true }
def SnapTellsUptoSaid : Prop := snapTellsUptoRow.holds Try.pinned (OpenSpec.upto snapTellsSpec)

/-- 'anamnesislaw08.SnapBack', WHERE WHAT IT READS IS OF BULK AT MOST 1048576: true; the input reads as it did. -/
def snapBackUptoRow : OpenClaim := { program := "ytednpcfhefibdaa", sum := "2c7f0f1e4767e7c8ce8a0a7127019c33c66ced5beef49e50e24333d29ef603cd", func := "anamnesis/anamnesislaw08.SnapBack", spec := "snapBack", inPlace := ["math.Float64frombits", "math.Float64bits", "internal/abi.NoEscape"], unfollowed := true, recurses := true, apart := false, narrowed := true }
def SnapBackUptoSaid : Prop := snapBackUptoRow.holds Try.pinned (OpenSpec.upto snapBackSpec)

/-- 'anamnesislaw08.SnapSums', WHERE WHAT IT READS IS OF BULK AT MOST 1048576: true; the input reads as it did. -/
def snapSumsUptoRow : OpenClaim := { program := "ytednpcfhefibdaa", sum := "2c7f0f1e4767e7c8ce8a0a7127019c33c66ced5beef49e50e24333d29ef603cd", func := "anamnesis/anamnesislaw08.SnapSums", spec := "snapSums", inPlace := ["math.Float64frombits", "math.Float64bits", "internal/abi.NoEscape"], unfollowed := true, recurses := true, apart := false, narrowed := true }
def SnapSumsUptoSaid : Prop := snapSumsUptoRow.holds Try.pinned (OpenSpec.upto snapSumsSpec)

/-- 'anamnesislaw08.SnapSizes', WHERE WHAT IT READS IS OF BULK AT MOST 1048576: true; the input reads as it did. -/
def snapSizesUptoRow : OpenClaim := { program := "ytednpcfhefibdaa", sum := "2c7f0f1e4767e7c8ce8a0a7127019c33c66ced5beef49e50e24333d29ef603cd", func := "anamnesis/anamnesislaw08.SnapSizes", spec := "snapSizes", inPlace := ["math.Float64frombits", "math.Float64bits", "internal/abi.NoEscape"], unfollowed := true, recurses := true, apart := false, narrowed := true }
def SnapSizesUptoSaid : Prop := snapSizesUptoRow.holds Try.pinned (OpenSpec.upto snapSizesSpec)

/-- 'anamnesislaw08.SnapUnlike', WHERE WHAT IT READS IS OF BULK AT MOST 1048576: true; the input reads as it did. -/
def snapUnlikeUptoRow : OpenClaim := { program := "ytednpcfhefibdaa", sum := "2c7f0f1e4767e7c8ce8a0a7127019c33c66ced5beef49e50e24333d29ef603cd", func := "anamnesis/anamnesislaw08.SnapUnlike", spec := "snapUnlike", inPlace := ["math.Float64frombits", "math.Float64bits", "internal/abi.NoEscape"], unfollowed := true, recurses := true, apart := false, narrowed := true }
def SnapUnlikeUptoSaid : Prop := snapUnlikeUptoRow.holds Try.pinned (OpenSpec.upto snapUnlikeSpec)

end Rows
end Go.Proofs.Ytednpcfhefibdaa
