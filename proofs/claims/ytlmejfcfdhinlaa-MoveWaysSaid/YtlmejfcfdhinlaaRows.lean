/-
  No cell of these rows narrows 'for every input' (looked for: loops, veiled, ifaces, maps, wideKeys, modest, calm, conditions, laid).
  DERIVED. THE GIVEN ROWS OF THIS SEAT. 5 by the template 'for every input the law returns true; each argument reads behind the call as it read before'; 0 by the template 'total and deterministic' (their statements: YtlmejfcfdhinlaaTotals.lean).
  GIVEN WITH THE SEED: the statements are not yours to turn. If you find one false, say at which input.
  Laid BY PROGRAM, IN A SANDBOX (cutbox-rows.mjs): the forced cells as the released guide's own fill.sh prints them over the translation 7f1cb4965d25dd9b… (all of the seat's roots in one cut). By AI agents, Wed Nov 11 2026. No macro, syntax, notation, axiom, sorry.
-/
import Derived.Test.YtlmejfcfdhinlaaChecked
import GoSem.Claim
import GoSem.ClaimJoined
import GoSem.ClaimMapViews
import Derived.JoinedTies
import Derived.KernelRfl
namespace Go.Proofs.Ytlmejfcfdhinlaa
/- THE CELL 'sum', in the pinned program and in every row, IS THE sha256 OF THE DUMP (.gsa) THAT YtlmejfcfdhinlaaProg.lean LOADS. Nothing in Lean hashes anything: it is a label: what it is worth is what the hold of that sum in a sandbox is worth. -/
noncomputable def Try.pinned : Pinned := { name := "ytlmejfcfdhinlaa", sum := "7f1cb4965d25dd9be1c02c52cbb26965fa7f080880ec6a13e6277480ea150f43", checked := Try.checked }
namespace Rows
def none {H : Type} : Left H := { results := [], args := [] }

/-- 'anamnesislaw05.MoveTells': WHATEVER THE INPUT: true; the input reads as it did. -/
def moveTellsSpec : ChangeSpec := { name := "moveTells", fn := fun _ => fun
  | [d1, d2, d3] => { results := [.lit (.bool true)], args := [d1, d2, d3] }
  | _ => none }
def moveTellsRow : OpenClaim := { program := "ytlmejfcfdhinlaa", sum := "7f1cb4965d25dd9be1c02c52cbb26965fa7f080880ec6a13e6277480ea150f43", func := "anamnesis/anamnesislaw05.MoveTells", spec := "moveTells", inPlace := ["math.Float64frombits", "math.Float64bits"], unfollowed := true, recurses := true, apart := false }
def MoveTellsSaid : Prop := moveTellsRow.holds Try.pinned (OpenSpec.ofChange moveTellsSpec)

/-- ITS FALSE NEIGHBOUR: 'it returns false'. Refute it at one input. -/
def moveTellsWrong : ChangeSpec := { name := "moveTells", fn := fun _ => fun
  | [d1, d2, d3] => { results := [.lit (.bool false)], args := [d1, d2, d3] }
  | _ => none }
def MoveTellsWrongFalsely : Prop := moveTellsRow.holds Try.pinned (OpenSpec.ofChange moveTellsWrong)

/-- 'anamnesislaw05.MoveWhole': WHATEVER THE INPUT: true; the input reads as it did. -/
def moveWholeSpec : ChangeSpec := { name := "moveWhole", fn := fun _ => fun
  | [d1, d2] => { results := [.lit (.bool true)], args := [d1, d2] }
  | _ => none }
def moveWholeRow : OpenClaim := { program := "ytlmejfcfdhinlaa", sum := "7f1cb4965d25dd9be1c02c52cbb26965fa7f080880ec6a13e6277480ea150f43", func := "anamnesis/anamnesislaw05.MoveWhole", spec := "moveWhole", inPlace := ["math.Float64frombits", "math.Float64bits"], unfollowed := true, recurses := true, apart := false }
def MoveWholeSaid : Prop := moveWholeRow.holds Try.pinned (OpenSpec.ofChange moveWholeSpec)

/-- ITS FALSE NEIGHBOUR: 'it returns false'. Refute it at one input. -/
def moveWholeWrong : ChangeSpec := { name := "moveWhole", fn := fun _ => fun
  | [d1, d2] => { results := [.lit (.bool false)], args := [d1, d2] }
  | _ => none }
def MoveWholeWrongFalsely : Prop := moveWholeRow.holds Try.pinned (OpenSpec.ofChange moveWholeWrong)

/-- 'anamnesislaw05.MoveWays': WHATEVER THE INPUT: true; the input reads as it did. -/
def moveWaysSpec : ChangeSpec := { name := "moveWays", fn := fun _ => fun
  | [d1, d2, d3] => { results := [.lit (.bool true)], args := [d1, d2, d3] }
  | _ => none }
def moveWaysRow : OpenClaim := { program := "ytlmejfcfdhinlaa", sum := "7f1cb4965d25dd9be1c02c52cbb26965fa7f080880ec6a13e6277480ea150f43", func := "anamnesis/anamnesislaw05.MoveWays", spec := "moveWays", inPlace := ["math.Float64frombits", "math.Float64bits"], unfollowed := true, recurses := true, apart := false }
def MoveWaysSaid : Prop := moveWaysRow.holds Try.pinned (OpenSpec.ofChange moveWaysSpec)

/-- ITS FALSE NEIGHBOUR: 'it returns false'. Refute it at one input. -/
def moveWaysWrong : ChangeSpec := { name := "moveWays", fn := fun _ => fun
  | [d1, d2, d3] => { results := [.lit (.bool false)], args := [d1, d2, d3] }
  | _ => none }
def MoveWaysWrongFalsely : Prop := moveWaysRow.holds Try.pinned (OpenSpec.ofChange moveWaysWrong)

/-- 'anamnesislaw05.MoveRoom': WHATEVER THE INPUT: true; the input reads as it did. -/
def moveRoomSpec : ChangeSpec := { name := "moveRoom", fn := fun _ => fun
  | [d1, d2] => { results := [.lit (.bool true)], args := [d1, d2] }
  | _ => none }
def moveRoomRow : OpenClaim := { program := "ytlmejfcfdhinlaa", sum := "7f1cb4965d25dd9be1c02c52cbb26965fa7f080880ec6a13e6277480ea150f43", func := "anamnesis/anamnesislaw05.MoveRoom", spec := "moveRoom", inPlace := ["math.Float64frombits", "math.Float64bits"], unfollowed := true, recurses := true, apart := false }
def MoveRoomSaid : Prop := moveRoomRow.holds Try.pinned (OpenSpec.ofChange moveRoomSpec)

/-- ITS FALSE NEIGHBOUR: 'it returns false'. Refute it at one input. -/
def moveRoomWrong : ChangeSpec := { name := "moveRoom", fn := fun _ => fun
  | [d1, d2] => { results := [.lit (.bool false)], args := [d1, d2] }
  | _ => none }
def MoveRoomWrongFalsely : Prop := moveRoomRow.holds Try.pinned (OpenSpec.ofChange moveRoomWrong)

/-- 'anamnesislaw05.MoveValues': WHATEVER THE INPUT: true; the input reads as it did. -/
def moveValuesSpec : ChangeSpec := { name := "moveValues", fn := fun _ => fun
  | [d1, d2, d3] => { results := [.lit (.bool true)], args := [d1, d2, d3] }
  | _ => none }
def moveValuesRow : OpenClaim := { program := "ytlmejfcfdhinlaa", sum := "7f1cb4965d25dd9be1c02c52cbb26965fa7f080880ec6a13e6277480ea150f43", func := "anamnesis/anamnesislaw05.MoveValues", spec := "moveValues", inPlace := ["math.Float64frombits", "math.Float64bits"], unfollowed := true, recurses := true, apart := false }
def MoveValuesSaid : Prop := moveValuesRow.holds Try.pinned (OpenSpec.ofChange moveValuesSpec)

/-- ITS FALSE NEIGHBOUR: 'it returns false'. Refute it at one input. -/
def moveValuesWrong : ChangeSpec := { name := "moveValues", fn := fun _ => fun
  | [d1, d2, d3] => { results := [.lit (.bool false)], args := [d1, d2, d3] }
  | _ => none }
def MoveValuesWrongFalsely : Prop := moveValuesRow.holds Try.pinned (OpenSpec.ofChange moveValuesWrong)

/- THE SECOND FORM. 'bulk': how many values and letters a reading holds, each counted each time it is reached (what is shared counts as often as it is met; a slice's spare places count too). A statement '..UptoSaid' is the law's where the arguments, and the package variables that the reading takes, are together of bulk at most 1048576: NARROWER than '..Said'. Prove '..Said' where nothing that the law and all that it calls make is longer than what came in: it says more and counts as full. Else prove '..UptoSaid'. A law counts once. -/
mutual
def uptoBulk {H : Type} : DataW H → Nat
  | .lit (.string bytes) => bytes.length + 1
  | .lit _ => 1
  | .nil => 1
  | .ptr d => uptoBulk d + 1
  | .slice elems spare => uptoBulkAll elems + uptoBulkAll spare + 1
  | .agg parts => uptoBulkAll parts + 1
  | .iface _ d => uptoBulk d + 1
  | .map entries => uptoBulkEntries entries + 1
  | .held _ => 1
def uptoBulkAll {H : Type} : List (DataW H) → Nat
  | [] => 0
  | d :: r => uptoBulk d + uptoBulkAll r
def uptoBulkEntries {H : Type} : List (Lit × DataW H) → Nat
  | [] => 0
  | x :: r => uptoBulkEntry x + uptoBulkEntries r
def uptoBulkEntry {H : Type} : Lit × DataW H → Nat
  | (.string bytes, d) => bytes.length + uptoBulk d + 1
  | (_, d) => uptoBulk d + 1
 end
def uptoSmall : (H : Type) → List (DataW H) → Bool := fun _ ds => decide (uptoBulkAll ds ≤ 1048576)
def OpenSpec.upto (s : _root_.Go.ChangeSpec) : _root_.Go.OpenSpec := { _root_.Go.OpenSpec.ofChange s with cond := some uptoSmall }

/-- 'anamnesislaw05.MoveTells', WHERE WHAT IT READS IS OF BULK AT MOST 1048576: true; the input reads as it did. -/
def moveTellsUptoRow : OpenClaim := { program := "ytlmejfcfdhinlaa", sum := "7f1cb4965d25dd9be1c02c52cbb26965fa7f080880ec6a13e6277480ea150f43", func := "anamnesis/anamnesislaw05.MoveTells", spec := "moveTells", inPlace := ["math.Float64frombits", "math.Float64bits"], unfollowed := true, recurses := true, apart := false, narrowed := true }
def MoveTellsUptoSaid : Prop := moveTellsUptoRow.holds Try.pinned (OpenSpec.upto moveTellsSpec)

/-- 'anamnesislaw05.MoveWhole', WHERE WHAT IT READS IS OF BULK AT MOST 1048576: true; the input reads as it did. -/
def moveWholeUptoRow : OpenClaim := { program := "ytlmejfcfdhinlaa", sum := "7f1cb4965d25dd9be1c02c52cbb26965fa7f080880ec6a13e6277480ea150f43", func := "anamnesis/anamnesislaw05.MoveWhole", spec := "moveWhole", inPlace := ["math.Float64frombits", "math.Float64bits"], unfollowed := true, recurses := true, apart := false, narrowed := true }
def MoveWholeUptoSaid : Prop := moveWholeUptoRow.holds Try.pinned (OpenSpec.upto moveWholeSpec)

/-- 'anamnesislaw05.MoveWays', WHERE WHAT IT READS IS OF BULK AT MOST 1048576: true; the input reads as it did. -/
def moveWaysUptoRow : OpenClaim := { program := "ytlmejfcfdhinlaa", sum := "7f1cb4965d25dd9be1c02c52cbb26965fa7f080880ec6a13e6277480ea150f43", func := "anamnesis/anamnesislaw05.MoveWays", spec := "moveWays", inPlace := ["math.Float64frombits", "math.Float64bits"], unfollowed := true, recurses := true, apart := false, narrowed := true }
def MoveWaysUptoSaid : Prop := moveWaysUptoRow.holds Try.pinned (OpenSpec.upto moveWaysSpec)

/-- 'anamnesislaw05.MoveRoom', WHERE WHAT IT READS IS OF BULK AT MOST 1048576: true; the input reads as it did. -/
def moveRoomUptoRow : OpenClaim := { program := "ytlmejfcfdhinlaa", sum := "7f1cb4965d25dd9be1c02c52cbb26965fa7f080880ec6a13e6277480ea150f43", func := "anamnesis/anamnesislaw05.MoveRoom", spec := "moveRoom", inPlace := ["math.Float64frombits", "math.Float64bits"], unfollowed := true, recurses := true, apart := false, narrowed := true }
def MoveRoomUptoSaid : Prop := moveRoomUptoRow.holds Try.pinned (OpenSpec.upto moveRoomSpec)

/-- 'anamnesislaw05.MoveValues', WHERE WHAT IT READS IS OF BULK AT MOST 1048576: true; the input reads as it did. -/
def moveValuesUptoRow : OpenClaim := { program := "ytlmejfcfdhinlaa", sum := "7f1cb4965d25dd9be1c02c52cbb26965fa7f080880ec6a13e6277480ea150f43", func := "anamnesis/anamnesislaw05.MoveValues", spec := "moveValues", inPlace := ["math.Float64frombits", "math.Float64bits"], unfollowed := true, recurses := true, apart := false, narrowed := true }
def MoveValuesUptoSaid : Prop := moveValuesUptoRow.holds Try.pinned (OpenSpec.upto moveValuesSpec)

end Rows
end Go.Proofs.Ytlmejfcfdhinlaa
