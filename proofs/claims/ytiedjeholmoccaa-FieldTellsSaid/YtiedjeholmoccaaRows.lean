/-
  No cell of these rows narrows 'for every input' (looked for: loops, veiled, ifaces, maps, wideKeys, modest, calm, conditions, laid).
  DERIVED. THE GIVEN ROWS OF THIS SEAT. 5 by the template 'for every input the law returns true; each argument reads behind the call as it read before'; 0 by the template 'total and deterministic' (their statements: YtiedjeholmoccaaTotals.lean).
  GIVEN WITH THE SEED: the statements are not yours to turn. If you find one false, say at which input.
  Laid BY PROGRAM, IN A SANDBOX (cutbox-rows.mjs): the forced cells as the released guide's own fill.sh prints them over the translation 89d2692446804ff0… (all of the seat's roots in one cut). By AI agents, Wed Nov 11 2026. No macro, syntax, notation, axiom, sorry.
-/
import Derived.Test.YtiedjeholmoccaaChecked
import GoSem.Claim
import GoSem.ClaimJoined
import GoSem.ClaimMapViews
import Derived.JoinedTies
import Derived.KernelRfl
namespace Go.Proofs.Ytiedjeholmoccaa
/- THE CELL 'sum', in the pinned program and in every row, IS THE sha256 OF THE DUMP (.gsa) THAT YtiedjeholmoccaaProg.lean LOADS. Nothing in Lean hashes anything: it is a label: what it is worth is what the hold of that sum in a sandbox is worth. -/
noncomputable def Try.pinned : Pinned := { name := "ytiedjeholmoccaa", sum := "89d2692446804ff028c0ce528208d313d663f7def36024d999c30ed4fac154d6", checked := Try.checked }
namespace Rows
def none {H : Type} : Left H := { results := [], args := [] }

/-- 'shinglelaw16.FieldTells': WHATEVER THE INPUT: true; the input reads as it did. -/
def fieldTellsSpec : ChangeSpec := { name := "fieldTells", fn := fun _ => fun
  | [d1, d2, d3] => { results := [.lit (.bool true)], args := [d1, d2, d3] }
  | _ => none }
def fieldTellsRow : OpenClaim := { program := "ytiedjeholmoccaa", sum := "89d2692446804ff028c0ce528208d313d663f7def36024d999c30ed4fac154d6", func := "shingle/shinglelaw16.FieldTells", spec := "fieldTells", unfollowed := true, recurses := true, apart := false }
def FieldTellsSaid : Prop := fieldTellsRow.holds Try.pinned (OpenSpec.ofChange fieldTellsSpec)

/-- ITS FALSE NEIGHBOUR: 'it returns false'. Refute it at one input. -/
def fieldTellsWrong : ChangeSpec := { name := "fieldTells", fn := fun _ => fun
  | [d1, d2, d3] => { results := [.lit (.bool false)], args := [d1, d2, d3] }
  | _ => none }
def FieldTellsWrongFalsely : Prop := fieldTellsRow.holds Try.pinned (OpenSpec.ofChange fieldTellsWrong)

/-- 'shinglelaw16.FieldSets': WHATEVER THE INPUT: true; the input reads as it did. -/
def fieldSetsSpec : ChangeSpec := { name := "fieldSets", fn := fun _ => fun
  | [d1, d2, d3] => { results := [.lit (.bool true)], args := [d1, d2, d3] }
  | _ => none }
def fieldSetsRow : OpenClaim := { program := "ytiedjeholmoccaa", sum := "89d2692446804ff028c0ce528208d313d663f7def36024d999c30ed4fac154d6", func := "shingle/shinglelaw16.FieldSets", spec := "fieldSets", unfollowed := true, recurses := true, apart := false }
def FieldSetsSaid : Prop := fieldSetsRow.holds Try.pinned (OpenSpec.ofChange fieldSetsSpec)

/-- ITS FALSE NEIGHBOUR: 'it returns false'. Refute it at one input. -/
def fieldSetsWrong : ChangeSpec := { name := "fieldSets", fn := fun _ => fun
  | [d1, d2, d3] => { results := [.lit (.bool false)], args := [d1, d2, d3] }
  | _ => none }
def FieldSetsWrongFalsely : Prop := fieldSetsRow.holds Try.pinned (OpenSpec.ofChange fieldSetsWrong)

/-- 'shinglelaw16.FieldSquares': WHATEVER THE INPUT: true; the input reads as it did. -/
def fieldSquaresSpec : ChangeSpec := { name := "fieldSquares", fn := fun _ => fun
  | [d1, d2, d3] => { results := [.lit (.bool true)], args := [d1, d2, d3] }
  | _ => none }
def fieldSquaresRow : OpenClaim := { program := "ytiedjeholmoccaa", sum := "89d2692446804ff028c0ce528208d313d663f7def36024d999c30ed4fac154d6", func := "shingle/shinglelaw16.FieldSquares", spec := "fieldSquares", unfollowed := true, recurses := true, apart := false }
def FieldSquaresSaid : Prop := fieldSquaresRow.holds Try.pinned (OpenSpec.ofChange fieldSquaresSpec)

/-- ITS FALSE NEIGHBOUR: 'it returns false'. Refute it at one input. -/
def fieldSquaresWrong : ChangeSpec := { name := "fieldSquares", fn := fun _ => fun
  | [d1, d2, d3] => { results := [.lit (.bool false)], args := [d1, d2, d3] }
  | _ => none }
def FieldSquaresWrongFalsely : Prop := fieldSquaresRow.holds Try.pinned (OpenSpec.ofChange fieldSquaresWrong)

/-- 'shinglelaw16.FieldLevels': WHATEVER THE INPUT: true; the input reads as it did. -/
def fieldLevelsSpec : ChangeSpec := { name := "fieldLevels", fn := fun _ => fun
  | [d] => { results := [.lit (.bool true)], args := [d] }
  | _ => none }
def fieldLevelsRow : OpenClaim := { program := "ytiedjeholmoccaa", sum := "89d2692446804ff028c0ce528208d313d663f7def36024d999c30ed4fac154d6", func := "shingle/shinglelaw16.FieldLevels", spec := "fieldLevels", unfollowed := true, recurses := true, apart := false }
def FieldLevelsSaid : Prop := fieldLevelsRow.holds Try.pinned (OpenSpec.ofChange fieldLevelsSpec)

/-- ITS FALSE NEIGHBOUR: 'it returns false'. Refute it at one input. -/
def fieldLevelsWrong : ChangeSpec := { name := "fieldLevels", fn := fun _ => fun
  | [d] => { results := [.lit (.bool false)], args := [d] }
  | _ => none }
def FieldLevelsWrongFalsely : Prop := fieldLevelsRow.holds Try.pinned (OpenSpec.ofChange fieldLevelsWrong)

/-- 'shinglelaw16.FieldCounts': WHATEVER THE INPUT: true; the input reads as it did. -/
def fieldCountsSpec : ChangeSpec := { name := "fieldCounts", fn := fun _ => fun
  | [d1, d2, d3] => { results := [.lit (.bool true)], args := [d1, d2, d3] }
  | _ => none }
def fieldCountsRow : OpenClaim := { program := "ytiedjeholmoccaa", sum := "89d2692446804ff028c0ce528208d313d663f7def36024d999c30ed4fac154d6", func := "shingle/shinglelaw16.FieldCounts", spec := "fieldCounts", unfollowed := true, recurses := true, apart := false }
def FieldCountsSaid : Prop := fieldCountsRow.holds Try.pinned (OpenSpec.ofChange fieldCountsSpec)

/-- ITS FALSE NEIGHBOUR: 'it returns false'. Refute it at one input. -/
def fieldCountsWrong : ChangeSpec := { name := "fieldCounts", fn := fun _ => fun
  | [d1, d2, d3] => { results := [.lit (.bool false)], args := [d1, d2, d3] }
  | _ => none }
def FieldCountsWrongFalsely : Prop := fieldCountsRow.holds Try.pinned (OpenSpec.ofChange fieldCountsWrong)

/- THE SECOND FORM. 'bulk': how many values and letters a reading holds, each counted each time it is reached (what is shared counts as often as it is met; a slice's spare places count too). A statement '..UptoSaid' is the law's where the arguments, and the package variables that the reading takes, are together of bulk at most 1048576: NARROWER than '..Said'. Prove '..Said' where nothing that the law and all that it calls make is longer than what came in: it says more and counts as full. Else prove '..UptoSaid'. A law counts once. -/
mutual
def uptoBulk {H : Type} : DataW H → Nat
  | .lit (.string bytes) => bytes.length + 1
  | .lit _ => 1
  | .nil => 1
  | .ptr d => uptoBulk d + 1
  | .slice elems spare => uptoBulkAll elems + uptoBulkAll spare + 1
  | .agg parts => uptoBulkAll parts + 1
  | .iface _ d => uptoBulk d + 1
  | .map entries => uptoBulkEntries entries + 1
  | .held _ => 1
def uptoBulkAll {H : Type} : List (DataW H) → Nat
  | [] => 0
  | d :: r => uptoBulk d + uptoBulkAll r
def uptoBulkEntries {H : Type} : List (Lit × DataW H) → Nat
  | [] => 0
  | x :: r => uptoBulkEntry x + uptoBulkEntries r
def uptoBulkEntry {H : Type} : Lit × DataW H → Nat
  | (.string bytes, d) => bytes.length + uptoBulk d + 1
  | (_, d) => uptoBulk d + 1
 end
def uptoSmall : (H : Type) → List (DataW H) → Bool := fun _ ds => decide (uptoBulkAll ds ≤ 1048576)
def OpenSpec.upto (s : _root_.Go.ChangeSpec) : _root_.Go.OpenSpec := { _root_.Go.OpenSpec.ofChange s with cond := some uptoSmall }

/-- 'shinglelaw16.FieldTells', WHERE WHAT IT READS IS OF BULK AT MOST 1048576: true; the input reads as it did. -/
def fieldTellsUptoRow : OpenClaim := { program := "ytiedjeholmoccaa", sum := "89d2692446804ff028c0ce528208d313d663f7def36024d999c30ed4fac154d6", func := "shingle/shinglelaw16.FieldTells", spec := "fieldTells", unfollowed := true, recurses := true, apart := false, narrowed := true }
def FieldTellsUptoSaid : Prop := fieldTellsUptoRow.holds Try.pinned (OpenSpec.upto fieldTellsSpec)

/-- 'shinglelaw16.FieldSets', WHERE WHAT IT READS IS OF BULK AT MOST 1048576: true; the input reads as it did. -/
def fieldSetsUptoRow : OpenClaim := { program := "ytiedjeholmoccaa", sum := "89d2692446804ff028c0ce528208d313d663f7def36024d999c30ed4fac154d6", func := "shingle/shinglelaw16.FieldSets", spec := "fieldSets", unfollowed := true, recurses := true, apart := false, narrowed := true }
def FieldSetsUptoSaid : Prop := fieldSetsUptoRow.holds Try.pinned (OpenSpec.upto fieldSetsSpec)

/-- 'shinglelaw16.FieldSquares', WHERE WHAT IT READS IS OF BULK AT MOST 1048576: true; the input reads as it did. -/
def fieldSquaresUptoRow : OpenClaim := { program := "ytiedjeholmoccaa", sum := "89d2692446804ff028c0ce528208d313d663f7def36024d999c30ed4fac154d6", func := "shingle/shinglelaw16.FieldSquares", spec := "fieldSquares", unfollowed := true, recurses := true, apart := false, narrowed := true }
def FieldSquaresUptoSaid : Prop := fieldSquaresUptoRow.holds Try.pinned (OpenSpec.upto fieldSquaresSpec)

/-- 'shinglelaw16.FieldLevels', WHERE WHAT IT READS IS OF BULK AT MOST 1048576: true; the input reads as it did. -/
def fieldLevelsUptoRow : OpenClaim := { program := "ytiedjeholmoccaa", sum := "89d2692446804ff028c0ce528208d313d663f7def36024d999c30ed4fac154d6", func := "shingle/shinglelaw16.FieldLevels", spec := "fieldLevels", unfollowed := true, recurses := true, apart := false, narrowed := true }
def FieldLevelsUptoSaid : Prop := fieldLevelsUptoRow.holds Try.pinned (OpenSpec.upto fieldLevelsSpec)

/-- 'shinglelaw16.FieldCounts', WHERE WHAT IT READS IS OF BULK AT MOST 1048576: true; the input reads as it did. -/
def fieldCountsUptoRow : OpenClaim := { program := "ytiedjeholmoccaa", sum := "89d2692446804ff028c0ce528208d313d663f7def36024d999c30ed4fac154d6", func := "shingle/shinglelaw16.FieldCounts", spec := "fieldCounts", unfollowed := true, recurses := true, apart := false, narrowed := true }
def FieldCountsUptoSaid : Prop := fieldCountsUptoRow.holds Try.pinned (OpenSpec.upto fieldCountsSpec)

end Rows
end Go.Proofs.Ytiedjeholmoccaa
