/-
  No cell of these rows narrows 'for every input' (looked for: loops, veiled, ifaces, maps, wideKeys, modest, calm, conditions, laid).
  DERIVED. THE GIVEN ROWS OF THIS SEAT. 4 by the template 'for every input the law returns true; each argument reads behind the call as it read before'; 0 by the template 'total and deterministic' (their statements: YtceecaohfnamnaaTotals.lean).
  GIVEN WITH THE SEED: the statements are not yours to turn. If you find one false, say at which input.
  Laid BY PROGRAM, IN A SANDBOX (cutbox-rows.mjs): the forced cells as the released guide's own fill.sh prints them over the translation 62fa1f4bf00fe632… (all of the seat's roots in one cut). By AI agents, Wed Nov 11 2026. No macro, syntax, notation, axiom, sorry.
-/
import Derived.Test.YtceecaohfnamnaaChecked
import GoSem.Claim
import GoSem.ClaimJoined
import GoSem.ClaimMapViews
import Derived.JoinedTies
import Derived.KernelRfl
namespace Go.Proofs.Ytceecaohfnamnaa
/- THE CELL 'sum', in the pinned program and in every row, IS THE sha256 OF THE DUMP (.gsa) THAT YtceecaohfnamnaaProg.lean LOADS. Nothing in Lean hashes anything: it is a label: what it is worth is what the hold of that sum in a sandbox is worth. -/
noncomputable def Try.pinned : Pinned := { name := "ytceecaohfnamnaa", sum := "62fa1f4bf00fe632e8435ea0c749137933b71d8cf33c30fb3898208c1604ad55", checked := Try.checked }
namespace Rows
def none {H : Type} : Left H := { results := [], args := [] }

/-- 'shinglelaw08.LiftLines': WHATEVER THE INPUT: true; the input reads as it did. -/
def liftLinesSpec : ChangeSpec := { name := "liftLines", fn := fun _ => fun
  | [d1, d2] => { results := [.lit (.bool true)], args := [d1, d2] }
  | _ => none }
def liftLinesRow : OpenClaim := { program := "ytceecaohfnamnaa", sum := "62fa1f4bf00fe632e8435ea0c749137933b71d8cf33c30fb3898208c1604ad55", func := "shingle/shinglelaw08.LiftLines", spec := "liftLines", unfollowed := true, recurses := true, apart := false }
def LiftLinesSaid : Prop := liftLinesRow.holds Try.pinned (OpenSpec.ofChange liftLinesSpec)

/-- ITS FALSE NEIGHBOUR: 'it returns false'. Refute it at one input. -/
def liftLinesWrong : ChangeSpec := { name := "liftLines", fn := fun _ => fun
  | [d1, d2] => { results := [.lit (.bool false)], args := [d1, d2] }
  | _ => none }
def LiftLinesWrongFalsely : Prop := liftLinesRow.holds Try.pinned (OpenSpec.ofChange liftLinesWrong)

/-- 'shinglelaw08.LiftParts': WHATEVER THE INPUT: true; the input reads as it did. -/
def liftPartsSpec : ChangeSpec := { name := "liftParts", fn := fun _ => fun
  | [d1, d2] => { results := [.lit (.bool true)], args := [d1, d2] }
  | _ => none }
def liftPartsRow : OpenClaim := { program := "ytceecaohfnamnaa", sum := "62fa1f4bf00fe632e8435ea0c749137933b71d8cf33c30fb3898208c1604ad55", func := "shingle/shinglelaw08.LiftParts", spec := "liftParts", unfollowed := true, recurses := true, apart := false }
def LiftPartsSaid : Prop := liftPartsRow.holds Try.pinned (OpenSpec.ofChange liftPartsSpec)

/-- ITS FALSE NEIGHBOUR: 'it returns false'. Refute it at one input. -/
def liftPartsWrong : ChangeSpec := { name := "liftParts", fn := fun _ => fun
  | [d1, d2] => { results := [.lit (.bool false)], args := [d1, d2] }
  | _ => none }
def LiftPartsWrongFalsely : Prop := liftPartsRow.holds Try.pinned (OpenSpec.ofChange liftPartsWrong)

/-- 'shinglelaw08.LiftBack': WHATEVER THE INPUT: true; the input reads as it did. -/
def liftBackSpec : ChangeSpec := { name := "liftBack", fn := fun _ => fun
  | [d1, d2, d3] => { results := [.lit (.bool true)], args := [d1, d2, d3] }
  | _ => none }
def liftBackRow : OpenClaim := { program := "ytceecaohfnamnaa", sum := "62fa1f4bf00fe632e8435ea0c749137933b71d8cf33c30fb3898208c1604ad55", func := "shingle/shinglelaw08.LiftBack", spec := "liftBack", unfollowed := true, recurses := true, apart := false }
def LiftBackSaid : Prop := liftBackRow.holds Try.pinned (OpenSpec.ofChange liftBackSpec)

/-- ITS FALSE NEIGHBOUR: 'it returns false'. Refute it at one input. -/
def liftBackWrong : ChangeSpec := { name := "liftBack", fn := fun _ => fun
  | [d1, d2, d3] => { results := [.lit (.bool false)], args := [d1, d2, d3] }
  | _ => none }
def LiftBackWrongFalsely : Prop := liftBackRow.holds Try.pinned (OpenSpec.ofChange liftBackWrong)

/-- 'shinglelaw08.LiftRaised': WHATEVER THE INPUT: true; the input reads as it did. -/
def liftRaisedSpec : ChangeSpec := { name := "liftRaised", fn := fun _ => fun
  | [d1, d2, d3] => { results := [.lit (.bool true)], args := [d1, d2, d3] }
  | _ => none }
def liftRaisedRow : OpenClaim := { program := "ytceecaohfnamnaa", sum := "62fa1f4bf00fe632e8435ea0c749137933b71d8cf33c30fb3898208c1604ad55", func := "shingle/shinglelaw08.LiftRaised", spec := "liftRaised", unfollowed := true, recurses := true, apart := false }
def LiftRaisedSaid : Prop := liftRaisedRow.holds Try.pinned (OpenSpec.ofChange liftRaisedSpec)

/-- ITS FALSE NEIGHBOUR: 'it returns false'. Refute it at one input. -/
def liftRaisedWrong : ChangeSpec := { name := "liftRaised", fn := fun _ => fun
  | [d1, d2, d3] => { results := [.lit (.bool false)], args := [d1, d2, d3] }
  | _ => none }
def LiftRaisedWrongFalsely : Prop := liftRaisedRow.holds Try.pinned (OpenSpec.ofChange liftRaisedWrong)

/- THE SECOND FORM. 'bulk': how many values and letters a reading holds, each counted each time it is reached (what is shared counts as often as it is met; a slice's spare places count too). A statement '..UptoSaid' is the law's where the arguments, and the package variables that the reading takes, are together of bulk at most 1048576: NARROWER than '..Said'. Prove '..Said' where nothing that the law and all that it calls make is longer than what came in: it says more and counts as full. Else prove '..UptoSaid'. A law counts once. -/
mutual
def uptoBulk {H : Type} : DataW H → Nat
  | .lit (.string bytes) => bytes.length + 1
  | .lit _ => 1
  | .nil => 1
  | .ptr d => uptoBulk d + 1
  | .slice elems spare => uptoBulkAll elems + uptoBulkAll spare + 1
  | .agg parts => uptoBulkAll parts + 1
  | .iface _ d => uptoBulk d + 1
  | .map entries => uptoBulkEntries entries + 1
  | .held _ => 1
def uptoBulkAll {H : Type} : List (DataW H) → Nat
  | [] => 0
  | d :: r => uptoBulk d + uptoBulkAll r
def uptoBulkEntries {H : Type} : List (Lit × DataW H) → Nat
  | [] => 0
  | x :: r => uptoBulkEntry x + uptoBulkEntries r
def uptoBulkEntry {H : Type} : Lit × DataW H → Nat
  | (.string bytes, d) => bytes.length + uptoBulk d + 1
  | (_, d) => uptoBulk d + 1
 end
def uptoSmall : (H : Type) → List (DataW H) → Bool := fun _ ds => decide (uptoBulkAll ds ≤ 1048576)
def OpenSpec.upto (s : _root_.Go.ChangeSpec) : _root_.Go.OpenSpec := { _root_.Go.OpenSpec.ofChange s with cond := some uptoSmall }

/-- 'shinglelaw08.LiftLines', WHERE WHAT IT READS IS OF BULK AT MOST 1048576: true; the input reads as it did. -/
def liftLinesUptoRow : OpenClaim := { program := "ytceecaohfnamnaa", sum := "62fa1f4bf00fe632e8435ea0c749137933b71d8cf33c30fb3898208c1604ad55", func := "shingle/shinglelaw08.LiftLines", spec := "liftLines", unfollowed := true, recurses := true, apart := false, narrowed := true }
def LiftLinesUptoSaid : Prop := liftLinesUptoRow.holds Try.pinned (OpenSpec.upto liftLinesSpec)

/-- 'shinglelaw08.LiftParts', WHERE WHAT IT READS IS OF BULK AT MOST 1048576: true; the input reads as it did. -/
def liftPartsUptoRow : OpenClaim := { program := "ytceecaohfnamnaa", sum := "62fa1f4bf00fe632e8435ea0c749137933b71d8cf33c30fb3898208c1604ad55", func := "shingle/shinglelaw08.LiftParts", spec := "liftParts", unfollowed := true, recurses := true, apart := false, narrowed := true }
def LiftPartsUptoSaid : Prop := liftPartsUptoRow.holds Try.pinned (OpenSpec.upto liftPartsSpec)

/-- 'shinglelaw08.LiftBack', WHERE WHAT IT READS IS OF BULK AT MOST 1048576: true; the input reads as it did. -/
def liftBackUptoRow : OpenClaim := { program := "ytceecaohfnamnaa", sum := "62fa1f4bf00fe632e8435ea0c749137933b71d8cf33c30fb3898208c1604ad55", func := "shingle/shinglelaw08.LiftBack", spec := "liftBack", unfollowed := true, recurses := true, apart := false, narrowed := true }
def LiftBackUptoSaid : Prop := liftBackUptoRow.holds Try.pinned (OpenSpec.upto liftBackSpec)

/-- 'shinglelaw08.LiftRaised', WHERE WHAT IT READS IS OF BULK AT MOST 1048576: true; the input reads as it did. -/
def liftRaisedUptoRow : OpenClaim := { program := "ytceecaohfnamnaa", sum := "62fa1f4bf00fe632e8435ea0c749137933b71d8cf33c30fb3898208c1604ad55", func := "shingle/shinglelaw08.LiftRaised", spec := "liftRaised", unfollowed := true, recurses := true, apart := false, narrowed := true }
def LiftRaisedUptoSaid : Prop := liftRaisedUptoRow.holds Try.pinned (OpenSpec.upto liftRaisedSpec)

end Rows
end Go.Proofs.Ytceecaohfnamnaa
