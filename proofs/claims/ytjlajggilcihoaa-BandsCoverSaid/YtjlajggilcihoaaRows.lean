/-
  No cell of these rows narrows 'for every input' (looked for: loops, veiled, ifaces, maps, wideKeys, modest, calm, conditions, laid).
  DERIVED. THE GIVEN ROWS OF THIS SEAT. 4 by the template 'for every input the law returns true; each argument reads behind the call as it read before'; 0 by the template 'total and deterministic' (their statements: YtjlajggilcihoaaTotals.lean).
  GIVEN WITH THE SEED: the statements are not yours to turn. If you find one false, say at which input.
  Laid BY PROGRAM, IN A SANDBOX (cutbox-rows.mjs): the forced cells as the released guide's own fill.sh prints them over the translation 1669d36c179f7250… (all of the seat's roots in one cut). By AI agents, Wed Nov 11 2026. No macro, syntax, notation, axiom, sorry.
-/
import Derived.Test.YtjlajggilcihoaaChecked
import GoSem.Claim
import GoSem.ClaimJoined
import GoSem.ClaimMapViews
import Derived.JoinedTies
import Derived.KernelRfl
namespace Go.Proofs.Ytjlajggilcihoaa
/- THE CELL 'sum', in the pinned program and in every row, IS THE sha256 OF THE DUMP (.gsa) THAT YtjlajggilcihoaaProg.lean LOADS. Nothing in Lean hashes anything: it is a label: what it is worth is what the hold of that sum in a sandbox is worth. -/
noncomputable def Try.pinned : Pinned := { name := "ytjlajggilcihoaa", sum := "1669d36c179f725067f46d3edad9cffa2b1109b162a9c3b7ff9efca6f164abbc", checked := Try.checked }
namespace Rows
def none {H : Type} : Left H := { results := [], args := [] }

/-- 'shinglelaw10.BandsLie': WHATEVER THE INPUT: true; the input reads as it did. -/
def bandsLieSpec : ChangeSpec := { name := "bandsLie", fn := fun _ => fun
  | [d1, d2, d3] => { results := [.lit (.bool true)], args := [d1, d2, d3] }
  | _ => none }
def bandsLieRow : OpenClaim := { program := "ytjlajggilcihoaa", sum := "1669d36c179f725067f46d3edad9cffa2b1109b162a9c3b7ff9efca6f164abbc", func := "shingle/shinglelaw10.BandsLie", spec := "bandsLie", unfollowed := true, recurses := true, apart := false }
def BandsLieSaid : Prop := bandsLieRow.holds Try.pinned (OpenSpec.ofChange bandsLieSpec)

/-- ITS FALSE NEIGHBOUR: 'it returns false'. Refute it at one input. -/
def bandsLieWrong : ChangeSpec := { name := "bandsLie", fn := fun _ => fun
  | [d1, d2, d3] => { results := [.lit (.bool false)], args := [d1, d2, d3] }
  | _ => none }
def BandsLieWrongFalsely : Prop := bandsLieRow.holds Try.pinned (OpenSpec.ofChange bandsLieWrong)

/-- 'shinglelaw10.BandsHalves': WHATEVER THE INPUT: true; the input reads as it did. -/
def bandsHalvesSpec : ChangeSpec := { name := "bandsHalves", fn := fun _ => fun
  | [d1, d2, d3] => { results := [.lit (.bool true)], args := [d1, d2, d3] }
  | _ => none }
def bandsHalvesRow : OpenClaim := { program := "ytjlajggilcihoaa", sum := "1669d36c179f725067f46d3edad9cffa2b1109b162a9c3b7ff9efca6f164abbc", func := "shingle/shinglelaw10.BandsHalves", spec := "bandsHalves", unfollowed := true, recurses := true, apart := false }
def BandsHalvesSaid : Prop := bandsHalvesRow.holds Try.pinned (OpenSpec.ofChange bandsHalvesSpec)

/-- ITS FALSE NEIGHBOUR: 'it returns false'. Refute it at one input. -/
def bandsHalvesWrong : ChangeSpec := { name := "bandsHalves", fn := fun _ => fun
  | [d1, d2, d3] => { results := [.lit (.bool false)], args := [d1, d2, d3] }
  | _ => none }
def BandsHalvesWrongFalsely : Prop := bandsHalvesRow.holds Try.pinned (OpenSpec.ofChange bandsHalvesWrong)

/-- 'shinglelaw10.BandsCut': WHATEVER THE INPUT: true; the input reads as it did. -/
def bandsCutSpec : ChangeSpec := { name := "bandsCut", fn := fun _ => fun
  | [d1, d2, d3] => { results := [.lit (.bool true)], args := [d1, d2, d3] }
  | _ => none }
def bandsCutRow : OpenClaim := { program := "ytjlajggilcihoaa", sum := "1669d36c179f725067f46d3edad9cffa2b1109b162a9c3b7ff9efca6f164abbc", func := "shingle/shinglelaw10.BandsCut", spec := "bandsCut", unfollowed := true, recurses := true, apart := false }
def BandsCutSaid : Prop := bandsCutRow.holds Try.pinned (OpenSpec.ofChange bandsCutSpec)

/-- ITS FALSE NEIGHBOUR: 'it returns false'. Refute it at one input. -/
def bandsCutWrong : ChangeSpec := { name := "bandsCut", fn := fun _ => fun
  | [d1, d2, d3] => { results := [.lit (.bool false)], args := [d1, d2, d3] }
  | _ => none }
def BandsCutWrongFalsely : Prop := bandsCutRow.holds Try.pinned (OpenSpec.ofChange bandsCutWrong)

/-- 'shinglelaw10.BandsCover': WHATEVER THE INPUT: true; the input reads as it did. -/
def bandsCoverSpec : ChangeSpec := { name := "bandsCover", fn := fun _ => fun
  | [d1, d2] => { results := [.lit (.bool true)], args := [d1, d2] }
  | _ => none }
def bandsCoverRow : OpenClaim := { program := "ytjlajggilcihoaa", sum := "1669d36c179f725067f46d3edad9cffa2b1109b162a9c3b7ff9efca6f164abbc", func := "shingle/shinglelaw10.BandsCover", spec := "bandsCover", unfollowed := true, recurses := true, apart := false }
def BandsCoverSaid : Prop := bandsCoverRow.holds Try.pinned (OpenSpec.ofChange bandsCoverSpec)

/-- ITS FALSE NEIGHBOUR: 'it returns false'. Refute it at one input. -/
def bandsCoverWrong : ChangeSpec := { name := "bandsCover", fn := fun _ => fun
  | [d1, d2] => { results := [.lit (.bool false)], args := [d1, d2] }
  | _ => none }
def BandsCoverWrongFalsely : Prop := bandsCoverRow.holds Try.pinned (OpenSpec.ofChange bandsCoverWrong)

/- THE SECOND FORM. 'bulk': how many values and letters a reading holds, each counted each time it is reached (what is shared counts as often as it is met; a slice's spare places count too). A statement '..UptoSaid' is the law's where the arguments, and the package variables that the reading takes, are together of bulk at most 1048576: NARROWER than '..Said'. Prove '..Said' where nothing that the law and all that it calls make is longer than what came in: it says more and counts as full. Else prove '..UptoSaid'. A law counts once. -/
mutual
def uptoBulk {H : Type} : DataW H → Nat
  | .lit (.string bytes) => bytes.length + 1
  | .lit _ => 1
  | .nil => 1
  | .ptr d => uptoBulk d + 1
  | .slice elems spare => uptoBulkAll elems + uptoBulkAll spare + 1
  | .agg parts => uptoBulkAll parts + 1
  | .iface _ d => uptoBulk d + 1
  | .map entries => uptoBulkEntries entries + 1
  | .held _ => 1
def uptoBulkAll {H : Type} : List (DataW H) → Nat
  | [] => 0
  | d :: r => uptoBulk d + uptoBulkAll r
def uptoBulkEntries {H : Type} : List (Lit × DataW H) → Nat
  | [] => 0
  | x :: r => uptoBulkEntry x + uptoBulkEntries r
def uptoBulkEntry {H : Type} : Lit × DataW H → Nat
  | (.string bytes, d) => bytes.length + uptoBulk d + 1
  | (_, d) => uptoBulk d + 1
 end
def uptoSmall : (H : Type) → List (DataW H) → Bool := fun _ ds => decide (uptoBulkAll ds ≤ 1048576)
def OpenSpec.upto (s : _root_.Go.ChangeSpec) : _root_.Go.OpenSpec := { _root_.Go.OpenSpec.ofChange s with cond := some uptoSmall }

/-- 'shinglelaw10.BandsLie', WHERE WHAT IT READS IS OF BULK AT MOST 1048576: true; the input reads as it did. -/
def bandsLieUptoRow : OpenClaim := { program := "ytjlajggilcihoaa", sum := "1669d36c179f725067f46d3edad9cffa2b1109b162a9c3b7ff9efca6f164abbc", func := "shingle/shinglelaw10.BandsLie", spec := "bandsLie", unfollowed := true, recurses := true, apart := false, narrowed := true }
def BandsLieUptoSaid : Prop := bandsLieUptoRow.holds Try.pinned (OpenSpec.upto bandsLieSpec)

/-- 'shinglelaw10.BandsHalves', WHERE WHAT IT READS IS OF BULK AT MOST 1048576: true; the input reads as it did. -/
def bandsHalvesUptoRow : OpenClaim := { program := "ytjlajggilcihoaa", sum := "1669d36c179f725067f46d3edad9cffa2b1109b162a9c3b7ff9efca6f164abbc", func := "shingle/shinglelaw10.BandsHalves", spec := "bandsHalves", unfollowed := true, recurses := true, apart := false, narrowed := true }
def BandsHalvesUptoSaid : Prop := bandsHalvesUptoRow.holds Try.pinned (OpenSpec.upto bandsHalvesSpec)

/-- 'shinglelaw10.BandsCut', WHERE WHAT IT READS IS OF BULK AT MOST 1048576: true; the input reads as it did. -/
def bandsCutUptoRow : OpenClaim := { program := "ytjlajggilcihoaa", sum := "1669d36c179f725067f46d3edad9cffa2b1109b162a9c3b7ff9efca6f164abbc", func := "shingle/shinglelaw10.BandsCut", spec := "bandsCut", unfollowed := true, recurses := true, apart := false, narrowed := true }
def BandsCutUptoSaid : Prop := bandsCutUptoRow.holds Try.pinned (OpenSpec.upto bandsCutSpec)

/-- 'shinglelaw10.BandsCover', WHERE WHAT IT READS IS OF BULK AT MOST 1048576: true; the input reads as it did. -/
def bandsCoverUptoRow : OpenClaim := { program := "ytjlajggilcihoaa", sum := "1669d36c179f725067f46d3edad9cffa2b1109b162a9c3b7ff9efca6f164abbc", func := "shingle/shinglelaw10.BandsCover", spec := "bandsCover", unfollowed := true, recurses := true, apart := false, narrowed := true }
def BandsCoverUptoSaid : Prop := bandsCoverUptoRow.holds Try.pinned (OpenSpec.upto bandsCoverSpec)

end Rows
end Go.Proofs.Ytjlajggilcihoaa
