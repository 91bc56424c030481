/-
  No cell of these rows narrows 'for every input' (looked for: loops, veiled, ifaces, maps, wideKeys, modest, calm, conditions, laid).
  DERIVED. THE GIVEN ROWS OF THIS SEAT. 3 by the template 'for every input the law returns true; each argument reads behind the call as it read before'; 0 by the template 'total and deterministic' (their statements: YtjcdjmgkfhnmgaaTotals.lean).
  GIVEN WITH THE SEED: the statements are not yours to turn. If you find one false, say at which input.
  Laid BY PROGRAM, IN A SANDBOX (cutbox-rows.mjs): the forced cells as the released guide's own fill.sh prints them over the translation 34a202b426b67939… (all of the seat's roots in one cut). By AI agents, Wed Nov 11 2026. No macro, syntax, notation, axiom, sorry.
-/
import Derived.Test.YtjcdjmgkfhnmgaaChecked
import GoSem.Claim
import GoSem.ClaimJoined
import GoSem.ClaimMapViews
import Derived.JoinedTies
import Derived.KernelRfl
namespace Go.Proofs.Ytjcdjmgkfhnmgaa
/- THE CELL 'sum', in the pinned program and in every row, IS THE sha256 OF THE DUMP (.gsa) THAT YtjcdjmgkfhnmgaaProg.lean LOADS. Nothing in Lean hashes anything: it is a label: what it is worth is what the hold of that sum in a sandbox is worth. -/
noncomputable def Try.pinned : Pinned := { name := "ytjcdjmgkfhnmgaa", sum := "34a202b426b679398c2155a420134fc971e708dc3fc020a25e9808c0f189c94f", checked := Try.checked }
namespace Rows
def none {H : Type} : Left H := { results := [], args := [] }

/-- 'shinglelaw07.PlaneBack': WHATEVER THE INPUT: true; the input reads as it did. -/
def planeBackSpec : ChangeSpec := { name := "planeBack", fn := fun _ => fun
  | [d1, d2, d3] => { results := [.lit (.bool true)], args := [d1, d2, d3] }
  | _ => none }
def planeBackRow : OpenClaim := { program := "ytjcdjmgkfhnmgaa", sum := "34a202b426b679398c2155a420134fc971e708dc3fc020a25e9808c0f189c94f", func := "shingle/shinglelaw07.PlaneBack", spec := "planeBack", unfollowed := true, recurses := true, apart := false }
def PlaneBackSaid : Prop := planeBackRow.holds Try.pinned (OpenSpec.ofChange planeBackSpec)

/-- ITS FALSE NEIGHBOUR: 'it returns false'. Refute it at one input. -/
def planeBackWrong : ChangeSpec := { name := "planeBack", fn := fun _ => fun
  | [d1, d2, d3] => { results := [.lit (.bool false)], args := [d1, d2, d3] }
  | _ => none }
def PlaneBackWrongFalsely : Prop := planeBackRow.holds Try.pinned (OpenSpec.ofChange planeBackWrong)

/-- 'shinglelaw07.PlaneSums': WHATEVER THE INPUT: true; the input reads as it did. -/
def planeSumsSpec : ChangeSpec := { name := "planeSums", fn := fun _ => fun
  | [d1, d2, d3] => { results := [.lit (.bool true)], args := [d1, d2, d3] }
  | _ => none }
def planeSumsRow : OpenClaim := { program := "ytjcdjmgkfhnmgaa", sum := "34a202b426b679398c2155a420134fc971e708dc3fc020a25e9808c0f189c94f", func := "shingle/shinglelaw07.PlaneSums", spec := "planeSums", unfollowed := true, recurses := true, apart := false }
def PlaneSumsSaid : Prop := planeSumsRow.holds Try.pinned (OpenSpec.ofChange planeSumsSpec)

/-- ITS FALSE NEIGHBOUR: 'it returns false'. Refute it at one input. -/
def planeSumsWrong : ChangeSpec := { name := "planeSums", fn := fun _ => fun
  | [d1, d2, d3] => { results := [.lit (.bool false)], args := [d1, d2, d3] }
  | _ => none }
def PlaneSumsWrongFalsely : Prop := planeSumsRow.holds Try.pinned (OpenSpec.ofChange planeSumsWrong)

/-- 'shinglelaw07.PlaneGoes': WHATEVER THE INPUT: true; the input reads as it did. -/
def planeGoesSpec : ChangeSpec := { name := "planeGoes", fn := fun _ => fun
  | [d1, d2] => { results := [.lit (.bool true)], args := [d1, d2] }
  | _ => none }
def planeGoesRow : OpenClaim := { program := "ytjcdjmgkfhnmgaa", sum := "34a202b426b679398c2155a420134fc971e708dc3fc020a25e9808c0f189c94f", func := "shingle/shinglelaw07.PlaneGoes", spec := "planeGoes", unfollowed := true, recurses := true, apart := false }
def PlaneGoesSaid : Prop := planeGoesRow.holds Try.pinned (OpenSpec.ofChange planeGoesSpec)

/-- ITS FALSE NEIGHBOUR: 'it returns false'. Refute it at one input. -/
def planeGoesWrong : ChangeSpec := { name := "planeGoes", fn := fun _ => fun
  | [d1, d2] => { results := [.lit (.bool false)], args := [d1, d2] }
  | _ => none }
def PlaneGoesWrongFalsely : Prop := planeGoesRow.holds Try.pinned (OpenSpec.ofChange planeGoesWrong)

/- THE SECOND FORM. 'bulk': how many values and letters a reading holds, each counted each time it is reached (what is shared counts as often as it is met; a slice's spare places count too). A statement '..UptoSaid' is the law's where the arguments, and the package variables that the reading takes, are together of bulk at most 1048576: NARROWER than '..Said'. Prove '..Said' where nothing that the law and all that it calls make is longer than what came in: it says more and counts as full. Else prove '..UptoSaid'. A law counts once. -/
mutual
def uptoBulk {H : Type} : DataW H → Nat
  | .lit (.string bytes) => bytes.length + 1
  | .lit _ => 1
  | .nil => 1
  | .ptr d => uptoBulk d + 1
  | .slice elems spare => uptoBulkAll elems + uptoBulkAll spare + 1
  | .agg parts => uptoBulkAll parts + 1
  | .iface _ d => uptoBulk d + 1
  | .map entries => uptoBulkEntries entries + 1
  | .held _ => 1
def uptoBulkAll {H : Type} : List (DataW H) → Nat
  | [] => 0
  | d :: r => uptoBulk d + uptoBulkAll r
def uptoBulkEntries {H : Type} : List (Lit × DataW H) → Nat
  | [] => 0
  | x :: r => uptoBulkEntry x + uptoBulkEntries r
def uptoBulkEntry {H : Type} : Lit × DataW H → Nat
  | (.string bytes, d) => bytes.length + uptoBulk d + 1
  | (_, d) => uptoBulk d + 1
 end
def uptoSmall : (H : Type) → List (DataW H) → Bool := fun _ ds => decide (uptoBulkAll ds ≤ 1048576)
def OpenSpec.upto (s : _root_.Go.ChangeSpec) : _root_.Go.OpenSpec := { _root_.Go.OpenSpec.ofChange s with cond := some uptoSmall }

/-- 'shinglelaw07.PlaneBack', WHERE WHAT IT READS IS OF BULK AT MOST 1048576: true; the input reads as it did. -/
def planeBackUptoRow : OpenClaim := { program := "ytjcdjmgkfhnmgaa", sum := "34a202b426b679398c2155a420134fc971e708dc3fc020a25e9808c0f189c94f", func := "shingle/shinglelaw07.PlaneBack", spec := "planeBack", unfollowed := true, recurses := true, apart := false, narrowed := true }
def PlaneBackUptoSaid : Prop := planeBackUptoRow.holds Try.pinned (OpenSpec.upto planeBackSpec)

/-- 'shinglelaw07.PlaneSums', WHERE WHAT IT READS IS OF BULK AT MOST 1048576: true; the input reads as it did. -/
def planeSumsUptoRow : OpenClaim := { program := "ytjcdjmgkfhnmgaa", sum := "34a202b426b679398c2155a420134fc971e708dc3fc020a25e9808c0f189c94f", func := "shingle/shinglelaw07.PlaneSums", spec := "planeSums", unfollowed := true, recurses := true, apart := false, narrowed := true }
def PlaneSumsUptoSaid : Prop := planeSumsUptoRow.holds Try.pinned (OpenSpec.upto planeSumsSpec)

/-- 'shinglelaw07.PlaneGoes', WHERE WHAT IT READS IS OF BULK AT MOST 1048576: true; the input reads as it did. -/
def planeGoesUptoRow : OpenClaim := { program := "ytjcdjmgkfhnmgaa", sum := "34a202b426b679398c2155a420134fc971e708dc3fc020a25e9808c0f189c94f", func := "shingle/shinglelaw07.PlaneGoes", spec := "planeGoes", unfollowed := true, recurses := true, apart := false, narrowed := true }
def PlaneGoesUptoSaid : Prop := planeGoesUptoRow.holds Try.pinned (OpenSpec.upto planeGoesSpec)

end Rows
end Go.Proofs.Ytjcdjmgkfhnmgaa
