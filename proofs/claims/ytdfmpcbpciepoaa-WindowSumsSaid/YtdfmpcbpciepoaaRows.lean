/-
  No cell of these rows narrows 'for every input' (looked for: loops, veiled, ifaces, maps, wideKeys, modest, calm, conditions, laid).
  DERIVED. THE GIVEN ROWS OF THIS SEAT. 4 by the template 'for every input the law returns true; each argument reads behind the call as it read before'; 0 by the template 'total and deterministic' (their statements: YtdfmpcbpciepoaaTotals.lean).
  GIVEN WITH THE SEED: the statements are not yours to turn. If you find one false, say at which input.
  Laid BY PROGRAM, IN A SANDBOX (cutbox-rows.mjs): the forced cells as the released guide's own fill.sh prints them over the translation 73fb35dba373b2a1… (all of the seat's roots in one cut). By AI agents, Wed Nov 11 2026. No macro, syntax, notation, axiom, sorry.
-/
import Derived.Test.YtdfmpcbpciepoaaChecked
import GoSem.Claim
import GoSem.ClaimJoined
import GoSem.ClaimMapViews
import Derived.JoinedTies
import Derived.KernelRfl
namespace Go.Proofs.Ytdfmpcbpciepoaa
/- THE CELL 'sum', in the pinned program and in every row, IS THE sha256 OF THE DUMP (.gsa) THAT YtdfmpcbpciepoaaProg.lean LOADS. Nothing in Lean hashes anything: it is a label: what it is worth is what the hold of that sum in a sandbox is worth. -/
noncomputable def Try.pinned : Pinned := { name := "ytdfmpcbpciepoaa", sum := "73fb35dba373b2a196101f2e1656432bc3151ce4e637fe4d2e685dadd8e4e5b7", checked := Try.checked }
namespace Rows
def none {H : Type} : Left H := { results := [], args := [] }

/-- 'shinglelaw20.WindowWeighs': WHATEVER THE INPUT: true; the input reads as it did. -/
def windowWeighsSpec : ChangeSpec := { name := "windowWeighs", fn := fun _ => fun
  | [d1, d2, d3] => { results := [.lit (.bool true)], args := [d1, d2, d3] }
  | _ => none }
def windowWeighsRow : OpenClaim := { program := "ytdfmpcbpciepoaa", sum := "73fb35dba373b2a196101f2e1656432bc3151ce4e637fe4d2e685dadd8e4e5b7", func := "shingle/shinglelaw20.WindowWeighs", spec := "windowWeighs", apart := false }
def WindowWeighsSaid : Prop := windowWeighsRow.holds Try.pinned (OpenSpec.ofChange windowWeighsSpec)

/-- ITS FALSE NEIGHBOUR: 'it returns false'. Refute it at one input. -/
def windowWeighsWrong : ChangeSpec := { name := "windowWeighs", fn := fun _ => fun
  | [d1, d2, d3] => { results := [.lit (.bool false)], args := [d1, d2, d3] }
  | _ => none }
def WindowWeighsWrongFalsely : Prop := windowWeighsRow.holds Try.pinned (OpenSpec.ofChange windowWeighsWrong)

/-- 'shinglelaw20.WindowSpans': WHATEVER THE INPUT: true; the input reads as it did. -/
def windowSpansSpec : ChangeSpec := { name := "windowSpans", fn := fun _ => fun
  | [d1, d2, d3] => { results := [.lit (.bool true)], args := [d1, d2, d3] }
  | _ => none }
def windowSpansRow : OpenClaim := { program := "ytdfmpcbpciepoaa", sum := "73fb35dba373b2a196101f2e1656432bc3151ce4e637fe4d2e685dadd8e4e5b7", func := "shingle/shinglelaw20.WindowSpans", spec := "windowSpans", apart := false }
def WindowSpansSaid : Prop := windowSpansRow.holds Try.pinned (OpenSpec.ofChange windowSpansSpec)

/-- ITS FALSE NEIGHBOUR: 'it returns false'. Refute it at one input. -/
def windowSpansWrong : ChangeSpec := { name := "windowSpans", fn := fun _ => fun
  | [d1, d2, d3] => { results := [.lit (.bool false)], args := [d1, d2, d3] }
  | _ => none }
def WindowSpansWrongFalsely : Prop := windowSpansRow.holds Try.pinned (OpenSpec.ofChange windowSpansWrong)

/-- 'shinglelaw20.WindowSums': WHATEVER THE INPUT: true; the input reads as it did. -/
def windowSumsSpec : ChangeSpec := { name := "windowSums", fn := fun _ => fun
  | [d1, d2, d3] => { results := [.lit (.bool true)], args := [d1, d2, d3] }
  | _ => none }
def windowSumsRow : OpenClaim := { program := "ytdfmpcbpciepoaa", sum := "73fb35dba373b2a196101f2e1656432bc3151ce4e637fe4d2e685dadd8e4e5b7", func := "shingle/shinglelaw20.WindowSums", spec := "windowSums", apart := false }
def WindowSumsSaid : Prop := windowSumsRow.holds Try.pinned (OpenSpec.ofChange windowSumsSpec)

/-- ITS FALSE NEIGHBOUR: 'it returns false'. Refute it at one input. -/
def windowSumsWrong : ChangeSpec := { name := "windowSums", fn := fun _ => fun
  | [d1, d2, d3] => { results := [.lit (.bool false)], args := [d1, d2, d3] }
  | _ => none }
def WindowSumsWrongFalsely : Prop := windowSumsRow.holds Try.pinned (OpenSpec.ofChange windowSumsWrong)

/-- 'shinglelaw20.WindowMirrors': WHATEVER THE INPUT: true; the input reads as it did. -/
def windowMirrorsSpec : ChangeSpec := { name := "windowMirrors", fn := fun _ => fun
  | [d1, d2] => { results := [.lit (.bool true)], args := [d1, d2] }
  | _ => none }
def windowMirrorsRow : OpenClaim := { program := "ytdfmpcbpciepoaa", sum := "73fb35dba373b2a196101f2e1656432bc3151ce4e637fe4d2e685dadd8e4e5b7", func := "shingle/shinglelaw20.WindowMirrors", spec := "windowMirrors", apart := false }
def WindowMirrorsSaid : Prop := windowMirrorsRow.holds Try.pinned (OpenSpec.ofChange windowMirrorsSpec)

/-- ITS FALSE NEIGHBOUR: 'it returns false'. Refute it at one input. -/
def windowMirrorsWrong : ChangeSpec := { name := "windowMirrors", fn := fun _ => fun
  | [d1, d2] => { results := [.lit (.bool false)], args := [d1, d2] }
  | _ => none }
def WindowMirrorsWrongFalsely : Prop := windowMirrorsRow.holds Try.pinned (OpenSpec.ofChange windowMirrorsWrong)

/- THE SECOND FORM. 'bulk': how many values and letters a reading holds, each counted each time it is reached (what is shared counts as often as it is met; a slice's spare places count too). A statement '..UptoSaid' is the law's where the arguments, and the package variables that the reading takes, are together of bulk at most 1048576: NARROWER than '..Said'. Prove '..Said' where nothing that the law and all that it calls make is longer than what came in: it says more and counts as full. Else prove '..UptoSaid'. A law counts once. -/
mutual
def uptoBulk {H : Type} : DataW H → Nat
  | .lit (.string bytes) => bytes.length + 1
  | .lit _ => 1
  | .nil => 1
  | .ptr d => uptoBulk d + 1
  | .slice elems spare => uptoBulkAll elems + uptoBulkAll spare + 1
  | .agg parts => uptoBulkAll parts + 1
  | .iface _ d => uptoBulk d + 1
  | .map entries => uptoBulkEntries entries + 1
  | .held _ => 1
def uptoBulkAll {H : Type} : List (DataW H) → Nat
  | [] => 0
  | d :: r => uptoBulk d + uptoBulkAll r
def uptoBulkEntries {H : Type} : List (Lit × DataW H) → Nat
  | [] => 0
  | x :: r => uptoBulkEntry x + uptoBulkEntries r
def uptoBulkEntry {H : Type} : Lit × DataW H → Nat
  | (.string bytes, d) => bytes.length + uptoBulk d + 1
  | (_, d) => uptoBulk d + 1
 end
def uptoSmall : (H : Type) → List (DataW H) → Bool := fun _ ds => decide (uptoBulkAll ds ≤ 1048576)
def OpenSpec.upto (s : _root_.Go.ChangeSpec) : _root_.Go.OpenSpec := { _root_.Go.OpenSpec.ofChange s with cond := some uptoSmall }

/-- 'shinglelaw20.WindowWeighs', WHERE WHAT IT READS IS OF BULK AT MOST 1048576: true; the input reads as it did. -/
def windowWeighsUptoRow : OpenClaim := { program := "ytdfmpcbpciepoaa", sum := "73fb35dba373b2a196101f2e1656432bc3151ce4e637fe4d2e685dadd8e4e5b7", func := "shingle/shinglelaw20.WindowWeighs", spec := "windowWeighs", apart := false, narrowed := true }
def WindowWeighsUptoSaid : Prop := windowWeighsUptoRow.holds Try.pinned (OpenSpec.upto windowWeighsSpec)

/-- 'shinglelaw20.WindowSpans', WHERE WHAT IT READS IS OF BULK AT MOST 1048576: true; the input reads as it did. -/
def windowSpansUptoRow : OpenClaim := { program := "ytdfmpcbpciepoaa", sum := "73fb35dba373b2a196101f2e1656432bc3151ce4e637fe4d2e685dadd8e4e5b7", func := "shingle/shinglelaw20.WindowSpans", spec := "windowSpans", apart := false, narrowed := true }
def WindowSpansUptoSaid : Prop := windowSpansUptoRow.holds Try.pinned (OpenSpec.upto windowSpansSpec)

/-- 'shinglelaw20.WindowSums', WHERE WHAT IT READS IS OF BULK AT MOST 1048576: true; the input reads as it did. -/
def windowSumsUptoRow : OpenClaim := { program := "ytdfmpcbpciepoaa", sum := "73fb35dba373b2a196101f2e1656432bc3151ce4e637fe4d2e685dadd8e4e5b7", func := "shingle/shinglelaw20.WindowSums", spec := "windowSums", apart := false, narrowed := true }
def WindowSumsUptoSaid : Prop := windowSumsUptoRow.holds Try.pinned (OpenSpec.upto windowSumsSpec)

/-- 'shinglelaw20.WindowMirrors', WHERE WHAT IT READS IS OF BULK AT MOST 1048576: true; the input reads as it did. -/
def windowMirrorsUptoRow : OpenClaim := { program := "ytdfmpcbpciepoaa", sum := "73fb35dba373b2a196101f2e1656432bc3151ce4e637fe4d2e685dadd8e4e5b7", func := "shingle/shinglelaw20.WindowMirrors", spec := "windowMirrors", apart := false, narrowed := true }
def WindowMirrorsUptoSaid : Prop := windowMirrorsUptoRow.holds Try.pinned (OpenSpec.upto windowMirrorsSpec)

end Rows
end Go.Proofs.Ytdfmpcbpciepoaa
