/-
  No cell of these rows narrows 'for every input' (looked for: loops, veiled, ifaces, maps, wideKeys, modest, calm, conditions, laid).
  DERIVED. THE GIVEN ROWS OF THIS SEAT. 3 by the template 'for every input the law returns true; each argument reads behind the call as it read before'; 0 by the template 'total and deterministic' (their statements: YtlhpaompaigkpaaTotals.lean).
  GIVEN WITH THE SEED: the statements are not yours to turn. If you find one false, say at which input.
  Laid BY PROGRAM, IN A SANDBOX (cutbox-rows.mjs): the forced cells as the released guide's own fill.sh prints them over the translation 7c31ef1451d6c041… (all of the seat's roots in one cut). By AI agents, Wed Nov 11 2026. No macro, syntax, notation, axiom, sorry.
-/
import Derived.Test.YtlhpaompaigkpaaChecked
import GoSem.Claim
import GoSem.ClaimJoined
import GoSem.ClaimMapViews
import Derived.JoinedTies
import Derived.KernelRfl
namespace Go.Proofs.Ytlhpaompaigkpaa
/- THE CELL 'sum', in the pinned program and in every row, IS THE sha256 OF THE DUMP (.gsa) THAT YtlhpaompaigkpaaProg.lean LOADS. Nothing in Lean hashes anything: it is a label: what it is worth is what the hold of that sum in a sandbox is worth. -/
noncomputable def Try.pinned : Pinned := { name := "ytlhpaompaigkpaa", sum := "7c31ef1451d6c0412235600039c3bbae4ea78a81b1d9bab90de6cf1816429812", checked := Try.checked }
namespace Rows
def none {H : Type} : Left H := { results := [], args := [] }

/-- 'shinglelaw02.GolombPuts': WHATEVER THE INPUT: true; the input reads as it did. -/
def golombPutsSpec : ChangeSpec := { name := "golombPuts", fn := fun _ => fun
  | [d] => { results := [.lit (.bool true)], args := [d] }
  | _ => none }
def golombPutsRow : OpenClaim := { program := "ytlhpaompaigkpaa", sum := "7c31ef1451d6c0412235600039c3bbae4ea78a81b1d9bab90de6cf1816429812", func := "shingle/shinglelaw02.GolombPuts", spec := "golombPuts", apart := false }
def GolombPutsSaid : Prop := golombPutsRow.holds Try.pinned (OpenSpec.ofChange golombPutsSpec)

/-- ITS FALSE NEIGHBOUR: 'it returns false'. Refute it at one input. -/
def golombPutsWrong : ChangeSpec := { name := "golombPuts", fn := fun _ => fun
  | [d] => { results := [.lit (.bool false)], args := [d] }
  | _ => none }
def GolombPutsWrongFalsely : Prop := golombPutsRow.holds Try.pinned (OpenSpec.ofChange golombPutsWrong)

/-- 'shinglelaw02.GolombBack': WHATEVER THE INPUT: true; the input reads as it did. -/
def golombBackSpec : ChangeSpec := { name := "golombBack", fn := fun _ => fun
  | [d] => { results := [.lit (.bool true)], args := [d] }
  | _ => none }
def golombBackRow : OpenClaim := { program := "ytlhpaompaigkpaa", sum := "7c31ef1451d6c0412235600039c3bbae4ea78a81b1d9bab90de6cf1816429812", func := "shingle/shinglelaw02.GolombBack", spec := "golombBack", apart := false }
def GolombBackSaid : Prop := golombBackRow.holds Try.pinned (OpenSpec.ofChange golombBackSpec)

/-- ITS FALSE NEIGHBOUR: 'it returns false'. Refute it at one input. -/
def golombBackWrong : ChangeSpec := { name := "golombBack", fn := fun _ => fun
  | [d] => { results := [.lit (.bool false)], args := [d] }
  | _ => none }
def GolombBackWrongFalsely : Prop := golombBackRow.holds Try.pinned (OpenSpec.ofChange golombBackWrong)

/-- 'shinglelaw02.GolombGets': WHATEVER THE INPUT: true; the input reads as it did. -/
def golombGetsSpec : ChangeSpec := { name := "golombGets", fn := fun _ => fun
  | [d1, d2] => { results := [.lit (.bool true)], args := [d1, d2] }
  | _ => none }
def golombGetsRow : OpenClaim := { program := "ytlhpaompaigkpaa", sum := "7c31ef1451d6c0412235600039c3bbae4ea78a81b1d9bab90de6cf1816429812", func := "shingle/shinglelaw02.GolombGets", spec := "golombGets", apart := false }
def GolombGetsSaid : Prop := golombGetsRow.holds Try.pinned (OpenSpec.ofChange golombGetsSpec)

/-- ITS FALSE NEIGHBOUR: 'it returns false'. Refute it at one input. -/
def golombGetsWrong : ChangeSpec := { name := "golombGets", fn := fun _ => fun
  | [d1, d2] => { results := [.lit (.bool false)], args := [d1, d2] }
  | _ => none }
def GolombGetsWrongFalsely : Prop := golombGetsRow.holds Try.pinned (OpenSpec.ofChange golombGetsWrong)

/- THE SECOND FORM. 'bulk': how many values and letters a reading holds, each counted each time it is reached (what is shared counts as often as it is met; a slice's spare places count too). A statement '..UptoSaid' is the law's where the arguments, and the package variables that the reading takes, are together of bulk at most 1048576: NARROWER than '..Said'. Prove '..Said' where nothing that the law and all that it calls make is longer than what came in: it says more and counts as full. Else prove '..UptoSaid'. A law counts once. -/
mutual
def uptoBulk {H : Type} : DataW H → Nat
  | .lit (.string bytes) => bytes.length + 1
  | .lit _ => 1
  | .nil => 1
  | .ptr d => uptoBulk d + 1
  | .slice elems spare => uptoBulkAll elems + uptoBulkAll spare + 1
  | .agg parts => uptoBulkAll parts + 1
  | .iface _ d => uptoBulk d + 1
  | .map entries => uptoBulkEntries entries + 1
  | .held _ => 1
def uptoBulkAll {H : Type} : List (DataW H) → Nat
  | [] => 0
  | d :: r => uptoBulk d + uptoBulkAll r
def uptoBulkEntries {H : Type} : List (Lit × DataW H) → Nat
  | [] => 0
  | x :: r => uptoBulkEntry x + uptoBulkEntries r
def uptoBulkEntry {H : Type} : Lit × DataW H → Nat
  | (.string bytes, d) => bytes.length + uptoBulk d + 1
  | (_, d) => uptoBulk d + 1
 end
def uptoSmall : (H : Type) → List (DataW H) → Bool := fun _ ds => decide (uptoBulkAll ds ≤ 1048576)
def OpenSpec.upto (s : _root_.Go.ChangeSpec) : _root_.Go.OpenSpec := { _root_.Go.OpenSpec.ofChange s with cond := some uptoSmall }

/-- 'shinglelaw02.GolombPuts', WHERE WHAT IT READS IS OF BULK AT MOST 1048576: true; the input reads as it did. -/
def golombPutsUptoRow : OpenClaim := { program := "ytlhpaompaigkpaa", sum := "7c31ef1451d6c0412235600039c3bbae4ea78a81b1d9bab90de6cf1816429812", func := "shingle/shinglelaw02.GolombPuts", spec := "golombPuts", apart := false, narrowed := true }
def GolombPutsUptoSaid : Prop := golombPutsUptoRow.holds Try.pinned (OpenSpec.upto golombPutsSpec)

/-- 'shinglelaw02.GolombBack', WHERE WHAT IT READS IS OF BULK AT MOST 1048576: true; the input reads as it did. -/
def golombBackUptoRow : OpenClaim := { program := "ytlhpaompaigkpaa", sum := "7c31ef1451d6c0412235600039c3bbae4ea78a81b1d9bab90de6cf1816429812", func := "shingle/shinglelaw02.GolombBack", spec := "golombBack", apart := false, narrowed := true }
def GolombBackUptoSaid : Prop := golombBackUptoRow.holds Try.pinned (OpenSpec.upto golombBackSpec)

/-- 'shinglelaw02.GolombGets', WHERE WHAT IT READS IS OF BULK AT MOST 1048576: true; the input reads as it did. -/
def golombGetsUptoRow : OpenClaim := { program := "ytlhpaompaigkpaa", sum := "7c31ef1451d6c0412235600039c3bbae4ea78a81b1d9bab90de6cf1816429812", func := "shingle/shinglelaw02.GolombGets", spec := "golombGets", apart := false, narrowed := true }
def GolombGetsUptoSaid : Prop := golombGetsUptoRow.holds Try.pinned (OpenSpec.upto golombGetsSpec)

end Rows
end Go.Proofs.Ytlhpaompaigkpaa
