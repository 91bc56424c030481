/-
  No cell of these rows narrows 'for every input' (looked for: loops, veiled, ifaces, maps, wideKeys, modest, calm, conditions, laid).
  DERIVED. THE GIVEN ROWS OF THIS SEAT. 3 by the template 'for every input the law returns true; each argument reads behind the call as it read before'; 0 by the template 'total and deterministic' (their statements: YtgdlleoefncikaaTotals.lean).
  GIVEN WITH THE SEED: the statements are not yours to turn. If you find one false, say at which input.
  Laid BY PROGRAM, IN A SANDBOX (cutbox-rows.mjs): the forced cells as the released guide's own fill.sh prints them over the translation 8210f0b9f300e6bf… (all of the seat's roots in one cut). By AI agents, Wed Nov 11 2026. No macro, syntax, notation, axiom, sorry.
-/
import Derived.Test.YtgdlleoefncikaaChecked
import GoSem.Claim
import GoSem.ClaimJoined
import GoSem.ClaimMapViews
import Derived.JoinedTies
import Derived.KernelRfl
namespace Go.Proofs.Ytgdlleoefncikaa
/- THE CELL 'sum', in the pinned program and in every row, IS THE sha256 OF THE DUMP (.gsa) THAT YtgdlleoefncikaaProg.lean LOADS. Nothing in Lean hashes anything: it is a label: what it is worth is what the hold of that sum in a sandbox is worth. -/
noncomputable def Try.pinned : Pinned := { name := "ytgdlleoefncikaa", sum := "8210f0b9f300e6bf03a7c3a15f167b7e9bd56631d997021c119d0fb08ec15c3f", checked := Try.checked }
namespace Rows
def none {H : Type} : Left H := { results := [], args := [] }

/-- 'shinglelaw28.ParamsPut': WHATEVER THE INPUT: true; the input reads as it did. -/
def paramsPutSpec : ChangeSpec := { name := "paramsPut", fn := fun _ => fun
  | [d1, d2] => { results := [.lit (.bool true)], args := [d1, d2] }
  | _ => none }
def paramsPutRow : OpenClaim := { program := "ytgdlleoefncikaa", sum := "8210f0b9f300e6bf03a7c3a15f167b7e9bd56631d997021c119d0fb08ec15c3f", func := "shingle/shinglelaw28.ParamsPut", spec := "paramsPut", apart := false }
def ParamsPutSaid : Prop := paramsPutRow.holds Try.pinned (OpenSpec.ofChange paramsPutSpec)

/-- ITS FALSE NEIGHBOUR: 'it returns false'. Refute it at one input. -/
def paramsPutWrong : ChangeSpec := { name := "paramsPut", fn := fun _ => fun
  | [d1, d2] => { results := [.lit (.bool false)], args := [d1, d2] }
  | _ => none }
def ParamsPutWrongFalsely : Prop := paramsPutRow.holds Try.pinned (OpenSpec.ofChange paramsPutWrong)

/-- 'shinglelaw28.ParamsGet': WHATEVER THE INPUT: true; the input reads as it did. -/
def paramsGetSpec : ChangeSpec := { name := "paramsGet", fn := fun _ => fun
  | [d] => { results := [.lit (.bool true)], args := [d] }
  | _ => none }
def paramsGetRow : OpenClaim := { program := "ytgdlleoefncikaa", sum := "8210f0b9f300e6bf03a7c3a15f167b7e9bd56631d997021c119d0fb08ec15c3f", func := "shingle/shinglelaw28.ParamsGet", spec := "paramsGet", apart := false }
def ParamsGetSaid : Prop := paramsGetRow.holds Try.pinned (OpenSpec.ofChange paramsGetSpec)

/-- ITS FALSE NEIGHBOUR: 'it returns false'. Refute it at one input. -/
def paramsGetWrong : ChangeSpec := { name := "paramsGet", fn := fun _ => fun
  | [d] => { results := [.lit (.bool false)], args := [d] }
  | _ => none }
def ParamsGetWrongFalsely : Prop := paramsGetRow.holds Try.pinned (OpenSpec.ofChange paramsGetWrong)

/-- 'shinglelaw28.ParamsBack': WHATEVER THE INPUT: true; the input reads as it did. -/
def paramsBackSpec : ChangeSpec := { name := "paramsBack", fn := fun _ => fun
  | [d1, d2] => { results := [.lit (.bool true)], args := [d1, d2] }
  | _ => none }
def paramsBackRow : OpenClaim := { program := "ytgdlleoefncikaa", sum := "8210f0b9f300e6bf03a7c3a15f167b7e9bd56631d997021c119d0fb08ec15c3f", func := "shingle/shinglelaw28.ParamsBack", spec := "paramsBack", apart := false }
def ParamsBackSaid : Prop := paramsBackRow.holds Try.pinned (OpenSpec.ofChange paramsBackSpec)

/-- ITS FALSE NEIGHBOUR: 'it returns false'. Refute it at one input. -/
def paramsBackWrong : ChangeSpec := { name := "paramsBack", fn := fun _ => fun
  | [d1, d2] => { results := [.lit (.bool false)], args := [d1, d2] }
  | _ => none }
def ParamsBackWrongFalsely : Prop := paramsBackRow.holds Try.pinned (OpenSpec.ofChange paramsBackWrong)

/- THE SECOND FORM. 'bulk': how many values and letters a reading holds, each counted each time it is reached (what is shared counts as often as it is met; a slice's spare places count too). A statement '..UptoSaid' is the law's where the arguments, and the package variables that the reading takes, are together of bulk at most 1048576: NARROWER than '..Said'. Prove '..Said' where nothing that the law and all that it calls make is longer than what came in: it says more and counts as full. Else prove '..UptoSaid'. A law counts once. -/
mutual
def uptoBulk {H : Type} : DataW H → Nat
  | .lit (.string bytes) => bytes.length + 1
  | .lit _ => 1
  | .nil => 1
  | .ptr d => uptoBulk d + 1
  | .slice elems spare => uptoBulkAll elems + uptoBulkAll spare + 1
  | .agg parts => uptoBulkAll parts + 1
  | .iface _ d => uptoBulk d + 1
  | .map entries => uptoBulkEntries entries + 1
  | .held _ => 1
def uptoBulkAll {H : Type} : List (DataW H) → Nat
  | [] => 0
  | d :: r => uptoBulk d + uptoBulkAll r
def uptoBulkEntries {H : Type} : List (Lit × DataW H) → Nat
  | [] => 0
  | x :: r => uptoBulkEntry x + uptoBulkEntries r
def uptoBulkEntry {H : Type} : Lit × DataW H → Nat
  | (.string bytes, d) => bytes.length + uptoBulk d + 1
  | (_, d) => uptoBulk d + 1
 end
def uptoSmall : (H : Type) → List (DataW H) → Bool := fun _ ds => decide (uptoBulkAll ds ≤ 1048576)
def OpenSpec.upto (s : _root_.Go.ChangeSpec) : _root_.Go.OpenSpec := { _root_.Go.OpenSpec.ofChange s with cond := some uptoSmall }

/-- 'shinglelaw28.ParamsPut', WHERE WHAT IT READS IS OF BULK AT MOST 1048576: true; the input reads as it did. -/
def paramsPutUptoRow : OpenClaim := { program := "ytgdlleoefncikaa", sum := "8210f0b9f300e6bf03a7c3a15f167b7e9bd56631d997021c119d0fb08ec15c3f", func := "shingle/shinglelaw28.ParamsPut", spec := "paramsPut", apart := false, narrowed := true }
def ParamsPutUptoSaid : Prop := paramsPutUptoRow.holds Try.pinned (OpenSpec.upto paramsPutSpec)

/-- 'shinglelaw28.ParamsGet', WHERE WHAT IT READS IS OF BULK AT MOST 1048576: true; the input reads as it did. -/
def paramsGetUptoRow : OpenClaim := { program := "ytgdlleoefncikaa", sum := "8210f0b9f300e6bf03a7c3a15f167b7e9bd56631d997021c119d0fb08ec15c3f", func := "shingle/shinglelaw28.ParamsGet", spec := "paramsGet", apart := false, narrowed := true }
def ParamsGetUptoSaid : Prop := paramsGetUptoRow.holds Try.pinned (OpenSpec.upto paramsGetSpec)

/-- 'shinglelaw28.ParamsBack', WHERE WHAT IT READS IS OF BULK AT MOST 1048576: true; the input reads as it did. -/
def paramsBackUptoRow : OpenClaim := { program := "ytgdlleoefncikaa", sum := "8210f0b9f300e6bf03a7c3a15f167b7e9bd56631d997021c119d0fb08ec15c3f", func := "shingle/shinglelaw28.ParamsBack", spec := "paramsBack", apart := false, narrowed := true }
def ParamsBackUptoSaid : Prop := paramsBackUptoRow.holds Try.pinned (OpenSpec.upto paramsBackSpec)

end Rows
end Go.Proofs.Ytgdlleoefncikaa
