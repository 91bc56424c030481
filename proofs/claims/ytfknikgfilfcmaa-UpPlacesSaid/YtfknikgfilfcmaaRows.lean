/-
  No cell of these rows narrows 'for every input' (looked for: loops, veiled, ifaces, maps, wideKeys, modest, calm, conditions, laid).
  DERIVED. THE GIVEN ROWS OF THIS SEAT. 3 by the template 'for every input the law returns true; each argument reads behind the call as it read before'; 0 by the template 'total and deterministic' (their statements: YtfknikgfilfcmaaTotals.lean).
  GIVEN WITH THE SEED: the statements are not yours to turn. If you find one false, say at which input.
  Laid BY PROGRAM, IN A SANDBOX (cutbox-rows.mjs): the forced cells as the released guide's own fill.sh prints them over the translation 254c94158ec28de9… (all of the seat's roots in one cut). By AI agents, Wed Nov 11 2026. No macro, syntax, notation, axiom, sorry.
-/
import Derived.Test.YtfknikgfilfcmaaChecked
import GoSem.Claim
import GoSem.ClaimJoined
import GoSem.ClaimMapViews
import Derived.JoinedTies
import Derived.KernelRfl
namespace Go.Proofs.Ytfknikgfilfcmaa
/- THE CELL 'sum', in the pinned program and in every row, IS THE sha256 OF THE DUMP (.gsa) THAT YtfknikgfilfcmaaProg.lean LOADS. Nothing in Lean hashes anything: it is a label: what it is worth is what the hold of that sum in a sandbox is worth. -/
noncomputable def Try.pinned : Pinned := { name := "ytfknikgfilfcmaa", sum := "254c94158ec28de96fb22ffa410f86280ff88a6316cef0d9969bab9a858fe96e", checked := Try.checked }
namespace Rows
def none {H : Type} : Left H := { results := [], args := [] }

/-- 'shinglelaw19.UpPlaces': WHATEVER THE INPUT: true; the input reads as it did. -/
def upPlacesSpec : ChangeSpec := { name := "upPlaces", fn := fun _ => fun
  | [d1, d2, d3] => { results := [.lit (.bool true)], args := [d1, d2, d3] }
  | _ => none }
def upPlacesRow : OpenClaim := { program := "ytfknikgfilfcmaa", sum := "254c94158ec28de96fb22ffa410f86280ff88a6316cef0d9969bab9a858fe96e", func := "shingle/shinglelaw19.UpPlaces", spec := "upPlaces", unfollowed := true, recurses := true, apart := false }
def UpPlacesSaid : Prop := upPlacesRow.holds Try.pinned (OpenSpec.ofChange upPlacesSpec)

/-- ITS FALSE NEIGHBOUR: 'it returns false'. Refute it at one input. -/
def upPlacesWrong : ChangeSpec := { name := "upPlaces", fn := fun _ => fun
  | [d1, d2, d3] => { results := [.lit (.bool false)], args := [d1, d2, d3] }
  | _ => none }
def UpPlacesWrongFalsely : Prop := upPlacesRow.holds Try.pinned (OpenSpec.ofChange upPlacesWrong)

/-- 'shinglelaw19.UpAll': WHATEVER THE INPUT: true; the input reads as it did. -/
def upAllSpec : ChangeSpec := { name := "upAll", fn := fun _ => fun
  | [d1, d2] => { results := [.lit (.bool true)], args := [d1, d2] }
  | _ => none }
def upAllRow : OpenClaim := { program := "ytfknikgfilfcmaa", sum := "254c94158ec28de96fb22ffa410f86280ff88a6316cef0d9969bab9a858fe96e", func := "shingle/shinglelaw19.UpAll", spec := "upAll", unfollowed := true, recurses := true, apart := false }
def UpAllSaid : Prop := upAllRow.holds Try.pinned (OpenSpec.ofChange upAllSpec)

/-- ITS FALSE NEIGHBOUR: 'it returns false'. Refute it at one input. -/
def upAllWrong : ChangeSpec := { name := "upAll", fn := fun _ => fun
  | [d1, d2] => { results := [.lit (.bool false)], args := [d1, d2] }
  | _ => none }
def UpAllWrongFalsely : Prop := upAllRow.holds Try.pinned (OpenSpec.ofChange upAllWrong)

/-- 'shinglelaw19.UpStays': WHATEVER THE INPUT: true; the input reads as it did. -/
def upStaysSpec : ChangeSpec := { name := "upStays", fn := fun _ => fun
  | [d1, d2, d3] => { results := [.lit (.bool true)], args := [d1, d2, d3] }
  | _ => none }
def upStaysRow : OpenClaim := { program := "ytfknikgfilfcmaa", sum := "254c94158ec28de96fb22ffa410f86280ff88a6316cef0d9969bab9a858fe96e", func := "shingle/shinglelaw19.UpStays", spec := "upStays", unfollowed := true, recurses := true, apart := false }
def UpStaysSaid : Prop := upStaysRow.holds Try.pinned (OpenSpec.ofChange upStaysSpec)

/-- ITS FALSE NEIGHBOUR: 'it returns false'. Refute it at one input. -/
def upStaysWrong : ChangeSpec := { name := "upStays", fn := fun _ => fun
  | [d1, d2, d3] => { results := [.lit (.bool false)], args := [d1, d2, d3] }
  | _ => none }
def UpStaysWrongFalsely : Prop := upStaysRow.holds Try.pinned (OpenSpec.ofChange upStaysWrong)

/- THE SECOND FORM. 'bulk': how many values and letters a reading holds, each counted each time it is reached (what is shared counts as often as it is met; a slice's spare places count too). A statement '..UptoSaid' is the law's where the arguments, and the package variables that the reading takes, are together of bulk at most 1048576: NARROWER than '..Said'. Prove '..Said' where nothing that the law and all that it calls make is longer than what came in: it says more and counts as full. Else prove '..UptoSaid'. A law counts once. -/
mutual
def uptoBulk {H : Type} : DataW H → Nat
  | .lit (.string bytes) => bytes.length + 1
  | .lit _ => 1
  | .nil => 1
  | .ptr d => uptoBulk d + 1
  | .slice elems spare => uptoBulkAll elems + uptoBulkAll spare + 1
  | .agg parts => uptoBulkAll parts + 1
  | .iface _ d => uptoBulk d + 1
  | .map entries => uptoBulkEntries entries + 1
  | .held _ => 1
def uptoBulkAll {H : Type} : List (DataW H) → Nat
  | [] => 0
  | d :: r => uptoBulk d + uptoBulkAll r
def uptoBulkEntries {H : Type} : List (Lit × DataW H) → Nat
  | [] => 0
  | x :: r => uptoBulkEntry x + uptoBulkEntries r
def uptoBulkEntry {H : Type} : Lit × DataW H → Nat
  | (.string bytes, d) => bytes.length + uptoBulk d + 1
  | (_, d) => uptoBulk d + 1
 end
def uptoSmall : (H : Type) → List (DataW H) → Bool := fun _ ds => decide (uptoBulkAll ds ≤ 1048576)
def OpenSpec.upto (s : _root_.Go.ChangeSpec) : _root_.Go.OpenSpec := { _root_.Go.OpenSpec.ofChange s with cond := some uptoSmall }

/-- 'shinglelaw19.UpPlaces', WHERE WHAT IT READS IS OF BULK AT MOST 1048576: true; the input reads as it did. -/
def upPlacesUptoRow : OpenClaim := { program := "ytfknikgfilfcmaa", sum := "254c94158ec28de96fb22ffa410f86280ff88a6316cef0d9969bab9a858fe96e", func := "shingle/shinglelaw19.UpPlaces", spec := "upPlaces", unfollowed := true, recurses := true, apart := false, narrowed := true }
def UpPlacesUptoSaid : Prop := upPlacesUptoRow.holds Try.pinned (OpenSpec.upto upPlacesSpec)

/-- 'shinglelaw19.UpAll', WHERE WHAT IT READS IS OF BULK AT MOST 1048576: true; the input reads as it did. -/
def upAllUptoRow : OpenClaim := { program := "ytfknikgfilfcmaa", sum := "254c94158ec28de96fb22ffa410f86280ff88a6316cef0d9969bab9a858fe96e", func := "shingle/shinglelaw19.UpAll", spec := "upAll", unfollowed := true, recurses := true, apart := false, narrowed := true }
def UpAllUptoSaid : Prop := upAllUptoRow.holds Try.pinned (OpenSpec.upto upAllSpec)

/-- 'shinglelaw19.UpStays', WHERE WHAT IT READS IS OF BULK AT MOST 1048576: true; the input reads as it did. -/
def upStaysUptoRow : OpenClaim := { program := "ytfknikgfilfcmaa", sum := "254c94158ec28de96fb22ffa410f86280ff88a6316cef0d9969bab9a858fe96e", func := "shingle/shinglelaw19.UpStays", spec := "upStays", unfollowed := true, recurses := true, apart := false, narrowed := true }
def UpStaysUptoSaid : Prop := upStaysUptoRow.holds Try.pinned (OpenSpec.upto upStaysSpec)

end Rows
end Go.Proofs.Ytfknikgfilfcmaa
