/- What first of the laws of layer 2 answers: true. -/
import Derived.Test.YtgdlleoefncikaaGol4
namespace Go.Proofs.Ytgdlleoefncikaa
open Go.RowKit
set_option linter.unusedVariables false
set_option linter.unusedSimpArgs false

section
variable {w w' W : World} {B B2 g gr gx gq : Nat} {bs : List Bool} {xs : List Int} {a o b q : Nat} {cs : Array Value}
theorem RrI.rgoes (h : RrI w B gx bs b q) (hr : RdI w B2 gr xs a o) (hg : RGoes w w' gr) : RrI w' B gx bs b q := by
  obtain ⟨rv, _, hb, _⟩ := hr
  exact ⟨h.1, Blk.grown h.2 hg (fun e => Blk.ne_ h.2 hb (by decide) (by injection e))⟩
theorem RdI.rgoes (h : RdI w B gr xs a o) (hx : RrI w B2 gx bs b q) (hg : RGoes w w' gx) : RdI w' B gr xs a o := by
  obtain ⟨rv, h1, h2, h3⟩ := h
  exact ⟨rv, h1, Blk.grown h2 hg (fun e => Blk.ne_ h2 hx.2 (by decide) (by injection e)), OwnB.grown h3 hg (.inr (own_blk_ne h3 hx.2 (by decide)))⟩
theorem RrI.below (h : RrI w B gx bs b q) (hg : RGoes w w' gx) (hB : B ≤ w.heap.size) : Below B w w' :=
  ⟨hg.os, hg.tape, hg.output, hg.size, fun k hk => hg.block k (by omega) (fun e => by have := h.1; injection e with e; omega)⟩
end
theorem bits_first : [] ++ codeB 3 ++ signB (-1) = [false, false, false, false, true, false, false, true, true] := by decide +kernel
theorem goG_first : goG (unp [9, 128]) 0 1 31 = (3, true, 5) := by decide +kernel
theorem goS_first : goS (unp [9, 128]) 5 = (-1, true, 9) := by decide +kernel


end Go.Proofs.Ytgdlleoefncikaa
