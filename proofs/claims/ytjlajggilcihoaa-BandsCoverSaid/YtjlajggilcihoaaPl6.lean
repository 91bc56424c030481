/- Planes: made, sized, padded, cropped, turned. -/
import Derived.Test.YtjlajggilcihoaaPl5
namespace Go.Proofs.Ytjlajggilcihoaa
open Go.RowKit Go.Shelf
set_option linter.unusedVariables false
set_option linter.unusedSimpArgs false

def madeP (w h : Int) (f : Int → Int → Int) : Pl := if sideB w = true ∧ sideB h = true then ⟨w, h, madeL w.toNat h.toNat f (w.toNat * h.toNat)⟩ else Pl.none_




/-- A plane of other sides, by the nearest places. -/
def sizedP (W H : Int) (V : List Int) (w h : Int) : Pl := madeP w h (fun x y => atP W H V x y)





def padP (W H : Int) (V : List Int) (x y : Int) : Pl := if okB W H V.length = true ∧ ¬ x < W ∧ ¬ y < H then sizedP W H V x y else Pl.none_





def cropP (W H : Int) (V : List Int) (x y : Int) : Pl := if okB W H V.length = true ∧ ¬ W < x ∧ ¬ H < y then sizedP W H V x y else Pl.none_




end Go.Proofs.Ytjlajggilcihoaa
