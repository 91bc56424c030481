/- Planes: their places and rows, told one by one. -/
import Derived.Test.YtjlajggilcihoaaPl4
import Derived.Test.YtjlajggilcihoaaRng
import Derived.Deep.DeepCutAuto
import Derived.Deep.CutBlock
namespace Go.Proofs.Ytjlajggilcihoaa
open Go.RowKit Go.Shelf
set_option linter.unusedVariables false
set_option linter.unusedSimpArgs false
attribute [local go_sem] Oper.semAt_some


/-- The k-th place of a plane that is a wide. -/
def PtEl (a : Nat) (k : Nat) (args : Array Value) (_ : World) : Prop := args = #[.int .i64 ((k % a : Nat) : Int), .int .i64 ((k / a : Nat) : Int)]


/-- The closure cf of a plane made: what it tells of each place. -/
def Tells (F : Nat) (pb : Value) (f : Int → Int → Int) (w : World) : Prop := ∀ W x y, Below w.heap.size w W → Calls Try.prog F #[.int .i64 x, .int .i64 y, pb] W fun e w' => e = .returned (.int .i64 (f x y)) ∧ Below W.heap.size W w'
def madeL (a b : Nat) (f : Int → Int → Int) (k : Nat) : List Int := fillL (a * b) (fun k => f ((k % a : Nat) : Int) ((k / a : Nat) : Int)) k


end Go.Proofs.Ytjlajggilcihoaa
