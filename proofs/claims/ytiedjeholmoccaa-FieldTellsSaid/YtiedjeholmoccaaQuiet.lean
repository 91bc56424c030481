/- Words for regions whose operations read and whose callees end in Below: facts in the worlds behind them. -/
import Derived.Test.YtiedjeholmoccaaWalk
import Derived.Lib.QuietBelow
import Derived.BigQuiet
namespace Go.Proofs.Ytiedjeholmoccaa
open Go.RowKit Go.Sort
set_option linter.unusedVariables false
section
variable {w : World} {g : Nat} {xs : List Int} {A : Option Addr} {t : TypeId} {cs : Array Value}
theorem qblk (h : Blk w g t cs) (d : Nat) (os : Array Obj) : Blk (grow (redrawn w d) os) g t cs := Blk.below h (below_regrown w d os) h.lt
theorem qread (h : ReadsI w A xs) (d : Nat) (os : Array Obj) : ReadsI (grow (redrawn w d) os) A xs := h.kept (below_regrown w d os)
end
end Go.Proofs.Ytiedjeholmoccaa
