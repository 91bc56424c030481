/- Planes: two planes joined, number by number. -/
import Derived.Test.YtjlajggilcihoaaPl2
namespace Go.Proofs.Ytjlajggilcihoaa
open Go.RowKit
set_option linter.unusedVariables false
set_option linter.unusedSimpArgs false




end Go.Proofs.Ytjlajggilcihoaa
