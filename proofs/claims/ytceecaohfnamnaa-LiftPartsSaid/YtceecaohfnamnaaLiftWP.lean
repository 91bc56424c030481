/- The walk of LiftParts: joined. -/
import Derived.Test.YtceecaohfnamnaaLiftWP1
import Derived.Test.YtceecaohfnamnaaLiftWP2
import Derived.Test.YtceecaohfnamnaaLiftWP3
import Derived.Test.YtceecaohfnamnaaLiftWP4
import Derived.Test.YtceecaohfnamnaaLiftWP5
namespace Go.Proofs.Ytceecaohfnamnaa
open Go.RowKit
set_option linter.unusedVariables false
set_option linter.unusedSimpArgs false

namespace liftParts
theorem liftParts_walk (xs ys : List Int) (v0 v1 : Value) (W : World) (h0 : IsInts W v0 xs) (h1 : IsInts W v1 ys) :
    Calls Try.prog 4 #[v0, v1] W fun e W' => e = .returned (.bool true) ∧ Below W.heap.size W W' := by
  obtain ⟨A, c, rfl, hR, hm, _⟩ := h0
  obtain ⟨B, d, rfl, hY, hn, _⟩ := h1
  unfold maxLen at hm hn
  have hm : xs.length ≤ 9223372036854775807 := by omega
  have hn : ys.length ≤ 9223372036854775807 := by omega
  by_cases hl : 300 < xs.length ∨ 300 < ys.length
  · exact parts_long A B c d xs ys W hR hY hm hn hl
  · by_cases ho : xs.length = 0 ∨ xs.length % 2 = 1
    · by_cases he : xs.length = ys.length
      · exact parts_odd_same A B c d xs ys W hR hY hm hn (by omega) (by omega) ho he
      · exact parts_odd_diff A B c d xs ys W hR hY hm hn (by omega) (by omega) ho he
    · by_cases he : xs.length = ys.length
      · exact parts_even_same A B c d xs ys W hR hY hm hn (by omega) (by omega) (by omega) (by omega) he
      · exact parts_even_diff A B c d xs ys W hR hY hm hn (by omega) (by omega) (by omega) (by omega) he
end liftParts
end Go.Proofs.Ytceecaohfnamnaa
