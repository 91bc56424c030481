/- The law WindowSpans, over its arguments as they come. -/
import Derived.Test.YtdfmpcbpciepoaaWinS
import Derived.Test.YtdfmpcbpciepoaaOpenLaps
namespace Go.Proofs.Ytdfmpcbpciepoaa
open Go.RowKit
set_option linter.unusedVariables false
theorem windowSpans.windowSpans_walk (x : Int × Int × Int × Int) (n size : Int) (v0 v1 v2 : Value) (W : World) (h0 : IsLaps v0 x) (h1 : IsInt .i64 v1 n) (h2 : IsInt .i64 v2 size) :
    Calls Try.prog 4 #[v0, v1, v2] W fun e W' => e = .returned (.bool true) ∧ Below W.heap.size W W' := by
  obtain ⟨u0, u1, u2, u3, rfl, k0, k1, ⟨rfl, _⟩, ⟨rfl, _⟩⟩ := h0
  have hx := k0.bd.2
  have hy := k1.bd.2
  obtain ⟨rfl, _⟩ := k0
  obtain ⟨rfl, _⟩ := k1
  obtain ⟨rfl, _⟩ := h1
  obtain ⟨rfl, _⟩ := h2
  exact spans_c _ _ _ _ _ _ _ hx hy

end Go.Proofs.Ytdfmpcbpciepoaa
