/- The walk of BitsWrite, joined. -/
import Derived.Test.YtoiofnmodinpcaaBitsWW
namespace Go.Proofs.Ytoiofnmodinpcaa
open Go.RowKit
namespace bitsWrite
theorem bitsWrite_walk (ops : List (Int × Int × Int)) (v0 : Value) (W : World) (h0 : IsOps W v0 ops) :
    Calls Try.prog 3 #[v0] W fun e W' => e = .returned (.bool true) ∧ Below W.heap.size W W' := by
  obtain ⟨A, c, rfl, hm, hR, hbd⟩ := h0
  unfold maxLen at hm
  exact write_p A c ops W hR (by omega) hbd
end bitsWrite
end Go.Proofs.Ytoiofnmodinpcaa
