/- What a function to be ranged over owes to a function that it is handed. -/
import Derived.Test.YtiedjeholmoccaaRng
namespace Go.Proofs.Ytiedjeholmoccaa
open Go.RowKit Go.Shelf
set_option linter.unusedVariables false
def SqF (P : Program) (gf : Nat) (lb : Array Value) (kf : Nat) (caps : Array Value) (K : Nat → Prop) (N : Nat) (El : Nat → Array Value → World → Prop) (w : World) : Prop :=
  ∀ (J : Nat → World → Prop) (Jx : World → Prop) (W : World), Below w.heap.size w W → (∀ k A B, J k A → Below A.heap.size A B → J k B) →
    (∀ k args W1, k < N → J k W1 → KeepB K W W1 → W.heap.size ≤ W1.heap.size → El k args W1 → Calls P kf (args ++ caps) W1 fun e W' =>
      (e = .returned (.bool true) ∧ J (k + 1) W' ∧ KeepB K W1 W') ∨ (e = .returned (.bool false) ∧ Jx W')) →
    J 0 W → Calls P gf (#[.func (.func kf) #[] caps] ++ lb) W fun e W' => (∃ v, e = .returned v) ∧ (J N W' ∨ Jx W')
end Go.Proofs.Ytiedjeholmoccaa
