/- A line that is raised as a whole: its high part stays, its low part is raised. -/
import Derived.Test.YtceecaohfnamnaaLiftL
namespace Go.Proofs.Ytceecaohfnamnaa
open Go.RowKit
set_option linter.unusedVariables false
set_option linter.unusedSimpArgs false

def upZ (b : Int) (xs : List Int) : List Int := tab xs.length fun j => rdn xs j + b
def Small (m : Int) (xs : List Int) : Prop := ∀ j, -m ≤ rdn xs j ∧ rdn xs j ≤ m
theorem atZ_up (b : Int) (xs : List Int) (hn : 2 ≤ xs.length) (he : xs.length % 2 = 0) (i : Int) : atZ (upZ b xs) i = atZ xs i + b := by
  have hl : (upZ b xs).length = xs.length := tab_length _ _
  have hr : ∀ j, j < xs.length → rdn (upZ b xs) j = rdn xs j + b := fun j hj => rdn_tab _ _ hj
  unfold atZ
  rw [hl]
  split
  · exact hr _ (by omega)
  · split
    · exact hr _ (by omega)
    · exact hr _ (by omega)
theorem atZ_small {m : Int} {xs : List Int} (h : Small m xs) (i : Int) : -m ≤ atZ xs i ∧ atZ xs i ≤ m := by
  unfold atZ
  split
  · exact h _
  · split <;> exact h _
theorem odd_up (f b : Int) (xs : List Int) (hn : 2 ≤ xs.length) (he : xs.length % 2 = 0) (h : Small 1125899906842624 xs) (hb : -2147483648 ≤ b ∧ b ≤ 2147483647) (i : Int) :
    stepZ f true (upZ b xs) i = stepZ f true xs i + b ∧ -45035996273704960 ≤ stepZ f true xs i ∧ stepZ f true xs i ≤ 45035996273704960 := by
  have a1 := atZ_small h (i - 1)
  have a2 := atZ_small h (i + 1)
  have a3 := atZ_small h (i - 3)
  have a4 := atZ_small h (i + 3)
  unfold stepZ fourZ twoZ
  simp only [atZ_up b xs hn he, if_true]
  split
  · rw [wrap64_id (by omega) (by omega), wrap64_id (by omega) (by omega)]
    omega
  · split
    · rw [wrap64_id (by omega) (by omega), wrap64_id (by omega) (by omega)]
      omega
    · omega

end Go.Proofs.Ytceecaohfnamnaa
