/- The walk of LiftParts. -/
import Derived.Test.YtceecaohfnamnaaLiftF
import Derived.Test.YtceecaohfnamnaaOpenInts
namespace Go.Proofs.Ytceecaohfnamnaa
open Go.RowKit
set_option linter.unusedVariables false
set_option linter.unusedSimpArgs false

theorem everyK_length (xs : List Int) (p k : Nat) : (everyK xs p k).length = k := tab_length _ _
theorem weave_every (xs : List Int) (he : xs.length % 2 = 0) : weaveK (everyK xs 0 (xs.length / 2)) (everyK xs 1 (xs.length / 2)) (xs.length / 2) = xs := by
  apply ext_rdn
  · rw [weaveK_length]; omega
  · intro i hi
    rw [weaveK_length] at hi
    rw [weaveK_at _ _ _ _ hi]
    unfold everyK
    rw [rdn_tab _ _ (by omega), rdn_tab _ _ (by omega)]
    split
    · congr 1; omega
    · congr 1; omega
theorem every_weave0 (xs ys : List Int) : everyK (weaveK xs ys xs.length) 0 xs.length = xs := by
  apply ext_rdn
  · rw [everyK_length]
  · intro i hi
    rw [everyK_length] at hi
    unfold everyK
    rw [rdn_tab _ _ hi, weaveK_at _ _ _ _ (by omega), if_pos (by omega)]
    congr 1; omega
theorem every_weave1 (xs ys : List Int) (h : xs.length = ys.length) : everyK (weaveK xs ys xs.length) 1 xs.length = ys := by
  apply ext_rdn
  · rw [everyK_length, h]
  · intro i hi
    rw [everyK_length] at hi
    unfold everyK
    rw [rdn_tab _ _ hi, weaveK_at _ _ _ _ (by omega), if_neg (by omega)]
    congr 1; omega
end Go.Proofs.Ytceecaohfnamnaa
