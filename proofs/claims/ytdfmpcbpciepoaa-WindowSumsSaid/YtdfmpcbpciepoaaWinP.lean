/- Plain laws of weights: a block's weights are their own mirror, lie from 1 to 8, and two neighbours' weights are 8 together. -/
import Derived.Test.YtdfmpcbpciepoaaWinL
namespace Go.Proofs.Ytdfmpcbpciepoaa
open Go.RowKit
set_option linter.unusedVariables false
set_option linter.unusedSimpArgs false

theorem wt_mirror {l s i : Int} (f la : Bool) (hw : wayB l s = true) (h0 : 0 ≤ i) (h1 : i < l) : wtF l s i f la = wtF l s (l - 1 - i) la f := by
  have ⟨g1, g2, g3, g4, g5⟩ := wayB_t hw
  unfold wtF
  rw [if_pos ⟨hw, h0, h1⟩, if_pos ⟨hw, by omega, by omega⟩]
  have e : l - 1 - (l - 1 - i) = i := by omega
  unfold wtZ
  rw [e]
  cases f <;> cases la <;> simp <;> (repeat' split) <;> first | rfl | omega
theorem wt_bd {l s i : Int} (f la : Bool) (hw : wayB l s = true) (h0 : 0 ≤ i) (h1 : i < l) : 1 ≤ wtF l s i f la ∧ wtF l s i f la ≤ 8 := by
  have ⟨g1, g2, g3, g4, g5⟩ := wayB_t hw
  have hr : ∀ j, 0 ≤ j → j < l - s → 1 ≤ rampZ ((l - s) / 2) j ∧ rampZ ((l - s) / 2) j ≤ 8 := by
    intro j j0 j1
    have := ramp_bd (o := (l - s) / 2) (i := j) (by omega) j0 (by omega)
    unfold rampZ
    split <;> omega
  unfold wtF
  rw [if_pos ⟨hw, h0, h1⟩]
  unfold wtZ
  (repeat' split) <;> first | omega | exact hr _ (by omega) (by omega)
theorem wt_more {l s i : Int} (hw : wayB l s = true) (h0 : 0 ≤ i) (h1 : i < l) : wtF l s i false false ≤ wtF l s i true false := by
  have hb := wt_bd false false hw h0 h1
  revert hb
  unfold wtF
  rw [if_pos ⟨hw, h0, h1⟩, if_pos ⟨hw, h0, h1⟩]
  unfold wtZ
  simp
  (repeat' split) <;> omega
theorem ramp_pair {o i : Int} (h1 : 1 ≤ o) (h2 : 0 ≤ i) (h3 : i < 2 * o) : rampZ o i + rampZ o (2 * o - 1 - i) = 8 := by
  unfold rampZ
  split
  · omega
  · have hm : 0 < 2 * o - 1 := by omega
    have e1 := Int.mul_ediv_add_emod (6 * i + o - 1) (2 * o - 1)
    have r0 := Int.emod_nonneg (6 * i + o - 1) (b := 2 * o - 1) (by omega)
    have r1 := Int.emod_lt_of_pos (6 * i + o - 1) hm
    generalize hq : (6 * i + o - 1) / (2 * o - 1) = q at *
    generalize hr : (6 * i + o - 1) % (2 * o - 1) = r at *
    have e2 : 6 * (2 * o - 1 - i) + o - 1 = (2 * o - 1 - 1 - r) + (2 * o - 1) * (6 - q) := by
      have e4 : (2 * o - 1) * (6 - q) = (2 * o - 1) * 6 - (2 * o - 1) * q := Int.mul_sub _ _ _
      rw [e4]
      omega
    have e3 : (6 * (2 * o - 1 - i) + o - 1) / (2 * o - 1) = 6 - q := by
      rw [e2, Int.add_mul_ediv_left _ _ (by omega), Int.ediv_eq_zero_of_lt (by omega) (by omega)]
      omega
    rw [e3]
    omega

end Go.Proofs.Ytdfmpcbpciepoaa
