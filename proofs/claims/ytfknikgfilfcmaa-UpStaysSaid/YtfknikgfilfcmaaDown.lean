/- A number divided and rounded down, as layer 8's reference does it (the texts of layer 8 hold the same in XRef8). -/
import Derived.Test.YtfknikgfilfcmaaOwn2
namespace Go.Proofs.Ytfknikgfilfcmaa
open Go.RowKit
set_option linter.unusedVariables false
set_option linter.unusedSimpArgs false

theorem floor_neg {v p : Int} (hp : 1 ≤ p) (hv : v < 0) : v / p = if v.tmod p < 0 then v.tdiv p - 1 else v.tdiv p := by
  have h1 : v.tdiv p = -((-v) / p) := by
    rw [← Int.tdiv_eq_ediv_of_nonneg (by omega : 0 ≤ -v), Int.neg_tdiv]
    omega
  have h2 : v.tmod p = -((-v) % p) := by
    rw [← Int.tmod_eq_emod_of_nonneg (by omega : 0 ≤ -v), Int.neg_tmod]
    omega
  rw [h1, h2]
  have e := Int.mul_ediv_add_emod (-v) p
  have r0 := Int.emod_nonneg (-v) (b := p) (by omega)
  have r1 := Int.emod_lt_of_pos (-v) (b := p) (by omega)
  generalize (-v) / p = q at *
  generalize (-v) % p = r at *
  split
  · have e2 : v = (p - r) + p * (-q - 1) := by rw [Int.mul_sub, Int.mul_neg, Int.mul_one]; omega
    rw [e2, Int.add_mul_ediv_left _ _ (by omega), Int.ediv_eq_zero_of_lt (by omega) (by omega)]
    omega
  · have e2 : v = p * (-q) := by rw [Int.mul_neg]; omega
    rw [e2, Int.mul_ediv_cancel_left _ (by omega)]
theorem tdiv_bd {v p : Int} (hp : 1 ≤ p) (hv : v < 0) (hl : -9223372036854775808 ≤ v) : -9223372036854775808 ≤ v.tdiv p ∧ v.tdiv p ≤ 0 ∧ (v.tmod p < 0 → -9223372036854775807 ≤ v.tdiv p) := by
  have h1 : v.tdiv p = -((-v) / p) := by
    rw [← Int.tdiv_eq_ediv_of_nonneg (by omega : 0 ≤ -v), Int.neg_tdiv]
    omega
  have h2 : v.tmod p = -((-v) % p) := by
    rw [← Int.tmod_eq_emod_of_nonneg (by omega : 0 ≤ -v), Int.neg_tmod]
    omega
  rw [h1, h2]
  have q0 : 0 ≤ (-v) / p := Int.ediv_nonneg (by omega) (by omega)
  have e := Int.mul_ediv_add_emod (-v) p
  have r0 := Int.emod_nonneg (-v) (b := p) (by omega)
  have hm : (-v) / p ≤ p * ((-v) / p) := by
    have := Int.mul_le_mul_of_nonneg_right hp q0
    omega
  refine ⟨by omega, by omega, fun h => by omega⟩

theorem rdown_c (v p : Int) (w : World) (hp : 1 ≤ p) (hp2 : p ≤ 9223372036854775807) (hl : -9223372036854775808 ≤ v) (hh : v ≤ 9223372036854775807) :
    Calls Try.prog 26 #[.int .i64 v, .int .i64 p] w fun e w' => e = .returned (.int .i64 (v / p)) ∧ w = w' := by
  by_cases h0 : 0 ≤ v
  · have q0 : 0 ≤ v / p := Int.ediv_nonneg h0 (by omega)
    have q1 : v / p ≤ v := Int.ediv_le_self _ h0
    have r0 := Int.emod_nonneg v (b := p) (by omega)
    go_enter Try.func26, Try.ntmps26
    go_wp2
    go_ret
    exact ⟨rfl, rfl⟩
  · have hv : v < 0 := by omega
    have hfl := floor_neg hp hv
    have ⟨b1, b2, b3⟩ := tdiv_bd hp hv hl
    have Hf := Lib.hid hfl
    clear hfl
    by_cases hr : v.tmod p < 0
    · have b4 := b3 hr
      clear b3
      go_enter Try.func26, Try.ntmps26
      go_wp2
      go_ret
      rw [Hf.out, if_pos hr]
      exact ⟨rfl, rfl⟩
    · clear b3
      go_enter Try.func26, Try.ntmps26
      go_wp2
      go_ret
      rw [Hf.out, if_neg (by omega)]
      exact ⟨rfl, rfl⟩

end Go.Proofs.Ytfknikgfilfcmaa
