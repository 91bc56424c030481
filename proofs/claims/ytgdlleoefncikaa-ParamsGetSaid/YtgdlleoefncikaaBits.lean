/- Words on bits of whole numbers of 64 bits. -/
import Derived.Test.YtgdlleoefncikaaBase
import Derived.Laws.BitsAllLaws
import Derived.Laws.BitsLemmas
namespace Go.Proofs.Ytgdlleoefncikaa
open Go.RowKit
set_option linter.unusedVariables false

theorem ofInt64_toNat (x : Int) : (BitVec.ofInt 64 x).toNat = (x % 18446744073709551616).toNat := by
  rw [BitVec.toNat_ofInt]
  rfl
theorem i64_mask (x : Int) (k : Nat) (hk : k ≤ 62) : bits .and .i64 x (2 ^ k - 1) = x % 2 ^ k := by
  have hp : (2 : Nat) ^ k ≤ 2 ^ 62 := Nat.pow_le_pow_right (by omega) hk
  have hp0 : 0 < (2 : Nat) ^ k := Nat.pow_pos (by omega)
  have h2 : ((2 : Int) ^ k) = ((2 ^ k : Nat) : Int) := by simp
  show IntKind.i64.wrap ((BitVec.ofInt 64 x &&& BitVec.ofInt 64 (2 ^ k - 1)).toNat : Int) = _
  rw [BitVec.toNat_and, ofInt64_toNat, ofInt64_toNat]
  have e1 : (((2 : Int) ^ k - 1) % 18446744073709551616).toNat = 2 ^ k - 1 := by
    rw [h2]
    omega
  rw [e1, Nat.and_two_pow_sub_one_eq_mod]
  have e2 : (((x % 18446744073709551616).toNat % 2 ^ k : Nat) : Int) = x % 2 ^ k := by
    rw [Int.natCast_emod, Int.toNat_of_nonneg (Int.emod_nonneg _ (by omega)), h2]
    apply Int.emod_emod_of_dvd
    refine ⟨((2 ^ (64 - k) : Nat) : Int), ?_⟩
    rw [← Int.natCast_mul, ← Nat.pow_add, show k + (64 - k) = 64 by omega]
    rfl
  rw [e2, IntKind.wrap_i64, h2]
  have := Int.emod_nonneg x (b := ((2 ^ k : Nat) : Int)) (by omega)
  have := Int.emod_lt_of_pos x (b := ((2 ^ k : Nat) : Int)) (by omega)
  omega
theorem i64_and1 (x : Int) : bits .and .i64 x 1 = x % 2 := i64_mask x 1 (by omega)
theorem i64_and3 (x : Int) : bits .and .i64 x 3 = x % 4 := i64_mask x 2 (by omega)

end Go.Proofs.Ytgdlleoefncikaa
