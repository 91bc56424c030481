/- Params: videos and bases as numbers; what is other, the best base. -/
import Derived.Test.YtgdlleoefncikaaPar3
namespace Go.Proofs.Ytgdlleoefncikaa
open Go.RowKit
set_option linter.unusedVariables false
set_option linter.unusedSimpArgs false

structure Vd where
  W : Int
  H : Int
  C : Int
  B : Int
deriving DecidableEq
abbrev vdV (v : Vd) : Value := vid v.W v.H v.C v.B
def baseV : Nat → Vd
  | 0 => ⟨16, 16, 2, 8⟩
  | 1 => ⟨32, 24, 2, 8⟩
  | 2 => ⟨48, 32, 1, 8⟩
  | 3 => ⟨64, 48, 1, 10⟩
  | _ => ⟨128, 96, 0, 16⟩
def oth1 (v b : Vd) : Bool := v.W != b.W || v.H != b.H
def oth2 (v b : Vd) : Bool := v.C != b.C
def oth3 (v b : Vd) : Bool := v.B != b.B
def one (b : Bool) : Nat := if b = true then 1 else 0
/-- How many groups are other than a base's. -/
def othN (v : Vd) (i : Nat) : Nat := one (oth1 v (baseV i)) + one (oth2 v (baseV i)) + one (oth3 v (baseV i))
def othI (v : Vd) (i : Int) : Int := if 0 ≤ i ∧ i < 5 then (othN v i.toNat : Int) else 3
theorem othN_le (v : Vd) (i : Nat) : othN v i ≤ 3 := by
  unfold othN one
  split <;> split <;> split <;> omega
/-- The best of the first k bases. -/
def bstK (v : Vd) : Nat → Nat
  | 0 => 0
  | k + 1 => if othN v k < othN v (bstK v k) then k else bstK v k
def bestN (v : Vd) : Nat := bstK v 5
theorem bstK_lt (v : Vd) : ∀ k, k ≤ 5 → bstK v k < 5
  | 0, _ => by unfold bstK; omega
  | k + 1, h => by
    unfold bstK
    have := bstK_lt v k (by omega)
    split <;> omega
/-- No base has less that is other. -/
theorem bst_least (v : Vd) : ∀ k j, j < k → othN v (bstK v k) ≤ othN v j
  | k + 1, j, h => by
    unfold bstK
    by_cases e : j = k
    · subst e
      split <;> omega
    · have := bst_least v k j (by omega)
      split <;> omega
/-- The first that is best. -/
theorem bst_first (v : Vd) : ∀ k j, j < bstK v k → j < k → othN v (bstK v k) < othN v j
  | k + 1, j, h, h1 => by
    unfold bstK at h ⊢
    split at h
    · rename_i hlt
      rw [if_pos hlt]
      by_cases e : j = k
      · omega
      · have := bst_least v k j (by omega)
        omega
    · rename_i hlt
      rw [if_neg hlt]
      have hk : bstK v k ≤ k := by
        clear h hlt h1
        induction k with
        | zero => exact Nat.le_refl _
        | succ k ih => unfold bstK; split <;> omega
      exact bst_first v k j h (by omega)
theorem bestN_of {v : Vd} {i n : Nat} (hi : i < 5) (hn : othN v i = n) (h1 : ∀ j, j < 5 → n ≤ othN v j) (h2 : ∀ j, j < i → othN v j ≠ n) : bestN v = i := by
  unfold bestN
  have a := bstK_lt v 5 (Nat.le_refl _)
  have b := bst_least v 5 i hi
  have c := h1 _ a
  rcases Nat.lt_trichotomy (bstK v 5) i with h | h | h
  · have := h2 _ h
    omega
  · exact h
  · have := bst_first v 5 i h hi
    omega
theorem bestN_three {v : Vd} (h : ∀ j, j < 5 → 3 ≤ othN v j) : bestN v = 0 := bestN_of (n := 3) (by omega) (by have := othN_le v 0; have := h 0 (by omega); omega) h (fun j hj => by omega)

theorem pothers_c (v b : Vd) (w : World) :
    Calls Try.prog 20 #[vdV v, vdV b] w fun e w' => e = .returned (.agg #[.bool (oth1 v b), .bool (oth2 v b), .bool (oth3 v b)]) ∧ Below w.heap.size w w' := by
  obtain ⟨W, H, C, B⟩ := v
  obtain ⟨W', H', C', B'⟩ := b
  unfold oth1 oth2 oth3
  dsimp only
  by_cases hW : W = W'
  · subst hW
    have h := pothers_e W H C B H' C' B' w
    rw [show ((W != W) || (H != H')) = (H != H') by simp]
    exact h
  · have hW' : (W != W') = true := by simpa using hW
    have h := pothers_n W H C B W' H' C' B' w hW'
    rw [hW', Bool.true_or]
    exact h

end Go.Proofs.Ytgdlleoefncikaa
