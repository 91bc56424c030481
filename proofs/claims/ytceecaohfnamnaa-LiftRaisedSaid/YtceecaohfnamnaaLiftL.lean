/- What is done to a line is taken back. -/
import Derived.Test.YtceecaohfnamnaaLiftF
namespace Go.Proofs.Ytceecaohfnamnaa
open Go.RowKit
set_option linter.unusedVariables false
set_option linter.unusedSimpArgs false

theorem wrap_undo {x s : Int} (h : wrap64 x = x) : wrap64 (wrap64 (x + wrap64 (1 * s)) + wrap64 (-1 * s)) = x ∧ wrap64 (wrap64 (x + wrap64 (-1 * s)) + wrap64 (1 * s)) = x := by
  simp only [wrap64_add_l, wrap64_add_r, Int.one_mul, Int.neg_one_mul]
  rw [show x + s + -s = x by omega, show x + -s + s = x by omega]
  exact ⟨h, h⟩
theorem undo (p : Nat) (sg : Int) (hsg : sg = 1 ∨ sg = -1) (S : List Int → Int → Int) (xs : List Int) (hin : In64 xs) (hS : Apart S xs p) : allZ p (-sg) S (allZ p sg S xs) = xs := by
  have hl := allZ_length p sg S xs
  have hr : ∀ j, j < xs.length → rdn (allZ p sg S xs) j = if j % 2 = p then wrap64 (rdn xs j + wrap64 (sg * S xs j)) else rdn xs j := fun j hj => rdn_tab _ _ hj
  apply ext_rdn
  · rw [allZ_length, hl]
  · intro i hi
    rw [allZ_length, hl] at hi
    have e : rdn (allZ p (-sg) S (allZ p sg S xs)) i = if i % 2 = p then wrap64 (rdn (allZ p sg S xs) i + wrap64 (-sg * S (allZ p sg S xs) i)) else rdn (allZ p sg S xs) i := rdn_tab _ _ (by rw [hl]; exact hi)
    rw [e, hr i hi]
    by_cases hp : i % 2 = p
    · rw [if_pos hp, if_pos hp, hS _ hl (fun j hj hne => by rw [hr j hj, if_neg hne]) i hi hp]
      have := @wrap_undo (rdn xs i) (S xs i) (hin i)
      rcases hsg with rfl | rfl
      · exact this.1
      · exact this.2
    · rw [if_neg hp, if_neg hp]
theorem inv_fwd (f : Int) (xs : List Int) (hin : In64 xs) (hf : rightF f = true) (hl : rightL xs.length = true) : invZ f (fwdZ f xs) = xs := by
  have ⟨hn, he⟩ : 2 ≤ xs.length ∧ xs.length % 2 = 0 := of_decide_eq_true hl
  have l1 := allZ_length 1 (-1) (stepZ f true) xs
  have h1 : fwdZ f xs = allZ 0 1 (stepZ f false) (allZ 1 (-1) (stepZ f true) xs) := if_pos ⟨hf, hl⟩
  have h2 : invZ f (fwdZ f xs) = allZ 1 1 (stepZ f true) (allZ 0 (-1) (stepZ f false) (fwdZ f xs)) := if_pos ⟨hf, by rw [h1, allZ_length, l1]; exact hl⟩
  rw [h2, h1, undo 0 1 (.inl rfl) _ _ (in64_all hin _ _ _) (step_apart f false _ (by omega) (by omega))]
  exact undo 1 (-1) (.inr rfl) _ _ hin (step_apart f true _ hn he)
theorem fwd_inv (f : Int) (xs : List Int) (hin : In64 xs) (hf : rightF f = true) (hl : rightL xs.length = true) : fwdZ f (invZ f xs) = xs := by
  have ⟨hn, he⟩ : 2 ≤ xs.length ∧ xs.length % 2 = 0 := of_decide_eq_true hl
  have l1 := allZ_length 0 (-1) (stepZ f false) xs
  have h1 : invZ f xs = allZ 1 1 (stepZ f true) (allZ 0 (-1) (stepZ f false) xs) := if_pos ⟨hf, hl⟩
  have h2 : fwdZ f (invZ f xs) = allZ 0 1 (stepZ f false) (allZ 1 (-1) (stepZ f true) (invZ f xs)) := if_pos ⟨hf, by rw [h1, allZ_length, l1]; exact hl⟩
  rw [h2, h1, undo 1 1 (.inl rfl) _ _ (in64_all hin _ _ _) (step_apart f true _ (by omega) (by omega))]
  exact undo 0 (-1) (.inr rfl) _ _ hin (step_apart f false _ hn he)

end Go.Proofs.Ytceecaohfnamnaa
