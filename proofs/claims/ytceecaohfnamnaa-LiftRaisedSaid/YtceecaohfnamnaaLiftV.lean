/- A line that is raised as a whole, there: its high part stays, its low part is raised. -/
import Derived.Test.YtceecaohfnamnaaLiftU
namespace Go.Proofs.Ytceecaohfnamnaa
open Go.RowKit
set_option linter.unusedVariables false
set_option linter.unusedSimpArgs false

theorem rdn_allZ (p : Nat) (sg : Int) (S : List Int → Int → Int) (xs : List Int) (j : Nat) (hj : j < xs.length) : rdn (allZ p sg S xs) j = if j % 2 = p then wrap64 (rdn xs j + wrap64 (sg * S xs j)) else rdn xs j := rdn_tab _ _ hj
theorem even_bd (f : Int) (xs : List Int) (h : Small 46161896180547584 xs) (i : Int) : -1000000000000000000 ≤ stepZ f false xs i ∧ stepZ f false xs i ≤ 1000000000000000000 := by
  have a1 := atZ_small h (i - 1)
  have a2 := atZ_small h (i + 1)
  have a3 := atZ_small h (i - 3)
  have a4 := atZ_small h (i + 3)
  unfold stepZ fourZ twoZ
  simp only [Bool.false_eq_true, if_false]
  split
  · rw [wrap64_id (by omega) (by omega)]; omega
  · split
    · rw [wrap64_id (by omega) (by omega)]; omega
    · rw [wrap64_id (by omega) (by omega)]; omega
theorem fwd_up (f b : Int) (xs : List Int) (hl : rightL xs.length = true) (hf : rightF f = true) (h : Small 1125899906842624 xs) (hb : -2147483648 ≤ b ∧ b ≤ 2147483647) :
    ∀ j, j < xs.length → rdn (fwdZ f (upZ b xs)) j = if j % 2 = 1 then rdn (fwdZ f xs) j else rdn (fwdZ f xs) j + b := by
  have ⟨hn, he⟩ : 2 ≤ xs.length ∧ xs.length % 2 = 0 := of_decide_eq_true hl
  have lu : (upZ b xs).length = xs.length := tab_length _ _
  have ru : ∀ j, j < xs.length → rdn (upZ b xs) j = rdn xs j + b := fun j hj => rdn_tab _ _ hj
  obtain ⟨H, eH⟩ : ∃ H, allZ 1 (-1) (stepZ f true) xs = H := ⟨_, rfl⟩
  obtain ⟨G, eG⟩ : ∃ G, allZ 1 (-1) (stepZ f true) (upZ b xs) = G := ⟨_, rfl⟩
  have lH : H.length = xs.length := by rw [← eH]; exact allZ_length _ _ _ _
  have lG : G.length = xs.length := by rw [← eG, allZ_length, lu]
  have rH : ∀ j, j < xs.length → rdn H j = if j % 2 = 1 then rdn xs j - stepZ f true xs j else rdn xs j := by
    intro j hj
    rw [← eH, rdn_allZ _ _ _ _ _ hj]
    have := h j
    have := (odd_up f b xs hn he h hb j).2
    split
    · rw [wrap64_id (n := -1 * _) (by omega) (by omega), wrap64_id (by omega) (by omega)]; omega
    · rfl
  have rG : ∀ j, j < xs.length → rdn G j = if j % 2 = 1 then rdn H j else rdn H j + b := by
    intro j hj
    rw [← eG, rdn_allZ _ _ _ _ _ (by rw [lu]; exact hj), ru j hj, rH j hj]
    have := h j
    have k := odd_up f b xs hn he h hb j
    split
    · rw [k.1, wrap64_id (n := -1 * _) (by omega) (by omega), wrap64_id (by omega) (by omega)]; omega
    · rfl
  have hS : Small 46161896180547584 H := by
    intro j
    by_cases hj : j < xs.length
    · rw [rH j hj]
      have := h j
      have := (odd_up f b xs hn he h hb j).2
      split <;> omega
    · unfold rdn
      rw [List.getD_eq_getElem?_getD, List.getElem?_eq_none (by omega)]
      simp
  have f1 : fwdZ f xs = allZ 0 1 (stepZ f false) H := by rw [← eH]; exact if_pos ⟨hf, hl⟩
  have f2 : fwdZ f (upZ b xs) = allZ 0 1 (stepZ f false) G := by rw [← eG]; exact if_pos ⟨hf, by rw [lu]; exact hl⟩
  intro j hj
  rw [f1, f2, rdn_allZ _ _ _ _ _ (by omega), rdn_allZ _ _ _ _ _ (by omega), rG j hj]
  by_cases hp : j % 2 = 0
  · rw [if_pos hp, if_pos hp, if_neg (by omega), if_neg (by omega)]
    have e := step_apart f false H (by omega) (by omega) G (by omega) (fun k hk hk2 => by rw [rG k (by omega), if_pos (by simp at hk2; omega)]) j (by omega) (by simpa using hp)
    have k := even_bd f H hS j
    have m := hS j
    rw [e, wrap64_id (n := 1 * _) (by omega) (by omega), wrap64_id (n := rdn H j + b + _) (by omega) (by omega), wrap64_id (n := rdn H j + _) (by omega) (by omega)]
    omega
  · rw [if_neg hp, if_neg hp, if_pos (by omega)]

end Go.Proofs.Ytceecaohfnamnaa
