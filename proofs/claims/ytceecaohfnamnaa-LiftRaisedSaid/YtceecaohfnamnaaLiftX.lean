/- A flat line, there: its high part is nothing, its low part is flat. -/
import Derived.Test.YtceecaohfnamnaaLiftV
import Derived.Test.YtceecaohfnamnaaOpenInts
namespace Go.Proofs.Ytceecaohfnamnaa
open Go.RowKit
set_option linter.unusedVariables false
set_option linter.unusedSimpArgs false

theorem IsInt.bd32 {v : Value} {n : Int} (h : IsInt .i32 v n) : -2147483648 ≤ n ∧ n ≤ 2147483647 := by
  have := h.2
  simp [Lit.wf, IntKind.min, IntKind.max, IntKind.signed, IntKind.bits] at this
  omega
theorem fwdZ_length {f : Int} {xs : List Int} (hf : rightF f = true) (hl : rightL xs.length = true) : (fwdZ f xs).length = xs.length := by
  rw [show fwdZ f xs = allZ 0 1 (stepZ f false) (allZ 1 (-1) (stepZ f true) xs) from if_pos ⟨hf, hl⟩, allZ_length, allZ_length]
theorem invZ_length {f : Int} {xs : List Int} (hf : rightF f = true) (hl : rightL xs.length = true) : (invZ f xs).length = xs.length := by
  rw [show invZ f xs = allZ 1 1 (stepZ f true) (allZ 0 (-1) (stepZ f false) xs) from if_pos ⟨hf, hl⟩, allZ_length, allZ_length]
theorem atZ_zero {xs : List Int} (h : ∀ j, rdn xs j = 0) (i : Int) : atZ xs i = 0 := by
  unfold atZ
  split
  · exact h _
  · split <;> exact h _
theorem step_zero (f : Int) (odd : Bool) {xs : List Int} (h : ∀ j, rdn xs j = 0) (i : Int) : stepZ f odd xs i = 0 := by
  unfold stepZ fourZ twoZ
  simp only [atZ_zero h]
  cases odd <;> simp <;> (repeat' split) <;> (first | rfl | (unfold wrap64; omega))
theorem all_zero (f : Int) (odd : Bool) (p : Nat) (sg : Int) {xs : List Int} (h : ∀ j, rdn xs j = 0) (j : Nat) : rdn (allZ p sg (stepZ f odd) xs) j = 0 := by
  by_cases hj : j < xs.length
  · rw [rdn_allZ _ _ _ _ _ hj, step_zero f odd h, h]
    split
    · rw [Int.mul_zero]; unfold wrap64; omega
    · rfl
  · unfold rdn
    rw [List.getD_eq_getElem?_getD, List.getElem?_eq_none (by rw [allZ_length]; omega)]
    simp
theorem fwd_zero (f : Int) {xs : List Int} (h : ∀ j, rdn xs j = 0) (j : Nat) : rdn (fwdZ f xs) j = 0 := by
  unfold fwdZ
  split
  · exact all_zero f false 0 1 (all_zero f true 1 (-1) h) j
  · simp [rdn]
theorem fwd_flat (f v : Int) (n : Nat) (hl : rightL n = true) (hf : rightF f = true) (hv : -2147483648 ≤ v ∧ v ≤ 2147483647) :
    ∀ j, j < n → rdn (fwdZ f (fillL n (fun _ => v) n)) j = if j % 2 = 1 then 0 else v := by
  have l0 : (tab n fun _ => (0 : Int)).length = n := tab_length _ _
  have h0 : ∀ j, rdn (tab n fun _ => (0 : Int)) j = 0 := by
    intro j
    by_cases hj : j < n
    · exact rdn_tab _ _ hj
    · unfold rdn
      rw [List.getD_eq_getElem?_getD, List.getElem?_eq_none (by rw [l0]; omega)]
      simp
  have e : fillL n (fun _ => v) n = upZ v (tab n fun _ => 0) := by
    apply ext_rdn
    · rw [fillL_length]; unfold upZ; rw [tab_length, l0]
    · intro i hi
      rw [fillL_length] at hi
      unfold upZ
      rw [rdn_tab _ _ (by rw [l0]; exact hi), h0]
      simp [rdn, fillL, List.getD_eq_getElem?_getD, hi]
  intro j hj
  rw [e, fwd_up f v _ (by rw [l0]; exact hl) hf (fun j => by rw [h0]; omega) hv j (by rw [l0]; exact hj), fwd_zero f h0]
  split <;> omega

end Go.Proofs.Ytceecaohfnamnaa
