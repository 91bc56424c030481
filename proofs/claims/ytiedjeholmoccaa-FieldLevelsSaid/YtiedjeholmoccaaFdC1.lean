/- Fields: how often each block was met by the first units. -/
import Derived.Test.YtiedjeholmoccaaFd14
namespace Go.Proofs.Ytiedjeholmoccaa
open Go.RowKit Go.Sort
set_option linter.unusedVariables false
set_option linter.unusedSimpArgs false

/-- How often the place p was met: by the first k units. -/
def covU (W : Nat) (us : List Un) (k p : Nat) : Int := match k with | 0 => 0 | k + 1 => covU W us k p + if inUn (unG us k) (p % W) (p / W) = true then 1 else 0
theorem covU_bd (W : Nat) (us : List Un) (k p : Nat) : 0 ≤ covU W us k p ∧ covU W us k p ≤ k := by
  induction k with
  | zero => exact ⟨Int.le_refl _, Int.le_refl _⟩
  | succ k ih =>
    show 0 ≤ covU W us k p + (if _ then 1 else 0) ∧ covU W us k p + (if _ then 1 else 0) ≤ _
    split <;> omega
theorem covU_take (W : Nat) (us : List Un) (p : Nat) : ∀ k, k ≤ us.length → covU W us k p = ((us.take k).countP fun u => inUn u (p % W) (p / W) : Nat)
  | 0, _ => by simp [covU]
  | k + 1, h => by
    have h1 : us[k]? = some us[k] := List.getElem?_eq_getElem (by omega)
    rw [take_next h1, List.countP_append]
    show covU W us k p + (if _ then 1 else 0) = _
    rw [covU_take W us p k (by omega), unG_lt (by omega)]
    simp only [List.countP_cons, List.countP_nil]
    push_cast
    split <;> simp
theorem covU_all {a d : Nat} {S : List Int} {K : List Bk} (ha : 0 < a) (hl : S.length = a * d) (hS : ∀ k, k < S.length → 0 ≤ rdn S k ∧ rdn S k ≤ 2) (hK : K.length = 16 * (a * d)) {p : Nat} (hp : p < K.length) : covU (4 * a) (unsL a S) (unsL a S).length p = 1 := by
  rw [covU_take _ _ _ _ (Nat.le_refl _), List.take_length, fl_count ha hl hS hK hp]
  rfl
def seenL (W : Nat) (us : List Un) (n k : Nat) : List Int := tab n (covU W us k)
theorem seenL_length (W : Nat) (us : List Un) (n k : Nat) : (seenL W us n k).length = n := tab_length _ _
theorem seenL_zero (W : Nat) (us : List Un) (n : Nat) : seenL W us n 0 = List.replicate n 0 := by
  rw [← tab_zero]
  exact tab_congr fun i _ => rfl
/-- In the midst of a unit: y rows of it and x places more were met. -/
def midS (W : Nat) (us : List Un) (n k ux uy s y x : Nat) : List Int := tab n fun p => covU W us k p + if ux ≤ p % W ∧ p % W < ux + s ∧ uy ≤ p / W ∧ (p / W < uy + y ∨ p / W = uy + y ∧ p % W < ux + x) then 1 else 0
theorem midS_length (W : Nat) (us : List Un) (n k ux uy s y x : Nat) : (midS W us n k ux uy s y x).length = n := tab_length _ _
theorem midS_zero (W : Nat) (us : List Un) (n k ux uy s : Nat) : midS W us n k ux uy s 0 0 = seenL W us n k := by
  unfold midS seenL
  exact tab_congr fun i _ => by rw [if_neg (by omega)]; omega
theorem midS_row (W : Nat) (us : List Un) (n k ux uy s y : Nat) : midS W us n k ux uy s y s = midS W us n k ux uy s (y + 1) 0 := by
  unfold midS
  refine tab_congr fun i _ => ?_
  congr 1
  by_cases h : ux ≤ i % W ∧ i % W < ux + s ∧ uy ≤ i / W ∧ (i / W < uy + y ∨ i / W = uy + y ∧ i % W < ux + s)
  · rw [if_pos h, if_pos (by omega)]
  · rw [if_neg h, if_neg (by omega)]
theorem midS_end (W : Nat) (us : List Un) (n : Nat) {k ux uy s : Nat} (hu : unG us k = ⟨ux, uy, s⟩) : midS W us n k ux uy s s 0 = seenL W us n (k + 1) := by
  unfold midS seenL
  refine tab_congr fun i _ => ?_
  show _ = covU W us k i + (if inUn (unG us k) (i % W) (i / W) = true then 1 else 0)
  congr 1
  rw [hu]
  have hin := inUn_iff (u := ⟨ux, uy, s⟩) (X := i % W) (Y := i / W)
  simp only at hin
  by_cases h : inUn ⟨ux, uy, s⟩ (i % W) (i / W) = true
  · rw [if_pos h, if_pos (by have := hin.1 h; omega)]
  · rw [if_neg h, if_neg (fun h' => h (hin.2 (by omega)))]
theorem midS_at {W : Nat} (us : List Un) {n : Nat} (k : Nat) {ux uy s y x : Nat} (hx : x < s) (hb : ux + s ≤ W) (hn : (uy + y) * W + ux + x < n) :
    rdn (midS W us n k ux uy s y x) ((uy + y) * W + ux + x) = covU W us k ((uy + y) * W + ux + x) ∧ (midS W us n k ux uy s y x).set ((uy + y) * W + ux + x) (covU W us k ((uy + y) * W + ux + x) + 1) = midS W us n k ux uy s y (x + 1) := by
  have e1 : ((uy + y) * W + ux + x) % W = ux + x := by rw [Nat.add_assoc, Nat.add_comm, Nat.add_mul_mod_self_right, Nat.mod_eq_of_lt (by omega)]
  have e2 : ((uy + y) * W + ux + x) / W = uy + y := by rw [Nat.add_assoc, Nat.add_comm, Nat.add_mul_div_right _ _ (by omega), Nat.div_eq_of_lt (by omega), Nat.zero_add]
  unfold midS
  constructor
  · have h := tab_at n (fun p => covU W us k p + if ux ≤ p % W ∧ p % W < ux + s ∧ uy ≤ p / W ∧ (p / W < uy + y ∨ p / W = uy + y ∧ p % W < ux + x) then 1 else 0) hn
    show (tab _ _).getD _ 0 = _
    rw [h]
    try simp only
    rw [e1, e2, if_neg (by omega)]
    omega
  · rw [tab_set]
    refine tab_congr fun i _ => ?_
    by_cases h : i = (uy + y) * W + ux + x
    · rw [if_pos h, h, e1, e2, if_pos (by omega)]
    · rw [if_neg h]
      congr 1
      by_cases h2 : ux ≤ i % W ∧ i % W < ux + s ∧ uy ≤ i / W ∧ (i / W < uy + y ∨ i / W = uy + y ∧ i % W < ux + x)
      · rw [if_pos h2, if_pos (by omega)]
      · rw [if_neg h2, if_neg]
        rintro ⟨h3, h4, h5, h6 | ⟨h6, h7⟩⟩
        · exact h2 ⟨h3, h4, h5, .inl h6⟩
        · by_cases h8 : i % W < ux + x
          · exact h2 ⟨h3, h4, h5, .inr ⟨h6, h8⟩⟩
          · have := Nat.div_add_mod' i W
            rw [h6] at this
            omega
theorem fl_place {a d ux uy s y x n : Nat} (hn : n = 16 * (a * d)) (hx : ux + s ≤ 4 * a) (hy : uy + s ≤ 4 * d) (h1 : x < s) (h2 : y < s) : (uy + y) * (4 * a) + ux + x < n := by
  have := lay_lt hn hx hy h1 h2
  omega
end Go.Proofs.Ytiedjeholmoccaa
