/- Plain law: the weights of however many blocks are 8 together at each place. -/
import Derived.Test.YtdfmpcbpciepoaaWinP
namespace Go.Proofs.Ytdfmpcbpciepoaa
open Go.RowKit
set_option linter.unusedVariables false
set_option linter.unusedSimpArgs false

/-- What block b's first j weights give at a place. -/
def covJ (l s : Int) (n b : Nat) (j at_ : Int) : Int :=
  if 0 ≤ at_ - ((b : Int) * s - (l - s) / 2) ∧ at_ - ((b : Int) * s - (l - s) / 2) < j then wtF l s (at_ - ((b : Int) * s - (l - s) / 2)) (b == 0) ((b : Int) == (n : Int) - 1) else 0
def sumTo (l s : Int) (n : Nat) (at_ : Int) : Nat → Int
  | 0 => 0
  | b + 1 => sumTo l s n at_ b + covJ l s n b l at_

theorem covJ_bd {l s : Int} (n b : Nat) {j : Int} (at_ : Int) (hw : wayB l s = true) (hj : j ≤ l) : 0 ≤ covJ l s n b j at_ ∧ covJ l s n b j at_ ≤ 8 := by
  unfold covJ
  split
  · rename_i h
    have := wt_bd (i := at_ - ((b : Int) * s - (l - s) / 2)) (b == 0) ((b : Int) == (n : Int) - 1) hw h.1 (by omega)
    omega
  · omega
theorem sumTo_bd {l s : Int} (n : Nat) (at_ : Int) (hw : wayB l s = true) (b : Nat) : 0 ≤ sumTo l s n at_ b ∧ sumTo l s n at_ b ≤ 8 * b := by
  induction b with
  | zero => simp [sumTo]
  | succ b ih =>
    have := covJ_bd n b at_ hw (Int.le_refl l)
    simp only [sumTo]
    omega
theorem mul_two {c s : Int} (hc : 2 ≤ c) (hs : 1 ≤ s) : 2 * s ≤ c * s := Int.mul_le_mul_of_nonneg_right hc (by omega)

theorem sumTo_three {l s : Int} (n : Nat) {b0 : Nat} {p : Int} (hw : wayB l s = true) (p0 : 0 ≤ p) (p1 : p < s) (i : Nat) :
    sumTo l s n ((b0 : Int) * s + p) i = (if 1 ≤ b0 ∧ b0 ≤ i then covJ l s n (b0 - 1) l ((b0 : Int) * s + p) else 0) + (if b0 < i then covJ l s n b0 l ((b0 : Int) * s + p) else 0) + (if b0 + 1 < i then covJ l s n (b0 + 1) l ((b0 : Int) * s + p) else 0) := by
  have ⟨g1, g2, g3, g4, g5⟩ := wayB_t hw
  induction i with
  | zero =>
    rw [if_neg (by omega), if_neg (by omega), if_neg (by omega)]
    rfl
  | succ i ih =>
    simp only [sumTo]
    rw [ih]
    by_cases h1 : i + 1 = b0
    · subst h1
      rw [if_neg (by omega), if_neg (by omega), if_neg (by omega), if_pos (by omega), if_neg (by omega), if_neg (by omega)]
      simp
    · by_cases h2 : i = b0
      · subst h2
        by_cases h3 : 1 ≤ i
        · rw [if_pos (by omega), if_neg (by omega), if_neg (by omega), if_pos (by omega), if_pos (by omega), if_neg (by omega)]
          omega
        · rw [if_neg (by omega), if_neg (by omega), if_neg (by omega), if_neg (by omega), if_pos (by omega), if_neg (by omega)]
          omega
      · by_cases h3 : i = b0 + 1
        · subst h3
          by_cases h4 : 1 ≤ b0
          · rw [if_pos (by omega), if_pos (by omega), if_neg (by omega), if_pos (by omega), if_pos (by omega), if_pos (by omega)]
            omega
          · rw [if_neg (by omega), if_pos (by omega), if_neg (by omega), if_neg (by omega), if_pos (by omega), if_pos (by omega)]
            omega
        · have hz : covJ l s n i l ((b0 : Int) * s + p) = 0 := by
            unfold covJ
            apply if_neg
            rcases Nat.lt_or_ge i b0 with h | h
            · have := mul_two (c := (b0 : Int) - (i : Int)) (s := s) (by omega) g1
              rw [Int.sub_mul] at this
              omega
            · have := mul_two (c := (i : Int) - (b0 : Int)) (s := s) (by omega) g1
              rw [Int.sub_mul] at this
              omega
          rw [hz]
          have e1 : (1 ≤ b0 ∧ b0 ≤ i + 1) = (1 ≤ b0 ∧ b0 ≤ i) := by apply propext; omega
          have e2 : (b0 < i + 1) = (b0 < i) := by apply propext; omega
          have e3 : (b0 + 1 < i + 1) = (b0 + 1 < i) := by apply propext; omega
          simp only [e1, e2, e3]
          omega

theorem wt_in {l s j : Int} (f la : Bool) (hw : wayB l s = true) (h0 : 0 ≤ j) (h1 : j < l) : wtF l s j f la = wtZ l s j f la := if_pos ⟨hw, h0, h1⟩

theorem sum8 {l s : Int} {n b0 : Nat} {p : Int} (hw : wayB l s = true) (p0 : 0 ≤ p) (p1 : p < s) (hn : 2 ≤ n) (hb : b0 < n) : sumTo l s n ((b0 : Int) * s + p) n = 8 := by
  have ⟨g1, g2, g3, g4, g5⟩ := wayB_t hw
  obtain ⟨o, rfl⟩ : ∃ o, l = s + 2 * o := ⟨(l - s) / 2, by omega⟩
  have eo : (s + 2 * o - s) / 2 = o := by omega
  have o0 : 0 ≤ o := by omega
  have o1 : 2 * o ≤ s := by omega
  rw [sumTo_three n hw p0 p1 n]
  have c0 : covJ (s + 2 * o) s n b0 (s + 2 * o) ((b0 : Int) * s + p) = wtZ (s + 2 * o) s (p + o) (b0 == 0) ((b0 : Int) == (n : Int) - 1) := by
    unfold covJ
    rw [eo]
    have e : (b0 : Int) * s + p - ((b0 : Int) * s - o) = p + o := by omega
    rw [e, if_pos (by omega), wt_in _ _ hw (by omega) (by omega)]
  have cm : 1 ≤ b0 → covJ (s + 2 * o) s n (b0 - 1) (s + 2 * o) ((b0 : Int) * s + p) = if p < o then rampZ o (o - 1 - p) else 0 := by
    intro h
    unfold covJ
    rw [eo]
    have e1 : ((b0 - 1 : Nat) : Int) * s = (b0 : Int) * s - s := by
      have : ((b0 - 1 : Nat) : Int) = (b0 : Int) - 1 := by omega
      rw [this, Int.sub_mul, Int.one_mul]
    have e : (b0 : Int) * s + p - (((b0 - 1 : Nat) : Int) * s - o) = p + s + o := by rw [e1]; omega
    rw [e]
    by_cases hp : p < o
    · rw [if_pos (by omega), if_pos hp, wt_in _ _ hw (by omega) (by omega)]
      unfold wtZ
      have hla : ¬ (((b0 - 1 : Nat) : Int) == (n : Int) - 1) = true := by rw [beq_iff_eq]; omega
      rw [if_neg (by omega), if_neg (by intro h; rcases h with h | h; exact absurd h.2 (by omega); exact hla h.1), if_neg (by omega), if_pos (by omega), eo]
      congr 1
      omega
    · rw [if_neg (by omega), if_neg hp]
  have cp : b0 + 1 < n → covJ (s + 2 * o) s n (b0 + 1) (s + 2 * o) ((b0 : Int) * s + p) = if s - o ≤ p then rampZ o (p - s + o) else 0 := by
    intro h
    unfold covJ
    rw [eo]
    have e1 : ((b0 + 1 : Nat) : Int) * s = (b0 : Int) * s + s := by
      have : ((b0 + 1 : Nat) : Int) = (b0 : Int) + 1 := by omega
      rw [this, Int.add_mul, Int.one_mul]
    have e : (b0 : Int) * s + p - (((b0 + 1 : Nat) : Int) * s - o) = p - s + o := by rw [e1]; omega
    rw [e]
    by_cases hp : s - o ≤ p
    · rw [if_pos (by omega), if_pos hp, wt_in _ _ hw (by omega) (by omega)]
      unfold wtZ
      have hf : ¬ ((b0 + 1 == 0) = true) := by rw [beq_iff_eq]; omega
      rw [if_neg (by omega), if_neg (by intro h; rcases h with h | h; exact hf h.1; exact absurd h.2 (by omega)), if_pos (by omega), eo]
    · rw [if_neg (by omega), if_neg hp]
  rw [c0]
  by_cases hp : p < o
  · have h8 := ramp_pair (o := o) (i := p + o) (by omega) (by omega) (by omega)
    have e8 : 2 * o - 1 - (p + o) = o - 1 - p := by omega
    rw [e8] at h8
    have hz : (if b0 + 1 < n then covJ (s + 2 * o) s n (b0 + 1) (s + 2 * o) ((b0 : Int) * s + p) else 0) = 0 := by
      split
      · rename_i h; rw [cp h, if_neg (by omega)]
      · rfl
    rw [hz, if_pos hb]
    by_cases hb1 : 1 ≤ b0
    · rw [if_pos (by omega), cm hb1, if_pos hp]
      unfold wtZ
      have hf : ¬ ((b0 == 0) = true) := by rw [beq_iff_eq]; omega
      rw [if_neg (by omega), if_neg (by intro h; rcases h with h | h; exact hf h.1; exact absurd h.2 (by omega)), if_pos (by omega), eo]
      omega
    · rw [if_neg (by omega)]
      unfold wtZ
      have hf : ((b0 == 0) = true) := by rw [beq_iff_eq]; omega
      rw [if_neg (by omega), if_pos (Or.inl ⟨hf, by omega⟩)]
      omega
  · have hz : (if 1 ≤ b0 ∧ b0 ≤ n then covJ (s + 2 * o) s n (b0 - 1) (s + 2 * o) ((b0 : Int) * s + p) else 0) = 0 := by
      split
      · rename_i h; rw [cm h.1, if_neg hp]
      · rfl
    rw [hz, if_pos hb]
    by_cases hq : s - o ≤ p
    · by_cases hb1 : b0 + 1 < n
      · have h8 := ramp_pair (o := o) (i := p - s + o) (by omega) (by omega) (by omega)
        rw [if_pos hb1, cp hb1, if_pos hq]
        unfold wtZ
        have hla : ¬ (((b0 : Int) == (n : Int) - 1) = true) := by rw [beq_iff_eq]; omega
        rw [if_neg (by omega), if_neg (by intro h; rcases h with h | h; exact absurd h.2 (by omega); exact hla h.1), if_neg (by omega), if_pos (by omega), eo]
        have e9 : s + 2 * o - 1 - (p + o) = 2 * o - 1 - (p - s + o) := by omega
        rw [e9]
        omega
      · rw [if_neg hb1]
        unfold wtZ
        have hla : (((b0 : Int) == (n : Int) - 1) = true) := by rw [beq_iff_eq]; omega
        rw [if_neg (by omega), if_pos (Or.inr ⟨hla, by omega⟩)]
        omega
    · have hz2 : (if b0 + 1 < n then covJ (s + 2 * o) s n (b0 + 1) (s + 2 * o) ((b0 : Int) * s + p) else 0) = 0 := by
        split
        · rename_i h; rw [cp h, if_neg hq]
        · rfl
      rw [hz2]
      unfold wtZ
      repeat' split
      all_goals omega

/-- At each place of the whole: 8. -/
theorem sum8_at {l s : Int} {n : Nat} (hw : wayB l s = true) (hn : 2 ≤ n) {a : Int} (a0 : 0 ≤ a) (a1 : a < s * (n : Int)) : sumTo l s n a n = 8 := by
  have ⟨g1, g2, g3, g4, g5⟩ := wayB_t hw
  have e := Int.mul_ediv_add_emod a s
  have r0 := Int.emod_nonneg a (b := s) (by omega)
  have r1 := Int.emod_lt_of_pos a (b := s) (by omega)
  have q0 : 0 ≤ a / s := Int.ediv_nonneg a0 (by omega)
  have q1 : a / s < (n : Int) := Int.ediv_lt_of_lt_mul (by omega) (by rw [Int.mul_comm]; exact a1)
  obtain ⟨b0, hb⟩ := Int.eq_ofNat_of_zero_le q0
  have := sum8 (b0 := b0) (p := a % s) hw r0 r1 hn (by omega)
  rw [← hb, Int.mul_comm, e] at this
  exact this

end Go.Proofs.Ytdfmpcbpciepoaa
