/- What Span, Count and Right of package window answer, and the reference's Weight and Right. -/
import Derived.Test.YtdfmpcbpciepoaaWinL
namespace Go.Proofs.Ytdfmpcbpciepoaa
open Go.RowKit
set_option linter.unusedVariables false
set_option linter.unusedSimpArgs false

def spanOk (s l n : Int) : Bool := decide (wayB l s = true ∧ 0 ≤ n ∧ n ≤ 1024)
def spanA (s l n : Int) : Int := if spanOk s l n = true then n * s - (l - s) / 2 else 0
def spanB (s l n : Int) : Int := if spanOk s l n = true then n * s - (l - s) / 2 + l else 0
def countF (n s : Int) : Int := if 1 ≤ n ∧ n ≤ 1024 ∧ 1 ≤ s ∧ s ≤ 64 then (n + s - 1) / s else 0
def lapsV (lx ly sx sy : Int) : Value := .agg #[.int .i64 lx, .int .i64 ly, .int .i64 sx, .int .i64 sy]

theorem mul_bd {n s : Int} (h0 : 0 ≤ n) (h1 : n ≤ 1024) (h2 : 1 ≤ s) (h3 : s ≤ 64) : 0 ≤ n * s ∧ n * s ≤ 65536 := by
  constructor
  · exact Int.mul_nonneg h0 (by omega)
  · have := Int.mul_le_mul h1 h3 (by omega) (by omega)
    omega

set_option maxHeartbeats 1600000 in
theorem span_c (s l n : Int) (w : World) :
    Calls Try.prog 14 #[.int .i64 s, .int .i64 l, .int .i64 n] w fun e w' => e = .returned (.tuple #[.int .i64 (spanA s l n), .int .i64 (spanB s l n)]) ∧ w = w' := by
  by_cases h : wayB l s = true ∧ 0 ≤ n ∧ n ≤ 1024
  · have ha : spanA s l n = n * s - (l - s) / 2 := if_pos (decide_eq_true h)
    have hb : spanB s l n = n * s - (l - s) / 2 + l := if_pos (decide_eq_true h)
    rw [ha, hb]
    clear ha hb
    obtain ⟨hw, h6, h7⟩ := h
    have ⟨h1, h2, h3, h4, h5⟩ := wayB_t hw
    have ⟨h8, h9⟩ := mul_bd h6 h7 h1 h2
    go_enter Try.func14, Try.ntmps14
    go_wp2_with (first
      | (go_at_call 18; refine (way_c _ _ _).mono ?_; rintro e w' ⟨rfl, rfl⟩)
      | (go_at_call 19; refine (lap_c _ _ _ hw).mono ?_; rintro e w' ⟨rfl, rfl⟩))
    go_ret2
    exact ⟨rfl, rfl⟩
  · have hf : spanOk s l n = false := decide_eq_false h
    have ha : spanA s l n = 0 := by simp [spanA, hf]
    have hb : spanB s l n = 0 := by simp [spanB, hf]
    rw [ha, hb]
    clear ha hb hf
    by_cases hw : wayB l s = true
    · have h6 : n < 0 ∨ 1024 < n := by
        rcases Int.lt_or_le n 0 with h6 | h6
        · exact .inl h6
        · rcases Int.lt_or_le 1024 n with h7 | h7
          · exact .inr h7
          · exact absurd ⟨hw, h6, h7⟩ h
      clear h
      rcases h6 with h6 | h6
      all_goals
        go_enter Try.func14, Try.ntmps14
        go_wp2_with (go_at_call 18; refine (way_c _ _ _).mono ?_; rintro e w' ⟨rfl, rfl⟩)
        go_ret2
        exact ⟨rfl, rfl⟩
    · have hw : wayB l s = false := by simpa using hw
      clear h
      go_enter Try.func14, Try.ntmps14
      go_wp2_with (go_at_call 18; refine (way_c _ _ _).mono ?_; rintro e w' ⟨rfl, rfl⟩)
      go_ret2
      exact ⟨rfl, rfl⟩

theorem count_bd {n s : Int} (h1 : 1 ≤ n) (h2 : n ≤ 1024) (h3 : 1 ≤ s) : 0 ≤ (n + s - 1) / s ∧ (n + s - 1) / s ≤ 1024 := by
  constructor
  · exact Int.ediv_nonneg (by omega) (by omega)
  · have : (n + s - 1) / s < 1025 := Int.ediv_lt_of_lt_mul (by omega) (by omega)
    omega

set_option maxHeartbeats 800000 in
theorem count_c (n s : Int) (w : World) :
    Calls Try.prog 15 #[.int .i64 n, .int .i64 s] w fun e w' => e = .returned (.int .i64 (countF n s)) ∧ w = w' := by
  by_cases h : 1 ≤ n ∧ n ≤ 1024 ∧ 1 ≤ s ∧ s ≤ 64
  · have e : countF n s = (n + s - 1) / s := if_pos h
    rw [e]
    clear e
    obtain ⟨h1, h2, h3, h4⟩ := h
    obtain ⟨h5, h6⟩ := count_bd h1 h2 h3
    go_enter Try.func15, Try.ntmps15
    go_wp2
    go_ret
    exact ⟨rfl, rfl⟩
  · have e : countF n s = 0 := if_neg h
    rw [e]
    clear e
    go_enter Try.func15, Try.ntmps15
    go_wp2
    all_goals first
      | (exfalso; omega)
      | (go_ret; exact ⟨rfl, rfl⟩)

def rightB (lx ly sx sy : Int) : Bool := wayB lx sx && wayB ly sy
set_option maxHeartbeats 800000 in
theorem wright_c (lx ly sx sy : Int) (w : World) :
    Calls Try.prog 16 #[lapsV lx ly sx sy] w fun e w' => e = .returned (.bool (rightB lx ly sx sy)) ∧ w.alloc (.cells #[.int .i64 lx, .int .i64 ly, .int .i64 sx, .int .i64 sy] 31) = w' := by
  unfold lapsV
  go_enter Try.func16, Try.ntmps16
  go_wp2_with (go_at_call 18; refine (way_c _ _ _).mono ?_; rintro e w' ⟨rfl, rfl⟩)
  all_goals
    go_ret
    refine ⟨ret_bool ?_, rfl⟩
    simp [rightB, *]

set_option maxHeartbeats 800000 in
theorem rwright_c (lx ly sx sy : Int) (w : World) (hx : lx ≤ 9223372036854775807) (hy : ly ≤ 9223372036854775807) :
    Calls Try.prog 17 #[lapsV lx ly sx sy] w fun e w' => e = .returned (.bool (rightB lx ly sx sy)) ∧ w.alloc (.cells #[.int .i64 lx, .int .i64 ly, .int .i64 sx, .int .i64 sy] 31) = w' := by
  unfold lapsV
  go_enter Try.func17, Try.ntmps17
  go_wp2_with (go_at_call 9; refine (rway_c _ _ _ (by assumption)).mono ?_; rintro e w' ⟨rfl, rfl⟩)
  all_goals
    go_ret
    refine ⟨ret_bool ?_, rfl⟩
    simp [rightB, *]

end Go.Proofs.Ytdfmpcbpciepoaa
