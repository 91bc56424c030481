/- What the functions of package window, and the reference's, answer: each a contract over the translation; no memory is touched but by Line and Right. -/
import Derived.Test.YtdfmpcbpciepoaaBase
namespace Go.Proofs.Ytdfmpcbpciepoaa
open Go.RowKit
set_option linter.unusedVariables false
set_option linter.unusedSimpArgs false

def wayB (l s : Int) : Bool := decide (1 ≤ s ∧ s ≤ 64 ∧ s ≤ l ∧ l ≤ 2 * s ∧ (l - s) % 2 = 0)
theorem wayB_t {l s : Int} (h : wayB l s = true) : 1 ≤ s ∧ s ≤ 64 ∧ s ≤ l ∧ l ≤ 2 * s ∧ (l - s) % 2 = 0 := of_decide_eq_true h
theorem wayB_f {l s : Int} (h : ¬ (1 ≤ s ∧ s ≤ 64 ∧ s ≤ l ∧ l ≤ 2 * s ∧ (l - s) % 2 = 0)) : wayB l s = false := decide_eq_false h
def rampZ (o i : Int) : Int := if o = 1 then 3 + 2 * i else 1 + (6 * i + o - 1) / (2 * o - 1)
def rampF (o i : Int) : Int := if 1 ≤ o ∧ o ≤ 32 ∧ 0 ≤ i ∧ i < 2 * o then rampZ o i else 0
def wtZ (l s i : Int) (f la : Bool) : Int :=
  if l = s then 8 else if (f = true ∧ i < l / 2) ∨ (la = true ∧ l / 2 ≤ i) then 8
  else if i < l - s then rampZ ((l - s) / 2) i else if s ≤ i then rampZ ((l - s) / 2) (l - 1 - i) else 8
def wtF (l s i : Int) (f la : Bool) : Int := if wayB l s = true ∧ 0 ≤ i ∧ i < l then wtZ l s i f la else 0

set_option maxHeartbeats 800000 in
theorem way_c (l s : Int) (w : World) :
    Calls Try.prog 18 #[.int .i64 l, .int .i64 s] w fun e w' => e = .returned (.bool (wayB l s)) ∧ w = w' := by
  go_enter Try.func18, Try.ntmps18
  go_wp2
  all_goals
    go_ret
    refine ⟨ret_bool ?_, rfl⟩
    rw [Bool.eq_iff_iff]
    simp [wayB]
    omega

set_option maxHeartbeats 800000 in
theorem rway_c (l s : Int) (w : World) (hl : l ≤ 9223372036854775807) :
    Calls Try.prog 9 #[.int .i64 l, .int .i64 s] w fun e w' => e = .returned (.bool (wayB l s)) ∧ w = w' := by
  go_enter Try.func9, Try.ntmps9
  go_wp2
  all_goals
    go_ret
    refine ⟨ret_bool ?_, rfl⟩
    rw [Bool.eq_iff_iff]
    simp [wayB]
    omega

theorem lap_c (l s : Int) (w : World) (h : wayB l s = true) :
    Calls Try.prog 19 #[.int .i64 l, .int .i64 s] w fun e w' => e = .returned (.int .i64 ((l - s) / 2)) ∧ w = w' := by
  have ⟨h1, h2, h3, h4, h5⟩ := wayB_t h
  clear h
  go_enter Try.func19, Try.ntmps19
  go_wp2
  go_ret
  exact ⟨rfl, rfl⟩

theorem ramp_bd {o i : Int} (h1 : 1 ≤ o) (h3 : 0 ≤ i) (h4 : i < 2 * o) : 0 ≤ (6 * i + o - 1) / (2 * o - 1) ∧ (6 * i + o - 1) / (2 * o - 1) ≤ 7 := by
  constructor
  · exact Int.ediv_nonneg (by omega) (by omega)
  · have h : (6 * i + o - 1) / (2 * o - 1) < 8 := Int.ediv_lt_of_lt_mul (by omega) (by omega)
    omega

set_option maxHeartbeats 800000 in
theorem ramp_c (o i : Int) (w : World) :
    Calls Try.prog 12 #[.int .i64 o, .int .i64 i] w fun e w' => e = .returned (.int .i64 (rampF o i)) ∧ w = w' := by
  by_cases h : 1 ≤ o ∧ o ≤ 32 ∧ 0 ≤ i ∧ i < 2 * o
  · have e : rampF o i = rampZ o i := if_pos h
    obtain ⟨h1, h2, h3, h4⟩ := h
    obtain ⟨h5, h6⟩ := ramp_bd h1 h3 h4
    rw [e]
    by_cases ho : o = 1
    · have e : rampZ o i = 3 + 2 * i := if_pos ho
      rw [e]
      clear e
      subst ho
      go_enter Try.func12, Try.ntmps12
      go_wp2
      go_ret
      exact ⟨rfl, rfl⟩
    · have e : rampZ o i = 1 + (6 * i + o - 1) / (2 * o - 1) := if_neg ho
      rw [e]
      clear e
      have hb : (o == 1) = false := beq_eq_false_iff_ne.2 ho
      go_enter Try.func12, Try.ntmps12
      go_wp2
      go_ret
      exact ⟨rfl, rfl⟩
  · have e : rampF o i = 0 := if_neg h
    rw [e]
    clear e
    go_enter Try.func12, Try.ntmps12
    go_wp2
    all_goals first
      | (exfalso; omega)
      | (go_ret; exact ⟨rfl, rfl⟩)

set_option maxHeartbeats 800000 in
theorem rramp_c (o i : Int) (w : World) :
    Calls Try.prog 13 #[.int .i64 o, .int .i64 i] w fun e w' => e = .returned (.int .i64 (rampF o i)) ∧ Below w.heap.size w w' := by
  by_cases h : 1 ≤ o ∧ o ≤ 32 ∧ 0 ≤ i ∧ i < 2 * o
  · have e : rampF o i = rampZ o i := if_pos h
    obtain ⟨h1, h2, h3, h4⟩ := h
    obtain ⟨h5, h6⟩ := ramp_bd h1 h3 h4
    rw [e]
    by_cases ho : o = 1
    · have e : rampZ o i = 3 + 2 * i := if_pos ho
      rw [e]
      clear e
      subst ho
      rcases (by omega : i = 0 ∨ i = 1) with rfl | rfl
      all_goals
        clear h1 h2 h3 h4 h5 h6
        go_enter Try.func13, Try.ntmps13
        go_wp2
        go_ret
        exact ⟨rfl, (Below.refl _ _).alloc (Nat.le_refl _) _⟩
    · have e : rampZ o i = 1 + (6 * i + o - 1) / (2 * o - 1) := if_neg ho
      rw [e]
      clear e
      have hb : (o == 1) = false := beq_eq_false_iff_ne.2 ho
      go_enter Try.func13, Try.ntmps13
      go_wp2
      go_ret
      exact ⟨rfl, Below.refl _ _⟩
  · have e : rampF o i = 0 := if_neg h
    rw [e]
    clear e
    go_enter Try.func13, Try.ntmps13
    go_wp2
    all_goals first
      | (exfalso; omega)
      | (go_ret; exact ⟨rfl, Below.refl _ _⟩)

set_option maxHeartbeats 1600000 in
theorem weight_c (l s i : Int) (f la : Bool) (w : World) :
    Calls Try.prog 11 #[.int .i64 l, .int .i64 s, .int .i64 i, .bool f, .bool la] w fun e w' => e = .returned (.int .i64 (wtF l s i f la)) ∧ w = w' := by
  by_cases h : wayB l s = true ∧ 0 ≤ i ∧ i < l
  · have e : wtF l s i f la = wtZ l s i f la := if_pos h
    rw [e]
    clear e
    obtain ⟨hw, h6, h7⟩ := h
    have ⟨h1, h2, h3, h4, h5⟩ := wayB_t hw
    cases f <;> cases la
    all_goals
      go_enter Try.func11, Try.ntmps11
      go_wp2_with (first
        | (go_at_call 18; refine (way_c _ _ _).mono ?_; rintro e w' ⟨rfl, rfl⟩)
        | (go_at_call 19; refine (lap_c _ _ _ hw).mono ?_; rintro e w' ⟨rfl, rfl⟩)
        | (go_at_call 12; refine (ramp_c _ _ _).mono ?_; rintro e w' ⟨rfl, rfl⟩))
      all_goals
        go_ret
        refine ⟨ret_int ?_, rfl⟩
        simp only [beq_iff_eq, beq_eq_false_iff_ne, ne_eq] at *
        simp only [wtZ, rampF, Bool.false_eq_true, false_and, true_and, or_self, or_false, false_or, if_false]
        repeat' split
        all_goals first | rfl | omega
  · have e : wtF l s i f la = 0 := if_neg h
    rw [e]
    clear e
    by_cases hw : wayB l s = true
    · have h6 : i < 0 ∨ l ≤ i := by
        rcases Int.lt_or_le i 0 with h6 | h6
        · exact .inl h6
        · rcases Int.lt_or_le i l with h7 | h7
          · exact absurd ⟨hw, h6, h7⟩ h
          · exact .inr h7
      clear h
      rcases h6 with h6 | h6
      all_goals
        go_enter Try.func11, Try.ntmps11
        go_wp2_with (go_at_call 18; refine (way_c _ _ _).mono ?_; rintro e w' ⟨rfl, rfl⟩)
        all_goals
          go_ret
          exact ⟨rfl, rfl⟩
    · have hw : wayB l s = false := by simpa using hw
      clear h
      go_enter Try.func11, Try.ntmps11
      go_wp2_with (go_at_call 18; refine (way_c _ _ _).mono ?_; rintro e w' ⟨rfl, rfl⟩)
      all_goals
        go_ret
        exact ⟨rfl, rfl⟩

end Go.Proofs.Ytdfmpcbpciepoaa
