/- What the reference's Weight of layer 20 answers. -/
import Derived.Test.YtdfmpcbpciepoaaWinL
namespace Go.Proofs.Ytdfmpcbpciepoaa
open Go.RowKit
set_option linter.unusedVariables false
set_option linter.unusedSimpArgs false

set_option maxHeartbeats 3200000 in
theorem rweight_c (l s i : Int) (f la : Bool) (w : World) (hl : l ≤ 9223372036854775807) :
    Calls Try.prog 10 #[.int .i64 l, .int .i64 s, .int .i64 i, .bool f, .bool la] w fun e w' => e = .returned (.int .i64 (wtF l s i f la)) ∧ Below w.heap.size w w' := by
  by_cases h : wayB l s = true ∧ 0 ≤ i ∧ i < l
  · have e : wtF l s i f la = wtZ l s i f la := if_pos h
    rw [e]
    clear e
    obtain ⟨hw, h6, h7⟩ := h
    have ⟨h1, h2, h3, h4, h5⟩ := wayB_t hw
    cases f <;> cases la
    all_goals
      go_enter Try.func10, Try.ntmps10
      go_wp2_with (first
        | (go_at_call 9; refine (rway_c _ _ _ hl).mono ?_; rintro e w' ⟨rfl, rfl⟩)
        | (go_at_call 13; refine (rramp_c _ _ _).mono ?_; rintro e w' ⟨rfl, hb⟩))
      all_goals
        go_ret
        refine ⟨ret_int ?_, by first | exact Below.refl _ _ | assumption⟩
        try simp only [beq_iff_eq, beq_eq_false_iff_ne, ne_eq] at *
        simp only [wtZ, rampF, Bool.false_eq_true, false_and, true_and, or_self, or_false, false_or, if_false]
        repeat' split
        all_goals first | rfl | omega
  · have e : wtF l s i f la = 0 := if_neg h
    rw [e]
    clear e
    by_cases hw : wayB l s = true
    · have h6 : i < 0 ∨ l ≤ i := by
        rcases Int.lt_or_le i 0 with h6 | h6
        · exact .inl h6
        · rcases Int.lt_or_le i l with h7 | h7
          · exact absurd ⟨hw, h6, h7⟩ h
          · exact .inr h7
      clear h
      rcases h6 with h6 | h6
      all_goals
        go_enter Try.func10, Try.ntmps10
        go_wp2_with (go_at_call 9; refine (rway_c _ _ _ hl).mono ?_; rintro e w' ⟨rfl, rfl⟩)
        all_goals
          go_ret
          exact ⟨rfl, Below.refl _ _⟩
    · have hw : wayB l s = false := by simpa using hw
      clear h
      go_enter Try.func10, Try.ntmps10
      go_wp2_with (go_at_call 9; refine (rway_c _ _ _ hl).mono ?_; rintro e w' ⟨rfl, rfl⟩)
      all_goals
        go_ret
        exact ⟨rfl, Below.refl _ _⟩

end Go.Proofs.Ytdfmpcbpciepoaa
