/- What must be answered ahead of everything else holds (layer 20). -/
import Derived.Test.YtdfmpcbpciepoaaWinM
import Derived.Test.YtdfmpcbpciepoaaWinR
namespace Go.Proofs.Ytdfmpcbpciepoaa
open Go.RowKit
set_option linter.unusedVariables false
set_option linter.unusedSimpArgs false

theorem line84 : lineF 8 4 false false = [1, 3, 5, 7, 7, 5, 3, 1] := by decide +kernel
theorem span84 : spanA 4 8 2 = 6 ∧ spanB 4 8 2 = 14 := by decide +kernel
theorem count17 : countF 17 4 = 5 := by decide +kernel
theorem right84 : rightB 8 4 4 4 = true ∧ rightB 9 4 4 4 = false ∧ wtF 8 4 0 true false = 8 := by decide +kernel

set_option maxHeartbeats 1600000 in
theorem first_c (w : World) :
    Calls Try.prog 7 #[] w fun e w' => e = .returned (.bool true) ∧ Below w.heap.size w w' := by
  have Hl := Lib.hid (line_c 8 4 false false)
  have Hs := Lib.hid (span_c 4 8 2)
  have Hc := Lib.hid (count_c 17 4)
  have H1 := Lib.hid (wright_c 8 4 4 4)
  have H2 := Lib.hid (wright_c 9 4 4 4)
  have Hw := Lib.hid (weight_c 8 4 0 true false)
  rw [line84] at Hl
  rw [span84.1, span84.2] at Hs
  rw [count17] at Hc
  rw [right84.1] at H1
  rw [right84.2.1] at H2
  rw [right84.2.2] at Hw
  unfold lapsV at H1 H2
  go_enter Try.func7, Try.ntmps7
  go_wp2_with fail
  refine (Hl.out _).mono ?_
  rintro e w1 ⟨v, rfl, hown, hb⟩
  obtain ⟨g, c, rfl, hg, hlt, hc, hf⟩ := hown.form (by simp)
  have hc0 := hc 0 (by simp)
  have hc1 := hc 1 (by simp)
  have hc3 := hc 3 (by simp)
  have hc4 := hc 4 (by simp)
  have hc7 := hc 7 (by simp)
  clear hc hf hown
  simp at hc0 hc1 hc3 hc4 hc7
  go_wp2_with fail
  refine (Hs.out _).mono ?_
  rintro e w1 ⟨rfl, rfl⟩
  go_wp2_with fail
  refine (Hc.out _).mono ?_
  rintro e w1 ⟨rfl, rfl⟩
  go_wp2_with fail
  refine (H1.out _).mono ?_
  rintro e w2 ⟨rfl, rfl⟩
  go_wp2_with fail
  refine (H2.out _).mono ?_
  rintro e w3 ⟨rfl, rfl⟩
  go_wp2_with fail
  refine (Hw.out _).mono ?_
  rintro e w4 ⟨rfl, rfl⟩
  go_wp2_with fail
  go_ret
  exact ⟨rfl, (hb.alloc hb.size _).alloc (by have := hb.size; simp; omega) _⟩

end Go.Proofs.Ytdfmpcbpciepoaa
