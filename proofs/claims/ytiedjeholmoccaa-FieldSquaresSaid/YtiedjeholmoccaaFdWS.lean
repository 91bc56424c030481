/- How many squares cover any sides: the law's walk. -/
import Derived.Test.YtiedjeholmoccaaFdF
import Derived.Test.YtiedjeholmoccaaOpen
namespace Go.Proofs.Ytiedjeholmoccaa
open Go.RowKit Go.Sort
set_option linter.unusedVariables false
set_option linter.unusedSimpArgs false
theorem cov_facts {n s : Int} (n1 : 1 ≤ n) (n2 : n ≤ 1024) (s1 : 1 ≤ s) (s2 : s ≤ 256) : ∃ A qa qb : Int, covI n s = A ∧ IntKind.i64.wrap (A - 1) = A - 1 ∧ IntKind.i64.wrap (4 * s * A) = qa ∧ IntKind.i64.wrap (4 * s * (A - 1)) = qb ∧ n ≤ qa ∧ qb < n := by
  have hq : 0 < 4 * s := by omega
  have h1 := Int.mul_ediv_self_le (x := n + 4 * s - 1) (k := 4 * s) (by omega)
  have h2 := Int.lt_mul_ediv_self_add (x := n + 4 * s - 1) (k := 4 * s) hq
  have h0 : 0 ≤ (n + 4 * s - 1) / (4 * s) := Int.ediv_nonneg (by omega) (by omega)
  have h3 : (n + 4 * s - 1) / (4 * s) ≤ n + 4 * s - 1 := Int.ediv_le_self _ (by omega)
  generalize hA : (n + 4 * s - 1) / (4 * s) = A at *
  refine ⟨A, 4 * s * A, 4 * s * (A - 1), hA, ?_, ?_, ?_, by omega, ?_⟩
  · exact IntWalk.i64_in _ (by omega)
  · exact IntWalk.i64_in _ (by omega)
  · rw [Int.mul_sub]; exact IntWalk.i64_in _ (by omega)
  · rw [Int.mul_sub]; omega
set_option maxRecDepth 100000 in
set_option maxHeartbeats 6400000 in
theorem sq_no (x0 x1 x2 : Int) (w : World) (hb : sqB x0 x1 x2 = false) :
    Calls Try.prog 5 #[.int .i64 x0, .int .i64 x1, .int .i64 x2] w fun e w' => e = .returned (.bool true) ∧ Below w.heap.size w w' := by
  have hs : x0 < 1 ∨ (1 ≤ x0 ∧ 1024 < x0) ∨ (1 ≤ x0 ∧ x0 ≤ 1024 ∧ x1 < 1) ∨ (1 ≤ x0 ∧ x0 ≤ 1024 ∧ 1 ≤ x1 ∧ 1024 < x1) ∨ (1 ≤ x0 ∧ x0 ≤ 1024 ∧ 1 ≤ x1 ∧ x1 ≤ 1024 ∧ x2 < 1) ∨ (1 ≤ x0 ∧ x0 ≤ 1024 ∧ 1 ≤ x1 ∧ x1 ≤ 1024 ∧ 1 ≤ x2 ∧ 256 < x2) := by
    unfold sqB at hb
    have hb := of_decide_eq_false hb
    omega
  have HN := Lib.hid (fun w => fsq_n x0 x1 x2 w hb)
  clear hb
  rcases hs with h0 | ⟨h0, h1⟩ | ⟨h0, h1, h2⟩ | ⟨h0, h1, h2, h3⟩ | ⟨h0, h1, h2, h3, h4⟩ | ⟨h0, h1, h2, h3, h4, h5⟩
  all_goals
    go_enter Try.func5, Try.ntmps5
    go_wp2_with fail
    refine (first_c w).mono ?_
    rintro e w1 ⟨rfl, hb⟩
    have HB := Lib.hid hb
    clear hb
    go_wp2_with fail
    refine (HN.out _).mono ?_
    rintro e w2 ⟨rfl, rfl⟩
    go_wp2_with fail
    go_ret
    exact ⟨rfl, HB.out⟩
set_option maxRecDepth 100000 in
set_option maxHeartbeats 6400000 in
theorem sq_yes (x0 x1 x2 : Int) (w : World) (hb : sqB x0 x1 x2 = true) :
    Calls Try.prog 5 #[.int .i64 x0, .int .i64 x1, .int .i64 x2] w fun e w' => e = .returned (.bool true) ∧ Below w.heap.size w w' := by
  obtain ⟨h0, h1, h2, h3, h4, h5⟩ : 1 ≤ x0 ∧ x0 ≤ 1024 ∧ 1 ≤ x1 ∧ x1 ≤ 1024 ∧ 1 ≤ x2 ∧ x2 ≤ 256 := by unfold sqB at hb; exact of_decide_eq_true hb
  have HN := Lib.hid (fun w => fsq_y x0 x1 x2 w hb)
  clear hb
  obtain ⟨A, qa, qb, ea, wa, ha1, ha2, la1, la2⟩ := cov_facts h0 h1 h4 h5
  obtain ⟨D, ra, rb, ed, wd, hd1, hd2, ld1, ld2⟩ := cov_facts h2 h3 h4 h5
  rw [ea, ed] at HN
  have w4 : IntKind.i64.wrap (4 * x2) = 4 * x2 := IntWalk.i64_in _ (by omega)
  clear ea ed
  go_enter Try.func5, Try.ntmps5
  go_wp2_with fail
  refine (first_c w).mono ?_
  rintro e w1 ⟨rfl, hb⟩
  have HB := Lib.hid hb
  clear hb
  go_wp2_with fail
  refine (HN.out _).mono ?_
  rintro e w2 ⟨rfl, rfl⟩
  go_wp2_with fail
  go_ret
  exact ⟨rfl, HB.out⟩
theorem fieldSquares_walk (x0 x1 x2 : Int) (v0 v1 v2 : Value) (w : World) (k0 : IsInt .i64 v0 x0) (k1 : IsInt .i64 v1 x1) (k2 : IsInt .i64 v2 x2) :
    Calls Try.prog 5 #[v0, v1, v2] w fun e w' => e = .returned (.bool true) ∧ Below w.heap.size w w' := by
  rw [k0.1, k1.1, k2.1]
  cases hb : sqB x0 x1 x2 with
  | false => exact sq_no x0 x1 x2 w hb
  | true => exact sq_yes x0 x1 x2 w hb

end Go.Proofs.Ytiedjeholmoccaa
