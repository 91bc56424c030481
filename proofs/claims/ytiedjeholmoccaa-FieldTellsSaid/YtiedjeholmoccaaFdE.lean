/- Fields: blocks compared. -/
import Derived.Test.YtiedjeholmoccaaFd6
import Derived.ChangeKeysEq
namespace Go.Proofs.Ytiedjeholmoccaa
open Go.RowKit Go.Sort
set_option linter.unusedVariables false
set_option linter.unusedSimpArgs false
theorem info_size {P : Program} {t : TypeId} {n : Nat} (h : (P.info? t).map (·.size) = some n) : ∃ i, P.info? t = some i ∧ i.size = n := by
  cases hq : P.info? t with
  | none => simp [hq] at h
  | some i => exact ⟨i, rfl, by simpa [hq] using h⟩
theorem eq_vecs (d : Nat) (x0 y0 x1 y1 x0' y0' x1' y1' : Int) (w : World) : (Op.equalIn (d + 1 + 1 + 1) 37 (.agg #[.int .i64 x0, .int .i64 y0, .int .i64 x1, .int .i64 y1]) (.agg #[.int .i64 x0', .int .i64 y0', .int .i64 x1', .int .i64 y1'])).run Try.prog w = .ok (decide (x0 = x0' ∧ y0 = y0' ∧ x1 = x1' ∧ y1 = y1')) w := by
  obtain ⟨i, hi, _⟩ := info_size (P := Try.prog) (t := 36) (n := 2) (by kernel_rfl)
  rw [run_equalIn_array w (d + 1 + 1) _ _ Try.underlying37 hi, show Try.prog.cellsOf 36 = 2 by kernel_rfl, show List.range 2 = [0, 1] from rfl]
  unfold Op.eqItems Op.eqItems Op.eqItems
  go_simp
  by_cases h1 : x0 = x0' <;> by_cases h2 : y0 = y0' <;> by_cases h3 : x1 = x1' <;> by_cases h4 : y1 = y1' <;> simp [h1, h2, h3, h4]
theorem eq_three (d : Nat) (x0 y0 x1 x0' y0' x1' : Int) (w : World) : (Op.equalIn (d + 1 + 1) 38 (.agg #[.int .i64 x0, .int .i64 y0, .int .i64 x1]) (.agg #[.int .i64 x0', .int .i64 y0', .int .i64 x1'])).run Try.prog w = .ok (decide (x0 = x0' ∧ y0 = y0' ∧ x1 = x1')) w := by
  obtain ⟨i, hi, _⟩ := info_size (P := Try.prog) (t := 3) (n := 1) (by kernel_rfl)
  rw [run_equalIn_array w (d + 1) _ _ Try.underlying38 hi, show Try.prog.cellsOf 3 = 1 by kernel_rfl, show List.range 3 = [0, 1, 2] from rfl]
  unfold Op.eqItems Op.eqItems Op.eqItems Op.eqItems
  go_simp
  by_cases h1 : x0 = x0' <;> by_cases h2 : y0 = y0' <;> by_cases h3 : x1 = x1' <;> simp [h1, h2, h3]
theorem eq_bk (a b : Bk) (w : World) : (binOp .eql 40 (bkV a) (bkV b)).run Try.prog w = .ok (.bool (decide (a = b))) w := by
  obtain ⟨m, g, x0, y0, x1, y1, d0, d1, d2⟩ := a
  obtain ⟨m', g', x0', y0', x1', y1', d0', d1', d2'⟩ := b
  have h1 := fun w => eq_vecs 9996 x0 y0 x1 y1 x0' y0' x1' y1' w
  have h2 := fun w => eq_three 9997 d0 d1 d2 d0' d1' d2' w
  simp only [Nat.reduceAdd] at h1 h2
  go_simp
  by_cases e1 : m = m' <;> by_cases e2 : g = g' <;> by_cases e3 : (x0 = x0' ∧ y0 = y0' ∧ x1 = x1' ∧ y1 = y1') <;> by_cases e4 : (d0 = d0' ∧ d1 = d1' ∧ d2 = d2') <;> simp [e1, e2, e3, e4, Result.andThen] <;> simp_all
theorem ne_bk (a b : Bk) (w : World) : (binOp .neq 40 (bkV a) (bkV b)).run Try.prog w = .ok (.bool (!decide (a = b))) w := by
  obtain ⟨m, g, x0, y0, x1, y1, d0, d1, d2⟩ := a
  obtain ⟨m', g', x0', y0', x1', y1', d0', d1', d2'⟩ := b
  have h1 := fun w => eq_vecs 9996 x0 y0 x1 y1 x0' y0' x1' y1' w
  have h2 := fun w => eq_three 9997 d0 d1 d2 d0' d1' d2' w
  simp only [Nat.reduceAdd] at h1 h2
  go_simp
  by_cases e1 : m = m' <;> by_cases e2 : g = g' <;> by_cases e3 : (x0 = x0' ∧ y0 = y0' ∧ x1 = x1' ∧ y1 = y1') <;> by_cases e4 : (d0 = d0' ∧ d1 = d1' ∧ d2 = d2') <;> simp [e1, e2, e3, e4, Result.andThen] <;> simp_all <;> (try omega)
end Go.Proofs.Ytiedjeholmoccaa
