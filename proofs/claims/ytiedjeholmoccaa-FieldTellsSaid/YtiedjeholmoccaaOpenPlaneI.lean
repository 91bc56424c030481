/- A row of numbers in a struct, opened. -/
import Derived.Test.YtiedjeholmoccaaOpenInts
namespace Go.Proofs.Ytiedjeholmoccaa
open Go.ChangeShapes Go.WideShapes Go.ChangeAt Go.RowKit Go.Joins
set_option linter.unusedVariables false

theorem ints_trod {H : Type} {enc : TypeId × Value → H} {P : Program} {w : World} {t e : TypeId} {v : Value} {y : DataW H × List MemPlace} {fuel : Nat}
    (ht : P.underlying t = some (.slice e)) (he : P.underlying e = some (.int .i64)) (hc : P.cellsOf e = 1) (hf : DataW.trod enc P w 0 (fun _ => true) true fuel t [v] = some y) : ∃ xs, IsInts w v xs := by
  rcases open_ints ht he hc hf with ⟨hcs, hx⟩ | ⟨a, len, cap, zs, hcs, _, hl, hm, hz, hx, hcell, hwz⟩
  · simp at hcs
    subst hcs
    exact ⟨[], none, 0, rfl, Reads.none_, Nat.zero_le _, fun _ h => by cases h⟩
  · simp at hcs
    subst hcs
    simp only [if_true] at hz
    have hlen : (zs.take len).length = len := by simp; omega
    refine ⟨zs.take len, some a, cap, by rw [hlen], ⟨by simp, fun h0 => ⟨a, rfl, ?_, ?_⟩⟩, by omega, fun x hx => ?_⟩
    · rw [hlen] at h0
      have := cell_lt (hcell 0 (by omega))
      simpa [Addr.add] using this
    · intro j u hj
      rw [List.getElem?_map] at hj
      rw [List.getElem?_take] at hj
      by_cases hjl : j < len
      · rw [if_pos hjl, List.getElem?_eq_getElem (by omega)] at hj
        simp at hj
        rw [hcell j (by omega), ← hj]
        simp [List.getD_eq_getElem?_getD, List.getElem?_eq_getElem (show j < zs.length by omega)]
      · rw [if_neg hjl] at hj
        simp at hj
    · have := hwz x (List.mem_of_mem_take hx)
      simp [Lit.wf, IntKind.min, IntKind.max, IntKind.signed, IntKind.bits] at this
      omega

end Go.Proofs.Ytiedjeholmoccaa
