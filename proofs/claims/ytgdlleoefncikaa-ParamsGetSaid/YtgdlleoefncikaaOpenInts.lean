/- An argument of the type []int, opened: a row of whole numbers, each of 64 bits. -/
import Derived.Test.YtgdlleoefncikaaOpen
import Derived.Test.YtgdlleoefncikaaWords
import Derived.ChangeSlices
namespace Go.Proofs.Ytgdlleoefncikaa
open Go.ChangeShapes Go.WideShapes Go.ChangeAt Go.RowKit
set_option linter.unusedVariables false

def IsInts (W : World) (v : Value) (xs : List Int) : Prop := ∃ A c, v = .slice A xs.length c ∧ ReadsI W A xs ∧ xs.length ≤ maxLen ∧ ∀ x ∈ xs, -9223372036854775808 ≤ x ∧ x ≤ 9223372036854775807
theorem cell_lt {w : World} {a : Addr} {v : Value} (h : w.cell? a = some v) : a.block < w.heap.size := by
  rcases Nat.lt_or_ge a.block w.heap.size with h1 | h1
  · exact h1
  · simp [World.cell?, Array.getElem?_eq_none h1] at h
theorem opens_ints {H : Type} {enc : TypeId × Value → H} {P : Program} {w : World} {b0 : Nat} {r : Reach} {t e : TypeId} {v : Value} {d : DataW H} {ps : List MemPlace}
    (ht : P.underlying t = some (.slice e)) (he : P.underlying e = some (.int .i64)) (hc : P.cellsOf e = 1) (hv : Value.okWide P w r b0 t v) (h : DataW.Trod enc P w 0 (fun _ => true) true t v d ps) : ∃ xs, IsInts w v xs := by
  obtain ⟨a0, len, cap, rfl⟩ := okWide_slice ht hv
  obtain ⟨fuel, hf⟩ := h
  rcases open_ints ht he hc hf with ⟨hcs, hx⟩ | ⟨a, len', cap', zs, hcs, _, hl, hm, hz, hx, hcell, hwz⟩
  · simp [Value.cells] at hcs
    obtain ⟨rfl, rfl, rfl⟩ := hcs
    exact ⟨[], none, 0, rfl, Reads.none_, Nat.zero_le _, fun _ h => by cases h⟩
  · simp [Value.cells] at hcs
    obtain ⟨rfl, rfl, rfl⟩ := hcs
    simp only [if_true] at hz
    have hlen : (zs.take len).length = len := by simp; omega
    refine ⟨zs.take len, some a, cap, by rw [hlen], ⟨by simp, fun h0 => ⟨a, rfl, ?_, ?_⟩⟩, by omega, fun x hx => ?_⟩
    · rw [hlen] at h0
      have := cell_lt (hcell 0 (by omega))
      simpa [Addr.add] using this
    · intro j u hj
      rw [List.getElem?_map] at hj
      have hj' := hj
      rw [List.getElem?_take] at hj
      by_cases hjl : j < len
      · rw [if_pos hjl, List.getElem?_eq_getElem (by omega)] at hj
        simp at hj
        rw [hcell j (by omega), ← hj]
        simp [List.getD_eq_getElem?_getD, List.getElem?_eq_getElem (show j < zs.length by omega)]
      · rw [if_neg hjl] at hj
        simp at hj
    · have := hwz x (List.mem_of_mem_take hx)
      simp [Lit.wf, IntKind.min, IntKind.max, IntKind.signed, IntKind.bits] at this
      omega
theorem IsInts.rd_bd {W : World} {v : Value} {xs : List Int} (h : IsInts W v xs) (j : Nat) : -9223372036854775808 ≤ rdn xs j ∧ rdn xs j ≤ 9223372036854775807 := by
  obtain ⟨_, _, _, _, _, hb⟩ := h
  unfold rdn
  by_cases hj : j < xs.length
  · simp only [List.getD_eq_getElem?_getD, List.getElem?_eq_getElem hj, Option.getD_some]
    exact hb _ (List.getElem_mem hj)
  · simp [List.getD_eq_getElem?_getD, List.getElem?_eq_none (show xs.length ≤ j by omega)]

end Go.Proofs.Ytgdlleoefncikaa
