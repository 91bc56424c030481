/- An argument of the type api.Plane, opened: two numbers and a row of numbers. -/
import Derived.Test.YtjlajggilcihoaaOpenInts
namespace Go.Proofs.Ytjlajggilcihoaa
open Go.ChangeShapes Go.WideShapes Go.ChangeAt Go.RowKit Go.Joins
set_option linter.unusedVariables false

theorem ints_trod {H : Type} {enc : TypeId × Value → H} {P : Program} {w : World} {t e : TypeId} {v : Value} {y : DataW H × List MemPlace} {fuel : Nat}
    (ht : P.underlying t = some (.slice e)) (he : P.underlying e = some (.int .i64)) (hc : P.cellsOf e = 1) (hf : DataW.trod enc P w 0 (fun _ => true) true fuel t [v] = some y) : ∃ xs, IsInts w v xs := by
  rcases open_ints ht he hc hf with ⟨hcs, hx⟩ | ⟨a, len, cap, zs, hcs, _, hl, hm, hz, hx, hcell, hwz⟩
  · simp at hcs
    subst hcs
    exact ⟨[], none, 0, rfl, Reads.none_, Nat.zero_le _, fun _ h => by cases h⟩
  · simp at hcs
    subst hcs
    simp only [if_true] at hz
    have hlen : (zs.take len).length = len := by simp; omega
    refine ⟨zs.take len, some a, cap, by rw [hlen], ⟨by simp, fun h0 => ⟨a, rfl, ?_, ?_⟩⟩, by omega, fun x hx => ?_⟩
    · rw [hlen] at h0
      have := cell_lt (hcell 0 (by omega))
      simpa [Addr.add] using this
    · intro j u hj
      rw [List.getElem?_map] at hj
      rw [List.getElem?_take] at hj
      by_cases hjl : j < len
      · rw [if_pos hjl, List.getElem?_eq_getElem (by omega)] at hj
        simp at hj
        rw [hcell j (by omega), ← hj]
        simp [List.getD_eq_getElem?_getD, List.getElem?_eq_getElem (show j < zs.length by omega)]
      · rw [if_neg hjl] at hj
        simp at hj
    · have := hwz x (List.mem_of_mem_take hx)
      simp [Lit.wf, IntKind.min, IntKind.max, IntKind.signed, IntKind.bits] at this
      omega
def IsPlane (W : World) (v : Value) (x : Int × Int × List Int) : Prop := ∃ u0 u1 u2, v = .agg #[u0, u1, u2] ∧ IsInt .i64 u0 x.1 ∧ IsInt .i64 u1 x.2.1 ∧ IsInts W u2 x.2.2
theorem opens_plane {H : Type} {enc : TypeId × Value → H} {w : World} {b0 : Nat} {r : Reach} {v : Value} {d : DataW H} {ps : List MemPlace}
    (hv : Value.okWide Try.prog w r b0 39 v) (h : DataW.Trod enc Try.prog w 0 (fun _ => true) true 39 v d ps) : ∃ x, IsPlane w v x := by
  obtain ⟨c0, c1, c2, y0, y1, y2, m, rfl, _, _, hy0, hy1, hy2⟩ := open_agg3 Try.underlying39 (by kernel_rfl) (by kernel_rfl) hv h
  obtain ⟨a0, e0, _, w0⟩ := DataW.trod_int Try.underlying3 hy0
  obtain ⟨a1, e1, _, w1⟩ := DataW.trod_int Try.underlying3 hy1
  obtain ⟨xs, hxs⟩ := ints_trod Try.underlying37 Try.underlying3 (by kernel_rfl) hy2
  simp at e0 e1
  exact ⟨(a0, a1, xs), c0, c1, c2, rfl, ⟨e0, w0⟩, ⟨e1, w1⟩, hxs⟩
/-- What a walk is told of a plane that came in. -/
theorem IsPlane.form {W : World} {v : Value} {x : Int × Int × List Int} (h : IsPlane W v x) : ∃ A c, v = .agg #[.int .i64 x.1, .int .i64 x.2.1, .slice A x.2.2.length c] ∧ ReadsI W A x.2.2 ∧ x.2.2.length ≤ 9223372036854775807 ∧
    (-9223372036854775808 ≤ x.1 ∧ x.1 ≤ 9223372036854775807) ∧ (-9223372036854775808 ≤ x.2.1 ∧ x.2.1 ≤ 9223372036854775807) ∧ ∀ z ∈ x.2.2, -9223372036854775808 ≤ z ∧ z ≤ 9223372036854775807 := by
  obtain ⟨u0, u1, u2, rfl, h0, h1, A, c, rfl, hR, hm, hb⟩ := h
  have b0 := h0.bd
  have b1 := h1.bd
  obtain ⟨rfl, _⟩ := h0
  obtain ⟨rfl, _⟩ := h1
  exact ⟨A, c, rfl, hR, by
    unfold maxLen at hm
    omega, b0, b1, hb⟩

end Go.Proofs.Ytjlajggilcihoaa
