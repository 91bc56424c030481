/- An argument of the type api.Plane, opened; its list's capacity told, too. -/
import Derived.Test.YtjlajggilcihoaaOpenPlane
namespace Go.Proofs.Ytjlajggilcihoaa
open Go.ChangeShapes Go.WideShapes Go.ChangeAt Go.RowKit Go.Joins
set_option linter.unusedVariables false

theorem ints_cap {H : Type} {enc : TypeId × Value → H} {P : Program} {w : World} {t e : TypeId} {v : Value} {y : DataW H × List MemPlace} {fuel : Nat}
    (ht : P.underlying t = some (.slice e)) (he : P.underlying e = some (.int .i64)) (hc : P.cellsOf e = 1) (hf : DataW.trod enc P w 0 (fun _ => true) true fuel t [v] = some y) : ∃ A n c, v = .slice A n c ∧ n ≤ c ∧ c ≤ 9223372036854775807 := by
  rcases open_ints ht he hc hf with ⟨hcs, hx⟩ | ⟨a, len, cap, zs, hcs, _, hl, hm, hz, hx, hcell, hwz⟩
  · simp at hcs
    subst hcs
    exact ⟨none, 0, 0, rfl, Nat.le_refl _, by omega⟩
  · simp at hcs
    subst hcs
    exact ⟨_, _, _, rfl, hl, by unfold maxLen at hm; omega⟩
def CapOk (v : Value) : Prop := ∃ a b A n c, v = .agg #[a, b, .slice A n c] ∧ n ≤ c ∧ c ≤ 9223372036854775807
def IsPlaneC (W : World) (v : Value) (x : Int × Int × List Int) : Prop := IsPlane W v x ∧ CapOk v
theorem opens_planeC {H : Type} {enc : TypeId × Value → H} {w : World} {b0 : Nat} {r : Reach} {v : Value} {d : DataW H} {ps : List MemPlace}
    (hv : Value.okWide Try.prog w r b0 39 v) (h : DataW.Trod enc Try.prog w 0 (fun _ => true) true 39 v d ps) : ∃ x, IsPlaneC w v x := by
  obtain ⟨x, hx⟩ := opens_plane hv h
  obtain ⟨c0, c1, c2, y0, y1, y2, m, rfl, _, _, hy0, hy1, hy2⟩ := open_agg3 Try.underlying39 (by kernel_rfl) (by kernel_rfl) hv h
  obtain ⟨A, n, c, rfl, h1, h2⟩ := ints_cap Try.underlying37 Try.underlying3 (by kernel_rfl) hy2
  exact ⟨x, hx, c0, c1, A, n, c, rfl, h1, h2⟩
theorem IsPlaneC.form {W : World} {v : Value} {x : Int × Int × List Int} (h : IsPlaneC W v x) : ∃ A c, v = .agg #[.int .i64 x.1, .int .i64 x.2.1, .slice A x.2.2.length c] ∧ ReadsI W A x.2.2 ∧ x.2.2.length ≤ 9223372036854775807 ∧
    (-9223372036854775808 ≤ x.1 ∧ x.1 ≤ 9223372036854775807) ∧ (-9223372036854775808 ≤ x.2.1 ∧ x.2.1 ≤ 9223372036854775807) ∧ (∀ z ∈ x.2.2, -9223372036854775808 ≤ z ∧ z ≤ 9223372036854775807) ∧ x.2.2.length ≤ c ∧ c ≤ 9223372036854775807 := by
  obtain ⟨A, c, rfl, h1, h2, h3, h4, h5⟩ := h.1.form
  obtain ⟨_, _, A', n, c', e, h6, h7⟩ := h.2
  simp at e
  obtain ⟨_, _, _, rfl, rfl⟩ := e
  exact ⟨A, c, rfl, h1, h2, h3, h4, h5, h6, h7⟩

end Go.Proofs.Ytjlajggilcihoaa
