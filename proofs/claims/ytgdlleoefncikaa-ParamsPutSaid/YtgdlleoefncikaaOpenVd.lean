/- An argument of the type api.Video, opened: four numbers. -/
import Derived.Test.YtgdlleoefncikaaOpen
namespace Go.Proofs.Ytgdlleoefncikaa
open Go.ChangeShapes Go.WideShapes Go.ChangeAt Go.RowKit Go.Joins
set_option linter.unusedVariables false

def IsVd (v : Value) (x : Int × Int × Int × Int) : Prop := ∃ u0 u1 u2 u3, v = .agg #[u0, u1, u2, u3] ∧ IsInt .i64 u0 x.1 ∧ IsInt .i64 u1 x.2.1 ∧ IsInt .i64 u2 x.2.2.1 ∧ IsInt .i64 u3 x.2.2.2
theorem opens_vd {H : Type} {enc : TypeId × Value → H} {w : World} {base b0 : Nat} {spare : Nat → Bool} {held : Bool} {r : Reach} {v : Value} {d : DataW H} {ps : List MemPlace}
    (hv : Value.okWide Try.prog w r b0 23 v) (h : DataW.Trod enc Try.prog w base spare held 23 v d ps) : ∃ x, IsVd v x := by
  obtain ⟨c0, c1, c2, c3, y0, y1, y2, y3, m, rfl, _, _, hy0, hy1, hy2, hy3⟩ := open_agg4 Try.underlying23 (by kernel_rfl) (by kernel_rfl) hv h
  obtain ⟨a0, e0, _, w0⟩ := DataW.trod_int Try.underlying3 hy0
  obtain ⟨a1, e1, _, w1⟩ := DataW.trod_int Try.underlying3 hy1
  obtain ⟨a2, e2, _, w2⟩ := DataW.trod_int Try.underlying3 hy2
  obtain ⟨a3, e3, _, w3⟩ := DataW.trod_int Try.underlying3 hy3
  simp at e0 e1 e2 e3
  exact ⟨(a0, a1, a2, a3), c0, c1, c2, c3, rfl, ⟨e0, w0⟩, ⟨e1, w1⟩, ⟨e2, w2⟩, ⟨e3, w3⟩⟩

end Go.Proofs.Ytgdlleoefncikaa
