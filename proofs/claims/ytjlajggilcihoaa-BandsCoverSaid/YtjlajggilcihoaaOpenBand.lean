/- An argument of the type api.Band, opened: six numbers. -/
import Derived.Test.YtjlajggilcihoaaOpen
namespace Go.Proofs.Ytjlajggilcihoaa
open Go.ChangeShapes Go.WideShapes Go.ChangeAt Go.RowKit Go.Joins Go.Deep
set_option linter.unusedVariables false

section
variable {H : Type} {enc : TypeId × Value → H} {w : World} {base b0 : Nat} {spare : Nat → Bool} {held : Bool} {r : Reach} {v : Value} {d : DataW H} {ps : List MemPlace}
/-- A struct of numbers, by value. -/
theorem open_nums {t : TypeId} {fs : Array Field} (hs : Try.prog.underlying t = some (.struct fs)) (hone : oneCellFields Try.prog fs = true) (hC : Try.prog.cellsOf t = fs.size) (hi : fs.all (fun f => f.type == 3) = true)
    (hv : Value.okWide Try.prog w r b0 t v) (h : DataW.Trod enc Try.prog w base spare held t v d ps) :
    ∃ cs, v = .agg cs ∧ cs.size = fs.size ∧ ∀ j, j < fs.size → ∃ x, IsInt .i64 (cs.getD j undef) x := by
  obtain ⟨cs, rfl, hsz⟩ := okWide_struct hs hv
  have hz : cs.size = fs.size := hsz.trans hC
  obtain ⟨fuel, hf⟩ := h
  obtain ⟨ys, n', hn', hy, hlen, hyl, hat⟩ := DataW.trod_struct hs hf
  refine ⟨cs, rfl, hz, fun j hj => ?_⟩
  have hfj : fs[j]? = some fs[j] := Array.getElem?_eq_getElem hj
  obtain ⟨o, c⟩ := hone_of hone j _ hfj
  have hft : fs[j].type = 3 := by
    have := Array.all_eq_true.1 hi j hj
    simpa using this
  have h1 := hat j _ hfj
  have hy2 : ys[j]? = some ys[j] := List.getElem?_eq_getElem (by omega)
  rw [o, c, hft, hy2] at h1
  obtain ⟨a, e, _, w⟩ := DataW.trod_int Try.underlying3 h1
  have hjl : j < cs.size := by omega
  have : (cs.toList.drop j).take 1 = [cs[j]] := by
    rw [List.drop_eq_getElem_cons (by simpa using hjl)]
    simp
  have e : (cs.toList.drop j).take 1 = _ := e
  rw [this] at e
  refine ⟨a, ?_, w⟩
  simpa [Array.getD, hjl] using e
def IsBand (v : Value) (l o x y bw bh : Int) : Prop := ∃ u0 u1 u2 u3 u4 u5, v = .agg #[u0, u1, u2, u3, u4, u5] ∧ IsInt .i64 u0 l ∧ IsInt .i64 u1 o ∧ IsInt .i64 u2 x ∧ IsInt .i64 u3 y ∧ IsInt .i64 u4 bw ∧ IsInt .i64 u5 bh
theorem opens_band (hv : Value.okWide Try.prog w r b0 31 v) (h : DataW.Trod enc Try.prog w base spare held 31 v d ps) :
    ∃ l o x y bw bh, IsBand v l o x y bw bh := by
  obtain ⟨cs, rfl, hz, hi⟩ := open_nums Try.underlying31 (by kernel_rfl) (by kernel_rfl) (by kernel_rfl) hv h
  obtain ⟨ls⟩ := cs
  match ls, hz, hi with
  | [c0, c1, c2, c3, c4, c5], _, hi =>
    obtain ⟨l, h0⟩ := hi 0 (by decide)
    obtain ⟨o, h1⟩ := hi 1 (by decide)
    obtain ⟨x, h2⟩ := hi 2 (by decide)
    obtain ⟨y, h3⟩ := hi 3 (by decide)
    obtain ⟨bw, h4⟩ := hi 4 (by decide)
    obtain ⟨bh, h5⟩ := hi 5 (by decide)
    exact ⟨l, o, x, y, bw, bh, c0, c1, c2, c3, c4, c5, rfl, h0, h1, h2, h3, h4, h5⟩
end

end Go.Proofs.Ytjlajggilcihoaa
