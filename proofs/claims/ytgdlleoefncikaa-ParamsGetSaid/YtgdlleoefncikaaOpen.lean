/- How arguments of the laws' types are opened: what a value that reads as data looks like. -/
import Derived.Test.YtgdlleoefncikaaBase
import Derived.Test.YtgdlleoefncikaaRows
import Derived.ProofKit
import Derived.OpenShut
import Derived.ShutString
import Derived.ChangeOld
import Derived.SizedLaws
import Derived.Carry
import Derived.Lib.SmallJoins
import Derived.Deep.Slices
namespace Go.Proofs.Ytgdlleoefncikaa
open Go.ChangeShapes Go.WideShapes Go.ChangeAt Go.RowKit
set_option linter.unusedVariables false

theorem laidOut : laidOutB Try.prog = true := by kernel_rfl
/-- An argument behind a walk that has turned nothing of what was there. -/
theorem keep_arg {H : Type} {enc : TypeId × Value → H} {t : TypeId} (hr : Try.prog.readableRec t = true) (hrow : t < Try.prog.types.size) {W W' : World} {v : Value} {d : DataW H} {ps : List MemPlace}
    (h : DataW.Trod enc Try.prog W 0 (fun _ => true) true t v d ps) (hb : Below W.heap.size W W') (hlt : ∀ x ∈ ps, x.block < W.heap.size) :
    DataW.Trod enc Try.prog W' 0 (fun b => decide (b < W.heap.size)) true t v d ps := Below.trod laidOut hr hrow h hb hlt

section
variable {H : Type} {enc : TypeId × Value → H} {P : Program} {w : World} {base b0 : Nat} {spare : Nat → Bool} {held : Bool} {r : Reach} {t : TypeId} {v : Value} {d : DataW H} {ps : List MemPlace}

/-- A number of kind k. -/
def IsInt (k : IntKind) (v : Value) (n : Int) : Prop := v = .int k n ∧ (Lit.int k n).wf = true
theorem IsInt.bd {n : Int} (h : IsInt .i64 v n) : -9223372036854775808 ≤ n ∧ n ≤ 9223372036854775807 := by
  have := h.2
  simp [Lit.wf, IntKind.min, IntKind.max, IntKind.signed, IntKind.bits] at this
  omega
theorem IsInt.bd8 {n : Int} (h : IsInt .u8 v n) : 0 ≤ n ∧ n ≤ 255 := by
  have := h.2
  simp [Lit.wf, IntKind.min, IntKind.max, IntKind.signed, IntKind.bits] at this
  omega
theorem opens_int {k : IntKind} (ht : P.underlying t = some (.int k)) (hv : Value.okWide P w r b0 t v) (h : DataW.Trod enc P w base spare held t v d ps) : ∃ n, IsInt k v n := by
  obtain ⟨n, rfl, _, _, hw⟩ := open_int ht hv h
  exact ⟨n, rfl, hw⟩

theorem okWide_array {e n : Nat} (ht : P.underlying t = some (.array n e)) (h : Value.okWide P w r base t v) : ∃ cs, v = .agg cs ∧ cs.size = P.cellsOf t := by
  simp only [Value.okWide, ht] at h
  obtain ⟨cs, h1, h2, _⟩ := h
  exact ⟨cs, h1, h2⟩

/-- An array of two numbers of kind k. -/
def IsArr2 (k : IntKind) (v : Value) (x : Int × Int) : Prop := ∃ u0 u1, v = .agg #[u0, u1] ∧ IsInt k u0 x.1 ∧ IsInt k u1 x.2
theorem opens_arr2 {k : IntKind} {e : TypeId} (ht : P.underlying t = some (.array 2 e)) (he : P.underlying e = some (.int k)) (hc : P.cellsOf t = 2) (hce : P.cellsOf e = 1)
    (hv : Value.okWide P w r b0 t v) (h : DataW.Trod enc P w base spare held t v d ps) : ∃ x, IsArr2 k v x := by
  obtain ⟨cs, rfl, hs⟩ := okWide_array ht hv
  obtain ⟨l⟩ := cs
  match l, hs.trans hc with
  | [c0, c1], _ =>
    obtain ⟨fuel, hf⟩ := h
    obtain ⟨xs, m, _, _, _, hl, hg⟩ := DataW.trod_array ht hf
    have g0 := hg 0 (by omega)
    have g1 := hg 1 (by omega)
    rw [hce] at g0 g1
    simp [Value.cells] at g0 g1
    rw [List.getElem?_eq_getElem (by omega)] at g0 g1
    obtain ⟨a, e0, _, wa⟩ := DataW.trod_int he g0
    obtain ⟨b, e1, _, wb⟩ := DataW.trod_int he g1
    simp at e0 e1
    exact ⟨(a, b), c0, c1, rfl, ⟨e0, wa⟩, ⟨e1, wb⟩⟩

end
end Go.Proofs.Ytgdlleoefncikaa
