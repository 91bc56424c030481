/- An argument of the type []bool, opened. -/
import Derived.Test.YtlhpaompaigkpaaOpen
import Derived.Test.YtlhpaompaigkpaaOpenInts
import Derived.Deep.Grids
namespace Go.Proofs.Ytlhpaompaigkpaa
open Go.ChangeShapes Go.WideShapes Go.ChangeAt Go.RowKit
set_option linter.unusedVariables false

def BoolsR (W : World) (A : Option Addr) (bs : List Bool) : Prop := ∀ i (h : i < bs.length), ∃ ad, A = some ad ∧ ad.block < W.heap.size ∧ W.cell? (ad.add i) = some (.bool bs[i])
def IsBools (W : World) (v : Value) (bs : List Bool) : Prop := ∃ A c, v = .slice A bs.length c ∧ bs.length ≤ maxLen ∧ BoolsR W A bs
theorem BoolsR.kept {w w' : World} {A : Option Addr} {bs : List Bool} (h : BoolsR w A bs) (hb : Below w.heap.size w w') : BoolsR w' A bs := fun i hi => by
  obtain ⟨ad, e, hl, h1⟩ := h i hi
  exact ⟨ad, e, Nat.lt_of_lt_of_le hl hb.size, (hb.cell (by rw [block_of_add]; exact hl)).trans h1⟩
theorem opens_bools {H : Type} {enc : TypeId × Value → H} {P : Program} {w : World} {b0 : Nat} {r : Reach} {t e : TypeId} {v : Value} {d : DataW H} {ps : List MemPlace}
    (ht : P.underlying t = some (.slice e)) (he : P.underlying e = some .bool) (hc : P.cellsOf e = 1) (hv : Value.okWide P w r b0 t v) (h : DataW.Trod enc P w 0 (fun _ => true) true t v d ps) : ∃ bs, IsBools w v bs := by
  obtain ⟨a0, len, cap, rfl⟩ := okWide_slice ht hv
  obtain ⟨fuel, hf⟩ := h
  rcases Go.Deep.open_bools ht he hc hf with ⟨hcs, hx⟩ | ⟨a, len', cap', B, hcs, _, hl, hm, hx, hcell⟩
  · simp [Value.cells] at hcs
    obtain ⟨rfl, rfl, rfl⟩ := hcs
    exact ⟨[], none, 0, rfl, Nat.zero_le _, fun i hi => absurd hi (Nat.not_lt_zero _)⟩
  · simp [Value.cells] at hcs
    obtain ⟨rfl, rfl, rfl⟩ := hcs
    refine ⟨(List.range len).map B, some a, cap, by simp, by simp; omega, fun i hi => ?_⟩
    have hil : i < len := by simpa using hi
    have := hcell i (by omega)
    simp only [List.getElem_map, List.getElem_range]
    have hlt := cell_lt this
    rw [block_of_add] at hlt
    exact ⟨a, rfl, hlt, this⟩

end Go.Proofs.Ytlhpaompaigkpaa
