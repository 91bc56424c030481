/- What first of the laws of layer 1 answers: true. -/
import Derived.Test.YtgdlleoefncikaaRef1b
namespace Go.Proofs.Ytgdlleoefncikaa
open Go.RowKit
set_option linter.unusedVariables false
set_option linter.unusedSimpArgs false

section
variable {w w' W : World} {B B2 g gr : Nat} {bv : Value} {bs bs2 : List Bool} {xs : List Int} {a o : Nat}
theorem WrI.rgoes (h : WrI w B g bv bs) (hr : RdI w B2 gr xs a o) (hg : RGoes w w' gr) : WrI w' B g bv bs := by
  obtain ⟨rv, _, hb, _⟩ := hr
  exact ⟨h.1, Blk.grown h.2.1 hg (fun e => Blk.ne_ h.2.1 hb (by decide) (by injection e)), OwnB.grown h.2.2 hg (.inr (own_blk_ne h.2.2 hb (by decide)))⟩
theorem Touch.below {r : Option Nat} (h : Touch g r w w') (hB : B ≤ w.heap.size) (hg : B ≤ g) (hr : ∀ k, r = some k → B ≤ k) : Below B w w' :=
  ⟨h.os, h.tape, h.output, h.size, fun k hk => h.block k (by omega) (by omega) (fun e => by have := hr k e.symm; omega)⟩
theorem WGoes.below (h : WrI w B g bv bs) (hg : WGoes w w' B g bv bs2) (hB : B ≤ w.heap.size) : Below B w w' := by
  obtain ⟨b2, _, ht, _⟩ := hg
  exact ht.below hB h.1 (fun k hk => (h.2.2.blk_lt k hk).1)
theorem WGoes.wr (hg : WGoes w w' B g bv bs2) : ∃ b2, WrI w' B g b2 bs2 := by
  obtain ⟨b2, h, _, _⟩ := hg
  exact ⟨b2, h⟩
theorem RGoes.below (h : RdI w B gr xs a o) (hg : RGoes w w' gr) (hB : B ≤ w.heap.size) : Below B w w' := by
  obtain ⟨_, h1, _, _⟩ := h
  exact ⟨hg.os, hg.tape, hg.output, hg.size, fun k hk => hg.block k (by omega) (fun e => by injection e with e; omega)⟩
theorem RdI.lower (h : RdI w B gr xs a o) (hB : B2 ≤ B) : RdI w B2 gr xs a o := by
  obtain ⟨rv, h1, h2, h3⟩ := h
  refine ⟨rv, by omega, h2, h3.1, ?_⟩
  rcases h3.2 with h | ⟨g, cap, cur, hv, hg, r⟩
  · exact .inl h
  · exact .inr ⟨g, cap, cur, hv, by omega, r⟩
end
/-- A new writer. -/
theorem WrI.new (w : World) {B : Nat} (hB : B ≤ w.heap.size) : WrI (w.alloc (.cells #[.slice none 0 0, .int .i64 0] 54)) B w.heap.size (.slice none 0 0) [] :=
  ⟨hB, Blk.new w _ _, OwnB.nil _ _⟩
theorem readsLitB (w : World) (xs : List Int) (t : TypeId) (ht : t = 5) (hm : xs.length ≤ 1000) : ReadsB (w.alloc (.cells (xs.map (Value.int .u8)).toArray t)) (some ⟨w.heap.size, 0, none⟩) xs := by
  subst ht
  exact (RowB.new w xs).reads (by unfold maxLen; omega)

theorem byte8_of {xs : List Int} (h : ∀ x ∈ xs, 0 ≤ x ∧ x ≤ 255) : Byte8 xs := by
  intro j
  unfold rdn
  by_cases hj : j < xs.length
  · simp only [List.getD_eq_getElem?_getD, List.getElem?_eq_getElem hj, Option.getD_some]
    exact h _ (List.getElem_mem hj)
  · simp [List.getD_eq_getElem?_getD, List.getElem?_eq_none (show xs.length ≤ j by omega)]
theorem packZ_byte8 (bs : List Bool) : Byte8 (packZ bs) := byte8_of fun x hx => by
  obtain ⟨i, _, rfl⟩ := List.mem_map.1 hx
  exact byteZ_bd bs i


end Go.Proofs.Ytgdlleoefncikaa
