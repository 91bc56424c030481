/- Words for printed walks: facts carried from world to world, blocks' cells. -/
import Derived.Test.YtgdlleoefncikaaOwn2
import Derived.Test.YtgdlleoefncikaaRng
namespace Go.Proofs.Ytgdlleoefncikaa
open Go.RowKit
set_option linter.unusedVariables false
section
variable {w w' : World} {B g : Nat} {v : Value} {xs : List Int} {A : Option Addr} {t : TypeId} {a b c d : Value}
theorem ReadsI.drew (h : ReadsI w A xs) : ReadsI w.drew A xs := h
theorem RowI.drew (h : RowI w g xs) : RowI w.drew g xs := h
theorem ReadsI.alloc (h : ReadsI w A xs) (o : Obj) : ReadsI (w.alloc o) A xs := h.kept ((Below.refl _ _).alloc (Nat.le_refl _) _)
theorem RowI.alloc (h : RowI w g xs) (o : Obj) : RowI (w.alloc o) g xs := Blk.alloc h o
theorem OwnI.reads {n c : Nat} (h : OwnI w B (.slice A n c) xs) : ReadsI w A xs := by
  obtain ⟨A', c', e, hr⟩ := h.slice
  injection e with e1 e2 e3
  subst e1
  exact hr
theorem ReadsI.cellv {ad : Addr} (h : ReadsI w (some ad) xs) {i : Nat} (hi : i < xs.length) : w.cell? (ad.add i) = some (.int .i64 (rdn xs i)) := by
  obtain ⟨ad', e, _, hc⟩ := h.rd_ hi
  injection e with e
  subst e
  exact hc
theorem below_alloc_ {w0 : World} (h : Below w0.heap.size w0 w) (o : Obj) : Below w0.heap.size w0 (w.alloc o) := h.alloc h.size o
theorem Blk.cells1 (h : Blk w g t #[a]) : w.cell? ⟨g, 0, none⟩ = some a := h.cell 0
theorem Blk.cells2 (h : Blk w g t #[a, b]) : w.cell? ⟨g, 0, none⟩ = some a ∧ w.cell? ⟨g, 1, none⟩ = some b := ⟨h.cell 0, h.cell 1⟩
theorem Blk.cells3 (h : Blk w g t #[a, b, c]) : w.cell? ⟨g, 0, none⟩ = some a ∧ w.cell? ⟨g, 1, none⟩ = some b ∧ w.cell? ⟨g, 2, none⟩ = some c := ⟨h.cell 0, h.cell 1, h.cell 2⟩
theorem Blk.cells4 (h : Blk w g t #[a, b, c, d]) : w.cell? ⟨g, 0, none⟩ = some a ∧ w.cell? ⟨g, 1, none⟩ = some b ∧ w.cell? ⟨g, 2, none⟩ = some c ∧ w.cell? ⟨g, 3, none⟩ = some d := ⟨h.cell 0, h.cell 1, h.cell 2, h.cell 3⟩
end
end Go.Proofs.Ytgdlleoefncikaa
