/- Words: all blocks but two lie as they lay. -/
import Derived.Test.YtjlajggilcihoaaBase
namespace Go.Proofs.Ytjlajggilcihoaa
open Go.RowKit
set_option linter.unusedVariables false
/-- Below n1 all blocks but i and j lie as they lay. -/
structure ButTwo (n1 i j : Nat) (w w' : World) : Prop where
  os : w'.os = w.os
  tape : w'.tape = w.tape
  output : w'.output = w.output
  size : w.heap.size ≤ w'.heap.size
  block : ∀ k, k < n1 → k ≠ i → k ≠ j → w'.heap[k]? = w.heap[k]?
section
variable {n1 i j : Nat} {w w' x : World}
theorem ButTwo.refl (n1 i j : Nat) (w : World) : ButTwo n1 i j w w := ⟨rfl, rfl, rfl, Nat.le_refl _, fun _ _ _ _ => rfl⟩
theorem ButTwo.set_ (h : ButTwo n1 i j w w') {p : Addr} (hp : p.block = i ∨ p.block = j ∨ n1 ≤ p.block) (u : Value) : ButTwo n1 i j w (w'.setCell p u) :=
  ⟨h.os, h.tape, h.output, by simpa [World.setCell] using h.size, fun k hk h1 h2 => (Below.heap_setCell _ _ _ _ (by rintro rfl; rcases hp with hp | hp | hp <;> omega)).trans (h.block k hk h1 h2)⟩
theorem ButTwo.trans (h : ButTwo n1 i j w w') (k : ButTwo n1 i j w' x) : ButTwo n1 i j w x := ⟨k.os.trans h.os, k.tape.trans h.tape, k.output.trans h.output, Nat.le_trans h.size k.size, fun q a b c => (k.block q a b c).trans (h.block q a b c)⟩
theorem ButTwo.trans_ (h : ButTwo n1 i j w w') (k : Below w'.heap.size w' x) (hn : n1 ≤ w'.heap.size) : ButTwo n1 i j w x := ⟨k.os.trans h.os, k.tape.trans h.tape, k.output.trans h.output, Nat.le_trans h.size k.size, fun q a b c => (k.block q (by omega)).trans (h.block q a b c)⟩
theorem row_in {a b k n : Nat} (hk : k < b) (hl : n = a * b) : k * a + a ≤ n := by rw [hl]; have := Nat.mul_le_mul_right a (show k + 1 ≤ b from hk); rw [Nat.mul_comm a b]; rw [Nat.succ_mul] at this; exact this
theorem ButTwo.blk (h : ButTwo n1 i j w w') {g : Nat} {t : TypeId} {cs : Array Value} (hb : Blk w g t cs) (hg : g < n1) (h1 : g ≠ i) (h2 : g ≠ j) : Blk w' g t cs := (h.block g hg h1 h2).trans hb
theorem ButTwo.below (h : ButTwo n1 i j w w') {B : Nat} (hB : B ≤ n1) (h1 : B ≤ i) (h2 : B ≤ j) : Below B w w' := ⟨h.os, h.tape, h.output, h.size, fun k hk => h.block k (by omega) (by omega) (by omega)⟩
theorem ButTwo.cell (h : ButTwo n1 i j w w') {p : Addr} (hg : p.block < n1) (h1 : p.block ≠ i) (h2 : p.block ≠ j) : w'.cell? p = w.cell? p := World.cell?_of_block (w := w) (h.block p.block hg h1 h2)
end

end Go.Proofs.Ytjlajggilcihoaa
