/- Words for rows of bytes. -/
import Derived.Test.YtgdlleoefncikaaWords
namespace Go.Proofs.Ytgdlleoefncikaa
open Go.RowKit
set_option linter.unusedVariables false
set_option linter.unusedSimpArgs false

/-! Own words: rows of whole numbers. -/
def OwnB (w : World) (B : Nat) (v : Value) (xs : List Int) : Prop := w.ownsRow B 5 1 v xs.length (xs.map (Value.int .u8))
def ReadsB (w : World) (A : Option Addr) (xs : List Int) : Prop := Reads w w.heap.size 1 A xs.length (xs.map (Value.int .u8))
theorem info_byte : (Try.prog.info? 5).map (fun i => (i.zero, i.size, i.bytes)) = some (some (.int .u8 0), 1, 1) := by kernel_rfl
section
variable {w w' : World} {B B' : Nat} {v : Value} {xs : List Int} {A : Option Addr}
theorem OwnB.nil (w : World) (B : Nat) : OwnB w B (.slice none 0 0) [] := World.ownsRow_nil w B _ _
theorem OwnB.kept (h : OwnB w B v xs) (hb : Below w.heap.size w w') : OwnB w' B v xs := World.ownsRow.kept h (only_of_below hb none) (by cases v.ownBlock <;> simp)
theorem OwnB.lower (h : OwnB w B v xs) (hB : B' ≤ B) : OwnB w B' v xs := by
  obtain ⟨h1, h2⟩ := h
  refine ⟨h1, ?_⟩
  rcases h2 with h2 | ⟨g, cap, cur, hv, hg, r⟩
  · exact .inl h2
  · exact .inr ⟨g, cap, cur, hv, by omega, r⟩
theorem OwnB.slice (h : OwnB w B v xs) : ∃ A c, v = .slice A xs.length c ∧ ReadsB w A xs := by
  obtain ⟨h1, h2⟩ := id h
  rcases h2 with ⟨rfl, h2⟩ | ⟨g, cap, cur, rfl, hg, r⟩
  · have : xs.length = 0 := h2
    exact ⟨none, 0, by rw [this], by
      have : xs = [] := List.eq_nil_of_length_eq_zero this
      subst this
      exact Reads.none_⟩
  · exact ⟨_, cap, rfl, Reads.of_own (c := cap) h⟩
/-- A row of the call's own that isn't empty: its block, its cells. -/
theorem OwnB.form (h : OwnB w B v xs) (hp : 0 < xs.length) : ∃ g c, v = .slice (some ⟨g, 0, none⟩) xs.length c ∧ B ≤ g ∧ g < w.heap.size ∧
    (∀ i : Nat, i < xs.length → w.cell? ⟨g, i, none⟩ = some (.int .u8 (xs.getD i 0))) ∧ (∀ i : Nat, w.frozen? ⟨g, i, none⟩ = false) := by
  obtain ⟨g, cap, rfl, hg, hlt⟩ := World.ownsRow.form h hp
  refine ⟨g, cap, rfl, hg, hlt, fun i hi => ?_, fun i => World.ownsRow.frozenAt h i⟩
  rw [World.ownsRow.cellAt h i (by omega), List.getElem?_map, List.getElem?_eq_getElem hi]
  simp [List.getD_eq_getElem?_getD, List.getElem?_eq_getElem hi]
theorem OwnB.max (h : OwnB w B v xs) : xs.length ≤ 9223372036854775807 := by
  rcases h.2 with ⟨_, h2⟩ | ⟨g, cap, cur, _, _, _, h3, h4, _⟩
  · omega
  · unfold maxLen at h4
    omega
theorem ReadsB.kept (h : ReadsB w A xs) (hb : Below w.heap.size w w') : ReadsB w' A xs := Reads.more (Reads.below h hb) hb.size
theorem ReadsB.at_ (h : ReadsB w A xs) {i : Nat} (hi : i < xs.length) : ∃ ad, A = some ad ∧ ad.block < w.heap.size ∧ w.cell? (ad.add i) = some (.int .u8 (xs.getD i 0)) := by
  obtain ⟨ad, u, rfl, hb, hx, hc⟩ := Reads.at_ h hi
  refine ⟨ad, rfl, hb, ?_⟩
  rw [List.getElem?_map, List.getElem?_eq_getElem hi] at hx
  rw [hc, ← hx]
  simp [List.getD_eq_getElem?_getD, List.getElem?_eq_getElem hi]
end

/-- Block g is just the numbers xs. -/
def RowB (w : World) (g : Nat) (xs : List Int) : Prop := Blk w g 5 (xs.map (Value.int .u8)).toArray
section
variable {w w' : World} {B g : Nat} {xs : List Int}
theorem RowB.lt (h : RowB w g xs) : g < w.heap.size := Blk.lt h
theorem RowB.cell (h : RowB w g xs) {i : Nat} (hi : i < xs.length) : w.cell? ⟨g, i, none⟩ = some (.int .u8 (xs.getD i 0)) := by
  rw [Blk.cell h i]
  simp [List.getD_eq_getElem?_getD, List.getElem?_eq_getElem hi]
theorem RowB.frozen (h : RowB w g xs) (i : Nat) : w.frozen? ⟨g, i, none⟩ = false := Blk.frozen h i
theorem RowB.set_ (h : RowB w g xs) (i : Nat) (u : Int) : RowB (w.setCell ⟨g, i, none⟩ (.int .u8 u)) g (xs.set i u) := by
  have := Blk.set_ h i (.int .u8 u)
  unfold RowB
  rw [List.map_set]
  simpa using this
theorem RowB.kept (h : RowB w g xs) (hb : Below w.heap.size w w') : RowB w' g xs := Blk.below h hb h.lt
theorem RowB.grown {row : Option Nat} (h : RowB w g xs) (hb : w.grownBy w' row) (hg : some g ≠ row) : RowB w' g xs := Blk.grown h hb hg
theorem RowB.own (h : RowB w g xs) (hB : B ≤ g) (hm : xs.length ≤ maxLen) : OwnB w B (.slice (some ⟨g, 0, none⟩) xs.length xs.length) xs :=
  ⟨by simp, .inr ⟨g, xs.length, _, rfl, hB, h, Nat.le_refl _, hm, by simp, by simp [List.take_of_length_le]⟩⟩
theorem RowB.reads (h : RowB w g xs) (hm : xs.length ≤ maxLen) : ReadsB w (some ⟨g, 0, none⟩) xs := Reads.of_own (h.own (Nat.zero_le _) hm)
end
/-- make([]int, n) -/
theorem make_byte (T : TypeId) (hT : Try.prog.underlying T = some (.slice 5)) (n : Nat) (hn : n ≤ 281474976710656) (W : World) :
    (Instr.makeSlice T (.int .i64 (n : Int)) (.int .i64 (n : Int))).run Try.prog W = .ok (.slice (some ⟨W.heap.size, 0, none⟩) n n) (W.alloc (.cells ((List.replicate n (0 : Int)).map (Value.int .u8)).toArray 5)) := by
  obtain ⟨i0, hi, hz0, hz1, hz2⟩ := info_parts info_byte
  have hmk := run_make_rowN (P := Try.prog) T 5 i0 (.int .u8 0) hT hi hz0 .i64 .i64 n n (Nat.le_refl _) (by rw [hz2]; omega) (by omega) W
  rw [hz1, Nat.mul_one, show (Value.int .u8 0).cells = #[.int .u8 0] from rfl] at hmk
  rw [hmk]
  congr 3
  apply Array.ext'
  rw [toList_madeCells_one]
  simp
theorem RowB.new (w : World) (xs : List Int) : RowB (w.alloc (.cells (xs.map (Value.int .u8)).toArray 5)) w.heap.size xs := Blk.new _ _ _

theorem OwnB.grown {w w' : World} {B : Nat} {v : Value} {xs : List Int} {row : Option Nat} (h : OwnB w B v xs) (hb : w.grownBy w' row) (hne : v.ownBlock = none ∨ v.ownBlock ≠ row) : OwnB w' B v xs := World.ownsRow.kept h hb hne

section
variable {w w' : World} {B g : Nat} {v : Value} {xs : List Int} {A : Option Addr}
theorem ReadsB.rd_ (h : ReadsB w A xs) {i : Nat} (hi : i < xs.length) : ∃ ad, A = some ad ∧ ad.block < w.heap.size ∧ w.cell? (ad.add i) = some (.int .u8 (rdn xs i)) := h.at_ hi
theorem RowB.rd_ (h : RowB w g xs) {i : Nat} (hi : i < xs.length) : w.cell? ⟨g, i, none⟩ = some (.int .u8 (rdn xs i)) := h.cell hi
theorem OwnB.formr (h : OwnB w B v xs) (hp : 0 < xs.length) : ∃ g c, v = .slice (some ⟨g, 0, none⟩) xs.length c ∧ B ≤ g ∧ g < w.heap.size ∧
    (∀ i : Nat, i < xs.length → w.cell? ⟨g, i, none⟩ = some (.int .u8 (rdn xs i))) ∧ (∀ i : Nat, w.frozen? ⟨g, i, none⟩ = false) := h.form hp
/-- A number is stored into a row of the call's own. -/
theorem OwnB.stored {g c : Nat} (h : OwnB w B (.slice (some ⟨g, 0, none⟩) xs.length c) xs) (i : Nat) (x : Int) : OwnB (w.setCell ⟨g, i, none⟩ (.int .u8 x)) B (.slice (some ⟨g, 0, none⟩) (xs.set i x).length c) (xs.set i x) := by
  have := (World.ownsRow.stored h i (.int .u8 x)).1
  unfold OwnB
  rw [List.length_set, List.map_set]
  exact this
theorem OwnB.drew (h : OwnB w B v xs) : OwnB w.drew B v xs := h
theorem OwnB.len {g n c : Nat} (h : OwnB w B (.slice (some ⟨g, 0, none⟩) n c) xs) : n = xs.length ∧ B ≤ g ∧ g < w.heap.size := by
  rcases h.2 with ⟨h, _⟩ | ⟨g', cap, cur, hv, hg, hh, _⟩
  · cases h
  · injection hv with hv hn hc
    injection hv with hv
    injection hv with hv
    subst hv
    exact ⟨hn, hg, (Array.getElem?_eq_some_iff.1 hh).1⟩
theorem OwnB.cellr {g n c : Nat} (h : OwnB w B (.slice (some ⟨g, 0, none⟩) n c) xs) {i : Nat} (hi : i < xs.length) : w.cell? ⟨g, i, none⟩ = some (.int .u8 (rdn xs i)) := by
  obtain rfl := h.len.1
  rw [World.ownsRow.cellAt h i (by omega), List.getElem?_map, List.getElem?_eq_getElem hi]
  simp [rdn, List.getD_eq_getElem?_getD, List.getElem?_eq_getElem hi]
theorem OwnB.frozenr {g n c : Nat} (h : OwnB w B (.slice (some ⟨g, 0, none⟩) n c) xs) (i : Nat) : w.frozen? ⟨g, i, none⟩ = false := by
  obtain rfl := h.len.1
  exact World.ownsRow.frozenAt h i
theorem OwnB.put {g n c : Nat} (h : OwnB w B (.slice (some ⟨g, 0, none⟩) n c) xs) (i : Nat) (x : Int) : OwnB (w.setCell ⟨g, i, none⟩ (.int .u8 x)) B (.slice (some ⟨g, 0, none⟩) n c) (xs.set i x) := by
  obtain rfl := h.len.1
  have := OwnB.stored h i x
  rw [List.length_set] at this
  exact this
end

/-! Sums that lose what doesn't fit. -/

end Go.Proofs.Ytgdlleoefncikaa
