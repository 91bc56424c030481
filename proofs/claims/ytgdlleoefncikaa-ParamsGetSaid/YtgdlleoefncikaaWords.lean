/- More words: a row's number behind a name that the walk leaves alone; arithmetic that wraps. -/
import Derived.Test.YtgdlleoefncikaaBits
namespace Go.Proofs.Ytgdlleoefncikaa
open Go.RowKit
set_option linter.unusedVariables false

/-- A row's number at place i. -/
def rdn (xs : List Int) (i : Nat) : Int := xs.getD i 0
theorem rdn_tab (n : Nat) (f : Nat → Int) {a : Nat} (h : a < n) : rdn (tab n f) a = f a := tab_at n f h
theorem rdn_set (xs : List Int) (a : Nat) (v : Int) (b : Nat) (ha : a < xs.length) : rdn (xs.set a v) b = if b = a then v else rdn xs b := by
  unfold rdn
  by_cases e : b = a
  · subst e
    simp [List.getD_eq_getElem?_getD, ha]
  · rw [if_neg e]
    have e2 : a ≠ b := fun h => e h.symm
    simp [List.getD_eq_getElem?_getD, e2]
theorem ext_rdn {xs ys : List Int} (hl : xs.length = ys.length) (h : ∀ i, i < xs.length → rdn xs i = rdn ys i) : xs = ys := by
  apply List.ext_getElem hl
  intro i h1 h2
  have := h i h1
  simpa [rdn, List.getD_eq_getElem?_getD, h1, h2] using this
theorem tab_rdn (xs : List Int) : tab xs.length (fun a => rdn xs a) = xs := tab_of xs
section
variable {w w' : World} {B g : Nat} {v : Value} {xs : List Int} {A : Option Addr}
theorem ReadsI.rd_ (h : ReadsI w A xs) {i : Nat} (hi : i < xs.length) : ∃ ad, A = some ad ∧ ad.block < w.heap.size ∧ w.cell? (ad.add i) = some (.int .i64 (rdn xs i)) := h.at_ hi
theorem RowI.rd_ (h : RowI w g xs) {i : Nat} (hi : i < xs.length) : w.cell? ⟨g, i, none⟩ = some (.int .i64 (rdn xs i)) := h.cell hi
theorem OwnI.formr (h : OwnI w B v xs) (hp : 0 < xs.length) : ∃ g c, v = .slice (some ⟨g, 0, none⟩) xs.length c ∧ B ≤ g ∧ g < w.heap.size ∧
    (∀ i : Nat, i < xs.length → w.cell? ⟨g, i, none⟩ = some (.int .i64 (rdn xs i))) ∧ (∀ i : Nat, w.frozen? ⟨g, i, none⟩ = false) := h.form hp
/-- A number is stored into a row of the call's own. -/
theorem OwnI.stored {g c : Nat} (h : OwnI w B (.slice (some ⟨g, 0, none⟩) xs.length c) xs) (i : Nat) (x : Int) : OwnI (w.setCell ⟨g, i, none⟩ (.int .i64 x)) B (.slice (some ⟨g, 0, none⟩) (xs.set i x).length c) (xs.set i x) := by
  have := (World.ownsRow.stored h i (.int .i64 x)).1
  unfold OwnI
  rw [List.length_set, List.map_set]
  exact this
theorem OwnI.drew (h : OwnI w B v xs) : OwnI w.drew B v xs := h
theorem OwnI.len {g n c : Nat} (h : OwnI w B (.slice (some ⟨g, 0, none⟩) n c) xs) : n = xs.length ∧ B ≤ g ∧ g < w.heap.size := by
  rcases h.2 with ⟨h, _⟩ | ⟨g', cap, cur, hv, hg, hh, _⟩
  · cases h
  · injection hv with hv hn hc
    injection hv with hv
    injection hv with hv
    subst hv
    exact ⟨hn, hg, (Array.getElem?_eq_some_iff.1 hh).1⟩
theorem OwnI.cellr {g n c : Nat} (h : OwnI w B (.slice (some ⟨g, 0, none⟩) n c) xs) {i : Nat} (hi : i < xs.length) : w.cell? ⟨g, i, none⟩ = some (.int .i64 (rdn xs i)) := by
  obtain rfl := h.len.1
  rw [World.ownsRow.cellAt h i (by omega), List.getElem?_map, List.getElem?_eq_getElem hi]
  simp [rdn, List.getD_eq_getElem?_getD, List.getElem?_eq_getElem hi]
theorem OwnI.frozenr {g n c : Nat} (h : OwnI w B (.slice (some ⟨g, 0, none⟩) n c) xs) (i : Nat) : w.frozen? ⟨g, i, none⟩ = false := by
  obtain rfl := h.len.1
  exact World.ownsRow.frozenAt h i
theorem OwnI.put {g n c : Nat} (h : OwnI w B (.slice (some ⟨g, 0, none⟩) n c) xs) (i : Nat) (x : Int) : OwnI (w.setCell ⟨g, i, none⟩ (.int .i64 x)) B (.slice (some ⟨g, 0, none⟩) n c) (xs.set i x) := by
  obtain rfl := h.len.1
  have := OwnI.stored h i x
  rw [List.length_set] at this
  exact this
end

/-! Sums that lose what doesn't fit. -/
theorem wrap64_def (n : Int) : wrap64 n = (n + 9223372036854775808) % 18446744073709551616 - 9223372036854775808 := by unfold wrap64; omega
theorem wrap64_bd (n : Int) : -9223372036854775808 ≤ wrap64 n ∧ wrap64 n ≤ 9223372036854775807 := by unfold wrap64; omega
theorem wrap64_eq {a b : Int} (h : a % 18446744073709551616 = b % 18446744073709551616) : wrap64 a = wrap64 b := by unfold wrap64; omega
theorem wrap64_mod (a : Int) : wrap64 a % 18446744073709551616 = a % 18446744073709551616 := by unfold wrap64; omega
theorem wrap64_wrap (a : Int) : wrap64 (wrap64 a) = wrap64 a := by unfold wrap64; omega
theorem wrap64_add_l (a b : Int) : wrap64 (wrap64 a + b) = wrap64 (a + b) := by unfold wrap64; omega
theorem wrap64_add_r (a b : Int) : wrap64 (a + wrap64 b) = wrap64 (a + b) := by unfold wrap64; omega
theorem wrap64_sub_l (a b : Int) : wrap64 (wrap64 a - b) = wrap64 (a - b) := by unfold wrap64; omega
theorem wrap64_sub_r (a b : Int) : wrap64 (a - wrap64 b) = wrap64 (a - b) := by unfold wrap64; omega
theorem wrap64_mul_r (a b : Int) : wrap64 (a * wrap64 b) = wrap64 (a * b) := by
  apply wrap64_eq
  rw [Int.mul_emod, wrap64_mod, ← Int.mul_emod]
theorem wrap64_mul_l (a b : Int) : wrap64 (wrap64 a * b) = wrap64 (a * b) := by
  rw [Int.mul_comm, wrap64_mul_r, Int.mul_comm]
theorem wrap64_id {n : Int} (h1 : -9223372036854775808 ≤ n) (h2 : n ≤ 9223372036854775807) : wrap64 n = n := by unfold wrap64; omega

end Go.Proofs.Ytgdlleoefncikaa
