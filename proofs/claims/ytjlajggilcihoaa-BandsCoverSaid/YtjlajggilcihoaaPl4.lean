/- Planes: added, subtracted, clipped, compared. -/
import Derived.Test.YtjlajggilcihoaaPl3
namespace Go.Proofs.Ytjlajggilcihoaa
open Go.RowKit
set_option linter.unusedVariables false
set_option linter.unusedSimpArgs false

/-- A call ends with the plane p in a list of its own. -/
def PlRes (p : Pl) (w : World) (e : Ending) (w' : World) : Prop := ∃ v, e = .returned (plV p.W p.H v) ∧ OwnI w' w.heap.size v p.V ∧ Below w.heap.size w w'
theorem PlRes.of_below {p : Pl} {w w1 : World} {e : Ending} {w' : World} (h : PlRes p w1 e w') (hb : Below w.heap.size w w1) : PlRes p w e w' := by
  obtain ⟨v, rfl, ho, hb'⟩ := h
  exact ⟨v, rfl, ho.lower hb.size, hb.trans (hb'.mono hb.size)⟩
section
variable {w : World} {b : Nat} {t : TypeId} {x y z : Value}
theorem Blk.three (h : Blk w b t #[x, y, z]) : (w.cell? ⟨b, 0, none⟩ = some x ∧ w.cell? ⟨b, 1, none⟩ = some y ∧ w.cell? ⟨b, 2, none⟩ = some z) ∧ (w.frozen? ⟨b, 0, none⟩ = false ∧ w.frozen? ⟨b, 1, none⟩ = false ∧ w.frozen? ⟨b, 2, none⟩ = false) :=
  ⟨⟨h.cell 0, h.cell 1, h.cell 2⟩, ⟨h.frozen 0, h.frozen 1, h.frozen 2⟩⟩
/-- A plane stored into a variable. -/
theorem ret_plane (h : Blk w b 39 #[x, y, z]) (x' y' z' : Value) :
    Blk (((w.setCell ⟨b, 0, none⟩ x').setCell ⟨b, 1, none⟩ y').setCell ⟨b, 2, none⟩ z') b 39 #[x', y', z'] ∧
    (∀ B v xs, OwnI w B v xs → OwnI (((w.setCell ⟨b, 0, none⟩ x').setCell ⟨b, 1, none⟩ y').setCell ⟨b, 2, none⟩ z') B v xs) ∧
    (∀ B a, Below B a w → B ≤ b → Below B a (((w.setCell ⟨b, 0, none⟩ x').setCell ⟨b, 1, none⟩ y').setCell ⟨b, 2, none⟩ z')) := by
  have h1 := h.set_ 0 x'
  have h2 := h1.set_ 1 y'
  have h3 := h2.set_ 2 z'
  refine ⟨h3, fun B v xs ho => ?_, fun B a hb hB => ((hb.setCell hB _).setCell hB _).setCell hB _⟩
  have o1 : OwnI (w.setCell ⟨b, 0, none⟩ x') B v xs := OwnI.grown ho (only_setCell (World.grownBy.refl w (some b)) (.inl rfl) _) (.inr (own_blk_ne ho h (by decide)))
  have o2 : OwnI ((w.setCell ⟨b, 0, none⟩ x').setCell ⟨b, 1, none⟩ y') B v xs := OwnI.grown o1 (only_setCell (World.grownBy.refl _ (some b)) (.inl rfl) _) (.inr (own_blk_ne o1 h1 (by decide)))
  exact OwnI.grown o2 (only_setCell (World.grownBy.refl _ (some b)) (.inl rfl) _) (.inr (own_blk_ne o2 h2 (by decide)))
end
theorem bothB_t {W H W' H' : Int} {n n' : Nat} (h : bothB W H n W' H' n' = true) : ∃ a b : Nat, W = a ∧ H = b ∧ W' = a ∧ H' = b ∧ 1 ≤ a ∧ a ≤ 1024 ∧ 1 ≤ b ∧ b ≤ 1024 ∧ n = a * b ∧ n' = a * b := by
  simp only [bothB, Bool.and_eq_true, beq_iff_eq] at h
  obtain ⟨⟨⟨h1, h2⟩, rfl⟩, rfl⟩ := h
  obtain ⟨a, b, rfl, rfl, k1, k2, k3, k4, k5⟩ := okB_nat h1
  obtain ⟨a', b', e1, e2, _, _, _, _, k6⟩ := okB_nat h2
  have : a' = a := by omega
  subst this
  have : b' = b := by omega
  subst this
  exact ⟨_, _, rfl, rfl, rfl, rfl, k1, k2, k3, k4, k5, k6⟩
/-- Two planes joined, number by number. -/
def joinP (f : Int → Int → Int) (W H : Int) (V : List Int) (W' H' : Int) (V' : List Int) : Pl :=
  if bothB W H V.length W' H' V'.length = true then ⟨W, H, fillL V.length (fun k => f (rdn V k) (rdn V' k)) V.length⟩ else Pl.none_
theorem joinP_length (f : Int → Int → Int) (W H : Int) (V : List Int) (W' H' : Int) (V' : List Int) : (joinP f W H V W' H' V').V.length ≤ V.length := by
  unfold joinP
  split
  · simp [fillL_length]
  · simp [Pl.none_]




def sameB (W H : Int) (V : List Int) (W' H' : Int) (V' : List Int) : Bool := bothB W H V.length W' H' V'.length && decide (V = V')

end Go.Proofs.Ytjlajggilcihoaa
