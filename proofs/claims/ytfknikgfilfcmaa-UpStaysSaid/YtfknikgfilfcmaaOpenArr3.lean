/- Arguments of the types [3]T (T a number's type) and [][3]int, opened. -/
import Derived.Test.YtfknikgfilfcmaaOpen
import Derived.Test.YtfknikgfilfcmaaOpenInts
import Derived.ChangeSlices
import Derived.Deep.Fields
import Derived.ChangeSame
namespace Go.Proofs.Ytfknikgfilfcmaa
open Go.ChangeShapes Go.WideShapes Go.ChangeAt Go.RowKit Go.Deep
set_option linter.unusedVariables false

section
variable {H : Type} {enc : TypeId × Value → H} {P : Program} {w : World} {base b0 : Nat} {spare : Nat → Bool} {held : Bool} {r : Reach} {t : TypeId} {v : Value} {d : DataW H} {ps : List MemPlace}
/-- An array of three numbers of kind k. -/
def IsArr3 (k : IntKind) (v : Value) (x : Int × Int × Int) : Prop := ∃ u0 u1 u2, v = .agg #[u0, u1, u2] ∧ IsInt k u0 x.1 ∧ IsInt k u1 x.2.1 ∧ IsInt k u2 x.2.2
theorem opens_arr3 {k : IntKind} {e : TypeId} (ht : P.underlying t = some (.array 3 e)) (he : P.underlying e = some (.int k)) (hc : P.cellsOf t = 3) (hce : P.cellsOf e = 1)
    (hv : Value.okWide P w r b0 t v) (h : DataW.Trod enc P w base spare held t v d ps) : ∃ x, IsArr3 k v x := by
  obtain ⟨cs, rfl, hs⟩ := okWide_array ht hv
  obtain ⟨l⟩ := cs
  match l, hs.trans hc with
  | [c0, c1, c2], _ =>
    obtain ⟨fuel, hf⟩ := h
    obtain ⟨xs, m, _, _, _, hl, hg⟩ := DataW.trod_array ht hf
    have g0 := hg 0 (by omega)
    have g1 := hg 1 (by omega)
    have g2 := hg 2 (by omega)
    rw [hce] at g0 g1 g2
    simp [Value.cells] at g0 g1 g2
    rw [List.getElem?_eq_getElem (by omega)] at g0 g1 g2
    obtain ⟨a, e0, _, wa⟩ := DataW.trod_int he g0
    obtain ⟨b, e1, _, wb⟩ := DataW.trod_int he g1
    obtain ⟨c, e2, _, wc⟩ := DataW.trod_int he g2
    simp at e0 e1 e2
    exact ⟨(a, b, c), c0, c1, c2, rfl, ⟨e0, wa⟩, ⟨e1, wb⟩, ⟨e2, wc⟩⟩
end

/-- A list of arrays of three whole numbers. -/
def Arr3R (W : World) (A : Option Addr) (xs : List (Int × Int × Int)) : Prop :=
  ∀ i (h : i < xs.length), ∃ ad, A = some ad ∧ ad.block < W.heap.size ∧ W.cell? (ad.add (i * 3)) = some (.int .i64 xs[i].1) ∧ W.cell? (ad.add (i * 3 + 1)) = some (.int .i64 xs[i].2.1) ∧ W.cell? (ad.add (i * 3 + 2)) = some (.int .i64 xs[i].2.2)
def IsArrs3 (W : World) (v : Value) (xs : List (Int × Int × Int)) : Prop := ∃ A c, v = .slice A xs.length c ∧ xs.length ≤ maxLen ∧ Arr3R W A xs ∧
  ∀ x ∈ xs, (-9223372036854775808 ≤ x.1 ∧ x.1 ≤ 9223372036854775807) ∧ (-9223372036854775808 ≤ x.2.1 ∧ x.2.1 ≤ 9223372036854775807) ∧ (-9223372036854775808 ≤ x.2.2 ∧ x.2.2 ≤ 9223372036854775807)
theorem Arr3R.kept {w w' : World} {A : Option Addr} {xs : List (Int × Int × Int)} (h : Arr3R w A xs) (hb : Below w.heap.size w w') : Arr3R w' A xs := fun i hi => by
  obtain ⟨ad, e, hl, h1, h2, h3⟩ := h i hi
  have hk : ∀ j, w'.cell? (ad.add j) = w.cell? (ad.add j) := fun j => hb.cell (by rw [block_of_add]; exact hl)
  exact ⟨ad, e, Nat.lt_of_lt_of_le hl hb.size, (hk _).trans h1, (hk _).trans h2, (hk _).trans h3⟩
theorem Arr3R.alloc {w : World} {A : Option Addr} {xs : List (Int × Int × Int)} (h : Arr3R w A xs) (o : Obj) : Arr3R (w.alloc o) A xs := h.kept ((Below.refl _ _).alloc (Nat.le_refl _) o)
theorem add_off3 (ad : Addr) (n m : Nat) : ad.add (n + (m + 1)) = ⟨(ad.add n).block, (ad.add n).off + (m + 1), none⟩ := by
  unfold Addr.add
  rw [if_neg (by omega)]
  split
  · rename_i h; subst h; simp
  · simp; omega
theorem Arr3R.at_ {w : World} {A : Option Addr} {xs : List (Int × Int × Int)} (h : Arr3R w A xs) {i : Nat} (hi : i < xs.length) : ∃ ad, A = some ad ∧ ad.block < w.heap.size ∧ w.cell? (ad.add (i * 3)) = some (.int .i64 xs[i].1) ∧
    w.cell? ⟨(ad.add (i * 3)).block, (ad.add (i * 3)).off + 1, none⟩ = some (.int .i64 xs[i].2.1) ∧ w.cell? ⟨(ad.add (i * 3)).block, (ad.add (i * 3)).off + 2, none⟩ = some (.int .i64 xs[i].2.2) := by
  obtain ⟨ad, e, hl, h1, h2, h3⟩ := h i hi
  rw [add_off3 ad (i * 3) 0] at h2
  rw [add_off3 ad (i * 3) 1] at h3
  exact ⟨ad, e, hl, h1, h2, h3⟩
theorem opens_arrs3 {H : Type} {enc : TypeId × Value → H} {P : Program} {w : World} {b0 : Nat} {r : Reach} {t e e' : TypeId} {v : Value} {d : DataW H} {ps : List MemPlace}
    (ht : P.underlying t = some (.slice e)) (he : P.underlying e = some (.array 3 e')) (he' : P.underlying e' = some (.int .i64)) (hC : P.cellsOf e = 3) (hC' : P.cellsOf e' = 1)
    (hv : Value.okWide P w r b0 t v) (h : DataW.Trod enc P w 0 (fun _ => true) true t v d ps) : ∃ xs, IsArrs3 w v xs := by
  obtain ⟨a0, len, cap, rfl⟩ := okWide_slice ht hv
  obtain ⟨fuel, hf⟩ := h
  rcases open_slice ht hf with ⟨hcs, hx⟩ | ⟨a, len', cap', m, n, D, Pl, hcs, _, hl, hm, hmm, hx, hi⟩
  · simp [Value.cells] at hcs
    obtain ⟨rfl, rfl, rfl⟩ := hcs
    exact ⟨[], none, 0, rfl, Nat.zero_le _, fun i hi => absurd hi (Nat.not_lt_zero _), fun _ h => by cases h⟩
  · simp [Value.cells] at hcs
    obtain ⟨rfl, rfl, rfl⟩ := hcs
    have hex : ∀ i, i < len → ∃ x : Int × Int × Int, w.cell? (a.add (i * 3)) = some (.int .i64 x.1) ∧ w.cell? (a.add (i * 3 + 1)) = some (.int .i64 x.2.1) ∧ w.cell? (a.add (i * 3 + 2)) = some (.int .i64 x.2.2) ∧
        (-9223372036854775808 ≤ x.1 ∧ x.1 ≤ 9223372036854775807) ∧ (-9223372036854775808 ≤ x.2.1 ∧ x.2.1 ≤ 9223372036854775807) ∧ (-9223372036854775808 ≤ x.2.2 ∧ x.2.2 ≤ 9223372036854775807) := by
      intro i hil
      obtain ⟨cs', hc, ht'⟩ := hi i (by rw [hmm]; simp; omega)
      rw [hC] at hc
      obtain ⟨_, hcl, hat⟩ := World.cells?_some hc
      obtain ⟨xs, m', _, _, _, hl', hg⟩ := DataW.trod_array he ht'
      have g0 := hg 0 (by omega)
      have g1 := hg 1 (by omega)
      have g2 := hg 2 (by omega)
      have c0 := hat 0 (by omega)
      have c1 := hat 1 (by omega)
      have c2 := hat 2 (by omega)
      match cs', hcl with
      | [u0, u1, u2], _ =>
        rw [hC'] at g0 g1 g2
        simp at g0 g1 g2
        rw [List.getElem?_eq_getElem (by omega)] at g0 g1 g2
        obtain ⟨z0, e0, _, w0⟩ := DataW.trod_int he' g0
        obtain ⟨z1, e1, _, w1⟩ := DataW.trod_int he' g1
        obtain ⟨z2, e2, _, w2⟩ := DataW.trod_int he' g2
        simp at e0 e1 e2
        subst e0 e1 e2
        rw [Go.Deep.add_add] at c0 c1 c2
        refine ⟨(z0, z1, z2), by simpa using c0, by simpa using c1, by simpa using c2, ?_, ?_, ?_⟩
        · simp [Lit.wf, IntKind.min, IntKind.max, IntKind.signed, IntKind.bits] at w0; omega
        · simp [Lit.wf, IntKind.min, IntKind.max, IntKind.signed, IntKind.bits] at w1; omega
        · simp [Lit.wf, IntKind.min, IntKind.max, IntKind.signed, IntKind.bits] at w2; omega
    let F : Nat → Int × Int × Int := fun i => if hil : i < len then (hex i hil).choose else (0, 0, 0)
    have hF : ∀ i (hil : i < len), F i = (hex i hil).choose := fun i hil => dif_pos hil
    refine ⟨(List.range len).map F, some a, cap, by simp, by simp; omega, fun i hi => ?_, fun x hx => ?_⟩
    · have hil : i < len := by simpa using hi
      have hs := (hex i hil).choose_spec
      simp only [List.getElem_map, List.getElem_range, hF i hil]
      have hlt := cell_lt hs.1
      rw [block_of_add] at hlt
      exact ⟨a, rfl, hlt, hs.1, hs.2.1, hs.2.2.1⟩
    · obtain ⟨i, hi, rfl⟩ := List.mem_map.1 hx
      have hil : i < len := by simpa using hi
      rw [hF i hil]
      have hs := (hex i hil).choose_spec
      exact ⟨hs.2.2.2.1, hs.2.2.2.2.1, hs.2.2.2.2.2⟩

end Go.Proofs.Ytfknikgfilfcmaa
