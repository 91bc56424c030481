/- up: what At answers at every precision, of the program and of the reference; a finer place lies between the half ones; a flat plane is flat. -/
import Derived.Test.YtfknikgfilfcmaaUp4
import Derived.Test.YtfknikgfilfcmaaRef19a
import Derived.Test.YtfknikgfilfcmaaRef19n
namespace Go.Proofs.Ytfknikgfilfcmaa
open Go.RowKit
set_option linter.unusedVariables false
set_option linter.unusedSimpArgs false

theorem uAt_c (R a b : Nat) (V : List Int) (m x y p : Int) (w : World) (hr : RefAt w R a b V m) :
    Calls Try.prog 10 #[.pointer (some ⟨R, 0, none⟩), .int .i64 x, .int .i64 y, .int .i64 p] w fun e w' => e = .returned (.int .i64 (atI a b V m x y p)) ∧ Below w.heap.size w w' := by
  by_cases h0 : p < 0 ∨ 3 < p
  · refine (uAt_far R x y p w h0).mono ?_
    rintro e w' ⟨rfl, rfl⟩
    exact ⟨by unfold atI; rw [if_pos h0], Below.refl _ _⟩
  · have h : p = 0 ∨ p = 1 ∨ p = 2 ∨ p = 3 := by omega
    rcases h with rfl | rfl | rfl | rfl
    · exact (uAt_0 R a b V m x y w hr).mono (by rintro e w' ⟨rfl, hb⟩; exact ⟨by simp [atI], hb⟩)
    · exact (uAt_1 R a b V m x y w hr).mono (by rintro e w' ⟨rfl, hb⟩; exact ⟨by simp [atI], hb⟩)
    · exact (uAt_2 R a b V m x y w hr).mono (by rintro e w' ⟨rfl, hb⟩; exact ⟨by simp [atI], hb⟩)
    · exact (uAt_3 R a b V m x y w hr).mono (by rintro e w' ⟨rfl, hb⟩; exact ⟨by simp [atI], hb⟩)
theorem r19At_c (a b : Nat) (V : List Int) (A : Option Addr) (c : Nat) (m x y p : Int) (w : World) (hR : ReadsI w A V) (h1 : 1 ≤ a) (h2 : a ≤ 1024) (h3 : 1 ≤ b) (h4 : b ≤ 1024) (hl : V.length = a * b) (m1 : 1 ≤ m) (m2 : m ≤ 65535) (hs : ∀ k, 0 ≤ rdn V k ∧ rdn V k ≤ m) :
    Calls Try.prog 15 #[refV a b (.slice A V.length c) m, .int .i64 x, .int .i64 y, .int .i64 p] w fun e w' => e = .returned (.int .i64 (atI a b V m x y p)) ∧ Below w.heap.size w w' := by
  by_cases h0 : p < 0 ∨ 3 < p
  · refine (r19At_far a b V A c m x y w hR h1 h2 h3 h4 hl m1 m2 hs p h0).mono ?_
    rintro e w' ⟨rfl, hb⟩
    exact ⟨by unfold atI; rw [if_pos h0], hb⟩
  · have h : p = 0 ∨ p = 1 ∨ p = 2 ∨ p = 3 := by omega
    rcases h with rfl | rfl | rfl | rfl
    · exact (r19At_0 a b V A c m x y w hR h1 h2 h3 h4 hl m1 m2 hs).mono (by rintro e w' ⟨rfl, hb⟩; exact ⟨by simp [atI], hb⟩)
    · exact (r19At_1 a b V A c m x y w hR h1 h2 h3 h4 hl m1 m2 hs).mono (by rintro e w' ⟨rfl, hb⟩; exact ⟨by simp [atI], hb⟩)
    · exact (r19At_2 a b V A c m x y w hR h1 h2 h3 h4 hl m1 m2 hs).mono (by rintro e w' ⟨rfl, hb⟩; exact ⟨by simp [atI], hb⟩)
    · exact (r19At_3 a b V A c m x y w hR h1 h2 h3 h4 hl m1 m2 hs).mono (by rintro e w' ⟨rfl, hb⟩; exact ⟨by simp [atI], hb⟩)

theorem fine4_in {B : Int → Int → Int} {x y m M : Int} (h0 : m ≤ B (x / 4) (y / 4) ∧ B (x / 4) (y / 4) ≤ M) (h1 : m ≤ B (x / 4 + 1) (y / 4) ∧ B (x / 4 + 1) (y / 4) ≤ M)
    (h2 : m ≤ B (x / 4) (y / 4 + 1) ∧ B (x / 4) (y / 4 + 1) ≤ M) (h3 : m ≤ B (x / 4 + 1) (y / 4 + 1) ∧ B (x / 4 + 1) (y / 4 + 1) ≤ M) : m ≤ fineI 4 B x y ∧ fineI 4 B x y ≤ M := by
  unfold fineI
  generalize B (x / 4) (y / 4) = z0 at *
  generalize B (x / 4 + 1) (y / 4) = z1 at *
  generalize B (x / 4) (y / 4 + 1) = z2 at *
  generalize B (x / 4 + 1) (y / 4 + 1) = z3 at *
  have hx : x % 4 = 0 ∨ x % 4 = 1 ∨ x % 4 = 2 ∨ x % 4 = 3 := by omega
  have hy : y % 4 = 0 ∨ y % 4 = 1 ∨ y % 4 = 2 ∨ y % 4 = 3 := by omega
  rcases hx with e | e | e | e <;> rcases hy with f | f | f | f <;> rw [e, f] <;> omega
theorem fine2_in {B : Int → Int → Int} {x y m M : Int} (h0 : m ≤ B (x / 2) (y / 2) ∧ B (x / 2) (y / 2) ≤ M) (h1 : m ≤ B (x / 2 + 1) (y / 2) ∧ B (x / 2 + 1) (y / 2) ≤ M)
    (h2 : m ≤ B (x / 2) (y / 2 + 1) ∧ B (x / 2) (y / 2 + 1) ≤ M) (h3 : m ≤ B (x / 2 + 1) (y / 2 + 1) ∧ B (x / 2 + 1) (y / 2 + 1) ≤ M) : m ≤ fineI 2 B x y ∧ fineI 2 B x y ≤ M := by
  unfold fineI
  generalize B (x / 2) (y / 2) = z0 at *
  generalize B (x / 2 + 1) (y / 2) = z1 at *
  generalize B (x / 2) (y / 2 + 1) = z2 at *
  generalize B (x / 2 + 1) (y / 2 + 1) = z3 at *
  have hx : x % 2 = 0 ∨ x % 2 = 1 := by omega
  have hy : y % 2 = 0 ∨ y % 2 = 1 := by omega
  rcases hx with e | e <;> rcases hy with f | f <;> rw [e, f] <;> omega
theorem half_flat {m f : Int} {g : Int → Int} (hg : ∀ k, g k = f) (h0 : 0 ≤ f) (hm : f ≤ m) : halfI m g = f := by
  unfold halfI
  simp only [hg]
  omega
theorem row_flat {a b : Nat} {V : List Int} {m f : Int} (hs : ∀ x y, smp a b V x y = f) (h0 : 0 ≤ f) (hm : f ≤ m) (x y : Int) : rowI a b V m x y = f := by
  unfold rowI
  split
  · exact hs _ _
  · exact half_flat (fun k => hs _ _) h0 hm
theorem bet_flat {a b : Nat} {V : List Int} {m f : Int} (hs : ∀ x y, smp a b V x y = f) (h0 : 0 ≤ f) (hm : f ≤ m) (x y : Int) : betI a b V m x y = f := by
  unfold betI
  split
  · exact row_flat hs h0 hm _ _
  · exact half_flat (fun k => row_flat hs h0 hm _ _) h0 hm
theorem smp_flat {a b : Nat} {V : List Int} {f : Int} (h1 : 1 ≤ a) (h2 : a ≤ 1024) (h3 : 1 ≤ b) (h4 : b ≤ 1024) (hl : V.length = a * b) (hv : ∀ k, k < V.length → rdn V k = f) (x y : Int) : smp a b V x y = f := by
  obtain ⟨ky, kx, ey, ex, lx, ly, lt⟩ := near_in (x := x) (y := y) h1 h3 h2 h4
  unfold smp
  rw [ey, ex]
  have : ((ky : Int) * (a : Int) + (kx : Int)).toNat = ky * a + kx := by
    have : ((ky * a : Nat) : Int) = (ky : Int) * (a : Int) := Int.natCast_mul ky a
    omega
  rw [this]
  exact hv _ (by omega)
theorem fine_flat {a b : Nat} {V : List Int} {m f : Int} (hs : ∀ x y, smp a b V x y = f) (h0 : 0 ≤ f) (hm : f ≤ m) (x y : Int) : fineI 4 (betI a b V m) x y = f ∧ fineI 2 (betI a b V m) x y = f := by
  have hb := bet_flat hs h0 hm
  constructor
  · have := fine4_in (B := betI a b V m) (x := x) (y := y) (m := f) (M := f) (by simp [hb]) (by simp [hb]) (by simp [hb]) (by simp [hb])
    omega
  · have := fine2_in (B := betI a b V m) (x := x) (y := y) (m := f) (M := f) (by simp [hb]) (by simp [hb]) (by simp [hb]) (by simp [hb])
    omega
/-- A whole place's number is the sample. -/
theorem at0_smp (a b : Nat) (V : List Int) (m x y : Int) (hx : -200 ≤ x) (hx2 : x ≤ 200) (hy : -200 ≤ y) (hy2 : y ≤ 200) : atI a b V m x y 0 = smp a b V x y ∧ betI a b V m (plI (2 * x)) (plI (2 * y)) = smp a b V x y := by
  have e1 : plI x = x := plI_of (by omega) (by omega)
  have e2 : plI y = y := plI_of (by omega) (by omega)
  have e3 : plI (2 * x) = 2 * x := plI_of (by omega) (by omega)
  have e4 : plI (2 * y) = 2 * y := plI_of (by omega) (by omega)
  have h : betI a b V m (2 * x) (2 * y) = smp a b V x y := by
    unfold betI rowI
    rw [if_pos (by omega), if_pos (by omega), show 2 * x / 2 = x by omega, show 2 * y / 2 = y by omega]
  constructor
  · simp [atI, e1, e2, h]
  · rw [e3, e4, h]

theorem below_drew1 (w : World) : Below w.heap.size w w.drew := ⟨rfl, rfl, rfl, Nat.le_refl _, fun _ _ => rfl⟩
theorem RefAt.drew {w : World} {R a b : Nat} {V : List Int} {m : Int} (h : RefAt w R a b V m) : RefAt w.drew R a b V m := h.below (below_drew1 w)
theorem RefAt.alloc {w : World} {R a b : Nat} {V : List Int} {m : Int} (h : RefAt w R a b V m) (o : Obj) : RefAt (w.alloc o) R a b V m := h.below ((Below.refl _ _).alloc (Nat.le_refl _) o)
theorem RefOwn.drew {w : World} {B R a b : Nat} {V : List Int} {m : Int} (h : RefOwn w B R a b V m) : RefOwn w.drew B R a b V m := h.below (below_drew1 w)
theorem RefOwn.alloc {w : World} {B R a b : Nat} {V : List Int} {m : Int} (h : RefOwn w B R a b V m) (o : Obj) : RefOwn (w.alloc o) B R a b V m := h.below ((Below.refl _ _).alloc (Nat.le_refl _) o)
theorem Blk.four {w : World} {b : Nat} {t : TypeId} {x y z u : Value} (h : Blk w b t #[x, y, z, u]) : (w.cell? ⟨b, 0, none⟩ = some x ∧ w.cell? ⟨b, 1, none⟩ = some y ∧ w.cell? ⟨b, 2, none⟩ = some z ∧ w.cell? ⟨b, 3, none⟩ = some u) ∧ (w.frozen? ⟨b, 0, none⟩ = false ∧ w.frozen? ⟨b, 1, none⟩ = false ∧ w.frozen? ⟨b, 2, none⟩ = false ∧ w.frozen? ⟨b, 3, none⟩ = false) :=
  ⟨⟨h.cell 0, h.cell 1, h.cell 2, h.cell 3⟩, ⟨h.frozen 0, h.frozen 1, h.frozen 2, h.frozen 3⟩⟩
theorem ret_four_ref {w : World} {g B R a b : Nat} {V : List Int} {m : Int} {x y z u : Value} (h : Blk w g 35 #[x, y, z, u]) (hr : RefOwn w B R a b V m) (x' y' z' u' : Value) :
    RefOwn ((((w.setCell ⟨g, 0, none⟩ x').setCell ⟨g, 1, none⟩ y').setCell ⟨g, 2, none⟩ z').setCell ⟨g, 3, none⟩ u') B R a b V m := by
  have h1 := h.set_ 0 x'
  have h2 := h1.set_ 1 y'
  have h3 := h2.set_ 2 z'
  exact (((hr.set_ h (by decide) (by decide) x').set_ h1 (by decide) (by decide) y').set_ h2 (by decide) (by decide) z').set_ h3 (by decide) (by decide) u'

end Go.Proofs.Ytfknikgfilfcmaa
