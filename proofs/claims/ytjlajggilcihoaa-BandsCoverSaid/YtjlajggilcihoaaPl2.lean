/- Planes: a number at the nearest place; slices compared and cloned. -/
import Derived.Test.YtjlajggilcihoaaPl1
import Derived.Test.YtjlajggilcihoaaOwn2
namespace Go.Proofs.Ytjlajggilcihoaa
open Go.RowKit
set_option linter.unusedVariables false
set_option linter.unusedSimpArgs false

/-- The number at the nearest place; nought of a plane that isn't right. -/
def atP (W H : Int) (V : List Int) (x y : Int) : Int := if okB W H V.length = true then rdn V (nearI y H * W + nearI x W).toNat else 0
theorem near_in {a b : Nat} {x y : Int} (h1 : 1 ≤ a) (h3 : 1 ≤ b) (h2 : a ≤ 1024) (h4 : b ≤ 1024) : ∃ ky kx : Nat, nearI y b = ky ∧ nearI x a = kx ∧ kx < a ∧ ky < b ∧ ky * a + kx < a * b := by
  obtain ⟨e1, e2⟩ := nearI_bd (a := y) (n := b) (by omega)
  obtain ⟨e3, e4⟩ := nearI_bd (a := x) (n := a) (by omega)
  obtain ⟨ky, hy⟩ := Int.eq_ofNat_of_zero_le e1
  obtain ⟨kx, hx⟩ := Int.eq_ofNat_of_zero_le e3
  refine ⟨ky, kx, hy, hx, by omega, by omega, ?_⟩
  have : (ky + 1) * a ≤ b * a := Nat.mul_le_mul_right a (by omega)
  rw [Nat.mul_comm b a] at this
  rw [Nat.add_mul] at this
  omega




def bothB (W H : Int) (n : Nat) (W' H' : Int) (n' : Nat) : Bool := okB W H n && okB W' H' n' && (W == W') && (H == H')


set_option maxHeartbeats 1600000 in
theorem sclone_c (A : Option Addr) (c : Nat) (xs : List Int) (w : World) (hR : ReadsI w A xs) (hm : xs.length ≤ 100000000) :
    Calls Try.prog 33 #[.slice A xs.length c] w fun e w' => ∃ v, e = .returned v ∧ OwnI w' w.heap.size v xs ∧ Below w.heap.size w w' := by
  obtain ⟨i0, hi, hz0, hz1, hz2⟩ := info_parts info_int
  rcases A with _ | ad
  · have hx : xs = [] := by
      cases xs with
      | nil => rfl
      | cons x xs => obtain ⟨ad, h, _⟩ := hR.2 (by simp); cases h
    subst hx
    go_enter Try.func33, Try.ntmps33
    have hnil : ∀ w, (binOp .eql 37 (.slice none 0 c) (.slice none 0 0)).run Try.prog w = .ok (.bool true) w := fun _ => rfl
    go_wp2_with fail
    go_ret
    exact ⟨_, rfl, OwnI.nil _ _, Below.refl _ _⟩
  · have hone := map_int_one xs
    have hown0 : (w.alloc (.cells #[] 3)).ownsRow w.heap.size 3 1 (.slice (some ⟨w.heap.size, 0, none⟩) 0 0) 0 [] := ⟨by simp, .inr ⟨_, 0, #[], rfl, Nat.le_refl _, heap_alloc_new _ _, Nat.le_refl _, by simp [maxLen], by simp, by simp⟩⟩
    have hR' := Reads.alloc hR (Nat.le_refl _) (.cells #[] 3)
    have hb0 := (Below.refl w.heap.size w).alloc (Nat.le_refl _) (.cells #[] 3)
    have hz : (w.alloc (.cells #[] 3)).heap.size = w.heap.size + 1 := World.size_alloc _ _
    have HZ := Lib.hid hz
    clear hz
    go_enter Try.func33, Try.ntmps33
    have hnil : ∀ w, (binOp .eql 37 (.slice (some ad) xs.length c) (.slice none 0 0)).run Try.prog w = .ok (.bool false) w := fun _ => rfl
    go_wp2_with (
      at_builtin
      refine wpList_append_any _ rfl (.tmp 5) (.tmp 6) _ rfl w.heap.size 3 i0 (.int .i64 0) 1 8 Try.underlying37 hi hz0 hz1 hz2 rfl (by omega) _ 0 [] (by rfl)
        hown0 w.heap.size (some ad) xs.length c _ (by rfl) hR' hone (by simp only [maxLen]; omega) (by omega) (by have := HZ.out; omega) ?_
      intro v1 w1 hown1 hg1 hat1
      have hb1 : Below w.heap.size w w1 := hb0.grown hg1 (by have := HZ.out; omega) (by simp [Value.ownBlock]))
    go_ret
    exact ⟨_, rfl, by unfold OwnI; simpa using hown1, hb1⟩

end Go.Proofs.Ytjlajggilcihoaa
