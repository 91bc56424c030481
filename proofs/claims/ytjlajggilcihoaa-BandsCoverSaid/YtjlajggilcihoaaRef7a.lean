/- What At of layer 7's reference answers. -/
import Derived.Test.YtjlajggilcihoaaPl2
import Derived.Test.YtjlajggilcihoaaRef7
namespace Go.Proofs.Ytjlajggilcihoaa
open Go.RowKit
set_option linter.unusedVariables false
set_option linter.unusedSimpArgs false

set_option maxRecDepth 100000 in
set_option maxHeartbeats 6400000 in
theorem r7at_yes (a b : Nat) (V : List Int) (A : Option Addr) (c : Nat) (x y : Int) (w : World) (hR : ReadsI w A V) (h1 : 1 ≤ a) (h2 : a ≤ 1024) (h3 : 1 ≤ b) (h4 : b ≤ 1024) (hl : V.length = a * b) :
    Calls Try.prog 30 #[plV a b (.slice A V.length c), .int .i64 x, .int .i64 y] w fun e w' => e = .returned (.int .i64 (rdn V (nearI y b * a + nearI x a).toNat)) ∧ Below w.heap.size w w' := by
  obtain ⟨ky, kx, ey, ex, lx, ly, lt⟩ := near_in (x := x) (y := y) h1 h3 h2 h4
  have ha := area_bd (W := a) (H := b) (by omega) (by omega) (by omega) (by omega)
  have hN : ((a * b : Nat) : Int) = (a : Int) * (b : Int) := Int.natCast_mul a b
  have hK : ((ky * a : Nat) : Int) = (ky : Int) * (a : Int) := Int.natCast_mul ky a
  have hok : okB a b V.length = true := by rw [hl]; exact okB_mk h1 h2 h3 h4
  have Hok := Lib.hid hok
  have hx : (x < 0 ∧ kx = 0) ∨ (0 ≤ x ∧ x < a ∧ x = kx) ∨ ((a : Int) ≤ x ∧ (a : Int) - 1 = kx) := by unfold nearI at ex; omega
  have hy : (y < 0 ∧ ky = 0) ∨ (0 ≤ y ∧ y < b ∧ y = ky) ∨ ((b : Int) ≤ y ∧ (b : Int) - 1 = ky) := by unfold nearI at ey; omega
  have er : (nearI y b * a + nearI x a).toNat = ky * a + kx := by rw [ey, ex, ← hK]; omega
  rw [er]
  obtain ⟨ad, rfl, hbl, hcl⟩ := hR.rd_ (i := ky * a + kx) (by omega)
  have hn : V.length ≤ 1048576 := by omega
  have hV : ky * a + kx < V.length := by omega
  generalize V.length = n at *
  generalize hm : ky * a = mm at *
  have F1 : (a : Int) * (ky : Int) = (mm : Int) := by rw [Int.mul_comm, ← hK]
  have hm0 : ky = 0 → mm = 0 := fun h => by rw [← hm, h, Nat.zero_mul]
  have HM := Lib.hid hm0
  have HX := Lib.hid hx
  have HY := Lib.hid hy
  have HCL := Lib.hid hcl
  have HBL := Lib.hid hbl
  generalize hq : rdn V (mm + kx) = q at *
  clear er hK hN hok hl ey ex lt ha hm hm0 hq hx hy hcl hbl
  rcases HX.out with ⟨x1, rfl⟩ | ⟨x1, x2, rfl⟩ | ⟨x1, x2⟩
  all_goals
    rcases HY.out with ⟨y1, rfl⟩ | ⟨y1, y2, rfl⟩ | ⟨y1, y2⟩
    all_goals
      try (obtain rfl : mm = 0 := HM.out rfl)
      clear HX HY HM
      go_enter Try.func30, Try.ntmps30
      go_wp2_with fail
      refine (rright_c a b (some ad) n c _ (by omega)).mono ?_
      rintro e w1 ⟨rfl, hb1⟩
      rw [Hok.out]
      have hB := (Blk.new w 39 #[.int .i64 a, .int .i64 b, .slice (some ad) n c]).below hb1 (by simp)
      have c0 := hB.cell 0
      have c1 := hB.cell 1
      have c2 := hB.cell 2
      have c3 := (hb1.cell (by rw [block_of_add]; simp; have := HBL.out; omega)).trans ((World.cell?_alloc_lt _ _ _ (by rw [block_of_add]; exact HBL.out)).trans HCL.out)
      have HB := Lib.hid (((Below.refl w.heap.size w).alloc (Nat.le_refl _) _).trans (hb1.mono (by simp)))
      clear hb1 hB HCL HBL
      simp at c0 c1 c2 c3
      try (rw [show ad.add 0 = ad from rfl] at c3)
      go_wp2_with fail
      go_ret
      exact ⟨rfl, HB.out⟩

theorem r7at_no (W H : Int) (A : Option Addr) (n c : Nat) (x y : Int) (w : World) (hn : n ≤ 9223372036854775807) (hok : okB W H n = false) :
    Calls Try.prog 30 #[plV W H (.slice A n c), .int .i64 x, .int .i64 y] w fun e w' => e = .returned (.int .i64 0) ∧ Below w.heap.size w w' := by
  have Hok := Lib.hid hok
  clear hok
  go_enter Try.func30, Try.ntmps30
  go_wp2_with fail
  refine (rright_c W H A n c _ (by omega)).mono ?_
  rintro e w1 ⟨rfl, hb1⟩
  rw [Hok.out]
  go_wp2_with fail
  go_ret
  exact ⟨rfl, ((Below.refl w.heap.size w).alloc (Nat.le_refl _) _).trans (hb1.mono (by simp))⟩

theorem r7at_c (W H : Int) (V : List Int) (A : Option Addr) (c : Nat) (x y : Int) (w : World) (hR : ReadsI w A V) (hn : V.length ≤ 9223372036854775807) :
    Calls Try.prog 30 #[plV W H (.slice A V.length c), .int .i64 x, .int .i64 y] w fun e w' => e = .returned (.int .i64 (atP W H V x y)) ∧ Below w.heap.size w w' := by
  cases h : okB W H V.length with
  | false =>
    refine (r7at_no W H A V.length c x y w hn h).mono ?_
    rintro e w' ⟨rfl, hb⟩
    exact ⟨by unfold atP; rw [if_neg (by rw [h]; simp)], hb⟩
  | true =>
    obtain ⟨a, b, rfl, rfl, h1, h2, h3, h4, hl⟩ := okB_nat h
    refine (r7at_yes a b V A c x y w hR h1 h2 h3 h4 hl).mono ?_
    rintro e w' ⟨rfl, hb⟩
    exact ⟨by unfold atP; rw [if_pos h], hb⟩

end Go.Proofs.Ytjlajggilcihoaa
