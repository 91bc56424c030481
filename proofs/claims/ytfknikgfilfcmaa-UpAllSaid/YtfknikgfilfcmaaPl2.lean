/- Planes: a number at the nearest place; slices compared and cloned. -/
import Derived.Test.YtfknikgfilfcmaaPl1
import Derived.Test.YtfknikgfilfcmaaOwn2
namespace Go.Proofs.Ytfknikgfilfcmaa
open Go.RowKit
set_option linter.unusedVariables false
set_option linter.unusedSimpArgs false

/-- The number at the nearest place; nought of a plane that isn't right. -/
def atP (W H : Int) (V : List Int) (x y : Int) : Int := if okB W H V.length = true then rdn V (nearI y H * W + nearI x W).toNat else 0
theorem near_in {a b : Nat} {x y : Int} (h1 : 1 ≤ a) (h3 : 1 ≤ b) (h2 : a ≤ 1024) (h4 : b ≤ 1024) : ∃ ky kx : Nat, nearI y b = ky ∧ nearI x a = kx ∧ kx < a ∧ ky < b ∧ ky * a + kx < a * b := by
  obtain ⟨e1, e2⟩ := nearI_bd (a := y) (n := b) (by omega)
  obtain ⟨e3, e4⟩ := nearI_bd (a := x) (n := a) (by omega)
  obtain ⟨ky, hy⟩ := Int.eq_ofNat_of_zero_le e1
  obtain ⟨kx, hx⟩ := Int.eq_ofNat_of_zero_le e3
  refine ⟨ky, kx, hy, hx, by omega, by omega, ?_⟩
  have : (ky + 1) * a ≤ b * a := Nat.mul_le_mul_right a (by omega)
  rw [Nat.mul_comm b a] at this
  rw [Nat.add_mul] at this
  omega

set_option maxRecDepth 100000 in
set_option maxHeartbeats 3200000 in
theorem pat_yes (a b : Nat) (V : List Int) (A : Option Addr) (c : Nat) (x y : Int) (w : World) (hR : ReadsI w A V) (h1 : 1 ≤ a) (h2 : a ≤ 1024) (h3 : 1 ≤ b) (h4 : b ≤ 1024) (hl : V.length = a * b) :
    Calls Try.prog 44 #[plV a b (.slice A V.length c), .int .i64 x, .int .i64 y] w fun e w' => e = .returned (.int .i64 (rdn V (nearI y b * a + nearI x a).toNat)) ∧ Below w.heap.size w w' := by
  obtain ⟨ky, kx, ey, ex, lx, ly, lt⟩ := near_in (x := x) (y := y) h1 h3 h2 h4
  have ha := area_bd (W := a) (H := b) (by omega) (by omega) (by omega) (by omega)
  have hN : ((a * b : Nat) : Int) = (a : Int) * (b : Int) := Int.natCast_mul a b
  have hK : ((ky * a : Nat) : Int) = (ky : Int) * (a : Int) := Int.natCast_mul ky a
  have hok : okB a b V.length = true := by rw [hl]; exact okB_mk h1 h2 h3 h4
  have Hok := Lib.hid hok
  have Hy : ∀ W, Calls Try.prog 46 #[.int .i64 y, .int .i64 b] W fun e w' => e = .returned (.int .i64 ky) ∧ W = w' := fun W => by rw [← ey]; exact pnear_c y b W (by omega) (by omega)
  have Hx : ∀ W, Calls Try.prog 46 #[.int .i64 x, .int .i64 a] W fun e w' => e = .returned (.int .i64 kx) ∧ W = w' := fun W => by rw [← ex]; exact pnear_c x a W (by omega) (by omega)
  have er : (nearI y b * a + nearI x a).toNat = ky * a + kx := by rw [ey, ex, ← hK]; omega
  rw [er]
  obtain ⟨ad, rfl, hbl, hcl⟩ := hR.rd_ (i := ky * a + kx) (by omega)
  generalize hk : ky * a + kx = k at *
  have hn : V.length ≤ 1048576 := by omega
  have g1 : (k : Int) < (V.length : Int) := by omega
  have F1 : IntKind.i64.wrap ((ky : Int) * (a : Int)) = (ky : Int) * (a : Int) := IntWalk.i64_in _ (by omega)
  have F2 : IntKind.i64.wrap ((ky : Int) * (a : Int) + (kx : Int)) = (k : Int) := by rw [IntWalk.i64_in _ (by omega)]; omega
  have HF1 := Lib.hid F1
  have HF2 := Lib.hid F2
  have HY := Lib.hid Hy
  have HX := Lib.hid Hx
  generalize V.length = n at *
  clear F1 F2 Hy Hx er hk hN hK hok hl ey ex lt ha lx ly
  go_enter Try.func44, Try.ntmps44
  go_wp2_with fail
  refine (pright_c a b (some ad) n c _ (by omega)).mono ?_
  rintro e w1 ⟨rfl, hb1⟩
  rw [Hok.out]
  have hB := (Blk.new w 24 #[.int .i64 a, .int .i64 b, .slice (some ad) n c]).below hb1 (by simp)
  have c0 := hB.cell 0
  have c1 := hB.cell 1
  have c2 := hB.cell 2
  have c3 : w1.cell? (ad.add k) = some (.int .i64 (rdn V k)) := by
    rw [hb1.cell (by rw [block_of_add]; simp; omega), World.cell?_alloc_lt _ _ _ (by rw [block_of_add]; omega)]
    exact hcl
  have HB := Lib.hid (((Below.refl w.heap.size w).alloc (Nat.le_refl _) _).trans (hb1.mono (by simp)))
  clear hb1 hB hcl
  simp at c0 c1 c2
  go_wp2_with fail
  have F1 := HF1.out
  have F2 := HF2.out
  go_quiet ((first | (go_at_call 46; exact quiet_eq (HY.out _)) | (go_at_call 46; exact quiet_eq (HX.out _))))
  go_wp2_with fail
  go_ret
  exact ⟨rfl, below_drewN HB.out _⟩

set_option maxHeartbeats 1600000 in
theorem pat_no (W H : Int) (A : Option Addr) (n c : Nat) (x y : Int) (w : World) (hn : n ≤ 9223372036854775807) (hok : okB W H n = false) :
    Calls Try.prog 44 #[plV W H (.slice A n c), .int .i64 x, .int .i64 y] w fun e w' => e = .returned (.int .i64 0) ∧ Below w.heap.size w w' := by
  have Hok := Lib.hid hok
  clear hok
  go_enter Try.func44, Try.ntmps44
  go_wp2_with fail
  refine (pright_c W H A n c _ (by omega)).mono ?_
  rintro e w1 ⟨rfl, hb1⟩
  rw [Hok.out]
  go_wp2_with fail
  go_ret
  exact ⟨rfl, ((Below.refl w.heap.size w).alloc (Nat.le_refl _) _).trans (hb1.mono (by simp))⟩

theorem pat_c (W H : Int) (V : List Int) (A : Option Addr) (c : Nat) (x y : Int) (w : World) (hR : ReadsI w A V) (hn : V.length ≤ 9223372036854775807) :
    Calls Try.prog 44 #[plV W H (.slice A V.length c), .int .i64 x, .int .i64 y] w fun e w' => e = .returned (.int .i64 (atP W H V x y)) ∧ Below w.heap.size w w' := by
  cases h : okB W H V.length with
  | false =>
    rw [show atP W H V x y = 0 by unfold atP; rw [h]; rfl]
    exact pat_no W H A _ c x y w hn h
  | true =>
    rw [show atP W H V x y = rdn V (nearI y H * W + nearI x W).toNat by unfold atP; rw [if_pos h]]
    obtain ⟨a, b, rfl, rfl, h1, h2, h3, h4, h5⟩ := okB_nat h
    exact pat_yes a b V A c x y w hR h1 h2 h3 h4 h5

def bothB (W H : Int) (n : Nat) (W' H' : Int) (n' : Nat) : Bool := okB W H n && okB W' H' n' && (W == W') && (H == H')
set_option maxHeartbeats 3200000 in
theorem pboth_c (W H : Int) (A : Option Addr) (n c : Nat) (W' H' : Int) (A' : Option Addr) (n' c' : Nat) (w : World) (hn : n ≤ 9223372036854775807) (hn' : n' ≤ 9223372036854775807) :
    Calls Try.prog 38 #[plV W H (.slice A n c), plV W' H' (.slice A' n' c')] w fun e w' => e = .returned (.bool (bothB W H n W' H' n')) ∧ Below w.heap.size w w' := by
  have hb0 := (((Below.refl w.heap.size w).alloc (Nat.le_refl _) (.cells #[.int .i64 W, .int .i64 H, .slice A n c] 24)).alloc (by simp) (.cells #[.int .i64 W', .int .i64 H', .slice A' n' c'] 24))
  have ⟨hp, hq⟩ := two_new w (.cells #[.int .i64 W, .int .i64 H, .slice A n c] 24) (.cells #[.int .i64 W', .int .i64 H', .slice A' n' c'] 24)
  have HB0 := Lib.hid hb0
  have HP := Lib.hid hp
  have HQ := Lib.hid hq
  clear hb0 hp hq
  cases h1 : okB W H n with
  | false =>
    have H1 := Lib.hid h1
    clear h1
    go_enter Try.func38, Try.ntmps38
    go_wp2_with fail
    refine (pright_c W H A n c _ hn).mono ?_
    rintro e w1 ⟨rfl, hb1⟩
    rw [H1.out]
    go_wp2_with fail
    go_ret
    exact ⟨ret_bool (by simp [bothB, H1.out]), HB0.out.trans (hb1.mono (by simp; omega))⟩
  | true =>
    have H1 := Lib.hid h1
    clear h1
    cases h2 : okB W' H' n' with
    | false =>
      have H2 := Lib.hid h2
      clear h2
      go_enter Try.func38, Try.ntmps38
      go_wp2_with fail
      refine (pright_c W H A n c _ hn).mono ?_
      rintro e w1 ⟨rfl, hb1⟩
      rw [H1.out]
      have hz := hb1.size
      simp at hz
      have p1 := Blk.below (t := 24) HP.out hb1 (by simp; omega)
      have q1 := Blk.below (t := 24) HQ.out hb1 (by simp)
      have P1 := Lib.hid p1
      have Q1 := Lib.hid q1
      have d0 := q1.cell 0
      have d1 := q1.cell 1
      have d2 := q1.cell 2
      have HB1 := Lib.hid (HB0.out.trans (hb1.mono (by simp; omega)))
      clear p1 q1 hb1
      simp at d0 d1 d2
      go_wp2_with fail
      refine (pright_c W' H' A' n' c' _ hn').mono ?_
      rintro e w2 ⟨rfl, hb2⟩
      rw [H2.out]
      have HB2 := Lib.hid (HB1.out.trans (hb2.mono (by omega)))
      clear hb2 hz
      go_wp2_with fail
      go_ret
      exact ⟨ret_bool (by simp [bothB, H2.out]), HB2.out⟩
    | true =>
      have H2 := Lib.hid h2
      clear h2
      cases e1 : (W == W') with
      | false =>
        have E1 := Lib.hid e1
        go_enter Try.func38, Try.ntmps38
        go_wp2_with fail
        refine (pright_c W H A n c _ hn).mono ?_
        rintro e w1 ⟨rfl, hb1⟩
        rw [H1.out]
        have hz := hb1.size
        simp at hz
        have p1 := Blk.below (t := 24) HP.out hb1 (by simp; omega)
        have q1 := Blk.below (t := 24) HQ.out hb1 (by simp)
        have P1 := Lib.hid p1
        have Q1 := Lib.hid q1
        have d0 := q1.cell 0
        have d1 := q1.cell 1
        have d2 := q1.cell 2
        have HB1 := Lib.hid (HB0.out.trans (hb1.mono (by simp; omega)))
        clear p1 q1 hb1
        simp at d0 d1 d2
        go_wp2_with fail
        refine (pright_c W' H' A' n' c' _ hn').mono ?_
        rintro e w2 ⟨rfl, hb2⟩
        rw [H2.out]
        have HB2 := Lib.hid (HB1.out.trans (hb2.mono (by omega)))
        have p2 := P1.out.below hb2 (by omega)
        have q2 := Q1.out.below hb2 (by omega)
        have a0 := p2.cell 0
        have a1 := p2.cell 1
        have b0 := q2.cell 0
        have b1 := q2.cell 1
        clear p2 q2 d0 d1 d2 hb2 hz
        simp at a0 a1 b0 b1
        go_wp2_with fail
        go_ret
        exact ⟨ret_bool (by simp [bothB, E1.out]), HB2.out⟩
      | true =>
        cases e2 : (H == H')
        all_goals
          have E1 := Lib.hid e1
          have E2 := Lib.hid e2
          go_enter Try.func38, Try.ntmps38
          go_wp2_with fail
          refine (pright_c W H A n c _ hn).mono ?_
          rintro e w1 ⟨rfl, hb1⟩
          rw [H1.out]
          have hz := hb1.size
          simp at hz
          have p1 := Blk.below (t := 24) HP.out hb1 (by simp; omega)
          have q1 := Blk.below (t := 24) HQ.out hb1 (by simp)
          have P1 := Lib.hid p1
          have Q1 := Lib.hid q1
          have d0 := q1.cell 0
          have d1 := q1.cell 1
          have d2 := q1.cell 2
          have HB1 := Lib.hid (HB0.out.trans (hb1.mono (by simp; omega)))
          clear p1 q1 hb1
          simp at d0 d1 d2
          go_wp2_with fail
          refine (pright_c W' H' A' n' c' _ hn').mono ?_
          rintro e w2 ⟨rfl, hb2⟩
          rw [H2.out]
          have HB2 := Lib.hid (HB1.out.trans (hb2.mono (by omega)))
          have p2 := P1.out.below hb2 (by omega)
          have q2 := Q1.out.below hb2 (by omega)
          have a0 := p2.cell 0
          have a1 := p2.cell 1
          have b0 := q2.cell 0
          have b1 := q2.cell 1
          clear p2 q2 d0 d1 d2 hb2 hz
          simp at a0 a1 b0 b1
          go_wp2_with fail
          go_ret
          exact ⟨ret_bool (by simp [bothB, H1.out, H2.out, E1.out, E2.out]), HB2.out⟩



end Go.Proofs.Ytfknikgfilfcmaa
