/- What At of layer 19's reference answers. -/
import Derived.Test.YtfknikgfilfcmaaRef19h
import Derived.Test.YtfknikgfilfcmaaRef19w
import Derived.Test.YtfknikgfilfcmaaUp2
import Derived.Test.YtfknikgfilfcmaaQuiet
import Derived.Deep.DeepCutAuto
import Derived.Deep.CutBlock
namespace Go.Proofs.Ytfknikgfilfcmaa
open Go.RowKit Go.Sort
set_option linter.unusedVariables false
set_option linter.unusedSimpArgs false

theorem plI_of {n : Int} (h : -1099511627776 ≤ n) (h2 : n ≤ 1099511627776) : plI n = n := by unfold plI; omega
set_option maxRecDepth 100000 in
set_option maxHeartbeats 6400000 in
theorem r19At_0 (a b : Nat) (V : List Int) (A : Option Addr) (c : Nat) (m x y : Int) (w : World) (hR : ReadsI w A V) (h1 : 1 ≤ a) (h2 : a ≤ 1024) (h3 : 1 ≤ b) (h4 : b ≤ 1024) (hl : V.length = a * b) (m1 : 1 ≤ m) (m2 : m ≤ 65535) (hs : ∀ k, 0 ≤ rdn V k ∧ rdn V k ≤ m) :
    Calls Try.prog 15 #[refV a b (.slice A V.length c) m, .int .i64 x, .int .i64 y, .int .i64 0] w fun e w' => e = .returned (.int .i64 (betI a b V m (2 * plI x) (2 * plI y))) ∧ Below w.heap.size w w' := by
  have hx := plI_bd x
  have hy := plI_bd y
  have FX := Lib.hid (fun W => r19far_c x W)
  have FY := Lib.hid (fun W => r19far_c y W)
  have RP := Lib.hid hR
  have HL := Lib.hid hl
  have HS := Lib.hid hs
  have HB1 := Lib.hid (Below.refl w.heap.size w)
  have HA := Lib.hid (fun (W : World) (h : ReadsI W A V) => r19whole_c a b V A c m (2 * plI x) (2 * plI y) W h h1 h2 h3 h4 hl m1 m2 hs (by omega) (by omega) (by omega) (by omega))
  have HV := Lib.hid (show smp a b V (2 * plI x / 2) (2 * plI y / 2) = betI a b V m (2 * plI x) (2 * plI y) by unfold betI rowI; rw [if_pos (by omega), if_pos (by omega)])
  generalize plI x = X at *
  generalize plI y = Y at *
  clear hR hl hs
  go_enter Try.func15, Try.ntmps15
  go_wp2_with fail
  refine (FX.out _).mono ?_
  rintro e w1 ⟨rfl, rfl⟩
  go_wp2_with fail
  refine (FY.out _).mono ?_
  rintro e w1 ⟨rfl, rfl⟩
  have RP := Lib.hid ((RP.out).alloc (.cells #[.int .i64 a, .int .i64 b, .slice A V.length c, .int .i64 m] 35))
  have HB1 := Lib.hid (below_alloc_ (HB1.out) (.cells #[.int .i64 a, .int .i64 b, .slice A V.length c, .int .i64 m] 35))
  have hzw : (w.alloc (.cells #[.int .i64 a, .int .i64 b, .slice A V.length c, .int .i64 m] 35)).heap.size = w.heap.size + 1 := by simp only [World.size_alloc]
  have BR := Blk.new (w) 35 #[.int .i64 a, .int .i64 b, .slice A V.length c, .int .i64 m]
  skip
  have BR := Lib.hid BR
  generalize w.alloc (.cells #[.int .i64 a, .int .i64 b, .slice A V.length c, .int .i64 m] 35) = w1 at *
  clear hzw
  obtain ⟨zBR0, zBR1, zBR2, zBR3⟩ := (BR.out).cells4
  go_wp2_with fail
  clear zBR0 zBR1 zBR2 zBR3
  refine (HA.out _ RP.out).mono ?_
  rintro e w9 ⟨rfl, hb1⟩
  rw [HV.out]
  have HB1 := Lib.hid (HB1.out.trans (hb1.mono HB1.out.size))
  clear hb1
  go_wp2_with fail
  go_ret
  exact ⟨rfl, HB1.out⟩

set_option maxRecDepth 100000 in
set_option maxHeartbeats 6400000 in
theorem r19At_1 (a b : Nat) (V : List Int) (A : Option Addr) (c : Nat) (m x y : Int) (w : World) (hR : ReadsI w A V) (h1 : 1 ≤ a) (h2 : a ≤ 1024) (h3 : 1 ≤ b) (h4 : b ≤ 1024) (hl : V.length = a * b) (m1 : 1 ≤ m) (m2 : m ≤ 65535) (hs : ∀ k, 0 ≤ rdn V k ∧ rdn V k ≤ m) :
    Calls Try.prog 15 #[refV a b (.slice A V.length c) m, .int .i64 x, .int .i64 y, .int .i64 1] w fun e w' => e = .returned (.int .i64 (betI a b V m (plI x) (plI y))) ∧ Below w.heap.size w w' := by
  have hx := plI_bd x
  have hy := plI_bd y
  have FX := Lib.hid (fun W => r19far_c x W)
  have FY := Lib.hid (fun W => r19far_c y W)
  have RP := Lib.hid hR
  have HL := Lib.hid hl
  have HS := Lib.hid hs
  have HB1 := Lib.hid (Below.refl w.heap.size w)
  have HA := Lib.hid (fun (W : World) (h : ReadsI W A V) => r19Half_c a b V A c m (plI x) (plI y) W h h1 h2 h3 h4 hl m1 m2 hs)
  have HV := Lib.hid (show betI a b V m (plI (plI x)) (plI (plI y)) = betI a b V m (plI x) (plI y) by rw [plI_of hx.1 hx.2, plI_of hy.1 hy.2])
  generalize plI x = X at *
  generalize plI y = Y at *
  clear hR hl hs
  go_enter Try.func15, Try.ntmps15
  go_wp2_with fail
  refine (FX.out _).mono ?_
  rintro e w1 ⟨rfl, rfl⟩
  go_wp2_with fail
  refine (FY.out _).mono ?_
  rintro e w1 ⟨rfl, rfl⟩
  have RP := Lib.hid ((RP.out).alloc (.cells #[.int .i64 a, .int .i64 b, .slice A V.length c, .int .i64 m] 35))
  have HB1 := Lib.hid (below_alloc_ (HB1.out) (.cells #[.int .i64 a, .int .i64 b, .slice A V.length c, .int .i64 m] 35))
  have hzw : (w.alloc (.cells #[.int .i64 a, .int .i64 b, .slice A V.length c, .int .i64 m] 35)).heap.size = w.heap.size + 1 := by simp only [World.size_alloc]
  have BR := Blk.new (w) 35 #[.int .i64 a, .int .i64 b, .slice A V.length c, .int .i64 m]
  skip
  have BR := Lib.hid BR
  generalize w.alloc (.cells #[.int .i64 a, .int .i64 b, .slice A V.length c, .int .i64 m] 35) = w1 at *
  clear hzw
  obtain ⟨zBR0, zBR1, zBR2, zBR3⟩ := (BR.out).cells4
  go_wp2_with fail
  clear zBR0 zBR1 zBR2 zBR3
  refine (HA.out _ RP.out).mono ?_
  rintro e w9 ⟨rfl, hb1⟩
  rw [HV.out]
  have HB1 := Lib.hid (HB1.out.trans (hb1.mono HB1.out.size))
  clear hb1
  go_wp2_with fail
  go_ret
  exact ⟨rfl, HB1.out⟩

set_option maxRecDepth 100000 in
set_option maxHeartbeats 6400000 in
theorem r19At_far (a b : Nat) (V : List Int) (A : Option Addr) (c : Nat) (m x y : Int) (w : World) (hR : ReadsI w A V) (h1 : 1 ≤ a) (h2 : a ≤ 1024) (h3 : 1 ≤ b) (h4 : b ≤ 1024) (hl : V.length = a * b) (m1 : 1 ≤ m) (m2 : m ≤ 65535) (hs : ∀ k, 0 ≤ rdn V k ∧ rdn V k ≤ m) (p : Int) (hp : p < 0 ∨ 3 < p) :
    Calls Try.prog 15 #[refV a b (.slice A V.length c) m, .int .i64 x, .int .i64 y, .int .i64 p] w fun e w' => e = .returned (.int .i64 (0)) ∧ Below w.heap.size w w' := by
  have hx := plI_bd x
  have hy := plI_bd y
  have FX := Lib.hid (fun W => r19far_c x W)
  have FY := Lib.hid (fun W => r19far_c y W)
  have RP := Lib.hid hR
  have HL := Lib.hid hl
  have HS := Lib.hid hs
  have HB1 := Lib.hid (Below.refl w.heap.size w)
  generalize plI x = X at *
  generalize plI y = Y at *
  clear hR hl hs
  rcases hp with hp | hp
  all_goals
    go_enter Try.func15, Try.ntmps15
    go_wp2_with fail
    refine (FX.out _).mono ?_
    rintro e w1 ⟨rfl, rfl⟩
    go_wp2_with fail
    refine (FY.out _).mono ?_
    rintro e w1 ⟨rfl, rfl⟩
    have RP := Lib.hid ((RP.out).alloc (.cells #[.int .i64 a, .int .i64 b, .slice A V.length c, .int .i64 m] 35))
    have HB1 := Lib.hid (below_alloc_ (HB1.out) (.cells #[.int .i64 a, .int .i64 b, .slice A V.length c, .int .i64 m] 35))
    have hzw : (w.alloc (.cells #[.int .i64 a, .int .i64 b, .slice A V.length c, .int .i64 m] 35)).heap.size = w.heap.size + 1 := by simp only [World.size_alloc]
    have BR := Blk.new (w) 35 #[.int .i64 a, .int .i64 b, .slice A V.length c, .int .i64 m]
    skip
    have BR := Lib.hid BR
    generalize w.alloc (.cells #[.int .i64 a, .int .i64 b, .slice A V.length c, .int .i64 m] 35) = w1 at *
    clear hzw
    obtain ⟨zBR0, zBR1, zBR2, zBR3⟩ := (BR.out).cells4
    go_wp2_with fail
    go_ret
    exact ⟨rfl, HB1.out⟩

set_option maxRecDepth 100000 in
set_option maxHeartbeats 6400000 in
theorem r19At_2 (a b : Nat) (V : List Int) (A : Option Addr) (c : Nat) (m x y : Int) (w : World) (hR : ReadsI w A V) (h1 : 1 ≤ a) (h2 : a ≤ 1024) (h3 : 1 ≤ b) (h4 : b ≤ 1024) (hl : V.length = a * b) (m1 : 1 ≤ m) (m2 : m ≤ 65535) (hs : ∀ k, 0 ≤ rdn V k ∧ rdn V k ≤ m) :
    Calls Try.prog 15 #[refV a b (.slice A V.length c) m, .int .i64 x, .int .i64 y, .int .i64 2] w fun e w' => e = .returned (.int .i64 (fineI 2 (betI a b V m) (plI x) (plI y))) ∧ Below w.heap.size w w' := by
  have hx := plI_bd x
  have hy := plI_bd y
  have FX := Lib.hid (fun W => r19far_c x W)
  have FY := Lib.hid (fun W => r19far_c y W)
  have RP := Lib.hid hR
  have HL := Lib.hid hl
  have HS := Lib.hid hs
  have HB1 := Lib.hid (Below.refl w.heap.size w)
  generalize plI x = X at *
  generalize plI y = Y at *
  obtain ⟨u, hu⟩ : ∃ q, q = X / 2 := ⟨_, rfl⟩
  obtain ⟨v, hv⟩ : ∃ q, q = Y / 2 := ⟨_, rfl⟩
  obtain ⟨rx, hrx⟩ : ∃ q, q = X % 2 := ⟨_, rfl⟩
  obtain ⟨ry, hry⟩ : ∃ q, q = Y % 2 := ⟨_, rfl⟩
  have FIN : fineI 2 (betI a b V m) X Y = ((2 - rx) * (2 - ry) * betI a b V m (u) (v) + rx * (2 - ry) * betI a b V m (u + 1) (v) + (2 - rx) * ry * betI a b V m (u) (v + 1) + rx * ry * betI a b V m (u + 1) (v + 1) + 2) / 4 := by rw [hu, hv, hrx, hry]; rfl
  have r0 : 0 ≤ rx ∧ rx < 2 := by omega
  have r1 : 0 ≤ ry ∧ ry < 2 := by omega
  have u0 : -549755813888 ≤ u ∧ u ≤ 549755813888 := by omega
  have v0 : -549755813888 ≤ v ∧ v ≤ 549755813888 := by omega
  obtain ⟨p0, hp0⟩ : ∃ q, q = (2 - rx) * (2 - ry) := ⟨_, rfl⟩
  have d0 : 0 ≤ p0 ∧ p0 ≤ 16 := by rw [hp0]; exact mul_bd4 (by omega) (by omega) (by omega) (by omega)
  obtain ⟨z0, hz0⟩ : ∃ q, q = betI a b V m (u) (v) := ⟨_, rfl⟩
  have y0 : 0 ≤ z0 ∧ z0 ≤ 65535 := by rw [hz0]; have := betI_bd (a := a) (b := b) HS.out m1 (u) (v); omega
  obtain ⟨t0, ht0⟩ : ∃ q, q = p0 * z0 := ⟨_, rfl⟩
  have x0 : 0 ≤ t0 ∧ t0 ≤ 1048560 := by rw [ht0]; exact mul_bdz d0.1 d0.2 y0.1 y0.2
  obtain ⟨p1, hp1⟩ : ∃ q, q = rx * (2 - ry) := ⟨_, rfl⟩
  have d1 : 0 ≤ p1 ∧ p1 ≤ 16 := by rw [hp1]; exact mul_bd4 (by omega) (by omega) (by omega) (by omega)
  obtain ⟨z1, hz1⟩ : ∃ q, q = betI a b V m (u + 1) (v) := ⟨_, rfl⟩
  have y1 : 0 ≤ z1 ∧ z1 ≤ 65535 := by rw [hz1]; have := betI_bd (a := a) (b := b) HS.out m1 (u + 1) (v); omega
  obtain ⟨t1, ht1⟩ : ∃ q, q = p1 * z1 := ⟨_, rfl⟩
  have x1 : 0 ≤ t1 ∧ t1 ≤ 1048560 := by rw [ht1]; exact mul_bdz d1.1 d1.2 y1.1 y1.2
  obtain ⟨p2, hp2⟩ : ∃ q, q = (2 - rx) * ry := ⟨_, rfl⟩
  have d2 : 0 ≤ p2 ∧ p2 ≤ 16 := by rw [hp2]; exact mul_bd4 (by omega) (by omega) (by omega) (by omega)
  obtain ⟨z2, hz2⟩ : ∃ q, q = betI a b V m (u) (v + 1) := ⟨_, rfl⟩
  have y2 : 0 ≤ z2 ∧ z2 ≤ 65535 := by rw [hz2]; have := betI_bd (a := a) (b := b) HS.out m1 (u) (v + 1); omega
  obtain ⟨t2, ht2⟩ : ∃ q, q = p2 * z2 := ⟨_, rfl⟩
  have x2 : 0 ≤ t2 ∧ t2 ≤ 1048560 := by rw [ht2]; exact mul_bdz d2.1 d2.2 y2.1 y2.2
  obtain ⟨p3, hp3⟩ : ∃ q, q = rx * ry := ⟨_, rfl⟩
  have d3 : 0 ≤ p3 ∧ p3 ≤ 16 := by rw [hp3]; exact mul_bd4 (by omega) (by omega) (by omega) (by omega)
  obtain ⟨z3, hz3⟩ : ∃ q, q = betI a b V m (u + 1) (v + 1) := ⟨_, rfl⟩
  have y3 : 0 ≤ z3 ∧ z3 ≤ 65535 := by rw [hz3]; have := betI_bd (a := a) (b := b) HS.out m1 (u + 1) (v + 1); omega
  obtain ⟨t3, ht3⟩ : ∃ q, q = p3 * z3 := ⟨_, rfl⟩
  have x3 : 0 ≤ t3 ∧ t3 ≤ 1048560 := by rw [ht3]; exact mul_bdz d3.1 d3.2 y3.1 y3.2
  rw [← hp0, ← hz0, ← ht0, ← hp1, ← hz1, ← ht1, ← hp2, ← hz2, ← ht2, ← hp3, ← hz3, ← ht3] at FIN
  have F0 : wrap64 ((2 - rx) * (2 - ry)) = p0 := by rw [← hp0]; unfold wrap64; omega
  have G0 : IntKind.i64.wrap ((2 - rx) * (2 - ry)) = p0 := by rw [← hp0]; exact IntWalk.i64_in _ (by omega)
  have T0 : p0 * z0 = t0 := ht0.symm
  have K0 := Lib.hid (fun (W : World) (h : ReadsI W A V) => (show Calls Try.prog 14 #[refV a b (.slice A V.length c) m, .int .i64 (u), .int .i64 (v)] W fun e w' => e = .returned (.int .i64 z0) ∧ Below W.heap.size W w' from by have h9 := r19Half_c a b V A c m (u) (v) W h h1 h2 h3 h4 HL.out m1 m2 HS.out; rw [plI_of (by omega) (by omega), plI_of (by omega) (by omega), ← hz0] at h9; exact h9))
  have F1 : wrap64 (rx * (2 - ry)) = p1 := by rw [← hp1]; unfold wrap64; omega
  have G1 : IntKind.i64.wrap (rx * (2 - ry)) = p1 := by rw [← hp1]; exact IntWalk.i64_in _ (by omega)
  have T1 : p1 * z1 = t1 := ht1.symm
  have K1 := Lib.hid (fun (W : World) (h : ReadsI W A V) => (show Calls Try.prog 14 #[refV a b (.slice A V.length c) m, .int .i64 (u + 1), .int .i64 (v)] W fun e w' => e = .returned (.int .i64 z1) ∧ Below W.heap.size W w' from by have h9 := r19Half_c a b V A c m (u + 1) (v) W h h1 h2 h3 h4 HL.out m1 m2 HS.out; rw [plI_of (by omega) (by omega), plI_of (by omega) (by omega), ← hz1] at h9; exact h9))
  have F2 : wrap64 ((2 - rx) * ry) = p2 := by rw [← hp2]; unfold wrap64; omega
  have G2 : IntKind.i64.wrap ((2 - rx) * ry) = p2 := by rw [← hp2]; exact IntWalk.i64_in _ (by omega)
  have T2 : p2 * z2 = t2 := ht2.symm
  have K2 := Lib.hid (fun (W : World) (h : ReadsI W A V) => (show Calls Try.prog 14 #[refV a b (.slice A V.length c) m, .int .i64 (u), .int .i64 (v + 1)] W fun e w' => e = .returned (.int .i64 z2) ∧ Below W.heap.size W w' from by have h9 := r19Half_c a b V A c m (u) (v + 1) W h h1 h2 h3 h4 HL.out m1 m2 HS.out; rw [plI_of (by omega) (by omega), plI_of (by omega) (by omega), ← hz2] at h9; exact h9))
  have F3 : wrap64 (rx * ry) = p3 := by rw [← hp3]; unfold wrap64; omega
  have G3 : IntKind.i64.wrap (rx * ry) = p3 := by rw [← hp3]; exact IntWalk.i64_in _ (by omega)
  have T3 : p3 * z3 = t3 := ht3.symm
  have K3 := Lib.hid (fun (W : World) (h : ReadsI W A V) => (show Calls Try.prog 14 #[refV a b (.slice A V.length c) m, .int .i64 (u + 1), .int .i64 (v + 1)] W fun e w' => e = .returned (.int .i64 z3) ∧ Below W.heap.size W w' from by have h9 := r19Half_c a b V A c m (u + 1) (v + 1) W h h1 h2 h3 h4 HL.out m1 m2 HS.out; rw [plI_of (by omega) (by omega), plI_of (by omega) (by omega), ← hz3] at h9; exact h9))
  have DX := rdown_c X 2
  have DY := rdown_c Y 2
  rw [← hu] at DX
  rw [← hv] at DY
  have DX := Lib.hid DX
  have DY := Lib.hid DY
  have S1 : X - 2 * u = rx := by omega
  have S2 : Y - 2 * v = ry := by omega
  have FI := Lib.hid FIN
  clear FIN hp0 hz0 ht0 hp1 hz1 ht1 hp2 hz2 ht2 hp3 hz3 ht3 hu hv hrx hry hR hl hs
  go_enter Try.func15, Try.ntmps15
  go_wp2_with fail
  refine (FX.out _).mono ?_
  rintro e w1 ⟨rfl, rfl⟩
  go_wp2_with fail
  refine (FY.out _).mono ?_
  rintro e w1 ⟨rfl, rfl⟩
  have RP := Lib.hid ((RP.out).alloc (.cells #[.int .i64 a, .int .i64 b, .slice A V.length c, .int .i64 m] 35))
  have HB1 := Lib.hid (below_alloc_ (HB1.out) (.cells #[.int .i64 a, .int .i64 b, .slice A V.length c, .int .i64 m] 35))
  have hzw : (w.alloc (.cells #[.int .i64 a, .int .i64 b, .slice A V.length c, .int .i64 m] 35)).heap.size = w.heap.size + 1 := by simp only [World.size_alloc]
  have BR := Blk.new (w) 35 #[.int .i64 a, .int .i64 b, .slice A V.length c, .int .i64 m]
  skip
  have BR := Lib.hid BR
  generalize w.alloc (.cells #[.int .i64 a, .int .i64 b, .slice A V.length c, .int .i64 m] 35) = w1 at *
  clear hzw
  obtain ⟨zBR0, zBR1, zBR2, zBR3⟩ := (BR.out).cells4
  go_wp2_with fail
  refine (DX.out _ (by omega) (by omega) (by omega) (by omega)).mono ?_
  rintro e w8 ⟨rfl, rfl⟩
  go_wp2_with fail
  refine (DY.out _ (by omega) (by omega) (by omega) (by omega)).mono ?_
  rintro e w8 ⟨rfl, rfl⟩
  go_upto_region 14 with fail
  clear zBR0 zBR1 zBR2 zBR3
  obtain ⟨zBR0, zBR1, zBR2, zBR3⟩ := (BR.out).cells4
  have kq0 := cell_regrown zBR0
  have kq1 := cell_regrown zBR1
  have kq2 := cell_regrown zBR2
  have kq3 := cell_regrown zBR3
  have qc0 := fun (d : Nat) (os : Array Obj) => Calls.regrown_of (K0.out (grow (redrawn w1 d) os) (RP.out.kept (below_regrown w1 d os)))
  have qc1 := fun (d : Nat) (os : Array Obj) => Calls.regrown_of (K1.out (grow (redrawn w1 d) os) (RP.out.kept (below_regrown w1 d os)))
  have qc2 := fun (d : Nat) (os : Array Obj) => Calls.regrown_of (K2.out (grow (redrawn w1 d) os) (RP.out.kept (below_regrown w1 d os)))
  have qc3 := fun (d : Nat) (os : Array Obj) => Calls.regrown_of (K3.out (grow (redrawn w1 d) os) (RP.out.kept (below_regrown w1 d os)))
  clear zBR0 zBR1 zBR2 zBR3
  refine wp_region_quiet_below (by kernel_rfl) (by kernel_rfl) ?_
  repeat (go_big_quiet_step (first | with_reducible exact qc0 _ _ | with_reducible exact qc1 _ _ | with_reducible exact qc2 _ _ | with_reducible exact qc3 _ _))
  refine wpQuiet_nil ?_
  intro _ hw'
  obtain ⟨⟨dq, osq⟩, hw''⟩ := hw'
  subst hw''
  have hb' := below_regrown w1 dq osq
  clear kq0 kq1 kq2 kq3 qc0 qc1 qc2 qc3
  have RP := Lib.hid ((RP.out).kept hb')
  have HB1 := Lib.hid ((HB1.out).trans (hb'.mono (HB1.out).size))
  have BR := Lib.hid ((BR.out).below hb' (BR.out).lt)
  clear hb'
  generalize grow (redrawn w1 dq) osq = w2 at *
  go_wp2_with fail
  go_ret
  exact ⟨by rw [FI.out]; exact ret_int (by omega), HB1.out⟩

set_option maxRecDepth 100000 in
set_option maxHeartbeats 6400000 in
theorem r19At_3 (a b : Nat) (V : List Int) (A : Option Addr) (c : Nat) (m x y : Int) (w : World) (hR : ReadsI w A V) (h1 : 1 ≤ a) (h2 : a ≤ 1024) (h3 : 1 ≤ b) (h4 : b ≤ 1024) (hl : V.length = a * b) (m1 : 1 ≤ m) (m2 : m ≤ 65535) (hs : ∀ k, 0 ≤ rdn V k ∧ rdn V k ≤ m) :
    Calls Try.prog 15 #[refV a b (.slice A V.length c) m, .int .i64 x, .int .i64 y, .int .i64 3] w fun e w' => e = .returned (.int .i64 (fineI 4 (betI a b V m) (plI x) (plI y))) ∧ Below w.heap.size w w' := by
  have hx := plI_bd x
  have hy := plI_bd y
  have FX := Lib.hid (fun W => r19far_c x W)
  have FY := Lib.hid (fun W => r19far_c y W)
  have RP := Lib.hid hR
  have HL := Lib.hid hl
  have HS := Lib.hid hs
  have HB1 := Lib.hid (Below.refl w.heap.size w)
  generalize plI x = X at *
  generalize plI y = Y at *
  obtain ⟨u, hu⟩ : ∃ q, q = X / 4 := ⟨_, rfl⟩
  obtain ⟨v, hv⟩ : ∃ q, q = Y / 4 := ⟨_, rfl⟩
  obtain ⟨rx, hrx⟩ : ∃ q, q = X % 4 := ⟨_, rfl⟩
  obtain ⟨ry, hry⟩ : ∃ q, q = Y % 4 := ⟨_, rfl⟩
  have FIN : fineI 4 (betI a b V m) X Y = ((4 - rx) * (4 - ry) * betI a b V m (u) (v) + rx * (4 - ry) * betI a b V m (u + 1) (v) + (4 - rx) * ry * betI a b V m (u) (v + 1) + rx * ry * betI a b V m (u + 1) (v + 1) + 8) / 16 := by rw [hu, hv, hrx, hry]; rfl
  have r0 : 0 ≤ rx ∧ rx < 4 := by omega
  have r1 : 0 ≤ ry ∧ ry < 4 := by omega
  have u0 : -549755813888 ≤ u ∧ u ≤ 549755813888 := by omega
  have v0 : -549755813888 ≤ v ∧ v ≤ 549755813888 := by omega
  obtain ⟨p0, hp0⟩ : ∃ q, q = (4 - rx) * (4 - ry) := ⟨_, rfl⟩
  have d0 : 0 ≤ p0 ∧ p0 ≤ 16 := by rw [hp0]; exact mul_bd4 (by omega) (by omega) (by omega) (by omega)
  obtain ⟨z0, hz0⟩ : ∃ q, q = betI a b V m (u) (v) := ⟨_, rfl⟩
  have y0 : 0 ≤ z0 ∧ z0 ≤ 65535 := by rw [hz0]; have := betI_bd (a := a) (b := b) HS.out m1 (u) (v); omega
  obtain ⟨t0, ht0⟩ : ∃ q, q = p0 * z0 := ⟨_, rfl⟩
  have x0 : 0 ≤ t0 ∧ t0 ≤ 1048560 := by rw [ht0]; exact mul_bdz d0.1 d0.2 y0.1 y0.2
  obtain ⟨p1, hp1⟩ : ∃ q, q = rx * (4 - ry) := ⟨_, rfl⟩
  have d1 : 0 ≤ p1 ∧ p1 ≤ 16 := by rw [hp1]; exact mul_bd4 (by omega) (by omega) (by omega) (by omega)
  obtain ⟨z1, hz1⟩ : ∃ q, q = betI a b V m (u + 1) (v) := ⟨_, rfl⟩
  have y1 : 0 ≤ z1 ∧ z1 ≤ 65535 := by rw [hz1]; have := betI_bd (a := a) (b := b) HS.out m1 (u + 1) (v); omega
  obtain ⟨t1, ht1⟩ : ∃ q, q = p1 * z1 := ⟨_, rfl⟩
  have x1 : 0 ≤ t1 ∧ t1 ≤ 1048560 := by rw [ht1]; exact mul_bdz d1.1 d1.2 y1.1 y1.2
  obtain ⟨p2, hp2⟩ : ∃ q, q = (4 - rx) * ry := ⟨_, rfl⟩
  have d2 : 0 ≤ p2 ∧ p2 ≤ 16 := by rw [hp2]; exact mul_bd4 (by omega) (by omega) (by omega) (by omega)
  obtain ⟨z2, hz2⟩ : ∃ q, q = betI a b V m (u) (v + 1) := ⟨_, rfl⟩
  have y2 : 0 ≤ z2 ∧ z2 ≤ 65535 := by rw [hz2]; have := betI_bd (a := a) (b := b) HS.out m1 (u) (v + 1); omega
  obtain ⟨t2, ht2⟩ : ∃ q, q = p2 * z2 := ⟨_, rfl⟩
  have x2 : 0 ≤ t2 ∧ t2 ≤ 1048560 := by rw [ht2]; exact mul_bdz d2.1 d2.2 y2.1 y2.2
  obtain ⟨p3, hp3⟩ : ∃ q, q = rx * ry := ⟨_, rfl⟩
  have d3 : 0 ≤ p3 ∧ p3 ≤ 16 := by rw [hp3]; exact mul_bd4 (by omega) (by omega) (by omega) (by omega)
  obtain ⟨z3, hz3⟩ : ∃ q, q = betI a b V m (u + 1) (v + 1) := ⟨_, rfl⟩
  have y3 : 0 ≤ z3 ∧ z3 ≤ 65535 := by rw [hz3]; have := betI_bd (a := a) (b := b) HS.out m1 (u + 1) (v + 1); omega
  obtain ⟨t3, ht3⟩ : ∃ q, q = p3 * z3 := ⟨_, rfl⟩
  have x3 : 0 ≤ t3 ∧ t3 ≤ 1048560 := by rw [ht3]; exact mul_bdz d3.1 d3.2 y3.1 y3.2
  rw [← hp0, ← hz0, ← ht0, ← hp1, ← hz1, ← ht1, ← hp2, ← hz2, ← ht2, ← hp3, ← hz3, ← ht3] at FIN
  have F0 : wrap64 ((4 - rx) * (4 - ry)) = p0 := by rw [← hp0]; unfold wrap64; omega
  have G0 : IntKind.i64.wrap ((4 - rx) * (4 - ry)) = p0 := by rw [← hp0]; exact IntWalk.i64_in _ (by omega)
  have T0 : p0 * z0 = t0 := ht0.symm
  have K0 := Lib.hid (fun (W : World) (h : ReadsI W A V) => (show Calls Try.prog 14 #[refV a b (.slice A V.length c) m, .int .i64 (u), .int .i64 (v)] W fun e w' => e = .returned (.int .i64 z0) ∧ Below W.heap.size W w' from by have h9 := r19Half_c a b V A c m (u) (v) W h h1 h2 h3 h4 HL.out m1 m2 HS.out; rw [plI_of (by omega) (by omega), plI_of (by omega) (by omega), ← hz0] at h9; exact h9))
  have F1 : wrap64 (rx * (4 - ry)) = p1 := by rw [← hp1]; unfold wrap64; omega
  have G1 : IntKind.i64.wrap (rx * (4 - ry)) = p1 := by rw [← hp1]; exact IntWalk.i64_in _ (by omega)
  have T1 : p1 * z1 = t1 := ht1.symm
  have K1 := Lib.hid (fun (W : World) (h : ReadsI W A V) => (show Calls Try.prog 14 #[refV a b (.slice A V.length c) m, .int .i64 (u + 1), .int .i64 (v)] W fun e w' => e = .returned (.int .i64 z1) ∧ Below W.heap.size W w' from by have h9 := r19Half_c a b V A c m (u + 1) (v) W h h1 h2 h3 h4 HL.out m1 m2 HS.out; rw [plI_of (by omega) (by omega), plI_of (by omega) (by omega), ← hz1] at h9; exact h9))
  have F2 : wrap64 ((4 - rx) * ry) = p2 := by rw [← hp2]; unfold wrap64; omega
  have G2 : IntKind.i64.wrap ((4 - rx) * ry) = p2 := by rw [← hp2]; exact IntWalk.i64_in _ (by omega)
  have T2 : p2 * z2 = t2 := ht2.symm
  have K2 := Lib.hid (fun (W : World) (h : ReadsI W A V) => (show Calls Try.prog 14 #[refV a b (.slice A V.length c) m, .int .i64 (u), .int .i64 (v + 1)] W fun e w' => e = .returned (.int .i64 z2) ∧ Below W.heap.size W w' from by have h9 := r19Half_c a b V A c m (u) (v + 1) W h h1 h2 h3 h4 HL.out m1 m2 HS.out; rw [plI_of (by omega) (by omega), plI_of (by omega) (by omega), ← hz2] at h9; exact h9))
  have F3 : wrap64 (rx * ry) = p3 := by rw [← hp3]; unfold wrap64; omega
  have G3 : IntKind.i64.wrap (rx * ry) = p3 := by rw [← hp3]; exact IntWalk.i64_in _ (by omega)
  have T3 : p3 * z3 = t3 := ht3.symm
  have K3 := Lib.hid (fun (W : World) (h : ReadsI W A V) => (show Calls Try.prog 14 #[refV a b (.slice A V.length c) m, .int .i64 (u + 1), .int .i64 (v + 1)] W fun e w' => e = .returned (.int .i64 z3) ∧ Below W.heap.size W w' from by have h9 := r19Half_c a b V A c m (u + 1) (v + 1) W h h1 h2 h3 h4 HL.out m1 m2 HS.out; rw [plI_of (by omega) (by omega), plI_of (by omega) (by omega), ← hz3] at h9; exact h9))
  have DX := rdown_c X 4
  have DY := rdown_c Y 4
  rw [← hu] at DX
  rw [← hv] at DY
  have DX := Lib.hid DX
  have DY := Lib.hid DY
  have S1 : X - 4 * u = rx := by omega
  have S2 : Y - 4 * v = ry := by omega
  have FI := Lib.hid FIN
  clear FIN hp0 hz0 ht0 hp1 hz1 ht1 hp2 hz2 ht2 hp3 hz3 ht3 hu hv hrx hry hR hl hs
  go_enter Try.func15, Try.ntmps15
  go_wp2_with fail
  refine (FX.out _).mono ?_
  rintro e w1 ⟨rfl, rfl⟩
  go_wp2_with fail
  refine (FY.out _).mono ?_
  rintro e w1 ⟨rfl, rfl⟩
  have RP := Lib.hid ((RP.out).alloc (.cells #[.int .i64 a, .int .i64 b, .slice A V.length c, .int .i64 m] 35))
  have HB1 := Lib.hid (below_alloc_ (HB1.out) (.cells #[.int .i64 a, .int .i64 b, .slice A V.length c, .int .i64 m] 35))
  have hzw : (w.alloc (.cells #[.int .i64 a, .int .i64 b, .slice A V.length c, .int .i64 m] 35)).heap.size = w.heap.size + 1 := by simp only [World.size_alloc]
  have BR := Blk.new (w) 35 #[.int .i64 a, .int .i64 b, .slice A V.length c, .int .i64 m]
  skip
  have BR := Lib.hid BR
  generalize w.alloc (.cells #[.int .i64 a, .int .i64 b, .slice A V.length c, .int .i64 m] 35) = w1 at *
  clear hzw
  obtain ⟨zBR0, zBR1, zBR2, zBR3⟩ := (BR.out).cells4
  go_wp2_with fail
  refine (DX.out _ (by omega) (by omega) (by omega) (by omega)).mono ?_
  rintro e w8 ⟨rfl, rfl⟩
  go_wp2_with fail
  refine (DY.out _ (by omega) (by omega) (by omega) (by omega)).mono ?_
  rintro e w8 ⟨rfl, rfl⟩
  go_upto_region 14 with fail
  clear zBR0 zBR1 zBR2 zBR3
  obtain ⟨zBR0, zBR1, zBR2, zBR3⟩ := (BR.out).cells4
  have kq0 := cell_regrown zBR0
  have kq1 := cell_regrown zBR1
  have kq2 := cell_regrown zBR2
  have kq3 := cell_regrown zBR3
  have qc0 := fun (d : Nat) (os : Array Obj) => Calls.regrown_of (K0.out (grow (redrawn w1 d) os) (RP.out.kept (below_regrown w1 d os)))
  have qc1 := fun (d : Nat) (os : Array Obj) => Calls.regrown_of (K1.out (grow (redrawn w1 d) os) (RP.out.kept (below_regrown w1 d os)))
  have qc2 := fun (d : Nat) (os : Array Obj) => Calls.regrown_of (K2.out (grow (redrawn w1 d) os) (RP.out.kept (below_regrown w1 d os)))
  have qc3 := fun (d : Nat) (os : Array Obj) => Calls.regrown_of (K3.out (grow (redrawn w1 d) os) (RP.out.kept (below_regrown w1 d os)))
  clear zBR0 zBR1 zBR2 zBR3
  refine wp_region_quiet_below (by kernel_rfl) (by kernel_rfl) ?_
  repeat (go_big_quiet_step (first | with_reducible exact qc0 _ _ | with_reducible exact qc1 _ _ | with_reducible exact qc2 _ _ | with_reducible exact qc3 _ _))
  refine wpQuiet_nil ?_
  intro _ hw'
  obtain ⟨⟨dq, osq⟩, hw''⟩ := hw'
  subst hw''
  have hb' := below_regrown w1 dq osq
  clear kq0 kq1 kq2 kq3 qc0 qc1 qc2 qc3
  have RP := Lib.hid ((RP.out).kept hb')
  have HB1 := Lib.hid ((HB1.out).trans (hb'.mono (HB1.out).size))
  have BR := Lib.hid ((BR.out).below hb' (BR.out).lt)
  clear hb'
  generalize grow (redrawn w1 dq) osq = w2 at *
  go_wp2_with fail
  go_ret
  exact ⟨by rw [FI.out]; exact ret_int (by omega), HB1.out⟩


end Go.Proofs.Ytfknikgfilfcmaa
