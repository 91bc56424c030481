/- What the small functions of layer 19's reference answer. -/
import Derived.Test.YtfknikgfilfcmaaUp1
import Derived.Test.YtfknikgfilfcmaaDown
import Derived.Test.YtfknikgfilfcmaaRef7a
import Derived.Deep.DeepCutAuto
import Derived.Deep.CutBlock
namespace Go.Proofs.Ytfknikgfilfcmaa
open Go.RowKit
set_option linter.unusedVariables false
set_option linter.unusedSimpArgs false

theorem r19far_c (n : Int) (w : World) : Calls Try.prog 25 #[.int .i64 n] w fun e w' => e = .returned (.int .i64 (plI n)) ∧ w = w' := by
  by_cases h1 : n < -1099511627776
  all_goals by_cases h2 : 1099511627776 < n
  all_goals
    go_enter Try.func25, Try.ntmps25
    go_wp2_with fail
    go_ret
    exact ⟨ret_int (by unfold plI; omega), rfl⟩
theorem r19near_c (v m : Int) (w : World) (hm : 1 ≤ m) : Calls Try.prog 37 #[.int .i64 v, .int .i64 m] w fun e w' => e = .returned (.int .i64 (min (max v 0) m)) ∧ w = w' := by
  by_cases h1 : v < 0
  all_goals by_cases h2 : m < v
  all_goals
    go_enter Try.func37, Try.ntmps37
    go_wp2_with fail
    go_ret
    exact ⟨ret_int (by omega), rfl⟩
theorem Blk.cells8 {w : World} {g : Nat} {t : TypeId} {a b c d e f h i : Value} (k : Blk w g t #[a, b, c, d, e, f, h, i]) : w.cell? ⟨g, 0, none⟩ = some a ∧ w.cell? ⟨g, 1, none⟩ = some b ∧ w.cell? ⟨g, 2, none⟩ = some c ∧ w.cell? ⟨g, 3, none⟩ = some d ∧ w.cell? ⟨g, 4, none⟩ = some e ∧ w.cell? ⟨g, 5, none⟩ = some f ∧ w.cell? ⟨g, 6, none⟩ = some h ∧ w.cell? ⟨g, 7, none⟩ = some i := ⟨k.cell 0, k.cell 1, k.cell 2, k.cell 3, k.cell 4, k.cell 5, k.cell 6, k.cell 7⟩
set_option maxRecDepth 100000 in
set_option maxHeartbeats 3200000 in
theorem r19half_c (z0 z1 z2 z3 z4 z5 z6 z7 m : Int) (w : World) (h0 : 0 ≤ z0 ∧ z0 ≤ 65535) (h1 : 0 ≤ z1 ∧ z1 ≤ 65535) (h2 : 0 ≤ z2 ∧ z2 ≤ 65535) (h3 : 0 ≤ z3 ∧ z3 ≤ 65535) (h4 : 0 ≤ z4 ∧ z4 ≤ 65535) (h5 : 0 ≤ z5 ∧ z5 ≤ 65535) (h6 : 0 ≤ z6 ∧ z6 ≤ 65535) (h7 : 0 ≤ z7 ∧ z7 ≤ 65535) (m1 : 1 ≤ m) (m2 : m ≤ 65535) :
    Calls Try.prog 28 #[.agg #[.int .i64 z0, .int .i64 z1, .int .i64 z2, .int .i64 z3, .int .i64 z4, .int .i64 z5, .int .i64 z6, .int .i64 z7], .int .i64 m] w fun e w' => e = .returned (.int .i64 (min (max ((16 + 21 * (z3 + z4) + -7 * (z2 + z5) + 3 * (z1 + z6) + -1 * (z0 + z7)) / 32) 0) m)) ∧ Below w.heap.size w w' := by
  have HB := Lib.hid (below_alloc_ (Below.refl w.heap.size w) (.cells #[.int .i64 z0, .int .i64 z1, .int .i64 z2, .int .i64 z3, .int .i64 z4, .int .i64 z5, .int .i64 z6, .int .i64 z7] 54))
  obtain ⟨q, hq⟩ : ∃ q, q = 16 + 21 * (z3 + z4) + -7 * (z2 + z5) + 3 * (z1 + z6) + -1 * (z0 + z7) := ⟨_, rfl⟩
  have q0 : -9223372036854775808 ≤ q := by omega
  have q1 : q ≤ 9223372036854775807 := by omega
  have F : 21 * (z3 + z4) - 7 * (z2 + z5) + 3 * (z1 + z6) - (z0 + z7) + 16 = q := by omega
  rw [← hq]
  clear hq
  go_enter Try.func28, Try.ntmps28
  go_wp2_with fail
  refine (rdown_c q 32 _ (by omega) (by omega) q0 q1).mono ?_
  rintro e w1 ⟨rfl, rfl⟩
  go_wp2_with fail
  refine (r19near_c (q / 32) m _ m1).mono ?_
  rintro e w1 ⟨rfl, rfl⟩
  go_wp2_with fail
  go_ret
  exact ⟨rfl, HB.out⟩
abbrev refV (W H : Int) (v : Value) (m : Int) : Value := .agg #[.int .i64 W, .int .i64 H, v, .int .i64 m]
theorem at_smp {a b : Nat} {V : List Int} (h : okB a b V.length = true) (x y : Int) : atP a b V x y = smp a b V x y := by unfold atP smp; rw [if_pos h]
set_option maxRecDepth 100000 in
set_option maxHeartbeats 6400000 in
theorem r19across_c (a b : Nat) (V : List Int) (A : Option Addr) (c : Nat) (m x y : Int) (w : World) (hR : ReadsI w A V) (h1 : 1 ≤ a) (h2 : a ≤ 1024) (h3 : 1 ≤ b) (h4 : b ≤ 1024) (hl : V.length = a * b) (m1 : 1 ≤ m) (m2 : m ≤ 65535) (hs : ∀ k, 0 ≤ rdn V k ∧ rdn V k ≤ m) (x0 : -9000000000000 ≤ x) (x1 : x ≤ 9000000000000) :
    Calls Try.prog 27 #[refV a b (.slice A V.length c) m, .int .i64 x, .int .i64 y] w fun e w' => e = .returned (.int .i64 (rowI a b V m x y)) ∧ Below w.heap.size w w' := by
  have hok : okB a b V.length = true := by rw [hl]; exact okB_mk h1 h2 h3 h4
  have Hok := Lib.hid hok
  have hn : V.length ≤ 9223372036854775807 := by have := area_bd (W := a) (H := b) (by omega) (by omega) (by omega) (by omega); have := Int.natCast_mul a b; omega
  have R0 := Lib.hid hR
  have HR := Lib.hid (hR.alloc (.cells #[.int .i64 a, .int .i64 b, .slice A V.length c, .int .i64 m] 35))
  have HB := Lib.hid (below_alloc_ (Below.refl w.heap.size w) (.cells #[.int .i64 a, .int .i64 b, .slice A V.length c, .int .i64 m] 35))
  have HP := Lib.hid (Blk.new w 35 #[.int .i64 a, .int .i64 b, .slice A V.length c, .int .i64 m])
  have HS := Lib.hid hs
  obtain ⟨i, hi⟩ : ∃ i, i = x / 2 := ⟨_, rfl⟩
  have hi0 : -9000000000000 ≤ i := by omega
  have hi1 : i ≤ 9000000000000 := by omega
  clear hR hl hs hok
  by_cases hx : x % 2 = 0
  · have HW := Lib.hid (show rowI a b V m x y = smp a b V i y by unfold rowI; rw [if_pos hx, ← hi])
    have E : 2 * i = x := by omega
    have hD := rdown_c x 2
    rw [← hi] at hD
    have HD := Lib.hid hD
    clear hD hi hx
    go_enter Try.func27, Try.ntmps27
    go_wp2_with fail
    refine (HD.out _ (by omega) (by omega) (by omega) (by omega)).mono ?_
    rintro e w1 ⟨rfl, rfl⟩
    obtain ⟨c0, c1, c2, c3⟩ := HP.out.cells4
    go_wp2_with fail
    refine (r7at_c a b V A c i y _ HR.out hn).mono ?_
    rintro e w1 ⟨rfl, hb1⟩
    rw [at_smp Hok.out]
    have HB := Lib.hid (HB.out.trans (hb1.mono HB.out.size))
    clear hb1 c0 c1 c2 c3
    go_wp2_with fail
    go_ret
    exact ⟨by rw [HW.out]; rfl, HB.out⟩
  · have HW := Lib.hid (show rowI a b V m x y = halfI m (fun k => smp a b V (i + k) y) by unfold rowI; rw [if_neg hx, ← hi])
    have E : ¬ 2 * i = x := by omega
    have hD := rdown_c x 2
    rw [← hi] at hD
    have HD := Lib.hid hD
    clear hD hi hx
    obtain ⟨z0, hz0⟩ : ∃ q, q = smp a b V (i - 3) y := ⟨_, rfl⟩
    have y0 : 0 ≤ z0 ∧ z0 ≤ 65535 := by rw [hz0]; have := HS.out; exact ⟨(smp_bd HS.out _ _).1, Int.le_trans (smp_bd HS.out _ _).2 m2⟩
    have Z0 := Lib.hid hz0
    clear hz0
    obtain ⟨z1, hz1⟩ : ∃ q, q = smp a b V (i - 3 + 1) y := ⟨_, rfl⟩
    have y1 : 0 ≤ z1 ∧ z1 ≤ 65535 := by rw [hz1]; have := HS.out; exact ⟨(smp_bd HS.out _ _).1, Int.le_trans (smp_bd HS.out _ _).2 m2⟩
    have Z1 := Lib.hid hz1
    clear hz1
    obtain ⟨z2, hz2⟩ : ∃ q, q = smp a b V (i - 3 + 2) y := ⟨_, rfl⟩
    have y2 : 0 ≤ z2 ∧ z2 ≤ 65535 := by rw [hz2]; have := HS.out; exact ⟨(smp_bd HS.out _ _).1, Int.le_trans (smp_bd HS.out _ _).2 m2⟩
    have Z2 := Lib.hid hz2
    clear hz2
    obtain ⟨z3, hz3⟩ : ∃ q, q = smp a b V i y := ⟨_, rfl⟩
    have y3 : 0 ≤ z3 ∧ z3 ≤ 65535 := by rw [hz3]; have := HS.out; exact ⟨(smp_bd HS.out _ _).1, Int.le_trans (smp_bd HS.out _ _).2 m2⟩
    have Z3 := Lib.hid hz3
    clear hz3
    obtain ⟨z4, hz4⟩ : ∃ q, q = smp a b V (i - 3 + 4) y := ⟨_, rfl⟩
    have y4 : 0 ≤ z4 ∧ z4 ≤ 65535 := by rw [hz4]; have := HS.out; exact ⟨(smp_bd HS.out _ _).1, Int.le_trans (smp_bd HS.out _ _).2 m2⟩
    have Z4 := Lib.hid hz4
    clear hz4
    obtain ⟨z5, hz5⟩ : ∃ q, q = smp a b V (i - 3 + 5) y := ⟨_, rfl⟩
    have y5 : 0 ≤ z5 ∧ z5 ≤ 65535 := by rw [hz5]; have := HS.out; exact ⟨(smp_bd HS.out _ _).1, Int.le_trans (smp_bd HS.out _ _).2 m2⟩
    have Z5 := Lib.hid hz5
    clear hz5
    obtain ⟨z6, hz6⟩ : ∃ q, q = smp a b V (i - 3 + 6) y := ⟨_, rfl⟩
    have y6 : 0 ≤ z6 ∧ z6 ≤ 65535 := by rw [hz6]; have := HS.out; exact ⟨(smp_bd HS.out _ _).1, Int.le_trans (smp_bd HS.out _ _).2 m2⟩
    have Z6 := Lib.hid hz6
    clear hz6
    obtain ⟨z7, hz7⟩ : ∃ q, q = smp a b V (i - 3 + 7) y := ⟨_, rfl⟩
    have y7 : 0 ≤ z7 ∧ z7 ≤ 65535 := by rw [hz7]; have := HS.out; exact ⟨(smp_bd HS.out _ _).1, Int.le_trans (smp_bd HS.out _ _).2 m2⟩
    have Z7 := Lib.hid hz7
    clear hz7
    have FI : halfI m (fun k => smp a b V (i + k) y) = min (max ((16 + 21 * (z3 + z4) + -7 * (z2 + z5) + 3 * (z1 + z6) + -1 * (z0 + z7)) / 32) 0) m := by
      rw [Z0.out, Z1.out, Z2.out, Z3.out, Z4.out, Z5.out, Z6.out, Z7.out]
      unfold halfI
      simp only [show i - 3 = i + -3 by omega, Int.add_zero, show i + -3 + 4 = i + 1 by omega, show i + -3 + 2 = i + -1 by omega, show i + -3 + 5 = i + 2 by omega, show i + -3 + 1 = i + -2 by omega, show i + -3 + 6 = i + 3 by omega, show i + -3 + 7 = i + 4 by omega]
    have FH := Lib.hid (HW.out.trans FI)
    clear FI HW
    go_enter Try.func27, Try.ntmps27
    go_wp2_with fail
    refine (HD.out _ (by omega) (by omega) (by omega) (by omega)).mono ?_
    rintro e w1 ⟨rfl, rfl⟩
    go_upto_region 5 with fail
    have HPA := Lib.hid (HP.out.alloc (.cells #[.int .i64 0, .int .i64 0, .int .i64 0, .int .i64 0, .int .i64 0, .int .i64 0, .int .i64 0, .int .i64 0] 54))
    have HBA := Lib.hid (below_alloc_ HB.out (.cells #[.int .i64 0, .int .i64 0, .int .i64 0, .int .i64 0, .int .i64 0, .int .i64 0, .int .i64 0, .int .i64 0] 54))
    have BA := Blk.new (w.alloc (.cells #[.int .i64 a, .int .i64 b, .slice A V.length c, .int .i64 m] 35)) 54 #[.int .i64 0, .int .i64 0, .int .i64 0, .int .i64 0, .int .i64 0, .int .i64 0, .int .i64 0, .int .i64 0]
    rw [World.size_alloc] at BA
    have BA := Lib.hid BA
    generalize (w.alloc (.cells #[.int .i64 a, .int .i64 b, .slice A V.length c, .int .i64 m] 35)).alloc (.cells #[.int .i64 0, .int .i64 0, .int .i64 0, .int .i64 0, .int .i64 0, .int .i64 0, .int .i64 0, .int .i64 0] 54) = wa at *
    clear HP HB HR
    go_wp2_with fail
    refine wp_loop_rounds 9 ?_
    rw [rounds_succ]
    obtain ⟨c0, c1, c2, c3⟩ := HPA.out.cells4
    go_wp2_with fail
    refine (r7at_c a b V A c (i - 3) y _ (R0.out.kept HBA.out) hn).mono ?_
    rintro e w2 ⟨rfl, hb1⟩
    rw [at_smp Hok.out, ← Z0.out]
    have HPA := Lib.hid (HPA.out.below hb1 HPA.out.lt)
    have BA := Lib.hid (BA.out.below hb1 BA.out.lt)
    have HBA := Lib.hid (HBA.out.trans (hb1.mono HBA.out.size))
    clear hb1 c0 c1 c2 c3
    have d := BA.out.cell 0
    have fz := BA.out.frozen 0
    simp at d
    go_wp2_with fail
    clear d fz
    have BA := BA.out.set_ 0 (.int .i64 z0)
    simp at BA
    have BA := Lib.hid BA
    have HPA := Lib.hid (HPA.out.far (p := ⟨w.heap.size + 1, 0, none⟩) (by simp) (.int .i64 z0))
    have HBA := Lib.hid (HBA.out.setCell (p := ⟨w.heap.size + 1, 0, none⟩) (by simp) (.int .i64 z0))
    generalize w2.setCell ⟨w.heap.size + 1, 0, none⟩ (.int .i64 z0) = v0 at *
    rw [rounds_succ]
    obtain ⟨c0, c1, c2, c3⟩ := HPA.out.cells4
    go_wp2_with fail
    refine (r7at_c a b V A c (i - 3 + 1) y _ (R0.out.kept HBA.out) hn).mono ?_
    rintro e w3 ⟨rfl, hb1⟩
    rw [at_smp Hok.out, ← Z1.out]
    have HPA := Lib.hid (HPA.out.below hb1 HPA.out.lt)
    have BA := Lib.hid (BA.out.below hb1 BA.out.lt)
    have HBA := Lib.hid (HBA.out.trans (hb1.mono HBA.out.size))
    clear hb1 c0 c1 c2 c3
    have d := BA.out.cell 1
    have fz := BA.out.frozen 1
    simp at d
    go_wp2_with fail
    clear d fz
    have BA := BA.out.set_ 1 (.int .i64 z1)
    simp at BA
    have BA := Lib.hid BA
    have HPA := Lib.hid (HPA.out.far (p := ⟨w.heap.size + 1, 1, none⟩) (by simp) (.int .i64 z1))
    have HBA := Lib.hid (HBA.out.setCell (p := ⟨w.heap.size + 1, 1, none⟩) (by simp) (.int .i64 z1))
    generalize w3.setCell ⟨w.heap.size + 1, 1, none⟩ (.int .i64 z1) = v1 at *
    rw [rounds_succ]
    obtain ⟨c0, c1, c2, c3⟩ := HPA.out.cells4
    go_wp2_with fail
    refine (r7at_c a b V A c (i - 3 + 2) y _ (R0.out.kept HBA.out) hn).mono ?_
    rintro e w4 ⟨rfl, hb1⟩
    rw [at_smp Hok.out, ← Z2.out]
    have HPA := Lib.hid (HPA.out.below hb1 HPA.out.lt)
    have BA := Lib.hid (BA.out.below hb1 BA.out.lt)
    have HBA := Lib.hid (HBA.out.trans (hb1.mono HBA.out.size))
    clear hb1 c0 c1 c2 c3
    have d := BA.out.cell 2
    have fz := BA.out.frozen 2
    simp at d
    go_wp2_with fail
    clear d fz
    have BA := BA.out.set_ 2 (.int .i64 z2)
    simp at BA
    have BA := Lib.hid BA
    have HPA := Lib.hid (HPA.out.far (p := ⟨w.heap.size + 1, 2, none⟩) (by simp) (.int .i64 z2))
    have HBA := Lib.hid (HBA.out.setCell (p := ⟨w.heap.size + 1, 2, none⟩) (by simp) (.int .i64 z2))
    generalize w4.setCell ⟨w.heap.size + 1, 2, none⟩ (.int .i64 z2) = v2 at *
    rw [rounds_succ]
    obtain ⟨c0, c1, c2, c3⟩ := HPA.out.cells4
    go_wp2_with fail
    refine (r7at_c a b V A c (i) y _ (R0.out.kept HBA.out) hn).mono ?_
    rintro e w5 ⟨rfl, hb1⟩
    rw [at_smp Hok.out, ← Z3.out]
    have HPA := Lib.hid (HPA.out.below hb1 HPA.out.lt)
    have BA := Lib.hid (BA.out.below hb1 BA.out.lt)
    have HBA := Lib.hid (HBA.out.trans (hb1.mono HBA.out.size))
    clear hb1 c0 c1 c2 c3
    have d := BA.out.cell 3
    have fz := BA.out.frozen 3
    simp at d
    go_wp2_with fail
    clear d fz
    have BA := BA.out.set_ 3 (.int .i64 z3)
    simp at BA
    have BA := Lib.hid BA
    have HPA := Lib.hid (HPA.out.far (p := ⟨w.heap.size + 1, 3, none⟩) (by simp) (.int .i64 z3))
    have HBA := Lib.hid (HBA.out.setCell (p := ⟨w.heap.size + 1, 3, none⟩) (by simp) (.int .i64 z3))
    generalize w5.setCell ⟨w.heap.size + 1, 3, none⟩ (.int .i64 z3) = v3 at *
    rw [rounds_succ]
    obtain ⟨c0, c1, c2, c3⟩ := HPA.out.cells4
    go_wp2_with fail
    refine (r7at_c a b V A c (i - 3 + 4) y _ (R0.out.kept HBA.out) hn).mono ?_
    rintro e w6 ⟨rfl, hb1⟩
    rw [at_smp Hok.out, ← Z4.out]
    have HPA := Lib.hid (HPA.out.below hb1 HPA.out.lt)
    have BA := Lib.hid (BA.out.below hb1 BA.out.lt)
    have HBA := Lib.hid (HBA.out.trans (hb1.mono HBA.out.size))
    clear hb1 c0 c1 c2 c3
    have d := BA.out.cell 4
    have fz := BA.out.frozen 4
    simp at d
    go_wp2_with fail
    clear d fz
    have BA := BA.out.set_ 4 (.int .i64 z4)
    simp at BA
    have BA := Lib.hid BA
    have HPA := Lib.hid (HPA.out.far (p := ⟨w.heap.size + 1, 4, none⟩) (by simp) (.int .i64 z4))
    have HBA := Lib.hid (HBA.out.setCell (p := ⟨w.heap.size + 1, 4, none⟩) (by simp) (.int .i64 z4))
    generalize w6.setCell ⟨w.heap.size + 1, 4, none⟩ (.int .i64 z4) = v4 at *
    rw [rounds_succ]
    obtain ⟨c0, c1, c2, c3⟩ := HPA.out.cells4
    go_wp2_with fail
    refine (r7at_c a b V A c (i - 3 + 5) y _ (R0.out.kept HBA.out) hn).mono ?_
    rintro e w7 ⟨rfl, hb1⟩
    rw [at_smp Hok.out, ← Z5.out]
    have HPA := Lib.hid (HPA.out.below hb1 HPA.out.lt)
    have BA := Lib.hid (BA.out.below hb1 BA.out.lt)
    have HBA := Lib.hid (HBA.out.trans (hb1.mono HBA.out.size))
    clear hb1 c0 c1 c2 c3
    have d := BA.out.cell 5
    have fz := BA.out.frozen 5
    simp at d
    go_wp2_with fail
    clear d fz
    have BA := BA.out.set_ 5 (.int .i64 z5)
    simp at BA
    have BA := Lib.hid BA
    have HPA := Lib.hid (HPA.out.far (p := ⟨w.heap.size + 1, 5, none⟩) (by simp) (.int .i64 z5))
    have HBA := Lib.hid (HBA.out.setCell (p := ⟨w.heap.size + 1, 5, none⟩) (by simp) (.int .i64 z5))
    generalize w7.setCell ⟨w.heap.size + 1, 5, none⟩ (.int .i64 z5) = v5 at *
    rw [rounds_succ]
    obtain ⟨c0, c1, c2, c3⟩ := HPA.out.cells4
    go_wp2_with fail
    refine (r7at_c a b V A c (i - 3 + 6) y _ (R0.out.kept HBA.out) hn).mono ?_
    rintro e w8 ⟨rfl, hb1⟩
    rw [at_smp Hok.out, ← Z6.out]
    have HPA := Lib.hid (HPA.out.below hb1 HPA.out.lt)
    have BA := Lib.hid (BA.out.below hb1 BA.out.lt)
    have HBA := Lib.hid (HBA.out.trans (hb1.mono HBA.out.size))
    clear hb1 c0 c1 c2 c3
    have d := BA.out.cell 6
    have fz := BA.out.frozen 6
    simp at d
    go_wp2_with fail
    clear d fz
    have BA := BA.out.set_ 6 (.int .i64 z6)
    simp at BA
    have BA := Lib.hid BA
    have HPA := Lib.hid (HPA.out.far (p := ⟨w.heap.size + 1, 6, none⟩) (by simp) (.int .i64 z6))
    have HBA := Lib.hid (HBA.out.setCell (p := ⟨w.heap.size + 1, 6, none⟩) (by simp) (.int .i64 z6))
    generalize w8.setCell ⟨w.heap.size + 1, 6, none⟩ (.int .i64 z6) = v6 at *
    rw [rounds_succ]
    obtain ⟨c0, c1, c2, c3⟩ := HPA.out.cells4
    go_wp2_with fail
    refine (r7at_c a b V A c (i - 3 + 7) y _ (R0.out.kept HBA.out) hn).mono ?_
    rintro e w9 ⟨rfl, hb1⟩
    rw [at_smp Hok.out, ← Z7.out]
    have HPA := Lib.hid (HPA.out.below hb1 HPA.out.lt)
    have BA := Lib.hid (BA.out.below hb1 BA.out.lt)
    have HBA := Lib.hid (HBA.out.trans (hb1.mono HBA.out.size))
    clear hb1 c0 c1 c2 c3
    have d := BA.out.cell 7
    have fz := BA.out.frozen 7
    simp at d
    go_wp2_with fail
    clear d fz
    have BA := BA.out.set_ 7 (.int .i64 z7)
    simp at BA
    have BA := Lib.hid BA
    have HPA := Lib.hid (HPA.out.far (p := ⟨w.heap.size + 1, 7, none⟩) (by simp) (.int .i64 z7))
    have HBA := Lib.hid (HBA.out.setCell (p := ⟨w.heap.size + 1, 7, none⟩) (by simp) (.int .i64 z7))
    generalize w9.setCell ⟨w.heap.size + 1, 7, none⟩ (.int .i64 z7) = v7 at *
    rw [rounds_succ]
    obtain ⟨c0, c1, c2, c3⟩ := HPA.out.cells4
    obtain ⟨e0, e1, e2, e3, e4, e5, e6, e7⟩ := BA.out.cells8
    go_wp2_with fail
    refine (r19half_c z0 z1 z2 z3 z4 z5 z6 z7 m _ y0 y1 y2 y3 y4 y5 y6 y7 m1 m2).mono ?_
    rintro e w11 ⟨rfl, hb1⟩
    have HBA := Lib.hid (HBA.out.trans (hb1.mono HBA.out.size))
    clear hb1 c0 c1 c2 c3 e0 e1 e2 e3 e4 e5 e6 e7
    rw [← FH.out]
    go_wp2_with fail
    go_ret
    exact ⟨rfl, HBA.out⟩

end Go.Proofs.Ytfknikgfilfcmaa
