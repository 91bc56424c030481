/- What Half of layer 19's reference answers. -/
import Derived.Test.YtfknikgfilfcmaaRef19
namespace Go.Proofs.Ytfknikgfilfcmaa
open Go.RowKit
set_option linter.unusedVariables false
set_option linter.unusedSimpArgs false

set_option maxRecDepth 100000 in
set_option maxHeartbeats 6400000 in
theorem r19Half_c (a b : Nat) (V : List Int) (A : Option Addr) (c : Nat) (m x y : Int) (w : World) (hR : ReadsI w A V) (h1 : 1 ≤ a) (h2 : a ≤ 1024) (h3 : 1 ≤ b) (h4 : b ≤ 1024) (hl : V.length = a * b) (m1 : 1 ≤ m) (m2 : m ≤ 65535) (hs : ∀ k, 0 ≤ rdn V k ∧ rdn V k ≤ m) :
    Calls Try.prog 14 #[refV a b (.slice A V.length c) m, .int .i64 x, .int .i64 y] w fun e w' => e = .returned (.int .i64 (betI a b V m (plI x) (plI y))) ∧ Below w.heap.size w w' := by
  have hX := plI_bd x
  have hY := plI_bd y
  have FX := Lib.hid (fun W => r19far_c x W)
  have FY := Lib.hid (fun W => r19far_c y W)
  generalize plI x = X at *
  generalize plI y = Y at *
  have R0 := Lib.hid hR
  have HL := Lib.hid hl
  have HS := Lib.hid hs
  have HB := Lib.hid (below_alloc_ (Below.refl w.heap.size w) (.cells #[.int .i64 a, .int .i64 b, .slice A V.length c, .int .i64 m] 35))
  have HP := Lib.hid (Blk.new w 35 #[.int .i64 a, .int .i64 b, .slice A V.length c, .int .i64 m])
  obtain ⟨i, hi⟩ : ∃ i, i = Y / 2 := ⟨_, rfl⟩
  have hi0 : -9000000000000 ≤ i := by omega
  have hi1 : i ≤ 9000000000000 := by omega
  have HA := Lib.hid (fun (yy : Int) (W : World) (h : ReadsI W A V) => r19across_c a b V A c m X yy W h h1 h2 h3 h4 HL.out m1 m2 HS.out (by omega) (by omega))
  clear hR hl hs
  by_cases hx : Y % 2 = 0
  · have HW := Lib.hid (show betI a b V m X Y = rowI a b V m X i by unfold betI; rw [if_pos hx, ← hi])
    have E : 2 * i = Y := by omega
    have hD := rdown_c Y 2
    rw [← hi] at hD
    have HD := Lib.hid hD
    clear hD hi hx
    go_enter Try.func14, Try.ntmps14
    go_wp2_with fail
    refine (FX.out _).mono ?_
    rintro e w1 ⟨rfl, rfl⟩
    go_wp2_with fail
    refine (FY.out _).mono ?_
    rintro e w1 ⟨rfl, rfl⟩
    go_wp2_with fail
    refine (HD.out _ (by omega) (by omega) (by omega) (by omega)).mono ?_
    rintro e w1 ⟨rfl, rfl⟩
    obtain ⟨c0, c1, c2, c3⟩ := HP.out.cells4
    go_wp2_with fail
    refine (HA.out i _ (R0.out.kept HB.out)).mono ?_
    rintro e w1 ⟨rfl, hb1⟩
    have HB := Lib.hid (HB.out.trans (hb1.mono HB.out.size))
    clear hb1 c0 c1 c2 c3
    go_wp2_with fail
    go_ret
    exact ⟨by rw [HW.out]; rfl, HB.out⟩
  · have HW := Lib.hid (show betI a b V m X Y = halfI m (fun k => rowI a b V m X (i + k)) by unfold betI; rw [if_neg hx, ← hi])
    have E : ¬ 2 * i = Y := by omega
    have hD := rdown_c Y 2
    rw [← hi] at hD
    have HD := Lib.hid hD
    clear hD hi hx
    obtain ⟨z0, hz0⟩ : ∃ q, q = rowI a b V m X (i - 3) := ⟨_, rfl⟩
    have y0 : 0 ≤ z0 ∧ z0 ≤ 65535 := by rw [hz0]; exact ⟨(rowI_bd HS.out m1 _ _).1, Int.le_trans (rowI_bd HS.out m1 _ _).2 m2⟩
    have Z0 := Lib.hid hz0
    clear hz0
    obtain ⟨z1, hz1⟩ : ∃ q, q = rowI a b V m X (i - 3 + 1) := ⟨_, rfl⟩
    have y1 : 0 ≤ z1 ∧ z1 ≤ 65535 := by rw [hz1]; exact ⟨(rowI_bd HS.out m1 _ _).1, Int.le_trans (rowI_bd HS.out m1 _ _).2 m2⟩
    have Z1 := Lib.hid hz1
    clear hz1
    obtain ⟨z2, hz2⟩ : ∃ q, q = rowI a b V m X (i - 3 + 2) := ⟨_, rfl⟩
    have y2 : 0 ≤ z2 ∧ z2 ≤ 65535 := by rw [hz2]; exact ⟨(rowI_bd HS.out m1 _ _).1, Int.le_trans (rowI_bd HS.out m1 _ _).2 m2⟩
    have Z2 := Lib.hid hz2
    clear hz2
    obtain ⟨z3, hz3⟩ : ∃ q, q = rowI a b V m X i := ⟨_, rfl⟩
    have y3 : 0 ≤ z3 ∧ z3 ≤ 65535 := by rw [hz3]; exact ⟨(rowI_bd HS.out m1 _ _).1, Int.le_trans (rowI_bd HS.out m1 _ _).2 m2⟩
    have Z3 := Lib.hid hz3
    clear hz3
    obtain ⟨z4, hz4⟩ : ∃ q, q = rowI a b V m X (i - 3 + 4) := ⟨_, rfl⟩
    have y4 : 0 ≤ z4 ∧ z4 ≤ 65535 := by rw [hz4]; exact ⟨(rowI_bd HS.out m1 _ _).1, Int.le_trans (rowI_bd HS.out m1 _ _).2 m2⟩
    have Z4 := Lib.hid hz4
    clear hz4
    obtain ⟨z5, hz5⟩ : ∃ q, q = rowI a b V m X (i - 3 + 5) := ⟨_, rfl⟩
    have y5 : 0 ≤ z5 ∧ z5 ≤ 65535 := by rw [hz5]; exact ⟨(rowI_bd HS.out m1 _ _).1, Int.le_trans (rowI_bd HS.out m1 _ _).2 m2⟩
    have Z5 := Lib.hid hz5
    clear hz5
    obtain ⟨z6, hz6⟩ : ∃ q, q = rowI a b V m X (i - 3 + 6) := ⟨_, rfl⟩
    have y6 : 0 ≤ z6 ∧ z6 ≤ 65535 := by rw [hz6]; exact ⟨(rowI_bd HS.out m1 _ _).1, Int.le_trans (rowI_bd HS.out m1 _ _).2 m2⟩
    have Z6 := Lib.hid hz6
    clear hz6
    obtain ⟨z7, hz7⟩ : ∃ q, q = rowI a b V m X (i - 3 + 7) := ⟨_, rfl⟩
    have y7 : 0 ≤ z7 ∧ z7 ≤ 65535 := by rw [hz7]; exact ⟨(rowI_bd HS.out m1 _ _).1, Int.le_trans (rowI_bd HS.out m1 _ _).2 m2⟩
    have Z7 := Lib.hid hz7
    clear hz7
    have FI : halfI m (fun k => rowI a b V m X (i + k)) = min (max ((16 + 21 * (z3 + z4) + -7 * (z2 + z5) + 3 * (z1 + z6) + -1 * (z0 + z7)) / 32) 0) m := by
      rw [Z0.out, Z1.out, Z2.out, Z3.out, Z4.out, Z5.out, Z6.out, Z7.out]
      unfold halfI
      simp only [show i - 3 = i + -3 by omega, Int.add_zero, show i + -3 + 4 = i + 1 by omega, show i + -3 + 2 = i + -1 by omega, show i + -3 + 5 = i + 2 by omega, show i + -3 + 1 = i + -2 by omega, show i + -3 + 6 = i + 3 by omega, show i + -3 + 7 = i + 4 by omega]
    have FH := Lib.hid (HW.out.trans FI)
    clear FI HW
    go_enter Try.func14, Try.ntmps14
    go_wp2_with fail
    refine (FX.out _).mono ?_
    rintro e w1 ⟨rfl, rfl⟩
    go_wp2_with fail
    refine (FY.out _).mono ?_
    rintro e w1 ⟨rfl, rfl⟩
    go_wp2_with fail
    refine (HD.out _ (by omega) (by omega) (by omega) (by omega)).mono ?_
    rintro e w1 ⟨rfl, rfl⟩
    go_upto_region 7 with fail
    have HPA := Lib.hid (HP.out.alloc (.cells #[.int .i64 0, .int .i64 0, .int .i64 0, .int .i64 0, .int .i64 0, .int .i64 0, .int .i64 0, .int .i64 0] 54))
    have HBA := Lib.hid (below_alloc_ HB.out (.cells #[.int .i64 0, .int .i64 0, .int .i64 0, .int .i64 0, .int .i64 0, .int .i64 0, .int .i64 0, .int .i64 0] 54))
    have BA := Blk.new (w.alloc (.cells #[.int .i64 a, .int .i64 b, .slice A V.length c, .int .i64 m] 35)) 54 #[.int .i64 0, .int .i64 0, .int .i64 0, .int .i64 0, .int .i64 0, .int .i64 0, .int .i64 0, .int .i64 0]
    rw [World.size_alloc] at BA
    have BA := Lib.hid BA
    generalize (w.alloc (.cells #[.int .i64 a, .int .i64 b, .slice A V.length c, .int .i64 m] 35)).alloc (.cells #[.int .i64 0, .int .i64 0, .int .i64 0, .int .i64 0, .int .i64 0, .int .i64 0, .int .i64 0, .int .i64 0] 54) = wa at *
    clear HP HB
    go_wp2_with fail
    refine wp_loop_rounds 9 ?_
    rw [rounds_succ]
    obtain ⟨c0, c1, c2, c3⟩ := HPA.out.cells4
    go_wp2_with fail
    refine (HA.out (i - 3) _ (R0.out.kept HBA.out)).mono ?_
    rintro e w2 ⟨rfl, hb1⟩
    rw [← Z0.out]
    have HPA := Lib.hid (HPA.out.below hb1 HPA.out.lt)
    have BA := Lib.hid (BA.out.below hb1 BA.out.lt)
    have HBA := Lib.hid (HBA.out.trans (hb1.mono HBA.out.size))
    clear hb1 c0 c1 c2 c3
    have d := BA.out.cell 0
    have fz := BA.out.frozen 0
    simp at d
    go_wp2_with fail
    clear d fz
    have BA := BA.out.set_ 0 (.int .i64 z0)
    simp at BA
    have BA := Lib.hid BA
    have HPA := Lib.hid (HPA.out.far (p := ⟨w.heap.size + 1, 0, none⟩) (by simp) (.int .i64 z0))
    have HBA := Lib.hid (HBA.out.setCell (p := ⟨w.heap.size + 1, 0, none⟩) (by simp) (.int .i64 z0))
    generalize w2.setCell ⟨w.heap.size + 1, 0, none⟩ (.int .i64 z0) = v0 at *
    rw [rounds_succ]
    obtain ⟨c0, c1, c2, c3⟩ := HPA.out.cells4
    go_wp2_with fail
    refine (HA.out (i - 3 + 1) _ (R0.out.kept HBA.out)).mono ?_
    rintro e w3 ⟨rfl, hb1⟩
    rw [← Z1.out]
    have HPA := Lib.hid (HPA.out.below hb1 HPA.out.lt)
    have BA := Lib.hid (BA.out.below hb1 BA.out.lt)
    have HBA := Lib.hid (HBA.out.trans (hb1.mono HBA.out.size))
    clear hb1 c0 c1 c2 c3
    have d := BA.out.cell 1
    have fz := BA.out.frozen 1
    simp at d
    go_wp2_with fail
    clear d fz
    have BA := BA.out.set_ 1 (.int .i64 z1)
    simp at BA
    have BA := Lib.hid BA
    have HPA := Lib.hid (HPA.out.far (p := ⟨w.heap.size + 1, 1, none⟩) (by simp) (.int .i64 z1))
    have HBA := Lib.hid (HBA.out.setCell (p := ⟨w.heap.size + 1, 1, none⟩) (by simp) (.int .i64 z1))
    generalize w3.setCell ⟨w.heap.size + 1, 1, none⟩ (.int .i64 z1) = v1 at *
    rw [rounds_succ]
    obtain ⟨c0, c1, c2, c3⟩ := HPA.out.cells4
    go_wp2_with fail
    refine (HA.out (i - 3 + 2) _ (R0.out.kept HBA.out)).mono ?_
    rintro e w4 ⟨rfl, hb1⟩
    rw [← Z2.out]
    have HPA := Lib.hid (HPA.out.below hb1 HPA.out.lt)
    have BA := Lib.hid (BA.out.below hb1 BA.out.lt)
    have HBA := Lib.hid (HBA.out.trans (hb1.mono HBA.out.size))
    clear hb1 c0 c1 c2 c3
    have d := BA.out.cell 2
    have fz := BA.out.frozen 2
    simp at d
    go_wp2_with fail
    clear d fz
    have BA := BA.out.set_ 2 (.int .i64 z2)
    simp at BA
    have BA := Lib.hid BA
    have HPA := Lib.hid (HPA.out.far (p := ⟨w.heap.size + 1, 2, none⟩) (by simp) (.int .i64 z2))
    have HBA := Lib.hid (HBA.out.setCell (p := ⟨w.heap.size + 1, 2, none⟩) (by simp) (.int .i64 z2))
    generalize w4.setCell ⟨w.heap.size + 1, 2, none⟩ (.int .i64 z2) = v2 at *
    rw [rounds_succ]
    obtain ⟨c0, c1, c2, c3⟩ := HPA.out.cells4
    go_wp2_with fail
    refine (HA.out (i) _ (R0.out.kept HBA.out)).mono ?_
    rintro e w5 ⟨rfl, hb1⟩
    rw [← Z3.out]
    have HPA := Lib.hid (HPA.out.below hb1 HPA.out.lt)
    have BA := Lib.hid (BA.out.below hb1 BA.out.lt)
    have HBA := Lib.hid (HBA.out.trans (hb1.mono HBA.out.size))
    clear hb1 c0 c1 c2 c3
    have d := BA.out.cell 3
    have fz := BA.out.frozen 3
    simp at d
    go_wp2_with fail
    clear d fz
    have BA := BA.out.set_ 3 (.int .i64 z3)
    simp at BA
    have BA := Lib.hid BA
    have HPA := Lib.hid (HPA.out.far (p := ⟨w.heap.size + 1, 3, none⟩) (by simp) (.int .i64 z3))
    have HBA := Lib.hid (HBA.out.setCell (p := ⟨w.heap.size + 1, 3, none⟩) (by simp) (.int .i64 z3))
    generalize w5.setCell ⟨w.heap.size + 1, 3, none⟩ (.int .i64 z3) = v3 at *
    rw [rounds_succ]
    obtain ⟨c0, c1, c2, c3⟩ := HPA.out.cells4
    go_wp2_with fail
    refine (HA.out (i - 3 + 4) _ (R0.out.kept HBA.out)).mono ?_
    rintro e w6 ⟨rfl, hb1⟩
    rw [← Z4.out]
    have HPA := Lib.hid (HPA.out.below hb1 HPA.out.lt)
    have BA := Lib.hid (BA.out.below hb1 BA.out.lt)
    have HBA := Lib.hid (HBA.out.trans (hb1.mono HBA.out.size))
    clear hb1 c0 c1 c2 c3
    have d := BA.out.cell 4
    have fz := BA.out.frozen 4
    simp at d
    go_wp2_with fail
    clear d fz
    have BA := BA.out.set_ 4 (.int .i64 z4)
    simp at BA
    have BA := Lib.hid BA
    have HPA := Lib.hid (HPA.out.far (p := ⟨w.heap.size + 1, 4, none⟩) (by simp) (.int .i64 z4))
    have HBA := Lib.hid (HBA.out.setCell (p := ⟨w.heap.size + 1, 4, none⟩) (by simp) (.int .i64 z4))
    generalize w6.setCell ⟨w.heap.size + 1, 4, none⟩ (.int .i64 z4) = v4 at *
    rw [rounds_succ]
    obtain ⟨c0, c1, c2, c3⟩ := HPA.out.cells4
    go_wp2_with fail
    refine (HA.out (i - 3 + 5) _ (R0.out.kept HBA.out)).mono ?_
    rintro e w7 ⟨rfl, hb1⟩
    rw [← Z5.out]
    have HPA := Lib.hid (HPA.out.below hb1 HPA.out.lt)
    have BA := Lib.hid (BA.out.below hb1 BA.out.lt)
    have HBA := Lib.hid (HBA.out.trans (hb1.mono HBA.out.size))
    clear hb1 c0 c1 c2 c3
    have d := BA.out.cell 5
    have fz := BA.out.frozen 5
    simp at d
    go_wp2_with fail
    clear d fz
    have BA := BA.out.set_ 5 (.int .i64 z5)
    simp at BA
    have BA := Lib.hid BA
    have HPA := Lib.hid (HPA.out.far (p := ⟨w.heap.size + 1, 5, none⟩) (by simp) (.int .i64 z5))
    have HBA := Lib.hid (HBA.out.setCell (p := ⟨w.heap.size + 1, 5, none⟩) (by simp) (.int .i64 z5))
    generalize w7.setCell ⟨w.heap.size + 1, 5, none⟩ (.int .i64 z5) = v5 at *
    rw [rounds_succ]
    obtain ⟨c0, c1, c2, c3⟩ := HPA.out.cells4
    go_wp2_with fail
    refine (HA.out (i - 3 + 6) _ (R0.out.kept HBA.out)).mono ?_
    rintro e w8 ⟨rfl, hb1⟩
    rw [← Z6.out]
    have HPA := Lib.hid (HPA.out.below hb1 HPA.out.lt)
    have BA := Lib.hid (BA.out.below hb1 BA.out.lt)
    have HBA := Lib.hid (HBA.out.trans (hb1.mono HBA.out.size))
    clear hb1 c0 c1 c2 c3
    have d := BA.out.cell 6
    have fz := BA.out.frozen 6
    simp at d
    go_wp2_with fail
    clear d fz
    have BA := BA.out.set_ 6 (.int .i64 z6)
    simp at BA
    have BA := Lib.hid BA
    have HPA := Lib.hid (HPA.out.far (p := ⟨w.heap.size + 1, 6, none⟩) (by simp) (.int .i64 z6))
    have HBA := Lib.hid (HBA.out.setCell (p := ⟨w.heap.size + 1, 6, none⟩) (by simp) (.int .i64 z6))
    generalize w8.setCell ⟨w.heap.size + 1, 6, none⟩ (.int .i64 z6) = v6 at *
    rw [rounds_succ]
    obtain ⟨c0, c1, c2, c3⟩ := HPA.out.cells4
    go_wp2_with fail
    refine (HA.out (i - 3 + 7) _ (R0.out.kept HBA.out)).mono ?_
    rintro e w9 ⟨rfl, hb1⟩
    rw [← Z7.out]
    have HPA := Lib.hid (HPA.out.below hb1 HPA.out.lt)
    have BA := Lib.hid (BA.out.below hb1 BA.out.lt)
    have HBA := Lib.hid (HBA.out.trans (hb1.mono HBA.out.size))
    clear hb1 c0 c1 c2 c3
    have d := BA.out.cell 7
    have fz := BA.out.frozen 7
    simp at d
    go_wp2_with fail
    clear d fz
    have BA := BA.out.set_ 7 (.int .i64 z7)
    simp at BA
    have BA := Lib.hid BA
    have HPA := Lib.hid (HPA.out.far (p := ⟨w.heap.size + 1, 7, none⟩) (by simp) (.int .i64 z7))
    have HBA := Lib.hid (HBA.out.setCell (p := ⟨w.heap.size + 1, 7, none⟩) (by simp) (.int .i64 z7))
    generalize w9.setCell ⟨w.heap.size + 1, 7, none⟩ (.int .i64 z7) = v7 at *
    rw [rounds_succ]
    obtain ⟨c0, c1, c2, c3⟩ := HPA.out.cells4
    obtain ⟨e0, e1, e2, e3, e4, e5, e6, e7⟩ := BA.out.cells8
    go_wp2_with fail
    refine (r19half_c z0 z1 z2 z3 z4 z5 z6 z7 m _ y0 y1 y2 y3 y4 y5 y6 y7 m1 m2).mono ?_
    rintro e w11 ⟨rfl, hb1⟩
    have HBA := Lib.hid (HBA.out.trans (hb1.mono HBA.out.size))
    clear hb1 c0 c1 c2 c3 e0 e1 e2 e3 e4 e5 e6 e7
    rw [← FH.out]
    go_wp2_with fail
    go_ret
    exact ⟨rfl, HBA.out⟩

end Go.Proofs.Ytfknikgfilfcmaa
