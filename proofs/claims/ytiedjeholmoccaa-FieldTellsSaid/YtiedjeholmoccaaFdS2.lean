/- Fields: within, plain and laid, of the reference. -/
import Derived.Test.YtiedjeholmoccaaFdLw
namespace Go.Proofs.Ytiedjeholmoccaa
open Go.RowKit Go.Sort
set_option linter.unusedVariables false
set_option linter.unusedSimpArgs false
set_option maxRecDepth 100000 in
set_option maxHeartbeats 6400000 in
theorem r16within_c (a d : Int) (vs vk : Value) (u : Un) (w : World) (a1 : 1 ≤ a) (a2 : a ≤ 64) (d1 : 1 ≤ d) (d2 : d ≤ 64) :
    Calls Try.prog 24 #[flV a d vs vk, unV u] w fun e w' => e = .returned (.bool (inFu a d u)) ∧ Below w.heap.size w w' := by
  have HB := Lib.hid (below_alloc_ (below_alloc_ (Below.refl w.heap.size w) (.cells #[.int .i64 a, .int .i64 d, vs, vk] 25)) (.cells #[.int .i64 u.x, .int .i64 u.y, .int .i64 u.s] 34))
  obtain ⟨x, y, s⟩ := u
  dsimp only at HB
  unfold inFu
  dsimp only
  by_cases c0 : 1 ≤ s
  rotate_left
  · skip
    rw [show decide (1 ≤ s ∧ 0 ≤ x ∧ 0 ≤ y ∧ s ≤ 4 * a ∧ x ≤ 4 * a - s ∧ s ≤ 4 * d ∧ y ≤ 4 * d - s) = false by simp; omega]
    go_enter Try.func24, Try.ntmps24
    go_wp2_with fail
    go_ret
    exact ⟨rfl, HB.out⟩
  by_cases c8 : s ≤ 256
  rotate_left
  · skip
    rw [show decide (1 ≤ s ∧ 0 ≤ x ∧ 0 ≤ y ∧ s ≤ 4 * a ∧ x ≤ 4 * a - s ∧ s ≤ 4 * d ∧ y ≤ 4 * d - s) = false by simp; omega]
    go_enter Try.func24, Try.ntmps24
    go_wp2_with fail
    go_ret
    exact ⟨rfl, HB.out⟩
  by_cases c16 : 0 ≤ x
  rotate_left
  · skip
    rw [show decide (1 ≤ s ∧ 0 ≤ x ∧ 0 ≤ y ∧ s ≤ 4 * a ∧ x ≤ 4 * a - s ∧ s ≤ 4 * d ∧ y ≤ 4 * d - s) = false by simp; omega]
    go_enter Try.func24, Try.ntmps24
    go_wp2_with fail
    go_ret
    exact ⟨rfl, HB.out⟩
  by_cases c24 : x ≤ 256
  rotate_left
  · skip
    rw [show decide (1 ≤ s ∧ 0 ≤ x ∧ 0 ≤ y ∧ s ≤ 4 * a ∧ x ≤ 4 * a - s ∧ s ≤ 4 * d ∧ y ≤ 4 * d - s) = false by simp; omega]
    go_enter Try.func24, Try.ntmps24
    go_wp2_with fail
    go_ret
    exact ⟨rfl, HB.out⟩
  by_cases c32 : 0 ≤ y
  rotate_left
  · skip
    rw [show decide (1 ≤ s ∧ 0 ≤ x ∧ 0 ≤ y ∧ s ≤ 4 * a ∧ x ≤ 4 * a - s ∧ s ≤ 4 * d ∧ y ≤ 4 * d - s) = false by simp; omega]
    go_enter Try.func24, Try.ntmps24
    go_wp2_with fail
    go_ret
    exact ⟨rfl, HB.out⟩
  by_cases c40 : y ≤ 256
  rotate_left
  · skip
    rw [show decide (1 ≤ s ∧ 0 ≤ x ∧ 0 ≤ y ∧ s ≤ 4 * a ∧ x ≤ 4 * a - s ∧ s ≤ 4 * d ∧ y ≤ 4 * d - s) = false by simp; omega]
    go_enter Try.func24, Try.ntmps24
    go_wp2_with fail
    go_ret
    exact ⟨rfl, HB.out⟩
  have W1 : IntKind.i64.wrap (x + s) = x + s := IntWalk.i64_in _ (by omega)
  have W2 : IntKind.i64.wrap (4 * a) = 4 * a := IntWalk.i64_in _ (by omega)
  have W3 : IntKind.i64.wrap (y + s) = y + s := IntWalk.i64_in _ (by omega)
  have W4 : IntKind.i64.wrap (4 * d) = 4 * d := IntWalk.i64_in _ (by omega)
  by_cases cx : x + s ≤ 4 * a
  · by_cases cy : y + s ≤ 4 * d
    · skip
      rw [show decide (1 ≤ s ∧ 0 ≤ x ∧ 0 ≤ y ∧ s ≤ 4 * a ∧ x ≤ 4 * a - s ∧ s ≤ 4 * d ∧ y ≤ 4 * d - s) = true by simp; omega]
      go_enter Try.func24, Try.ntmps24
      go_wp2_with fail
      go_ret
      exact ⟨rfl, HB.out⟩
    · skip
      rw [show decide (1 ≤ s ∧ 0 ≤ x ∧ 0 ≤ y ∧ s ≤ 4 * a ∧ x ≤ 4 * a - s ∧ s ≤ 4 * d ∧ y ≤ 4 * d - s) = false by simp; omega]
      have cz : decide (y + s ≤ 4 * d) = false := by simp; omega
      go_enter Try.func24, Try.ntmps24
      go_wp2_with fail
      go_ret
      exact ⟨rfl, HB.out⟩
  · skip
    rw [show decide (1 ≤ s ∧ 0 ≤ x ∧ 0 ≤ y ∧ s ≤ 4 * a ∧ x ≤ 4 * a - s ∧ s ≤ 4 * d ∧ y ≤ 4 * d - s) = false by simp; omega]
    have cz : decide (x + s ≤ 4 * a) = false := by simp; omega
    go_enter Try.func24, Try.ntmps24
    go_wp2_with fail
    go_ret
    exact ⟨rfl, HB.out⟩
set_option maxRecDepth 100000 in
set_option maxHeartbeats 6400000 in
theorem r16plain_c (b : Bk) (w : World) (hm : -9223372036854775808 ≤ b.m ∧ b.m ≤ 9223372036854775807) : Calls Try.prog 28 #[bkV b] w fun e w' => e = .returned (bkV (plainBk b)) ∧ Below w.heap.size w w' := by
  obtain ⟨m, g, x0, y0, x1, y1, d0, d1, d2⟩ := b
  dsimp only at hm
  have HB := Lib.hid (Below.refl w.heap.size w)
  by_cases hz : m = 0
  · subst hz
    have hv : plainBk ⟨0, g, x0, y0, x1, y1, d0, d1, d2⟩ = ⟨0, false, 0, 0, 0, 0, d0, d1, d2⟩ := by simp [plainBk]
    rw [hv]
    clear hv hm
    go_enter Try.func28, Try.ntmps28
    go_upto_region 2 with fail
    have HB := Lib.hid (below_alloc_ (below_alloc_ (below_alloc_ (HB.out) (.cells #[.int .i64 0, .bool g, .int .i64 x0, .int .i64 y0, .int .i64 x1, .int .i64 y1, .int .i64 d0, .int .i64 d1, .int .i64 d2] 40)) (.cells #[.int .i64 0, .bool false, .int .i64 0, .int .i64 0, .int .i64 0, .int .i64 0, .int .i64 0, .int .i64 0, .int .i64 0] 40)) (.cells #[.int .i64 0, .bool false, .int .i64 0, .int .i64 0, .int .i64 0, .int .i64 0, .int .i64 0, .int .i64 0, .int .i64 0] 40))
    have hzw : (((w.alloc (.cells #[.int .i64 0, .bool g, .int .i64 x0, .int .i64 y0, .int .i64 x1, .int .i64 y1, .int .i64 d0, .int .i64 d1, .int .i64 d2] 40)).alloc (.cells #[.int .i64 0, .bool false, .int .i64 0, .int .i64 0, .int .i64 0, .int .i64 0, .int .i64 0, .int .i64 0, .int .i64 0] 40)).alloc (.cells #[.int .i64 0, .bool false, .int .i64 0, .int .i64 0, .int .i64 0, .int .i64 0, .int .i64 0, .int .i64 0, .int .i64 0] 40)).heap.size = w.heap.size + 3 := by simp only [World.size_alloc]
    have B1 := ((Blk.new (w) 40 #[.int .i64 0, .bool g, .int .i64 x0, .int .i64 y0, .int .i64 x1, .int .i64 y1, .int .i64 d0, .int .i64 d1, .int .i64 d2]).alloc (.cells #[.int .i64 0, .bool false, .int .i64 0, .int .i64 0, .int .i64 0, .int .i64 0, .int .i64 0, .int .i64 0, .int .i64 0] 40)).alloc (.cells #[.int .i64 0, .bool false, .int .i64 0, .int .i64 0, .int .i64 0, .int .i64 0, .int .i64 0, .int .i64 0, .int .i64 0] 40)
    skip
    have B1 := Lib.hid B1
    have B2 := (Blk.new (w.alloc (.cells #[.int .i64 0, .bool g, .int .i64 x0, .int .i64 y0, .int .i64 x1, .int .i64 y1, .int .i64 d0, .int .i64 d1, .int .i64 d2] 40)) 40 #[.int .i64 0, .bool false, .int .i64 0, .int .i64 0, .int .i64 0, .int .i64 0, .int .i64 0, .int .i64 0, .int .i64 0]).alloc (.cells #[.int .i64 0, .bool false, .int .i64 0, .int .i64 0, .int .i64 0, .int .i64 0, .int .i64 0, .int .i64 0, .int .i64 0] 40)
    rw [show (w.alloc (.cells #[.int .i64 0, .bool g, .int .i64 x0, .int .i64 y0, .int .i64 x1, .int .i64 y1, .int .i64 d0, .int .i64 d1, .int .i64 d2] 40)).heap.size = w.heap.size + 1 by simp only [World.size_alloc]] at B2
    have B2 := Lib.hid B2
    have B3 := Blk.new ((w.alloc (.cells #[.int .i64 0, .bool g, .int .i64 x0, .int .i64 y0, .int .i64 x1, .int .i64 y1, .int .i64 d0, .int .i64 d1, .int .i64 d2] 40)).alloc (.cells #[.int .i64 0, .bool false, .int .i64 0, .int .i64 0, .int .i64 0, .int .i64 0, .int .i64 0, .int .i64 0, .int .i64 0] 40)) 40 #[.int .i64 0, .bool false, .int .i64 0, .int .i64 0, .int .i64 0, .int .i64 0, .int .i64 0, .int .i64 0, .int .i64 0]
    rw [show ((w.alloc (.cells #[.int .i64 0, .bool g, .int .i64 x0, .int .i64 y0, .int .i64 x1, .int .i64 y1, .int .i64 d0, .int .i64 d1, .int .i64 d2] 40)).alloc (.cells #[.int .i64 0, .bool false, .int .i64 0, .int .i64 0, .int .i64 0, .int .i64 0, .int .i64 0, .int .i64 0, .int .i64 0] 40)).heap.size = w.heap.size + 1 + 1 by simp only [World.size_alloc]] at B3
    have B3 := Lib.hid B3
    generalize ((w.alloc (.cells #[.int .i64 0, .bool g, .int .i64 x0, .int .i64 y0, .int .i64 x1, .int .i64 y1, .int .i64 d0, .int .i64 d1, .int .i64 d2] 40)).alloc (.cells #[.int .i64 0, .bool false, .int .i64 0, .int .i64 0, .int .i64 0, .int .i64 0, .int .i64 0, .int .i64 0, .int .i64 0] 40)).alloc (.cells #[.int .i64 0, .bool false, .int .i64 0, .int .i64 0, .int .i64 0, .int .i64 0, .int .i64 0, .int .i64 0, .int .i64 0] 40) = w1 at *
    clear hzw
    obtain ⟨zB10, zB11, zB12, zB13, zB14, zB15, zB16, zB17, zB18⟩ := (B1.out).cells9
    obtain ⟨zB30, zB31, zB32, zB33, zB34, zB35, zB36, zB37, zB38⟩ := (B3.out).cells9
    obtain ⟨f0, f1, f2, f3, f4, f5, f6, f7, f8⟩ := B3.out.frozens9
    go_upto_region 4 with fail
    clear zB10 zB11 zB12 zB13 zB14 zB15 zB16 zB17 zB18
    clear zB30 zB31 zB32 zB33 zB34 zB35 zB36 zB37 zB38
    clear f0 f1 f2 f3 f4 f5 f6 f7 f8
    have hs1 : Blk (w1.setCell ⟨w.heap.size + 1 + 1, 6, none⟩ (.int .i64 d0)) (w.heap.size + 1 + 1) 40 #[.int .i64 0, .bool false, .int .i64 0, .int .i64 0, .int .i64 0, .int .i64 0, .int .i64 d0, .int .i64 0, .int .i64 0] := B3.out.set_ 6 (.int .i64 d0)
    have HB := Lib.hid (HB.out.setCell (p := ⟨w.heap.size + 1 + 1, 6, none⟩) (by dsimp only; omega) (.int .i64 d0))
    have B1 := Lib.hid (B1.out.far (p := ⟨w.heap.size + 1 + 1, 6, none⟩) (by dsimp only; omega) (.int .i64 d0))
    have B2 := Lib.hid (B2.out.far (p := ⟨w.heap.size + 1 + 1, 6, none⟩) (by dsimp only; omega) (.int .i64 d0))
    have hs2 : Blk ((w1.setCell ⟨w.heap.size + 1 + 1, 6, none⟩ (.int .i64 d0)).setCell ⟨w.heap.size + 1 + 1, 7, none⟩ (.int .i64 d1)) (w.heap.size + 1 + 1) 40 #[.int .i64 0, .bool false, .int .i64 0, .int .i64 0, .int .i64 0, .int .i64 0, .int .i64 d0, .int .i64 d1, .int .i64 0] := hs1.set_ 7 (.int .i64 d1)
    have HB := Lib.hid (HB.out.setCell (p := ⟨w.heap.size + 1 + 1, 7, none⟩) (by dsimp only; omega) (.int .i64 d1))
    have B1 := Lib.hid (B1.out.far (p := ⟨w.heap.size + 1 + 1, 7, none⟩) (by dsimp only; omega) (.int .i64 d1))
    have B2 := Lib.hid (B2.out.far (p := ⟨w.heap.size + 1 + 1, 7, none⟩) (by dsimp only; omega) (.int .i64 d1))
    have hs3 : Blk (((w1.setCell ⟨w.heap.size + 1 + 1, 6, none⟩ (.int .i64 d0)).setCell ⟨w.heap.size + 1 + 1, 7, none⟩ (.int .i64 d1)).setCell ⟨w.heap.size + 1 + 1, 8, none⟩ (.int .i64 d2)) (w.heap.size + 1 + 1) 40 #[.int .i64 0, .bool false, .int .i64 0, .int .i64 0, .int .i64 0, .int .i64 0, .int .i64 d0, .int .i64 d1, .int .i64 d2] := hs2.set_ 8 (.int .i64 d2)
    have HB := Lib.hid (HB.out.setCell (p := ⟨w.heap.size + 1 + 1, 8, none⟩) (by dsimp only; omega) (.int .i64 d2))
    have B1 := Lib.hid (B1.out.far (p := ⟨w.heap.size + 1 + 1, 8, none⟩) (by dsimp only; omega) (.int .i64 d2))
    have B2 := Lib.hid (B2.out.far (p := ⟨w.heap.size + 1 + 1, 8, none⟩) (by dsimp only; omega) (.int .i64 d2))
    have B3 := Lib.hid hs3
    clear hs1 hs2 hs3
    generalize (((w1.setCell ⟨w.heap.size + 1 + 1, 6, none⟩ (.int .i64 d0)).setCell ⟨w.heap.size + 1 + 1, 7, none⟩ (.int .i64 d1)).setCell ⟨w.heap.size + 1 + 1, 8, none⟩ (.int .i64 d2)) = w2 at *
    obtain ⟨zB10, zB11, zB12, zB13, zB14, zB15, zB16, zB17, zB18⟩ := (B1.out).cells9
    obtain ⟨zB30, zB31, zB32, zB33, zB34, zB35, zB36, zB37, zB38⟩ := (B3.out).cells9
    obtain ⟨f0, f1, f2, f3, f4, f5, f6, f7, f8⟩ := B2.out.frozens9
    obtain ⟨q0, q1, q2, q3, q4, q5, q6, q7, q8⟩ := B2.out.cells9
    go_wp2_with fail
    clear zB10 zB11 zB12 zB13 zB14 zB15 zB16 zB17 zB18
    clear zB30 zB31 zB32 zB33 zB34 zB35 zB36 zB37 zB38
    clear f0 f1 f2 f3 f4 f5 f6 f7 f8 q0 q1 q2 q3 q4 q5 q6 q7 q8
    have hs1 : Blk (w2.setCell ⟨w.heap.size + 1, 0, none⟩ (.int .i64 0)) (w.heap.size + 1) 40 #[.int .i64 0, .bool false, .int .i64 0, .int .i64 0, .int .i64 0, .int .i64 0, .int .i64 0, .int .i64 0, .int .i64 0] := B2.out.set_ 0 (.int .i64 0)
    have HB := Lib.hid (HB.out.setCell (p := ⟨w.heap.size + 1, 0, none⟩) (by dsimp only; omega) (.int .i64 0))
    have B1 := Lib.hid (B1.out.far (p := ⟨w.heap.size + 1, 0, none⟩) (by dsimp only; omega) (.int .i64 0))
    have B3 := Lib.hid (B3.out.far (p := ⟨w.heap.size + 1, 0, none⟩) (by dsimp only; omega) (.int .i64 0))
    have hs2 : Blk ((w2.setCell ⟨w.heap.size + 1, 0, none⟩ (.int .i64 0)).setCell ⟨w.heap.size + 1, 1, none⟩ (.bool false)) (w.heap.size + 1) 40 #[.int .i64 0, .bool false, .int .i64 0, .int .i64 0, .int .i64 0, .int .i64 0, .int .i64 0, .int .i64 0, .int .i64 0] := hs1.set_ 1 (.bool false)
    have HB := Lib.hid (HB.out.setCell (p := ⟨w.heap.size + 1, 1, none⟩) (by dsimp only; omega) (.bool false))
    have B1 := Lib.hid (B1.out.far (p := ⟨w.heap.size + 1, 1, none⟩) (by dsimp only; omega) (.bool false))
    have B3 := Lib.hid (B3.out.far (p := ⟨w.heap.size + 1, 1, none⟩) (by dsimp only; omega) (.bool false))
    have hs3 : Blk (((w2.setCell ⟨w.heap.size + 1, 0, none⟩ (.int .i64 0)).setCell ⟨w.heap.size + 1, 1, none⟩ (.bool false)).setCell ⟨w.heap.size + 1, 2, none⟩ (.int .i64 0)) (w.heap.size + 1) 40 #[.int .i64 0, .bool false, .int .i64 0, .int .i64 0, .int .i64 0, .int .i64 0, .int .i64 0, .int .i64 0, .int .i64 0] := hs2.set_ 2 (.int .i64 0)
    have HB := Lib.hid (HB.out.setCell (p := ⟨w.heap.size + 1, 2, none⟩) (by dsimp only; omega) (.int .i64 0))
    have B1 := Lib.hid (B1.out.far (p := ⟨w.heap.size + 1, 2, none⟩) (by dsimp only; omega) (.int .i64 0))
    have B3 := Lib.hid (B3.out.far (p := ⟨w.heap.size + 1, 2, none⟩) (by dsimp only; omega) (.int .i64 0))
    have hs4 : Blk ((((w2.setCell ⟨w.heap.size + 1, 0, none⟩ (.int .i64 0)).setCell ⟨w.heap.size + 1, 1, none⟩ (.bool false)).setCell ⟨w.heap.size + 1, 2, none⟩ (.int .i64 0)).setCell ⟨w.heap.size + 1, 3, none⟩ (.int .i64 0)) (w.heap.size + 1) 40 #[.int .i64 0, .bool false, .int .i64 0, .int .i64 0, .int .i64 0, .int .i64 0, .int .i64 0, .int .i64 0, .int .i64 0] := hs3.set_ 3 (.int .i64 0)
    have HB := Lib.hid (HB.out.setCell (p := ⟨w.heap.size + 1, 3, none⟩) (by dsimp only; omega) (.int .i64 0))
    have B1 := Lib.hid (B1.out.far (p := ⟨w.heap.size + 1, 3, none⟩) (by dsimp only; omega) (.int .i64 0))
    have B3 := Lib.hid (B3.out.far (p := ⟨w.heap.size + 1, 3, none⟩) (by dsimp only; omega) (.int .i64 0))
    have hs5 : Blk (((((w2.setCell ⟨w.heap.size + 1, 0, none⟩ (.int .i64 0)).setCell ⟨w.heap.size + 1, 1, none⟩ (.bool false)).setCell ⟨w.heap.size + 1, 2, none⟩ (.int .i64 0)).setCell ⟨w.heap.size + 1, 3, none⟩ (.int .i64 0)).setCell ⟨w.heap.size + 1, 4, none⟩ (.int .i64 0)) (w.heap.size + 1) 40 #[.int .i64 0, .bool false, .int .i64 0, .int .i64 0, .int .i64 0, .int .i64 0, .int .i64 0, .int .i64 0, .int .i64 0] := hs4.set_ 4 (.int .i64 0)
    have HB := Lib.hid (HB.out.setCell (p := ⟨w.heap.size + 1, 4, none⟩) (by dsimp only; omega) (.int .i64 0))
    have B1 := Lib.hid (B1.out.far (p := ⟨w.heap.size + 1, 4, none⟩) (by dsimp only; omega) (.int .i64 0))
    have B3 := Lib.hid (B3.out.far (p := ⟨w.heap.size + 1, 4, none⟩) (by dsimp only; omega) (.int .i64 0))
    have hs6 : Blk ((((((w2.setCell ⟨w.heap.size + 1, 0, none⟩ (.int .i64 0)).setCell ⟨w.heap.size + 1, 1, none⟩ (.bool false)).setCell ⟨w.heap.size + 1, 2, none⟩ (.int .i64 0)).setCell ⟨w.heap.size + 1, 3, none⟩ (.int .i64 0)).setCell ⟨w.heap.size + 1, 4, none⟩ (.int .i64 0)).setCell ⟨w.heap.size + 1, 5, none⟩ (.int .i64 0)) (w.heap.size + 1) 40 #[.int .i64 0, .bool false, .int .i64 0, .int .i64 0, .int .i64 0, .int .i64 0, .int .i64 0, .int .i64 0, .int .i64 0] := hs5.set_ 5 (.int .i64 0)
    have HB := Lib.hid (HB.out.setCell (p := ⟨w.heap.size + 1, 5, none⟩) (by dsimp only; omega) (.int .i64 0))
    have B1 := Lib.hid (B1.out.far (p := ⟨w.heap.size + 1, 5, none⟩) (by dsimp only; omega) (.int .i64 0))
    have B3 := Lib.hid (B3.out.far (p := ⟨w.heap.size + 1, 5, none⟩) (by dsimp only; omega) (.int .i64 0))
    have hs7 : Blk (((((((w2.setCell ⟨w.heap.size + 1, 0, none⟩ (.int .i64 0)).setCell ⟨w.heap.size + 1, 1, none⟩ (.bool false)).setCell ⟨w.heap.size + 1, 2, none⟩ (.int .i64 0)).setCell ⟨w.heap.size + 1, 3, none⟩ (.int .i64 0)).setCell ⟨w.heap.size + 1, 4, none⟩ (.int .i64 0)).setCell ⟨w.heap.size + 1, 5, none⟩ (.int .i64 0)).setCell ⟨w.heap.size + 1, 6, none⟩ (.int .i64 d0)) (w.heap.size + 1) 40 #[.int .i64 0, .bool false, .int .i64 0, .int .i64 0, .int .i64 0, .int .i64 0, .int .i64 d0, .int .i64 0, .int .i64 0] := hs6.set_ 6 (.int .i64 d0)
    have HB := Lib.hid (HB.out.setCell (p := ⟨w.heap.size + 1, 6, none⟩) (by dsimp only; omega) (.int .i64 d0))
    have B1 := Lib.hid (B1.out.far (p := ⟨w.heap.size + 1, 6, none⟩) (by dsimp only; omega) (.int .i64 d0))
    have B3 := Lib.hid (B3.out.far (p := ⟨w.heap.size + 1, 6, none⟩) (by dsimp only; omega) (.int .i64 d0))
    have hs8 : Blk ((((((((w2.setCell ⟨w.heap.size + 1, 0, none⟩ (.int .i64 0)).setCell ⟨w.heap.size + 1, 1, none⟩ (.bool false)).setCell ⟨w.heap.size + 1, 2, none⟩ (.int .i64 0)).setCell ⟨w.heap.size + 1, 3, none⟩ (.int .i64 0)).setCell ⟨w.heap.size + 1, 4, none⟩ (.int .i64 0)).setCell ⟨w.heap.size + 1, 5, none⟩ (.int .i64 0)).setCell ⟨w.heap.size + 1, 6, none⟩ (.int .i64 d0)).setCell ⟨w.heap.size + 1, 7, none⟩ (.int .i64 d1)) (w.heap.size + 1) 40 #[.int .i64 0, .bool false, .int .i64 0, .int .i64 0, .int .i64 0, .int .i64 0, .int .i64 d0, .int .i64 d1, .int .i64 0] := hs7.set_ 7 (.int .i64 d1)
    have HB := Lib.hid (HB.out.setCell (p := ⟨w.heap.size + 1, 7, none⟩) (by dsimp only; omega) (.int .i64 d1))
    have B1 := Lib.hid (B1.out.far (p := ⟨w.heap.size + 1, 7, none⟩) (by dsimp only; omega) (.int .i64 d1))
    have B3 := Lib.hid (B3.out.far (p := ⟨w.heap.size + 1, 7, none⟩) (by dsimp only; omega) (.int .i64 d1))
    have hs9 : Blk (((((((((w2.setCell ⟨w.heap.size + 1, 0, none⟩ (.int .i64 0)).setCell ⟨w.heap.size + 1, 1, none⟩ (.bool false)).setCell ⟨w.heap.size + 1, 2, none⟩ (.int .i64 0)).setCell ⟨w.heap.size + 1, 3, none⟩ (.int .i64 0)).setCell ⟨w.heap.size + 1, 4, none⟩ (.int .i64 0)).setCell ⟨w.heap.size + 1, 5, none⟩ (.int .i64 0)).setCell ⟨w.heap.size + 1, 6, none⟩ (.int .i64 d0)).setCell ⟨w.heap.size + 1, 7, none⟩ (.int .i64 d1)).setCell ⟨w.heap.size + 1, 8, none⟩ (.int .i64 d2)) (w.heap.size + 1) 40 #[.int .i64 0, .bool false, .int .i64 0, .int .i64 0, .int .i64 0, .int .i64 0, .int .i64 d0, .int .i64 d1, .int .i64 d2] := hs8.set_ 8 (.int .i64 d2)
    have HB := Lib.hid (HB.out.setCell (p := ⟨w.heap.size + 1, 8, none⟩) (by dsimp only; omega) (.int .i64 d2))
    have B1 := Lib.hid (B1.out.far (p := ⟨w.heap.size + 1, 8, none⟩) (by dsimp only; omega) (.int .i64 d2))
    have B3 := Lib.hid (B3.out.far (p := ⟨w.heap.size + 1, 8, none⟩) (by dsimp only; omega) (.int .i64 d2))
    have B2 := Lib.hid hs9
    clear hs1 hs2 hs3 hs4 hs5 hs6 hs7 hs8 hs9
    generalize (((((((((w2.setCell ⟨w.heap.size + 1, 0, none⟩ (.int .i64 0)).setCell ⟨w.heap.size + 1, 1, none⟩ (.bool false)).setCell ⟨w.heap.size + 1, 2, none⟩ (.int .i64 0)).setCell ⟨w.heap.size + 1, 3, none⟩ (.int .i64 0)).setCell ⟨w.heap.size + 1, 4, none⟩ (.int .i64 0)).setCell ⟨w.heap.size + 1, 5, none⟩ (.int .i64 0)).setCell ⟨w.heap.size + 1, 6, none⟩ (.int .i64 d0)).setCell ⟨w.heap.size + 1, 7, none⟩ (.int .i64 d1)).setCell ⟨w.heap.size + 1, 8, none⟩ (.int .i64 d2)) = w3 at *
    have hn := B2.out
    refine bodyPost_ret (results_cell_row rfl _ _ (w.heap.size + 1) 40 _ (0, 0) _ rfl hn Try.underlying40 rfl (by kernel_rfl)) rfl ?_
    exact ⟨rfl, HB.out⟩
  have hm1 : (m == 0) = false := by simpa using hz
  cases g with
  | true =>
    have hv : plainBk ⟨m, true, x0, y0, x1, y1, d0, d1, d2⟩ = ⟨m, true, 0, 0, 0, 0, 0, 0, 0⟩ := by simp [plainBk, hz]
    rw [hv]
    clear hv hm hz
    go_enter Try.func28, Try.ntmps28
    go_upto_region 2 with fail
    have HB := Lib.hid (below_alloc_ (below_alloc_ (below_alloc_ (HB.out) (.cells #[.int .i64 m, .bool true, .int .i64 x0, .int .i64 y0, .int .i64 x1, .int .i64 y1, .int .i64 d0, .int .i64 d1, .int .i64 d2] 40)) (.cells #[.int .i64 0, .bool false, .int .i64 0, .int .i64 0, .int .i64 0, .int .i64 0, .int .i64 0, .int .i64 0, .int .i64 0] 40)) (.cells #[.int .i64 m, .bool false, .int .i64 0, .int .i64 0, .int .i64 0, .int .i64 0, .int .i64 0, .int .i64 0, .int .i64 0] 40))
    have hzw : (((w.alloc (.cells #[.int .i64 m, .bool true, .int .i64 x0, .int .i64 y0, .int .i64 x1, .int .i64 y1, .int .i64 d0, .int .i64 d1, .int .i64 d2] 40)).alloc (.cells #[.int .i64 0, .bool false, .int .i64 0, .int .i64 0, .int .i64 0, .int .i64 0, .int .i64 0, .int .i64 0, .int .i64 0] 40)).alloc (.cells #[.int .i64 m, .bool false, .int .i64 0, .int .i64 0, .int .i64 0, .int .i64 0, .int .i64 0, .int .i64 0, .int .i64 0] 40)).heap.size = w.heap.size + 3 := by simp only [World.size_alloc]
    have B1 := ((Blk.new (w) 40 #[.int .i64 m, .bool true, .int .i64 x0, .int .i64 y0, .int .i64 x1, .int .i64 y1, .int .i64 d0, .int .i64 d1, .int .i64 d2]).alloc (.cells #[.int .i64 0, .bool false, .int .i64 0, .int .i64 0, .int .i64 0, .int .i64 0, .int .i64 0, .int .i64 0, .int .i64 0] 40)).alloc (.cells #[.int .i64 m, .bool false, .int .i64 0, .int .i64 0, .int .i64 0, .int .i64 0, .int .i64 0, .int .i64 0, .int .i64 0] 40)
    skip
    have B1 := Lib.hid B1
    have B2 := (Blk.new (w.alloc (.cells #[.int .i64 m, .bool true, .int .i64 x0, .int .i64 y0, .int .i64 x1, .int .i64 y1, .int .i64 d0, .int .i64 d1, .int .i64 d2] 40)) 40 #[.int .i64 0, .bool false, .int .i64 0, .int .i64 0, .int .i64 0, .int .i64 0, .int .i64 0, .int .i64 0, .int .i64 0]).alloc (.cells #[.int .i64 m, .bool false, .int .i64 0, .int .i64 0, .int .i64 0, .int .i64 0, .int .i64 0, .int .i64 0, .int .i64 0] 40)
    rw [show (w.alloc (.cells #[.int .i64 m, .bool true, .int .i64 x0, .int .i64 y0, .int .i64 x1, .int .i64 y1, .int .i64 d0, .int .i64 d1, .int .i64 d2] 40)).heap.size = w.heap.size + 1 by simp only [World.size_alloc]] at B2
    have B2 := Lib.hid B2
    have B3 := Blk.new ((w.alloc (.cells #[.int .i64 m, .bool true, .int .i64 x0, .int .i64 y0, .int .i64 x1, .int .i64 y1, .int .i64 d0, .int .i64 d1, .int .i64 d2] 40)).alloc (.cells #[.int .i64 0, .bool false, .int .i64 0, .int .i64 0, .int .i64 0, .int .i64 0, .int .i64 0, .int .i64 0, .int .i64 0] 40)) 40 #[.int .i64 m, .bool false, .int .i64 0, .int .i64 0, .int .i64 0, .int .i64 0, .int .i64 0, .int .i64 0, .int .i64 0]
    rw [show ((w.alloc (.cells #[.int .i64 m, .bool true, .int .i64 x0, .int .i64 y0, .int .i64 x1, .int .i64 y1, .int .i64 d0, .int .i64 d1, .int .i64 d2] 40)).alloc (.cells #[.int .i64 0, .bool false, .int .i64 0, .int .i64 0, .int .i64 0, .int .i64 0, .int .i64 0, .int .i64 0, .int .i64 0] 40)).heap.size = w.heap.size + 1 + 1 by simp only [World.size_alloc]] at B3
    have B3 := Lib.hid B3
    generalize ((w.alloc (.cells #[.int .i64 m, .bool true, .int .i64 x0, .int .i64 y0, .int .i64 x1, .int .i64 y1, .int .i64 d0, .int .i64 d1, .int .i64 d2] 40)).alloc (.cells #[.int .i64 0, .bool false, .int .i64 0, .int .i64 0, .int .i64 0, .int .i64 0, .int .i64 0, .int .i64 0, .int .i64 0] 40)).alloc (.cells #[.int .i64 m, .bool false, .int .i64 0, .int .i64 0, .int .i64 0, .int .i64 0, .int .i64 0, .int .i64 0, .int .i64 0] 40) = w1 at *
    clear hzw
    obtain ⟨zB10, zB11, zB12, zB13, zB14, zB15, zB16, zB17, zB18⟩ := (B1.out).cells9
    obtain ⟨zB30, zB31, zB32, zB33, zB34, zB35, zB36, zB37, zB38⟩ := (B3.out).cells9
    obtain ⟨f0, f1, f2, f3, f4, f5, f6, f7, f8⟩ := B3.out.frozens9
    go_upto_region 6 with fail
    clear zB10 zB11 zB12 zB13 zB14 zB15 zB16 zB17 zB18
    clear zB30 zB31 zB32 zB33 zB34 zB35 zB36 zB37 zB38
    clear f0 f1 f2 f3 f4 f5 f6 f7 f8
    have hs1 : Blk (w1.setCell ⟨w.heap.size + 1 + 1, 1, none⟩ (.bool true)) (w.heap.size + 1 + 1) 40 #[.int .i64 m, .bool true, .int .i64 0, .int .i64 0, .int .i64 0, .int .i64 0, .int .i64 0, .int .i64 0, .int .i64 0] := B3.out.set_ 1 (.bool true)
    have HB := Lib.hid (HB.out.setCell (p := ⟨w.heap.size + 1 + 1, 1, none⟩) (by dsimp only; omega) (.bool true))
    have B1 := Lib.hid (B1.out.far (p := ⟨w.heap.size + 1 + 1, 1, none⟩) (by dsimp only; omega) (.bool true))
    have B2 := Lib.hid (B2.out.far (p := ⟨w.heap.size + 1 + 1, 1, none⟩) (by dsimp only; omega) (.bool true))
    have B3 := Lib.hid hs1
    clear hs1
    generalize (w1.setCell ⟨w.heap.size + 1 + 1, 1, none⟩ (.bool true)) = w2 at *
    obtain ⟨zB10, zB11, zB12, zB13, zB14, zB15, zB16, zB17, zB18⟩ := (B1.out).cells9
    obtain ⟨zB30, zB31, zB32, zB33, zB34, zB35, zB36, zB37, zB38⟩ := (B3.out).cells9
    obtain ⟨f0, f1, f2, f3, f4, f5, f6, f7, f8⟩ := B2.out.frozens9
    obtain ⟨q0, q1, q2, q3, q4, q5, q6, q7, q8⟩ := B2.out.cells9
    go_wp2_with fail
    clear zB10 zB11 zB12 zB13 zB14 zB15 zB16 zB17 zB18
    clear zB30 zB31 zB32 zB33 zB34 zB35 zB36 zB37 zB38
    clear f0 f1 f2 f3 f4 f5 f6 f7 f8 q0 q1 q2 q3 q4 q5 q6 q7 q8
    have hs1 : Blk (w2.setCell ⟨w.heap.size + 1, 0, none⟩ (.int .i64 m)) (w.heap.size + 1) 40 #[.int .i64 m, .bool false, .int .i64 0, .int .i64 0, .int .i64 0, .int .i64 0, .int .i64 0, .int .i64 0, .int .i64 0] := B2.out.set_ 0 (.int .i64 m)
    have HB := Lib.hid (HB.out.setCell (p := ⟨w.heap.size + 1, 0, none⟩) (by dsimp only; omega) (.int .i64 m))
    have B1 := Lib.hid (B1.out.far (p := ⟨w.heap.size + 1, 0, none⟩) (by dsimp only; omega) (.int .i64 m))
    have B3 := Lib.hid (B3.out.far (p := ⟨w.heap.size + 1, 0, none⟩) (by dsimp only; omega) (.int .i64 m))
    have hs2 : Blk ((w2.setCell ⟨w.heap.size + 1, 0, none⟩ (.int .i64 m)).setCell ⟨w.heap.size + 1, 1, none⟩ (.bool true)) (w.heap.size + 1) 40 #[.int .i64 m, .bool true, .int .i64 0, .int .i64 0, .int .i64 0, .int .i64 0, .int .i64 0, .int .i64 0, .int .i64 0] := hs1.set_ 1 (.bool true)
    have HB := Lib.hid (HB.out.setCell (p := ⟨w.heap.size + 1, 1, none⟩) (by dsimp only; omega) (.bool true))
    have B1 := Lib.hid (B1.out.far (p := ⟨w.heap.size + 1, 1, none⟩) (by dsimp only; omega) (.bool true))
    have B3 := Lib.hid (B3.out.far (p := ⟨w.heap.size + 1, 1, none⟩) (by dsimp only; omega) (.bool true))
    have hs3 : Blk (((w2.setCell ⟨w.heap.size + 1, 0, none⟩ (.int .i64 m)).setCell ⟨w.heap.size + 1, 1, none⟩ (.bool true)).setCell ⟨w.heap.size + 1, 2, none⟩ (.int .i64 0)) (w.heap.size + 1) 40 #[.int .i64 m, .bool true, .int .i64 0, .int .i64 0, .int .i64 0, .int .i64 0, .int .i64 0, .int .i64 0, .int .i64 0] := hs2.set_ 2 (.int .i64 0)
    have HB := Lib.hid (HB.out.setCell (p := ⟨w.heap.size + 1, 2, none⟩) (by dsimp only; omega) (.int .i64 0))
    have B1 := Lib.hid (B1.out.far (p := ⟨w.heap.size + 1, 2, none⟩) (by dsimp only; omega) (.int .i64 0))
    have B3 := Lib.hid (B3.out.far (p := ⟨w.heap.size + 1, 2, none⟩) (by dsimp only; omega) (.int .i64 0))
    have hs4 : Blk ((((w2.setCell ⟨w.heap.size + 1, 0, none⟩ (.int .i64 m)).setCell ⟨w.heap.size + 1, 1, none⟩ (.bool true)).setCell ⟨w.heap.size + 1, 2, none⟩ (.int .i64 0)).setCell ⟨w.heap.size + 1, 3, none⟩ (.int .i64 0)) (w.heap.size + 1) 40 #[.int .i64 m, .bool true, .int .i64 0, .int .i64 0, .int .i64 0, .int .i64 0, .int .i64 0, .int .i64 0, .int .i64 0] := hs3.set_ 3 (.int .i64 0)
    have HB := Lib.hid (HB.out.setCell (p := ⟨w.heap.size + 1, 3, none⟩) (by dsimp only; omega) (.int .i64 0))
    have B1 := Lib.hid (B1.out.far (p := ⟨w.heap.size + 1, 3, none⟩) (by dsimp only; omega) (.int .i64 0))
    have B3 := Lib.hid (B3.out.far (p := ⟨w.heap.size + 1, 3, none⟩) (by dsimp only; omega) (.int .i64 0))
    have hs5 : Blk (((((w2.setCell ⟨w.heap.size + 1, 0, none⟩ (.int .i64 m)).setCell ⟨w.heap.size + 1, 1, none⟩ (.bool true)).setCell ⟨w.heap.size + 1, 2, none⟩ (.int .i64 0)).setCell ⟨w.heap.size + 1, 3, none⟩ (.int .i64 0)).setCell ⟨w.heap.size + 1, 4, none⟩ (.int .i64 0)) (w.heap.size + 1) 40 #[.int .i64 m, .bool true, .int .i64 0, .int .i64 0, .int .i64 0, .int .i64 0, .int .i64 0, .int .i64 0, .int .i64 0] := hs4.set_ 4 (.int .i64 0)
    have HB := Lib.hid (HB.out.setCell (p := ⟨w.heap.size + 1, 4, none⟩) (by dsimp only; omega) (.int .i64 0))
    have B1 := Lib.hid (B1.out.far (p := ⟨w.heap.size + 1, 4, none⟩) (by dsimp only; omega) (.int .i64 0))
    have B3 := Lib.hid (B3.out.far (p := ⟨w.heap.size + 1, 4, none⟩) (by dsimp only; omega) (.int .i64 0))
    have hs6 : Blk ((((((w2.setCell ⟨w.heap.size + 1, 0, none⟩ (.int .i64 m)).setCell ⟨w.heap.size + 1, 1, none⟩ (.bool true)).setCell ⟨w.heap.size + 1, 2, none⟩ (.int .i64 0)).setCell ⟨w.heap.size + 1, 3, none⟩ (.int .i64 0)).setCell ⟨w.heap.size + 1, 4, none⟩ (.int .i64 0)).setCell ⟨w.heap.size + 1, 5, none⟩ (.int .i64 0)) (w.heap.size + 1) 40 #[.int .i64 m, .bool true, .int .i64 0, .int .i64 0, .int .i64 0, .int .i64 0, .int .i64 0, .int .i64 0, .int .i64 0] := hs5.set_ 5 (.int .i64 0)
    have HB := Lib.hid (HB.out.setCell (p := ⟨w.heap.size + 1, 5, none⟩) (by dsimp only; omega) (.int .i64 0))
    have B1 := Lib.hid (B1.out.far (p := ⟨w.heap.size + 1, 5, none⟩) (by dsimp only; omega) (.int .i64 0))
    have B3 := Lib.hid (B3.out.far (p := ⟨w.heap.size + 1, 5, none⟩) (by dsimp only; omega) (.int .i64 0))
    have hs7 : Blk (((((((w2.setCell ⟨w.heap.size + 1, 0, none⟩ (.int .i64 m)).setCell ⟨w.heap.size + 1, 1, none⟩ (.bool true)).setCell ⟨w.heap.size + 1, 2, none⟩ (.int .i64 0)).setCell ⟨w.heap.size + 1, 3, none⟩ (.int .i64 0)).setCell ⟨w.heap.size + 1, 4, none⟩ (.int .i64 0)).setCell ⟨w.heap.size + 1, 5, none⟩ (.int .i64 0)).setCell ⟨w.heap.size + 1, 6, none⟩ (.int .i64 0)) (w.heap.size + 1) 40 #[.int .i64 m, .bool true, .int .i64 0, .int .i64 0, .int .i64 0, .int .i64 0, .int .i64 0, .int .i64 0, .int .i64 0] := hs6.set_ 6 (.int .i64 0)
    have HB := Lib.hid (HB.out.setCell (p := ⟨w.heap.size + 1, 6, none⟩) (by dsimp only; omega) (.int .i64 0))
    have B1 := Lib.hid (B1.out.far (p := ⟨w.heap.size + 1, 6, none⟩) (by dsimp only; omega) (.int .i64 0))
    have B3 := Lib.hid (B3.out.far (p := ⟨w.heap.size + 1, 6, none⟩) (by dsimp only; omega) (.int .i64 0))
    have hs8 : Blk ((((((((w2.setCell ⟨w.heap.size + 1, 0, none⟩ (.int .i64 m)).setCell ⟨w.heap.size + 1, 1, none⟩ (.bool true)).setCell ⟨w.heap.size + 1, 2, none⟩ (.int .i64 0)).setCell ⟨w.heap.size + 1, 3, none⟩ (.int .i64 0)).setCell ⟨w.heap.size + 1, 4, none⟩ (.int .i64 0)).setCell ⟨w.heap.size + 1, 5, none⟩ (.int .i64 0)).setCell ⟨w.heap.size + 1, 6, none⟩ (.int .i64 0)).setCell ⟨w.heap.size + 1, 7, none⟩ (.int .i64 0)) (w.heap.size + 1) 40 #[.int .i64 m, .bool true, .int .i64 0, .int .i64 0, .int .i64 0, .int .i64 0, .int .i64 0, .int .i64 0, .int .i64 0] := hs7.set_ 7 (.int .i64 0)
    have HB := Lib.hid (HB.out.setCell (p := ⟨w.heap.size + 1, 7, none⟩) (by dsimp only; omega) (.int .i64 0))
    have B1 := Lib.hid (B1.out.far (p := ⟨w.heap.size + 1, 7, none⟩) (by dsimp only; omega) (.int .i64 0))
    have B3 := Lib.hid (B3.out.far (p := ⟨w.heap.size + 1, 7, none⟩) (by dsimp only; omega) (.int .i64 0))
    have hs9 : Blk (((((((((w2.setCell ⟨w.heap.size + 1, 0, none⟩ (.int .i64 m)).setCell ⟨w.heap.size + 1, 1, none⟩ (.bool true)).setCell ⟨w.heap.size + 1, 2, none⟩ (.int .i64 0)).setCell ⟨w.heap.size + 1, 3, none⟩ (.int .i64 0)).setCell ⟨w.heap.size + 1, 4, none⟩ (.int .i64 0)).setCell ⟨w.heap.size + 1, 5, none⟩ (.int .i64 0)).setCell ⟨w.heap.size + 1, 6, none⟩ (.int .i64 0)).setCell ⟨w.heap.size + 1, 7, none⟩ (.int .i64 0)).setCell ⟨w.heap.size + 1, 8, none⟩ (.int .i64 0)) (w.heap.size + 1) 40 #[.int .i64 m, .bool true, .int .i64 0, .int .i64 0, .int .i64 0, .int .i64 0, .int .i64 0, .int .i64 0, .int .i64 0] := hs8.set_ 8 (.int .i64 0)
    have HB := Lib.hid (HB.out.setCell (p := ⟨w.heap.size + 1, 8, none⟩) (by dsimp only; omega) (.int .i64 0))
    have B1 := Lib.hid (B1.out.far (p := ⟨w.heap.size + 1, 8, none⟩) (by dsimp only; omega) (.int .i64 0))
    have B3 := Lib.hid (B3.out.far (p := ⟨w.heap.size + 1, 8, none⟩) (by dsimp only; omega) (.int .i64 0))
    have B2 := Lib.hid hs9
    clear hs1 hs2 hs3 hs4 hs5 hs6 hs7 hs8 hs9
    generalize (((((((((w2.setCell ⟨w.heap.size + 1, 0, none⟩ (.int .i64 m)).setCell ⟨w.heap.size + 1, 1, none⟩ (.bool true)).setCell ⟨w.heap.size + 1, 2, none⟩ (.int .i64 0)).setCell ⟨w.heap.size + 1, 3, none⟩ (.int .i64 0)).setCell ⟨w.heap.size + 1, 4, none⟩ (.int .i64 0)).setCell ⟨w.heap.size + 1, 5, none⟩ (.int .i64 0)).setCell ⟨w.heap.size + 1, 6, none⟩ (.int .i64 0)).setCell ⟨w.heap.size + 1, 7, none⟩ (.int .i64 0)).setCell ⟨w.heap.size + 1, 8, none⟩ (.int .i64 0)) = w3 at *
    have hn := B2.out
    refine bodyPost_ret (results_cell_row rfl _ _ (w.heap.size + 1) 40 _ (0, 0) _ rfl hn Try.underlying40 rfl (by kernel_rfl)) rfl ?_
    exact ⟨rfl, HB.out⟩
  | false =>
    have hr : m.tmod 4 = 0 ∧ m.tmod 2 = 0 ∧ m % 2 = 0 ∧ m / 2 % 2 = 0 ∨ m.tmod 4 = 1 ∧ m.tmod 2 = 1 ∧ m % 2 = 1 ∧ m / 2 % 2 = 0 ∨ m.tmod 4 = -3 ∧ m.tmod 2 = -1 ∧ m % 2 = 1 ∧ m / 2 % 2 = 0 ∨ m.tmod 4 = 2 ∧ m.tmod 2 = 0 ∧ m % 2 = 0 ∧ m / 2 % 2 = 1 ∨
        m.tmod 4 = -2 ∧ m.tmod 2 = 0 ∧ m % 2 = 0 ∧ m / 2 % 2 = 1 ∨ m.tmod 4 = 3 ∧ m.tmod 2 = 1 ∧ m % 2 = 1 ∧ m / 2 % 2 = 1 ∨ m.tmod 4 = -1 ∧ m.tmod 2 = -1 ∧ m % 2 = 1 ∧ m / 2 % 2 = 1 := by
      rcases Int.le_total 0 m with h | h
      · rw [Int.tmod_eq_emod_of_nonneg h, Int.tmod_eq_emod_of_nonneg h]; omega
      · obtain ⟨k, rfl⟩ : ∃ k, m = -k := ⟨-m, by omega⟩
        rw [Int.neg_tmod, Int.neg_tmod, Int.tmod_eq_emod_of_nonneg (by omega), Int.tmod_eq_emod_of_nonneg (by omega)]; omega
    rcases hr with ⟨r4, r2, e2, e4⟩ | ⟨r4, r2, e2, e4⟩ | ⟨r4, r2, e2, e4⟩ | ⟨r4, r2, e2, e4⟩ | ⟨r4, r2, e2, e4⟩ | ⟨r4, r2, e2, e4⟩ | ⟨r4, r2, e2, e4⟩
    · have hv : plainBk ⟨m, false, x0, y0, x1, y1, d0, d1, d2⟩ = ⟨m, false, 0, 0, 0, 0, 0, 0, 0⟩ := by simp [plainBk, hz, e2, e4]
      rw [hv]
      clear hv hm hz e2 e4
      go_enter Try.func28, Try.ntmps28
      go_upto_region 2 with fail
      have HB := Lib.hid (below_alloc_ (below_alloc_ (below_alloc_ (HB.out) (.cells #[.int .i64 m, .bool false, .int .i64 x0, .int .i64 y0, .int .i64 x1, .int .i64 y1, .int .i64 d0, .int .i64 d1, .int .i64 d2] 40)) (.cells #[.int .i64 0, .bool false, .int .i64 0, .int .i64 0, .int .i64 0, .int .i64 0, .int .i64 0, .int .i64 0, .int .i64 0] 40)) (.cells #[.int .i64 m, .bool false, .int .i64 0, .int .i64 0, .int .i64 0, .int .i64 0, .int .i64 0, .int .i64 0, .int .i64 0] 40))
      have hzw : (((w.alloc (.cells #[.int .i64 m, .bool false, .int .i64 x0, .int .i64 y0, .int .i64 x1, .int .i64 y1, .int .i64 d0, .int .i64 d1, .int .i64 d2] 40)).alloc (.cells #[.int .i64 0, .bool false, .int .i64 0, .int .i64 0, .int .i64 0, .int .i64 0, .int .i64 0, .int .i64 0, .int .i64 0] 40)).alloc (.cells #[.int .i64 m, .bool false, .int .i64 0, .int .i64 0, .int .i64 0, .int .i64 0, .int .i64 0, .int .i64 0, .int .i64 0] 40)).heap.size = w.heap.size + 3 := by simp only [World.size_alloc]
      have B1 := ((Blk.new (w) 40 #[.int .i64 m, .bool false, .int .i64 x0, .int .i64 y0, .int .i64 x1, .int .i64 y1, .int .i64 d0, .int .i64 d1, .int .i64 d2]).alloc (.cells #[.int .i64 0, .bool false, .int .i64 0, .int .i64 0, .int .i64 0, .int .i64 0, .int .i64 0, .int .i64 0, .int .i64 0] 40)).alloc (.cells #[.int .i64 m, .bool false, .int .i64 0, .int .i64 0, .int .i64 0, .int .i64 0, .int .i64 0, .int .i64 0, .int .i64 0] 40)
      skip
      have B1 := Lib.hid B1
      have B2 := (Blk.new (w.alloc (.cells #[.int .i64 m, .bool false, .int .i64 x0, .int .i64 y0, .int .i64 x1, .int .i64 y1, .int .i64 d0, .int .i64 d1, .int .i64 d2] 40)) 40 #[.int .i64 0, .bool false, .int .i64 0, .int .i64 0, .int .i64 0, .int .i64 0, .int .i64 0, .int .i64 0, .int .i64 0]).alloc (.cells #[.int .i64 m, .bool false, .int .i64 0, .int .i64 0, .int .i64 0, .int .i64 0, .int .i64 0, .int .i64 0, .int .i64 0] 40)
      rw [show (w.alloc (.cells #[.int .i64 m, .bool false, .int .i64 x0, .int .i64 y0, .int .i64 x1, .int .i64 y1, .int .i64 d0, .int .i64 d1, .int .i64 d2] 40)).heap.size = w.heap.size + 1 by simp only [World.size_alloc]] at B2
      have B2 := Lib.hid B2
      have B3 := Blk.new ((w.alloc (.cells #[.int .i64 m, .bool false, .int .i64 x0, .int .i64 y0, .int .i64 x1, .int .i64 y1, .int .i64 d0, .int .i64 d1, .int .i64 d2] 40)).alloc (.cells #[.int .i64 0, .bool false, .int .i64 0, .int .i64 0, .int .i64 0, .int .i64 0, .int .i64 0, .int .i64 0, .int .i64 0] 40)) 40 #[.int .i64 m, .bool false, .int .i64 0, .int .i64 0, .int .i64 0, .int .i64 0, .int .i64 0, .int .i64 0, .int .i64 0]
      rw [show ((w.alloc (.cells #[.int .i64 m, .bool false, .int .i64 x0, .int .i64 y0, .int .i64 x1, .int .i64 y1, .int .i64 d0, .int .i64 d1, .int .i64 d2] 40)).alloc (.cells #[.int .i64 0, .bool false, .int .i64 0, .int .i64 0, .int .i64 0, .int .i64 0, .int .i64 0, .int .i64 0, .int .i64 0] 40)).heap.size = w.heap.size + 1 + 1 by simp only [World.size_alloc]] at B3
      have B3 := Lib.hid B3
      generalize ((w.alloc (.cells #[.int .i64 m, .bool false, .int .i64 x0, .int .i64 y0, .int .i64 x1, .int .i64 y1, .int .i64 d0, .int .i64 d1, .int .i64 d2] 40)).alloc (.cells #[.int .i64 0, .bool false, .int .i64 0, .int .i64 0, .int .i64 0, .int .i64 0, .int .i64 0, .int .i64 0, .int .i64 0] 40)).alloc (.cells #[.int .i64 m, .bool false, .int .i64 0, .int .i64 0, .int .i64 0, .int .i64 0, .int .i64 0, .int .i64 0, .int .i64 0] 40) = w1 at *
      clear hzw
      obtain ⟨zB10, zB11, zB12, zB13, zB14, zB15, zB16, zB17, zB18⟩ := (B1.out).cells9
      obtain ⟨zB30, zB31, zB32, zB33, zB34, zB35, zB36, zB37, zB38⟩ := (B3.out).cells9
      obtain ⟨f0, f1, f2, f3, f4, f5, f6, f7, f8⟩ := B3.out.frozens9
      go_upto_region 6 with fail
      clear zB10 zB11 zB12 zB13 zB14 zB15 zB16 zB17 zB18
      clear zB30 zB31 zB32 zB33 zB34 zB35 zB36 zB37 zB38
      clear f0 f1 f2 f3 f4 f5 f6 f7 f8
      have hs1 : Blk (w1.setCell ⟨w.heap.size + 1 + 1, 1, none⟩ (.bool false)) (w.heap.size + 1 + 1) 40 #[.int .i64 m, .bool false, .int .i64 0, .int .i64 0, .int .i64 0, .int .i64 0, .int .i64 0, .int .i64 0, .int .i64 0] := B3.out.set_ 1 (.bool false)
      have HB := Lib.hid (HB.out.setCell (p := ⟨w.heap.size + 1 + 1, 1, none⟩) (by dsimp only; omega) (.bool false))
      have B1 := Lib.hid (B1.out.far (p := ⟨w.heap.size + 1 + 1, 1, none⟩) (by dsimp only; omega) (.bool false))
      have B2 := Lib.hid (B2.out.far (p := ⟨w.heap.size + 1 + 1, 1, none⟩) (by dsimp only; omega) (.bool false))
      have B3 := Lib.hid hs1
      clear hs1
      generalize (w1.setCell ⟨w.heap.size + 1 + 1, 1, none⟩ (.bool false)) = w2 at *
      obtain ⟨zB10, zB11, zB12, zB13, zB14, zB15, zB16, zB17, zB18⟩ := (B1.out).cells9
      obtain ⟨zB30, zB31, zB32, zB33, zB34, zB35, zB36, zB37, zB38⟩ := (B3.out).cells9
      obtain ⟨f0, f1, f2, f3, f4, f5, f6, f7, f8⟩ := B2.out.frozens9
      obtain ⟨q0, q1, q2, q3, q4, q5, q6, q7, q8⟩ := B2.out.cells9
      go_wp2_with fail
      clear zB10 zB11 zB12 zB13 zB14 zB15 zB16 zB17 zB18
      clear zB30 zB31 zB32 zB33 zB34 zB35 zB36 zB37 zB38
      clear f0 f1 f2 f3 f4 f5 f6 f7 f8 q0 q1 q2 q3 q4 q5 q6 q7 q8
      have hs1 : Blk (w2.setCell ⟨w.heap.size + 1, 0, none⟩ (.int .i64 m)) (w.heap.size + 1) 40 #[.int .i64 m, .bool false, .int .i64 0, .int .i64 0, .int .i64 0, .int .i64 0, .int .i64 0, .int .i64 0, .int .i64 0] := B2.out.set_ 0 (.int .i64 m)
      have HB := Lib.hid (HB.out.setCell (p := ⟨w.heap.size + 1, 0, none⟩) (by dsimp only; omega) (.int .i64 m))
      have B1 := Lib.hid (B1.out.far (p := ⟨w.heap.size + 1, 0, none⟩) (by dsimp only; omega) (.int .i64 m))
      have B3 := Lib.hid (B3.out.far (p := ⟨w.heap.size + 1, 0, none⟩) (by dsimp only; omega) (.int .i64 m))
      have hs2 : Blk ((w2.setCell ⟨w.heap.size + 1, 0, none⟩ (.int .i64 m)).setCell ⟨w.heap.size + 1, 1, none⟩ (.bool false)) (w.heap.size + 1) 40 #[.int .i64 m, .bool false, .int .i64 0, .int .i64 0, .int .i64 0, .int .i64 0, .int .i64 0, .int .i64 0, .int .i64 0] := hs1.set_ 1 (.bool false)
      have HB := Lib.hid (HB.out.setCell (p := ⟨w.heap.size + 1, 1, none⟩) (by dsimp only; omega) (.bool false))
      have B1 := Lib.hid (B1.out.far (p := ⟨w.heap.size + 1, 1, none⟩) (by dsimp only; omega) (.bool false))
      have B3 := Lib.hid (B3.out.far (p := ⟨w.heap.size + 1, 1, none⟩) (by dsimp only; omega) (.bool false))
      have hs3 : Blk (((w2.setCell ⟨w.heap.size + 1, 0, none⟩ (.int .i64 m)).setCell ⟨w.heap.size + 1, 1, none⟩ (.bool false)).setCell ⟨w.heap.size + 1, 2, none⟩ (.int .i64 0)) (w.heap.size + 1) 40 #[.int .i64 m, .bool false, .int .i64 0, .int .i64 0, .int .i64 0, .int .i64 0, .int .i64 0, .int .i64 0, .int .i64 0] := hs2.set_ 2 (.int .i64 0)
      have HB := Lib.hid (HB.out.setCell (p := ⟨w.heap.size + 1, 2, none⟩) (by dsimp only; omega) (.int .i64 0))
      have B1 := Lib.hid (B1.out.far (p := ⟨w.heap.size + 1, 2, none⟩) (by dsimp only; omega) (.int .i64 0))
      have B3 := Lib.hid (B3.out.far (p := ⟨w.heap.size + 1, 2, none⟩) (by dsimp only; omega) (.int .i64 0))
      have hs4 : Blk ((((w2.setCell ⟨w.heap.size + 1, 0, none⟩ (.int .i64 m)).setCell ⟨w.heap.size + 1, 1, none⟩ (.bool false)).setCell ⟨w.heap.size + 1, 2, none⟩ (.int .i64 0)).setCell ⟨w.heap.size + 1, 3, none⟩ (.int .i64 0)) (w.heap.size + 1) 40 #[.int .i64 m, .bool false, .int .i64 0, .int .i64 0, .int .i64 0, .int .i64 0, .int .i64 0, .int .i64 0, .int .i64 0] := hs3.set_ 3 (.int .i64 0)
      have HB := Lib.hid (HB.out.setCell (p := ⟨w.heap.size + 1, 3, none⟩) (by dsimp only; omega) (.int .i64 0))
      have B1 := Lib.hid (B1.out.far (p := ⟨w.heap.size + 1, 3, none⟩) (by dsimp only; omega) (.int .i64 0))
      have B3 := Lib.hid (B3.out.far (p := ⟨w.heap.size + 1, 3, none⟩) (by dsimp only; omega) (.int .i64 0))
      have hs5 : Blk (((((w2.setCell ⟨w.heap.size + 1, 0, none⟩ (.int .i64 m)).setCell ⟨w.heap.size + 1, 1, none⟩ (.bool false)).setCell ⟨w.heap.size + 1, 2, none⟩ (.int .i64 0)).setCell ⟨w.heap.size + 1, 3, none⟩ (.int .i64 0)).setCell ⟨w.heap.size + 1, 4, none⟩ (.int .i64 0)) (w.heap.size + 1) 40 #[.int .i64 m, .bool false, .int .i64 0, .int .i64 0, .int .i64 0, .int .i64 0, .int .i64 0, .int .i64 0, .int .i64 0] := hs4.set_ 4 (.int .i64 0)
      have HB := Lib.hid (HB.out.setCell (p := ⟨w.heap.size + 1, 4, none⟩) (by dsimp only; omega) (.int .i64 0))
      have B1 := Lib.hid (B1.out.far (p := ⟨w.heap.size + 1, 4, none⟩) (by dsimp only; omega) (.int .i64 0))
      have B3 := Lib.hid (B3.out.far (p := ⟨w.heap.size + 1, 4, none⟩) (by dsimp only; omega) (.int .i64 0))
      have hs6 : Blk ((((((w2.setCell ⟨w.heap.size + 1, 0, none⟩ (.int .i64 m)).setCell ⟨w.heap.size + 1, 1, none⟩ (.bool false)).setCell ⟨w.heap.size + 1, 2, none⟩ (.int .i64 0)).setCell ⟨w.heap.size + 1, 3, none⟩ (.int .i64 0)).setCell ⟨w.heap.size + 1, 4, none⟩ (.int .i64 0)).setCell ⟨w.heap.size + 1, 5, none⟩ (.int .i64 0)) (w.heap.size + 1) 40 #[.int .i64 m, .bool false, .int .i64 0, .int .i64 0, .int .i64 0, .int .i64 0, .int .i64 0, .int .i64 0, .int .i64 0] := hs5.set_ 5 (.int .i64 0)
      have HB := Lib.hid (HB.out.setCell (p := ⟨w.heap.size + 1, 5, none⟩) (by dsimp only; omega) (.int .i64 0))
      have B1 := Lib.hid (B1.out.far (p := ⟨w.heap.size + 1, 5, none⟩) (by dsimp only; omega) (.int .i64 0))
      have B3 := Lib.hid (B3.out.far (p := ⟨w.heap.size + 1, 5, none⟩) (by dsimp only; omega) (.int .i64 0))
      have hs7 : Blk (((((((w2.setCell ⟨w.heap.size + 1, 0, none⟩ (.int .i64 m)).setCell ⟨w.heap.size + 1, 1, none⟩ (.bool false)).setCell ⟨w.heap.size + 1, 2, none⟩ (.int .i64 0)).setCell ⟨w.heap.size + 1, 3, none⟩ (.int .i64 0)).setCell ⟨w.heap.size + 1, 4, none⟩ (.int .i64 0)).setCell ⟨w.heap.size + 1, 5, none⟩ (.int .i64 0)).setCell ⟨w.heap.size + 1, 6, none⟩ (.int .i64 0)) (w.heap.size + 1) 40 #[.int .i64 m, .bool false, .int .i64 0, .int .i64 0, .int .i64 0, .int .i64 0, .int .i64 0, .int .i64 0, .int .i64 0] := hs6.set_ 6 (.int .i64 0)
      have HB := Lib.hid (HB.out.setCell (p := ⟨w.heap.size + 1, 6, none⟩) (by dsimp only; omega) (.int .i64 0))
      have B1 := Lib.hid (B1.out.far (p := ⟨w.heap.size + 1, 6, none⟩) (by dsimp only; omega) (.int .i64 0))
      have B3 := Lib.hid (B3.out.far (p := ⟨w.heap.size + 1, 6, none⟩) (by dsimp only; omega) (.int .i64 0))
      have hs8 : Blk ((((((((w2.setCell ⟨w.heap.size + 1, 0, none⟩ (.int .i64 m)).setCell ⟨w.heap.size + 1, 1, none⟩ (.bool false)).setCell ⟨w.heap.size + 1, 2, none⟩ (.int .i64 0)).setCell ⟨w.heap.size + 1, 3, none⟩ (.int .i64 0)).setCell ⟨w.heap.size + 1, 4, none⟩ (.int .i64 0)).setCell ⟨w.heap.size + 1, 5, none⟩ (.int .i64 0)).setCell ⟨w.heap.size + 1, 6, none⟩ (.int .i64 0)).setCell ⟨w.heap.size + 1, 7, none⟩ (.int .i64 0)) (w.heap.size + 1) 40 #[.int .i64 m, .bool false, .int .i64 0, .int .i64 0, .int .i64 0, .int .i64 0, .int .i64 0, .int .i64 0, .int .i64 0] := hs7.set_ 7 (.int .i64 0)
      have HB := Lib.hid (HB.out.setCell (p := ⟨w.heap.size + 1, 7, none⟩) (by dsimp only; omega) (.int .i64 0))
      have B1 := Lib.hid (B1.out.far (p := ⟨w.heap.size + 1, 7, none⟩) (by dsimp only; omega) (.int .i64 0))
      have B3 := Lib.hid (B3.out.far (p := ⟨w.heap.size + 1, 7, none⟩) (by dsimp only; omega) (.int .i64 0))
      have hs9 : Blk (((((((((w2.setCell ⟨w.heap.size + 1, 0, none⟩ (.int .i64 m)).setCell ⟨w.heap.size + 1, 1, none⟩ (.bool false)).setCell ⟨w.heap.size + 1, 2, none⟩ (.int .i64 0)).setCell ⟨w.heap.size + 1, 3, none⟩ (.int .i64 0)).setCell ⟨w.heap.size + 1, 4, none⟩ (.int .i64 0)).setCell ⟨w.heap.size + 1, 5, none⟩ (.int .i64 0)).setCell ⟨w.heap.size + 1, 6, none⟩ (.int .i64 0)).setCell ⟨w.heap.size + 1, 7, none⟩ (.int .i64 0)).setCell ⟨w.heap.size + 1, 8, none⟩ (.int .i64 0)) (w.heap.size + 1) 40 #[.int .i64 m, .bool false, .int .i64 0, .int .i64 0, .int .i64 0, .int .i64 0, .int .i64 0, .int .i64 0, .int .i64 0] := hs8.set_ 8 (.int .i64 0)
      have HB := Lib.hid (HB.out.setCell (p := ⟨w.heap.size + 1, 8, none⟩) (by dsimp only; omega) (.int .i64 0))
      have B1 := Lib.hid (B1.out.far (p := ⟨w.heap.size + 1, 8, none⟩) (by dsimp only; omega) (.int .i64 0))
      have B3 := Lib.hid (B3.out.far (p := ⟨w.heap.size + 1, 8, none⟩) (by dsimp only; omega) (.int .i64 0))
      have B2 := Lib.hid hs9
      clear hs1 hs2 hs3 hs4 hs5 hs6 hs7 hs8 hs9
      generalize (((((((((w2.setCell ⟨w.heap.size + 1, 0, none⟩ (.int .i64 m)).setCell ⟨w.heap.size + 1, 1, none⟩ (.bool false)).setCell ⟨w.heap.size + 1, 2, none⟩ (.int .i64 0)).setCell ⟨w.heap.size + 1, 3, none⟩ (.int .i64 0)).setCell ⟨w.heap.size + 1, 4, none⟩ (.int .i64 0)).setCell ⟨w.heap.size + 1, 5, none⟩ (.int .i64 0)).setCell ⟨w.heap.size + 1, 6, none⟩ (.int .i64 0)).setCell ⟨w.heap.size + 1, 7, none⟩ (.int .i64 0)).setCell ⟨w.heap.size + 1, 8, none⟩ (.int .i64 0)) = w3 at *
      have hn := B2.out
      refine bodyPost_ret (results_cell_row rfl _ _ (w.heap.size + 1) 40 _ (0, 0) _ rfl hn Try.underlying40 rfl (by kernel_rfl)) rfl ?_
      exact ⟨rfl, HB.out⟩
    · have hv : plainBk ⟨m, false, x0, y0, x1, y1, d0, d1, d2⟩ = ⟨m, false, x0, y0, 0, 0, 0, 0, 0⟩ := by simp [plainBk, hz, e2, e4]
      rw [hv]
      clear hv hm hz e2 e4
      go_enter Try.func28, Try.ntmps28
      go_upto_region 2 with fail
      have HB := Lib.hid (below_alloc_ (below_alloc_ (below_alloc_ (HB.out) (.cells #[.int .i64 m, .bool false, .int .i64 x0, .int .i64 y0, .int .i64 x1, .int .i64 y1, .int .i64 d0, .int .i64 d1, .int .i64 d2] 40)) (.cells #[.int .i64 0, .bool false, .int .i64 0, .int .i64 0, .int .i64 0, .int .i64 0, .int .i64 0, .int .i64 0, .int .i64 0] 40)) (.cells #[.int .i64 m, .bool false, .int .i64 0, .int .i64 0, .int .i64 0, .int .i64 0, .int .i64 0, .int .i64 0, .int .i64 0] 40))
      have hzw : (((w.alloc (.cells #[.int .i64 m, .bool false, .int .i64 x0, .int .i64 y0, .int .i64 x1, .int .i64 y1, .int .i64 d0, .int .i64 d1, .int .i64 d2] 40)).alloc (.cells #[.int .i64 0, .bool false, .int .i64 0, .int .i64 0, .int .i64 0, .int .i64 0, .int .i64 0, .int .i64 0, .int .i64 0] 40)).alloc (.cells #[.int .i64 m, .bool false, .int .i64 0, .int .i64 0, .int .i64 0, .int .i64 0, .int .i64 0, .int .i64 0, .int .i64 0] 40)).heap.size = w.heap.size + 3 := by simp only [World.size_alloc]
      have B1 := ((Blk.new (w) 40 #[.int .i64 m, .bool false, .int .i64 x0, .int .i64 y0, .int .i64 x1, .int .i64 y1, .int .i64 d0, .int .i64 d1, .int .i64 d2]).alloc (.cells #[.int .i64 0, .bool false, .int .i64 0, .int .i64 0, .int .i64 0, .int .i64 0, .int .i64 0, .int .i64 0, .int .i64 0] 40)).alloc (.cells #[.int .i64 m, .bool false, .int .i64 0, .int .i64 0, .int .i64 0, .int .i64 0, .int .i64 0, .int .i64 0, .int .i64 0] 40)
      skip
      have B1 := Lib.hid B1
      have B2 := (Blk.new (w.alloc (.cells #[.int .i64 m, .bool false, .int .i64 x0, .int .i64 y0, .int .i64 x1, .int .i64 y1, .int .i64 d0, .int .i64 d1, .int .i64 d2] 40)) 40 #[.int .i64 0, .bool false, .int .i64 0, .int .i64 0, .int .i64 0, .int .i64 0, .int .i64 0, .int .i64 0, .int .i64 0]).alloc (.cells #[.int .i64 m, .bool false, .int .i64 0, .int .i64 0, .int .i64 0, .int .i64 0, .int .i64 0, .int .i64 0, .int .i64 0] 40)
      rw [show (w.alloc (.cells #[.int .i64 m, .bool false, .int .i64 x0, .int .i64 y0, .int .i64 x1, .int .i64 y1, .int .i64 d0, .int .i64 d1, .int .i64 d2] 40)).heap.size = w.heap.size + 1 by simp only [World.size_alloc]] at B2
      have B2 := Lib.hid B2
      have B3 := Blk.new ((w.alloc (.cells #[.int .i64 m, .bool false, .int .i64 x0, .int .i64 y0, .int .i64 x1, .int .i64 y1, .int .i64 d0, .int .i64 d1, .int .i64 d2] 40)).alloc (.cells #[.int .i64 0, .bool false, .int .i64 0, .int .i64 0, .int .i64 0, .int .i64 0, .int .i64 0, .int .i64 0, .int .i64 0] 40)) 40 #[.int .i64 m, .bool false, .int .i64 0, .int .i64 0, .int .i64 0, .int .i64 0, .int .i64 0, .int .i64 0, .int .i64 0]
      rw [show ((w.alloc (.cells #[.int .i64 m, .bool false, .int .i64 x0, .int .i64 y0, .int .i64 x1, .int .i64 y1, .int .i64 d0, .int .i64 d1, .int .i64 d2] 40)).alloc (.cells #[.int .i64 0, .bool false, .int .i64 0, .int .i64 0, .int .i64 0, .int .i64 0, .int .i64 0, .int .i64 0, .int .i64 0] 40)).heap.size = w.heap.size + 1 + 1 by simp only [World.size_alloc]] at B3
      have B3 := Lib.hid B3
      generalize ((w.alloc (.cells #[.int .i64 m, .bool false, .int .i64 x0, .int .i64 y0, .int .i64 x1, .int .i64 y1, .int .i64 d0, .int .i64 d1, .int .i64 d2] 40)).alloc (.cells #[.int .i64 0, .bool false, .int .i64 0, .int .i64 0, .int .i64 0, .int .i64 0, .int .i64 0, .int .i64 0, .int .i64 0] 40)).alloc (.cells #[.int .i64 m, .bool false, .int .i64 0, .int .i64 0, .int .i64 0, .int .i64 0, .int .i64 0, .int .i64 0, .int .i64 0] 40) = w1 at *
      clear hzw
      obtain ⟨zB10, zB11, zB12, zB13, zB14, zB15, zB16, zB17, zB18⟩ := (B1.out).cells9
      obtain ⟨zB30, zB31, zB32, zB33, zB34, zB35, zB36, zB37, zB38⟩ := (B3.out).cells9
      obtain ⟨f0, f1, f2, f3, f4, f5, f6, f7, f8⟩ := B3.out.frozens9
      go_upto_region 6 with fail
      clear zB10 zB11 zB12 zB13 zB14 zB15 zB16 zB17 zB18
      clear zB30 zB31 zB32 zB33 zB34 zB35 zB36 zB37 zB38
      clear f0 f1 f2 f3 f4 f5 f6 f7 f8
      have hs1 : Blk (w1.setCell ⟨w.heap.size + 1 + 1, 1, none⟩ (.bool false)) (w.heap.size + 1 + 1) 40 #[.int .i64 m, .bool false, .int .i64 0, .int .i64 0, .int .i64 0, .int .i64 0, .int .i64 0, .int .i64 0, .int .i64 0] := B3.out.set_ 1 (.bool false)
      have HB := Lib.hid (HB.out.setCell (p := ⟨w.heap.size + 1 + 1, 1, none⟩) (by dsimp only; omega) (.bool false))
      have B1 := Lib.hid (B1.out.far (p := ⟨w.heap.size + 1 + 1, 1, none⟩) (by dsimp only; omega) (.bool false))
      have B2 := Lib.hid (B2.out.far (p := ⟨w.heap.size + 1 + 1, 1, none⟩) (by dsimp only; omega) (.bool false))
      have B3 := Lib.hid hs1
      clear hs1
      generalize (w1.setCell ⟨w.heap.size + 1 + 1, 1, none⟩ (.bool false)) = w2 at *
      obtain ⟨zB10, zB11, zB12, zB13, zB14, zB15, zB16, zB17, zB18⟩ := (B1.out).cells9
      obtain ⟨zB30, zB31, zB32, zB33, zB34, zB35, zB36, zB37, zB38⟩ := (B3.out).cells9
      obtain ⟨f0, f1, f2, f3, f4, f5, f6, f7, f8⟩ := B3.out.frozens9
      go_upto_region 8 with fail
      clear zB10 zB11 zB12 zB13 zB14 zB15 zB16 zB17 zB18
      clear zB30 zB31 zB32 zB33 zB34 zB35 zB36 zB37 zB38
      clear f0 f1 f2 f3 f4 f5 f6 f7 f8
      have hs1 : Blk (w2.setCell ⟨w.heap.size + 1 + 1, 2, none⟩ (.int .i64 x0)) (w.heap.size + 1 + 1) 40 #[.int .i64 m, .bool false, .int .i64 x0, .int .i64 0, .int .i64 0, .int .i64 0, .int .i64 0, .int .i64 0, .int .i64 0] := B3.out.set_ 2 (.int .i64 x0)
      have HB := Lib.hid (HB.out.setCell (p := ⟨w.heap.size + 1 + 1, 2, none⟩) (by dsimp only; omega) (.int .i64 x0))
      have B1 := Lib.hid (B1.out.far (p := ⟨w.heap.size + 1 + 1, 2, none⟩) (by dsimp only; omega) (.int .i64 x0))
      have B2 := Lib.hid (B2.out.far (p := ⟨w.heap.size + 1 + 1, 2, none⟩) (by dsimp only; omega) (.int .i64 x0))
      have hs2 : Blk ((w2.setCell ⟨w.heap.size + 1 + 1, 2, none⟩ (.int .i64 x0)).setCell ⟨w.heap.size + 1 + 1, 3, none⟩ (.int .i64 y0)) (w.heap.size + 1 + 1) 40 #[.int .i64 m, .bool false, .int .i64 x0, .int .i64 y0, .int .i64 0, .int .i64 0, .int .i64 0, .int .i64 0, .int .i64 0] := hs1.set_ 3 (.int .i64 y0)
      have HB := Lib.hid (HB.out.setCell (p := ⟨w.heap.size + 1 + 1, 3, none⟩) (by dsimp only; omega) (.int .i64 y0))
      have B1 := Lib.hid (B1.out.far (p := ⟨w.heap.size + 1 + 1, 3, none⟩) (by dsimp only; omega) (.int .i64 y0))
      have B2 := Lib.hid (B2.out.far (p := ⟨w.heap.size + 1 + 1, 3, none⟩) (by dsimp only; omega) (.int .i64 y0))
      have B3 := Lib.hid hs2
      clear hs1 hs2
      generalize ((w2.setCell ⟨w.heap.size + 1 + 1, 2, none⟩ (.int .i64 x0)).setCell ⟨w.heap.size + 1 + 1, 3, none⟩ (.int .i64 y0)) = w3 at *
      obtain ⟨zB10, zB11, zB12, zB13, zB14, zB15, zB16, zB17, zB18⟩ := (B1.out).cells9
      obtain ⟨zB30, zB31, zB32, zB33, zB34, zB35, zB36, zB37, zB38⟩ := (B3.out).cells9
      obtain ⟨f0, f1, f2, f3, f4, f5, f6, f7, f8⟩ := B2.out.frozens9
      obtain ⟨q0, q1, q2, q3, q4, q5, q6, q7, q8⟩ := B2.out.cells9
      go_wp2_with fail
      clear zB10 zB11 zB12 zB13 zB14 zB15 zB16 zB17 zB18
      clear zB30 zB31 zB32 zB33 zB34 zB35 zB36 zB37 zB38
      clear f0 f1 f2 f3 f4 f5 f6 f7 f8 q0 q1 q2 q3 q4 q5 q6 q7 q8
      have hs1 : Blk (w3.setCell ⟨w.heap.size + 1, 0, none⟩ (.int .i64 m)) (w.heap.size + 1) 40 #[.int .i64 m, .bool false, .int .i64 0, .int .i64 0, .int .i64 0, .int .i64 0, .int .i64 0, .int .i64 0, .int .i64 0] := B2.out.set_ 0 (.int .i64 m)
      have HB := Lib.hid (HB.out.setCell (p := ⟨w.heap.size + 1, 0, none⟩) (by dsimp only; omega) (.int .i64 m))
      have B1 := Lib.hid (B1.out.far (p := ⟨w.heap.size + 1, 0, none⟩) (by dsimp only; omega) (.int .i64 m))
      have B3 := Lib.hid (B3.out.far (p := ⟨w.heap.size + 1, 0, none⟩) (by dsimp only; omega) (.int .i64 m))
      have hs2 : Blk ((w3.setCell ⟨w.heap.size + 1, 0, none⟩ (.int .i64 m)).setCell ⟨w.heap.size + 1, 1, none⟩ (.bool false)) (w.heap.size + 1) 40 #[.int .i64 m, .bool false, .int .i64 0, .int .i64 0, .int .i64 0, .int .i64 0, .int .i64 0, .int .i64 0, .int .i64 0] := hs1.set_ 1 (.bool false)
      have HB := Lib.hid (HB.out.setCell (p := ⟨w.heap.size + 1, 1, none⟩) (by dsimp only; omega) (.bool false))
      have B1 := Lib.hid (B1.out.far (p := ⟨w.heap.size + 1, 1, none⟩) (by dsimp only; omega) (.bool false))
      have B3 := Lib.hid (B3.out.far (p := ⟨w.heap.size + 1, 1, none⟩) (by dsimp only; omega) (.bool false))
      have hs3 : Blk (((w3.setCell ⟨w.heap.size + 1, 0, none⟩ (.int .i64 m)).setCell ⟨w.heap.size + 1, 1, none⟩ (.bool false)).setCell ⟨w.heap.size + 1, 2, none⟩ (.int .i64 x0)) (w.heap.size + 1) 40 #[.int .i64 m, .bool false, .int .i64 x0, .int .i64 0, .int .i64 0, .int .i64 0, .int .i64 0, .int .i64 0, .int .i64 0] := hs2.set_ 2 (.int .i64 x0)
      have HB := Lib.hid (HB.out.setCell (p := ⟨w.heap.size + 1, 2, none⟩) (by dsimp only; omega) (.int .i64 x0))
      have B1 := Lib.hid (B1.out.far (p := ⟨w.heap.size + 1, 2, none⟩) (by dsimp only; omega) (.int .i64 x0))
      have B3 := Lib.hid (B3.out.far (p := ⟨w.heap.size + 1, 2, none⟩) (by dsimp only; omega) (.int .i64 x0))
      have hs4 : Blk ((((w3.setCell ⟨w.heap.size + 1, 0, none⟩ (.int .i64 m)).setCell ⟨w.heap.size + 1, 1, none⟩ (.bool false)).setCell ⟨w.heap.size + 1, 2, none⟩ (.int .i64 x0)).setCell ⟨w.heap.size + 1, 3, none⟩ (.int .i64 y0)) (w.heap.size + 1) 40 #[.int .i64 m, .bool false, .int .i64 x0, .int .i64 y0, .int .i64 0, .int .i64 0, .int .i64 0, .int .i64 0, .int .i64 0] := hs3.set_ 3 (.int .i64 y0)
      have HB := Lib.hid (HB.out.setCell (p := ⟨w.heap.size + 1, 3, none⟩) (by dsimp only; omega) (.int .i64 y0))
      have B1 := Lib.hid (B1.out.far (p := ⟨w.heap.size + 1, 3, none⟩) (by dsimp only; omega) (.int .i64 y0))
      have B3 := Lib.hid (B3.out.far (p := ⟨w.heap.size + 1, 3, none⟩) (by dsimp only; omega) (.int .i64 y0))
      have hs5 : Blk (((((w3.setCell ⟨w.heap.size + 1, 0, none⟩ (.int .i64 m)).setCell ⟨w.heap.size + 1, 1, none⟩ (.bool false)).setCell ⟨w.heap.size + 1, 2, none⟩ (.int .i64 x0)).setCell ⟨w.heap.size + 1, 3, none⟩ (.int .i64 y0)).setCell ⟨w.heap.size + 1, 4, none⟩ (.int .i64 0)) (w.heap.size + 1) 40 #[.int .i64 m, .bool false, .int .i64 x0, .int .i64 y0, .int .i64 0, .int .i64 0, .int .i64 0, .int .i64 0, .int .i64 0] := hs4.set_ 4 (.int .i64 0)
      have HB := Lib.hid (HB.out.setCell (p := ⟨w.heap.size + 1, 4, none⟩) (by dsimp only; omega) (.int .i64 0))
      have B1 := Lib.hid (B1.out.far (p := ⟨w.heap.size + 1, 4, none⟩) (by dsimp only; omega) (.int .i64 0))
      have B3 := Lib.hid (B3.out.far (p := ⟨w.heap.size + 1, 4, none⟩) (by dsimp only; omega) (.int .i64 0))
      have hs6 : Blk ((((((w3.setCell ⟨w.heap.size + 1, 0, none⟩ (.int .i64 m)).setCell ⟨w.heap.size + 1, 1, none⟩ (.bool false)).setCell ⟨w.heap.size + 1, 2, none⟩ (.int .i64 x0)).setCell ⟨w.heap.size + 1, 3, none⟩ (.int .i64 y0)).setCell ⟨w.heap.size + 1, 4, none⟩ (.int .i64 0)).setCell ⟨w.heap.size + 1, 5, none⟩ (.int .i64 0)) (w.heap.size + 1) 40 #[.int .i64 m, .bool false, .int .i64 x0, .int .i64 y0, .int .i64 0, .int .i64 0, .int .i64 0, .int .i64 0, .int .i64 0] := hs5.set_ 5 (.int .i64 0)
      have HB := Lib.hid (HB.out.setCell (p := ⟨w.heap.size + 1, 5, none⟩) (by dsimp only; omega) (.int .i64 0))
      have B1 := Lib.hid (B1.out.far (p := ⟨w.heap.size + 1, 5, none⟩) (by dsimp only; omega) (.int .i64 0))
      have B3 := Lib.hid (B3.out.far (p := ⟨w.heap.size + 1, 5, none⟩) (by dsimp only; omega) (.int .i64 0))
      have hs7 : Blk (((((((w3.setCell ⟨w.heap.size + 1, 0, none⟩ (.int .i64 m)).setCell ⟨w.heap.size + 1, 1, none⟩ (.bool false)).setCell ⟨w.heap.size + 1, 2, none⟩ (.int .i64 x0)).setCell ⟨w.heap.size + 1, 3, none⟩ (.int .i64 y0)).setCell ⟨w.heap.size + 1, 4, none⟩ (.int .i64 0)).setCell ⟨w.heap.size + 1, 5, none⟩ (.int .i64 0)).setCell ⟨w.heap.size + 1, 6, none⟩ (.int .i64 0)) (w.heap.size + 1) 40 #[.int .i64 m, .bool false, .int .i64 x0, .int .i64 y0, .int .i64 0, .int .i64 0, .int .i64 0, .int .i64 0, .int .i64 0] := hs6.set_ 6 (.int .i64 0)
      have HB := Lib.hid (HB.out.setCell (p := ⟨w.heap.size + 1, 6, none⟩) (by dsimp only; omega) (.int .i64 0))
      have B1 := Lib.hid (B1.out.far (p := ⟨w.heap.size + 1, 6, none⟩) (by dsimp only; omega) (.int .i64 0))
      have B3 := Lib.hid (B3.out.far (p := ⟨w.heap.size + 1, 6, none⟩) (by dsimp only; omega) (.int .i64 0))
      have hs8 : Blk ((((((((w3.setCell ⟨w.heap.size + 1, 0, none⟩ (.int .i64 m)).setCell ⟨w.heap.size + 1, 1, none⟩ (.bool false)).setCell ⟨w.heap.size + 1, 2, none⟩ (.int .i64 x0)).setCell ⟨w.heap.size + 1, 3, none⟩ (.int .i64 y0)).setCell ⟨w.heap.size + 1, 4, none⟩ (.int .i64 0)).setCell ⟨w.heap.size + 1, 5, none⟩ (.int .i64 0)).setCell ⟨w.heap.size + 1, 6, none⟩ (.int .i64 0)).setCell ⟨w.heap.size + 1, 7, none⟩ (.int .i64 0)) (w.heap.size + 1) 40 #[.int .i64 m, .bool false, .int .i64 x0, .int .i64 y0, .int .i64 0, .int .i64 0, .int .i64 0, .int .i64 0, .int .i64 0] := hs7.set_ 7 (.int .i64 0)
      have HB := Lib.hid (HB.out.setCell (p := ⟨w.heap.size + 1, 7, none⟩) (by dsimp only; omega) (.int .i64 0))
      have B1 := Lib.hid (B1.out.far (p := ⟨w.heap.size + 1, 7, none⟩) (by dsimp only; omega) (.int .i64 0))
      have B3 := Lib.hid (B3.out.far (p := ⟨w.heap.size + 1, 7, none⟩) (by dsimp only; omega) (.int .i64 0))
      have hs9 : Blk (((((((((w3.setCell ⟨w.heap.size + 1, 0, none⟩ (.int .i64 m)).setCell ⟨w.heap.size + 1, 1, none⟩ (.bool false)).setCell ⟨w.heap.size + 1, 2, none⟩ (.int .i64 x0)).setCell ⟨w.heap.size + 1, 3, none⟩ (.int .i64 y0)).setCell ⟨w.heap.size + 1, 4, none⟩ (.int .i64 0)).setCell ⟨w.heap.size + 1, 5, none⟩ (.int .i64 0)).setCell ⟨w.heap.size + 1, 6, none⟩ (.int .i64 0)).setCell ⟨w.heap.size + 1, 7, none⟩ (.int .i64 0)).setCell ⟨w.heap.size + 1, 8, none⟩ (.int .i64 0)) (w.heap.size + 1) 40 #[.int .i64 m, .bool false, .int .i64 x0, .int .i64 y0, .int .i64 0, .int .i64 0, .int .i64 0, .int .i64 0, .int .i64 0] := hs8.set_ 8 (.int .i64 0)
      have HB := Lib.hid (HB.out.setCell (p := ⟨w.heap.size + 1, 8, none⟩) (by dsimp only; omega) (.int .i64 0))
      have B1 := Lib.hid (B1.out.far (p := ⟨w.heap.size + 1, 8, none⟩) (by dsimp only; omega) (.int .i64 0))
      have B3 := Lib.hid (B3.out.far (p := ⟨w.heap.size + 1, 8, none⟩) (by dsimp only; omega) (.int .i64 0))
      have B2 := Lib.hid hs9
      clear hs1 hs2 hs3 hs4 hs5 hs6 hs7 hs8 hs9
      generalize (((((((((w3.setCell ⟨w.heap.size + 1, 0, none⟩ (.int .i64 m)).setCell ⟨w.heap.size + 1, 1, none⟩ (.bool false)).setCell ⟨w.heap.size + 1, 2, none⟩ (.int .i64 x0)).setCell ⟨w.heap.size + 1, 3, none⟩ (.int .i64 y0)).setCell ⟨w.heap.size + 1, 4, none⟩ (.int .i64 0)).setCell ⟨w.heap.size + 1, 5, none⟩ (.int .i64 0)).setCell ⟨w.heap.size + 1, 6, none⟩ (.int .i64 0)).setCell ⟨w.heap.size + 1, 7, none⟩ (.int .i64 0)).setCell ⟨w.heap.size + 1, 8, none⟩ (.int .i64 0)) = w4 at *
      have hn := B2.out
      refine bodyPost_ret (results_cell_row rfl _ _ (w.heap.size + 1) 40 _ (0, 0) _ rfl hn Try.underlying40 rfl (by kernel_rfl)) rfl ?_
      exact ⟨rfl, HB.out⟩
    · have hv : plainBk ⟨m, false, x0, y0, x1, y1, d0, d1, d2⟩ = ⟨m, false, x0, y0, 0, 0, 0, 0, 0⟩ := by simp [plainBk, hz, e2, e4]
      rw [hv]
      clear hv hm hz e2 e4
      go_enter Try.func28, Try.ntmps28
      go_upto_region 2 with fail
      have HB := Lib.hid (below_alloc_ (below_alloc_ (below_alloc_ (HB.out) (.cells #[.int .i64 m, .bool false, .int .i64 x0, .int .i64 y0, .int .i64 x1, .int .i64 y1, .int .i64 d0, .int .i64 d1, .int .i64 d2] 40)) (.cells #[.int .i64 0, .bool false, .int .i64 0, .int .i64 0, .int .i64 0, .int .i64 0, .int .i64 0, .int .i64 0, .int .i64 0] 40)) (.cells #[.int .i64 m, .bool false, .int .i64 0, .int .i64 0, .int .i64 0, .int .i64 0, .int .i64 0, .int .i64 0, .int .i64 0] 40))
      have hzw : (((w.alloc (.cells #[.int .i64 m, .bool false, .int .i64 x0, .int .i64 y0, .int .i64 x1, .int .i64 y1, .int .i64 d0, .int .i64 d1, .int .i64 d2] 40)).alloc (.cells #[.int .i64 0, .bool false, .int .i64 0, .int .i64 0, .int .i64 0, .int .i64 0, .int .i64 0, .int .i64 0, .int .i64 0] 40)).alloc (.cells #[.int .i64 m, .bool false, .int .i64 0, .int .i64 0, .int .i64 0, .int .i64 0, .int .i64 0, .int .i64 0, .int .i64 0] 40)).heap.size = w.heap.size + 3 := by simp only [World.size_alloc]
      have B1 := ((Blk.new (w) 40 #[.int .i64 m, .bool false, .int .i64 x0, .int .i64 y0, .int .i64 x1, .int .i64 y1, .int .i64 d0, .int .i64 d1, .int .i64 d2]).alloc (.cells #[.int .i64 0, .bool false, .int .i64 0, .int .i64 0, .int .i64 0, .int .i64 0, .int .i64 0, .int .i64 0, .int .i64 0] 40)).alloc (.cells #[.int .i64 m, .bool false, .int .i64 0, .int .i64 0, .int .i64 0, .int .i64 0, .int .i64 0, .int .i64 0, .int .i64 0] 40)
      skip
      have B1 := Lib.hid B1
      have B2 := (Blk.new (w.alloc (.cells #[.int .i64 m, .bool false, .int .i64 x0, .int .i64 y0, .int .i64 x1, .int .i64 y1, .int .i64 d0, .int .i64 d1, .int .i64 d2] 40)) 40 #[.int .i64 0, .bool false, .int .i64 0, .int .i64 0, .int .i64 0, .int .i64 0, .int .i64 0, .int .i64 0, .int .i64 0]).alloc (.cells #[.int .i64 m, .bool false, .int .i64 0, .int .i64 0, .int .i64 0, .int .i64 0, .int .i64 0, .int .i64 0, .int .i64 0] 40)
      rw [show (w.alloc (.cells #[.int .i64 m, .bool false, .int .i64 x0, .int .i64 y0, .int .i64 x1, .int .i64 y1, .int .i64 d0, .int .i64 d1, .int .i64 d2] 40)).heap.size = w.heap.size + 1 by simp only [World.size_alloc]] at B2
      have B2 := Lib.hid B2
      have B3 := Blk.new ((w.alloc (.cells #[.int .i64 m, .bool false, .int .i64 x0, .int .i64 y0, .int .i64 x1, .int .i64 y1, .int .i64 d0, .int .i64 d1, .int .i64 d2] 40)).alloc (.cells #[.int .i64 0, .bool false, .int .i64 0, .int .i64 0, .int .i64 0, .int .i64 0, .int .i64 0, .int .i64 0, .int .i64 0] 40)) 40 #[.int .i64 m, .bool false, .int .i64 0, .int .i64 0, .int .i64 0, .int .i64 0, .int .i64 0, .int .i64 0, .int .i64 0]
      rw [show ((w.alloc (.cells #[.int .i64 m, .bool false, .int .i64 x0, .int .i64 y0, .int .i64 x1, .int .i64 y1, .int .i64 d0, .int .i64 d1, .int .i64 d2] 40)).alloc (.cells #[.int .i64 0, .bool false, .int .i64 0, .int .i64 0, .int .i64 0, .int .i64 0, .int .i64 0, .int .i64 0, .int .i64 0] 40)).heap.size = w.heap.size + 1 + 1 by simp only [World.size_alloc]] at B3
      have B3 := Lib.hid B3
      generalize ((w.alloc (.cells #[.int .i64 m, .bool false, .int .i64 x0, .int .i64 y0, .int .i64 x1, .int .i64 y1, .int .i64 d0, .int .i64 d1, .int .i64 d2] 40)).alloc (.cells #[.int .i64 0, .bool false, .int .i64 0, .int .i64 0, .int .i64 0, .int .i64 0, .int .i64 0, .int .i64 0, .int .i64 0] 40)).alloc (.cells #[.int .i64 m, .bool false, .int .i64 0, .int .i64 0, .int .i64 0, .int .i64 0, .int .i64 0, .int .i64 0, .int .i64 0] 40) = w1 at *
      clear hzw
      obtain ⟨zB10, zB11, zB12, zB13, zB14, zB15, zB16, zB17, zB18⟩ := (B1.out).cells9
      obtain ⟨zB30, zB31, zB32, zB33, zB34, zB35, zB36, zB37, zB38⟩ := (B3.out).cells9
      obtain ⟨f0, f1, f2, f3, f4, f5, f6, f7, f8⟩ := B3.out.frozens9
      go_upto_region 6 with fail
      clear zB10 zB11 zB12 zB13 zB14 zB15 zB16 zB17 zB18
      clear zB30 zB31 zB32 zB33 zB34 zB35 zB36 zB37 zB38
      clear f0 f1 f2 f3 f4 f5 f6 f7 f8
      have hs1 : Blk (w1.setCell ⟨w.heap.size + 1 + 1, 1, none⟩ (.bool false)) (w.heap.size + 1 + 1) 40 #[.int .i64 m, .bool false, .int .i64 0, .int .i64 0, .int .i64 0, .int .i64 0, .int .i64 0, .int .i64 0, .int .i64 0] := B3.out.set_ 1 (.bool false)
      have HB := Lib.hid (HB.out.setCell (p := ⟨w.heap.size + 1 + 1, 1, none⟩) (by dsimp only; omega) (.bool false))
      have B1 := Lib.hid (B1.out.far (p := ⟨w.heap.size + 1 + 1, 1, none⟩) (by dsimp only; omega) (.bool false))
      have B2 := Lib.hid (B2.out.far (p := ⟨w.heap.size + 1 + 1, 1, none⟩) (by dsimp only; omega) (.bool false))
      have B3 := Lib.hid hs1
      clear hs1
      generalize (w1.setCell ⟨w.heap.size + 1 + 1, 1, none⟩ (.bool false)) = w2 at *
      obtain ⟨zB10, zB11, zB12, zB13, zB14, zB15, zB16, zB17, zB18⟩ := (B1.out).cells9
      obtain ⟨zB30, zB31, zB32, zB33, zB34, zB35, zB36, zB37, zB38⟩ := (B3.out).cells9
      obtain ⟨f0, f1, f2, f3, f4, f5, f6, f7, f8⟩ := B3.out.frozens9
      go_upto_region 8 with fail
      clear zB10 zB11 zB12 zB13 zB14 zB15 zB16 zB17 zB18
      clear zB30 zB31 zB32 zB33 zB34 zB35 zB36 zB37 zB38
      clear f0 f1 f2 f3 f4 f5 f6 f7 f8
      have hs1 : Blk (w2.setCell ⟨w.heap.size + 1 + 1, 2, none⟩ (.int .i64 x0)) (w.heap.size + 1 + 1) 40 #[.int .i64 m, .bool false, .int .i64 x0, .int .i64 0, .int .i64 0, .int .i64 0, .int .i64 0, .int .i64 0, .int .i64 0] := B3.out.set_ 2 (.int .i64 x0)
      have HB := Lib.hid (HB.out.setCell (p := ⟨w.heap.size + 1 + 1, 2, none⟩) (by dsimp only; omega) (.int .i64 x0))
      have B1 := Lib.hid (B1.out.far (p := ⟨w.heap.size + 1 + 1, 2, none⟩) (by dsimp only; omega) (.int .i64 x0))
      have B2 := Lib.hid (B2.out.far (p := ⟨w.heap.size + 1 + 1, 2, none⟩) (by dsimp only; omega) (.int .i64 x0))
      have hs2 : Blk ((w2.setCell ⟨w.heap.size + 1 + 1, 2, none⟩ (.int .i64 x0)).setCell ⟨w.heap.size + 1 + 1, 3, none⟩ (.int .i64 y0)) (w.heap.size + 1 + 1) 40 #[.int .i64 m, .bool false, .int .i64 x0, .int .i64 y0, .int .i64 0, .int .i64 0, .int .i64 0, .int .i64 0, .int .i64 0] := hs1.set_ 3 (.int .i64 y0)
      have HB := Lib.hid (HB.out.setCell (p := ⟨w.heap.size + 1 + 1, 3, none⟩) (by dsimp only; omega) (.int .i64 y0))
      have B1 := Lib.hid (B1.out.far (p := ⟨w.heap.size + 1 + 1, 3, none⟩) (by dsimp only; omega) (.int .i64 y0))
      have B2 := Lib.hid (B2.out.far (p := ⟨w.heap.size + 1 + 1, 3, none⟩) (by dsimp only; omega) (.int .i64 y0))
      have B3 := Lib.hid hs2
      clear hs1 hs2
      generalize ((w2.setCell ⟨w.heap.size + 1 + 1, 2, none⟩ (.int .i64 x0)).setCell ⟨w.heap.size + 1 + 1, 3, none⟩ (.int .i64 y0)) = w3 at *
      obtain ⟨zB10, zB11, zB12, zB13, zB14, zB15, zB16, zB17, zB18⟩ := (B1.out).cells9
      obtain ⟨zB30, zB31, zB32, zB33, zB34, zB35, zB36, zB37, zB38⟩ := (B3.out).cells9
      obtain ⟨f0, f1, f2, f3, f4, f5, f6, f7, f8⟩ := B2.out.frozens9
      obtain ⟨q0, q1, q2, q3, q4, q5, q6, q7, q8⟩ := B2.out.cells9
      go_wp2_with fail
      clear zB10 zB11 zB12 zB13 zB14 zB15 zB16 zB17 zB18
      clear zB30 zB31 zB32 zB33 zB34 zB35 zB36 zB37 zB38
      clear f0 f1 f2 f3 f4 f5 f6 f7 f8 q0 q1 q2 q3 q4 q5 q6 q7 q8
      have hs1 : Blk (w3.setCell ⟨w.heap.size + 1, 0, none⟩ (.int .i64 m)) (w.heap.size + 1) 40 #[.int .i64 m, .bool false, .int .i64 0, .int .i64 0, .int .i64 0, .int .i64 0, .int .i64 0, .int .i64 0, .int .i64 0] := B2.out.set_ 0 (.int .i64 m)
      have HB := Lib.hid (HB.out.setCell (p := ⟨w.heap.size + 1, 0, none⟩) (by dsimp only; omega) (.int .i64 m))
      have B1 := Lib.hid (B1.out.far (p := ⟨w.heap.size + 1, 0, none⟩) (by dsimp only; omega) (.int .i64 m))
      have B3 := Lib.hid (B3.out.far (p := ⟨w.heap.size + 1, 0, none⟩) (by dsimp only; omega) (.int .i64 m))
      have hs2 : Blk ((w3.setCell ⟨w.heap.size + 1, 0, none⟩ (.int .i64 m)).setCell ⟨w.heap.size + 1, 1, none⟩ (.bool false)) (w.heap.size + 1) 40 #[.int .i64 m, .bool false, .int .i64 0, .int .i64 0, .int .i64 0, .int .i64 0, .int .i64 0, .int .i64 0, .int .i64 0] := hs1.set_ 1 (.bool false)
      have HB := Lib.hid (HB.out.setCell (p := ⟨w.heap.size + 1, 1, none⟩) (by dsimp only; omega) (.bool false))
      have B1 := Lib.hid (B1.out.far (p := ⟨w.heap.size + 1, 1, none⟩) (by dsimp only; omega) (.bool false))
      have B3 := Lib.hid (B3.out.far (p := ⟨w.heap.size + 1, 1, none⟩) (by dsimp only; omega) (.bool false))
      have hs3 : Blk (((w3.setCell ⟨w.heap.size + 1, 0, none⟩ (.int .i64 m)).setCell ⟨w.heap.size + 1, 1, none⟩ (.bool false)).setCell ⟨w.heap.size + 1, 2, none⟩ (.int .i64 x0)) (w.heap.size + 1) 40 #[.int .i64 m, .bool false, .int .i64 x0, .int .i64 0, .int .i64 0, .int .i64 0, .int .i64 0, .int .i64 0, .int .i64 0] := hs2.set_ 2 (.int .i64 x0)
      have HB := Lib.hid (HB.out.setCell (p := ⟨w.heap.size + 1, 2, none⟩) (by dsimp only; omega) (.int .i64 x0))
      have B1 := Lib.hid (B1.out.far (p := ⟨w.heap.size + 1, 2, none⟩) (by dsimp only; omega) (.int .i64 x0))
      have B3 := Lib.hid (B3.out.far (p := ⟨w.heap.size + 1, 2, none⟩) (by dsimp only; omega) (.int .i64 x0))
      have hs4 : Blk ((((w3.setCell ⟨w.heap.size + 1, 0, none⟩ (.int .i64 m)).setCell ⟨w.heap.size + 1, 1, none⟩ (.bool false)).setCell ⟨w.heap.size + 1, 2, none⟩ (.int .i64 x0)).setCell ⟨w.heap.size + 1, 3, none⟩ (.int .i64 y0)) (w.heap.size + 1) 40 #[.int .i64 m, .bool false, .int .i64 x0, .int .i64 y0, .int .i64 0, .int .i64 0, .int .i64 0, .int .i64 0, .int .i64 0] := hs3.set_ 3 (.int .i64 y0)
      have HB := Lib.hid (HB.out.setCell (p := ⟨w.heap.size + 1, 3, none⟩) (by dsimp only; omega) (.int .i64 y0))
      have B1 := Lib.hid (B1.out.far (p := ⟨w.heap.size + 1, 3, none⟩) (by dsimp only; omega) (.int .i64 y0))
      have B3 := Lib.hid (B3.out.far (p := ⟨w.heap.size + 1, 3, none⟩) (by dsimp only; omega) (.int .i64 y0))
      have hs5 : Blk (((((w3.setCell ⟨w.heap.size + 1, 0, none⟩ (.int .i64 m)).setCell ⟨w.heap.size + 1, 1, none⟩ (.bool false)).setCell ⟨w.heap.size + 1, 2, none⟩ (.int .i64 x0)).setCell ⟨w.heap.size + 1, 3, none⟩ (.int .i64 y0)).setCell ⟨w.heap.size + 1, 4, none⟩ (.int .i64 0)) (w.heap.size + 1) 40 #[.int .i64 m, .bool false, .int .i64 x0, .int .i64 y0, .int .i64 0, .int .i64 0, .int .i64 0, .int .i64 0, .int .i64 0] := hs4.set_ 4 (.int .i64 0)
      have HB := Lib.hid (HB.out.setCell (p := ⟨w.heap.size + 1, 4, none⟩) (by dsimp only; omega) (.int .i64 0))
      have B1 := Lib.hid (B1.out.far (p := ⟨w.heap.size + 1, 4, none⟩) (by dsimp only; omega) (.int .i64 0))
      have B3 := Lib.hid (B3.out.far (p := ⟨w.heap.size + 1, 4, none⟩) (by dsimp only; omega) (.int .i64 0))
      have hs6 : Blk ((((((w3.setCell ⟨w.heap.size + 1, 0, none⟩ (.int .i64 m)).setCell ⟨w.heap.size + 1, 1, none⟩ (.bool false)).setCell ⟨w.heap.size + 1, 2, none⟩ (.int .i64 x0)).setCell ⟨w.heap.size + 1, 3, none⟩ (.int .i64 y0)).setCell ⟨w.heap.size + 1, 4, none⟩ (.int .i64 0)).setCell ⟨w.heap.size + 1, 5, none⟩ (.int .i64 0)) (w.heap.size + 1) 40 #[.int .i64 m, .bool false, .int .i64 x0, .int .i64 y0, .int .i64 0, .int .i64 0, .int .i64 0, .int .i64 0, .int .i64 0] := hs5.set_ 5 (.int .i64 0)
      have HB := Lib.hid (HB.out.setCell (p := ⟨w.heap.size + 1, 5, none⟩) (by dsimp only; omega) (.int .i64 0))
      have B1 := Lib.hid (B1.out.far (p := ⟨w.heap.size + 1, 5, none⟩) (by dsimp only; omega) (.int .i64 0))
      have B3 := Lib.hid (B3.out.far (p := ⟨w.heap.size + 1, 5, none⟩) (by dsimp only; omega) (.int .i64 0))
      have hs7 : Blk (((((((w3.setCell ⟨w.heap.size + 1, 0, none⟩ (.int .i64 m)).setCell ⟨w.heap.size + 1, 1, none⟩ (.bool false)).setCell ⟨w.heap.size + 1, 2, none⟩ (.int .i64 x0)).setCell ⟨w.heap.size + 1, 3, none⟩ (.int .i64 y0)).setCell ⟨w.heap.size + 1, 4, none⟩ (.int .i64 0)).setCell ⟨w.heap.size + 1, 5, none⟩ (.int .i64 0)).setCell ⟨w.heap.size + 1, 6, none⟩ (.int .i64 0)) (w.heap.size + 1) 40 #[.int .i64 m, .bool false, .int .i64 x0, .int .i64 y0, .int .i64 0, .int .i64 0, .int .i64 0, .int .i64 0, .int .i64 0] := hs6.set_ 6 (.int .i64 0)
      have HB := Lib.hid (HB.out.setCell (p := ⟨w.heap.size + 1, 6, none⟩) (by dsimp only; omega) (.int .i64 0))
      have B1 := Lib.hid (B1.out.far (p := ⟨w.heap.size + 1, 6, none⟩) (by dsimp only; omega) (.int .i64 0))
      have B3 := Lib.hid (B3.out.far (p := ⟨w.heap.size + 1, 6, none⟩) (by dsimp only; omega) (.int .i64 0))
      have hs8 : Blk ((((((((w3.setCell ⟨w.heap.size + 1, 0, none⟩ (.int .i64 m)).setCell ⟨w.heap.size + 1, 1, none⟩ (.bool false)).setCell ⟨w.heap.size + 1, 2, none⟩ (.int .i64 x0)).setCell ⟨w.heap.size + 1, 3, none⟩ (.int .i64 y0)).setCell ⟨w.heap.size + 1, 4, none⟩ (.int .i64 0)).setCell ⟨w.heap.size + 1, 5, none⟩ (.int .i64 0)).setCell ⟨w.heap.size + 1, 6, none⟩ (.int .i64 0)).setCell ⟨w.heap.size + 1, 7, none⟩ (.int .i64 0)) (w.heap.size + 1) 40 #[.int .i64 m, .bool false, .int .i64 x0, .int .i64 y0, .int .i64 0, .int .i64 0, .int .i64 0, .int .i64 0, .int .i64 0] := hs7.set_ 7 (.int .i64 0)
      have HB := Lib.hid (HB.out.setCell (p := ⟨w.heap.size + 1, 7, none⟩) (by dsimp only; omega) (.int .i64 0))
      have B1 := Lib.hid (B1.out.far (p := ⟨w.heap.size + 1, 7, none⟩) (by dsimp only; omega) (.int .i64 0))
      have B3 := Lib.hid (B3.out.far (p := ⟨w.heap.size + 1, 7, none⟩) (by dsimp only; omega) (.int .i64 0))
      have hs9 : Blk (((((((((w3.setCell ⟨w.heap.size + 1, 0, none⟩ (.int .i64 m)).setCell ⟨w.heap.size + 1, 1, none⟩ (.bool false)).setCell ⟨w.heap.size + 1, 2, none⟩ (.int .i64 x0)).setCell ⟨w.heap.size + 1, 3, none⟩ (.int .i64 y0)).setCell ⟨w.heap.size + 1, 4, none⟩ (.int .i64 0)).setCell ⟨w.heap.size + 1, 5, none⟩ (.int .i64 0)).setCell ⟨w.heap.size + 1, 6, none⟩ (.int .i64 0)).setCell ⟨w.heap.size + 1, 7, none⟩ (.int .i64 0)).setCell ⟨w.heap.size + 1, 8, none⟩ (.int .i64 0)) (w.heap.size + 1) 40 #[.int .i64 m, .bool false, .int .i64 x0, .int .i64 y0, .int .i64 0, .int .i64 0, .int .i64 0, .int .i64 0, .int .i64 0] := hs8.set_ 8 (.int .i64 0)
      have HB := Lib.hid (HB.out.setCell (p := ⟨w.heap.size + 1, 8, none⟩) (by dsimp only; omega) (.int .i64 0))
      have B1 := Lib.hid (B1.out.far (p := ⟨w.heap.size + 1, 8, none⟩) (by dsimp only; omega) (.int .i64 0))
      have B3 := Lib.hid (B3.out.far (p := ⟨w.heap.size + 1, 8, none⟩) (by dsimp only; omega) (.int .i64 0))
      have B2 := Lib.hid hs9
      clear hs1 hs2 hs3 hs4 hs5 hs6 hs7 hs8 hs9
      generalize (((((((((w3.setCell ⟨w.heap.size + 1, 0, none⟩ (.int .i64 m)).setCell ⟨w.heap.size + 1, 1, none⟩ (.bool false)).setCell ⟨w.heap.size + 1, 2, none⟩ (.int .i64 x0)).setCell ⟨w.heap.size + 1, 3, none⟩ (.int .i64 y0)).setCell ⟨w.heap.size + 1, 4, none⟩ (.int .i64 0)).setCell ⟨w.heap.size + 1, 5, none⟩ (.int .i64 0)).setCell ⟨w.heap.size + 1, 6, none⟩ (.int .i64 0)).setCell ⟨w.heap.size + 1, 7, none⟩ (.int .i64 0)).setCell ⟨w.heap.size + 1, 8, none⟩ (.int .i64 0)) = w4 at *
      have hn := B2.out
      refine bodyPost_ret (results_cell_row rfl _ _ (w.heap.size + 1) 40 _ (0, 0) _ rfl hn Try.underlying40 rfl (by kernel_rfl)) rfl ?_
      exact ⟨rfl, HB.out⟩
    · have hv : plainBk ⟨m, false, x0, y0, x1, y1, d0, d1, d2⟩ = ⟨m, false, 0, 0, x1, y1, 0, 0, 0⟩ := by simp [plainBk, hz, e2, e4]
      rw [hv]
      clear hv hm hz e2 e4
      go_enter Try.func28, Try.ntmps28
      go_upto_region 2 with fail
      have HB := Lib.hid (below_alloc_ (below_alloc_ (below_alloc_ (HB.out) (.cells #[.int .i64 m, .bool false, .int .i64 x0, .int .i64 y0, .int .i64 x1, .int .i64 y1, .int .i64 d0, .int .i64 d1, .int .i64 d2] 40)) (.cells #[.int .i64 0, .bool false, .int .i64 0, .int .i64 0, .int .i64 0, .int .i64 0, .int .i64 0, .int .i64 0, .int .i64 0] 40)) (.cells #[.int .i64 m, .bool false, .int .i64 0, .int .i64 0, .int .i64 0, .int .i64 0, .int .i64 0, .int .i64 0, .int .i64 0] 40))
      have hzw : (((w.alloc (.cells #[.int .i64 m, .bool false, .int .i64 x0, .int .i64 y0, .int .i64 x1, .int .i64 y1, .int .i64 d0, .int .i64 d1, .int .i64 d2] 40)).alloc (.cells #[.int .i64 0, .bool false, .int .i64 0, .int .i64 0, .int .i64 0, .int .i64 0, .int .i64 0, .int .i64 0, .int .i64 0] 40)).alloc (.cells #[.int .i64 m, .bool false, .int .i64 0, .int .i64 0, .int .i64 0, .int .i64 0, .int .i64 0, .int .i64 0, .int .i64 0] 40)).heap.size = w.heap.size + 3 := by simp only [World.size_alloc]
      have B1 := ((Blk.new (w) 40 #[.int .i64 m, .bool false, .int .i64 x0, .int .i64 y0, .int .i64 x1, .int .i64 y1, .int .i64 d0, .int .i64 d1, .int .i64 d2]).alloc (.cells #[.int .i64 0, .bool false, .int .i64 0, .int .i64 0, .int .i64 0, .int .i64 0, .int .i64 0, .int .i64 0, .int .i64 0] 40)).alloc (.cells #[.int .i64 m, .bool false, .int .i64 0, .int .i64 0, .int .i64 0, .int .i64 0, .int .i64 0, .int .i64 0, .int .i64 0] 40)
      skip
      have B1 := Lib.hid B1
      have B2 := (Blk.new (w.alloc (.cells #[.int .i64 m, .bool false, .int .i64 x0, .int .i64 y0, .int .i64 x1, .int .i64 y1, .int .i64 d0, .int .i64 d1, .int .i64 d2] 40)) 40 #[.int .i64 0, .bool false, .int .i64 0, .int .i64 0, .int .i64 0, .int .i64 0, .int .i64 0, .int .i64 0, .int .i64 0]).alloc (.cells #[.int .i64 m, .bool false, .int .i64 0, .int .i64 0, .int .i64 0, .int .i64 0, .int .i64 0, .int .i64 0, .int .i64 0] 40)
      rw [show (w.alloc (.cells #[.int .i64 m, .bool false, .int .i64 x0, .int .i64 y0, .int .i64 x1, .int .i64 y1, .int .i64 d0, .int .i64 d1, .int .i64 d2] 40)).heap.size = w.heap.size + 1 by simp only [World.size_alloc]] at B2
      have B2 := Lib.hid B2
      have B3 := Blk.new ((w.alloc (.cells #[.int .i64 m, .bool false, .int .i64 x0, .int .i64 y0, .int .i64 x1, .int .i64 y1, .int .i64 d0, .int .i64 d1, .int .i64 d2] 40)).alloc (.cells #[.int .i64 0, .bool false, .int .i64 0, .int .i64 0, .int .i64 0, .int .i64 0, .int .i64 0, .int .i64 0, .int .i64 0] 40)) 40 #[.int .i64 m, .bool false, .int .i64 0, .int .i64 0, .int .i64 0, .int .i64 0, .int .i64 0, .int .i64 0, .int .i64 0]
      rw [show ((w.alloc (.cells #[.int .i64 m, .bool false, .int .i64 x0, .int .i64 y0, .int .i64 x1, .int .i64 y1, .int .i64 d0, .int .i64 d1, .int .i64 d2] 40)).alloc (.cells #[.int .i64 0, .bool false, .int .i64 0, .int .i64 0, .int .i64 0, .int .i64 0, .int .i64 0, .int .i64 0, .int .i64 0] 40)).heap.size = w.heap.size + 1 + 1 by simp only [World.size_alloc]] at B3
      have B3 := Lib.hid B3
      generalize ((w.alloc (.cells #[.int .i64 m, .bool false, .int .i64 x0, .int .i64 y0, .int .i64 x1, .int .i64 y1, .int .i64 d0, .int .i64 d1, .int .i64 d2] 40)).alloc (.cells #[.int .i64 0, .bool false, .int .i64 0, .int .i64 0, .int .i64 0, .int .i64 0, .int .i64 0, .int .i64 0, .int .i64 0] 40)).alloc (.cells #[.int .i64 m, .bool false, .int .i64 0, .int .i64 0, .int .i64 0, .int .i64 0, .int .i64 0, .int .i64 0, .int .i64 0] 40) = w1 at *
      clear hzw
      obtain ⟨zB10, zB11, zB12, zB13, zB14, zB15, zB16, zB17, zB18⟩ := (B1.out).cells9
      obtain ⟨zB30, zB31, zB32, zB33, zB34, zB35, zB36, zB37, zB38⟩ := (B3.out).cells9
      obtain ⟨f0, f1, f2, f3, f4, f5, f6, f7, f8⟩ := B3.out.frozens9
      go_upto_region 6 with fail
      clear zB10 zB11 zB12 zB13 zB14 zB15 zB16 zB17 zB18
      clear zB30 zB31 zB32 zB33 zB34 zB35 zB36 zB37 zB38
      clear f0 f1 f2 f3 f4 f5 f6 f7 f8
      have hs1 : Blk (w1.setCell ⟨w.heap.size + 1 + 1, 1, none⟩ (.bool false)) (w.heap.size + 1 + 1) 40 #[.int .i64 m, .bool false, .int .i64 0, .int .i64 0, .int .i64 0, .int .i64 0, .int .i64 0, .int .i64 0, .int .i64 0] := B3.out.set_ 1 (.bool false)
      have HB := Lib.hid (HB.out.setCell (p := ⟨w.heap.size + 1 + 1, 1, none⟩) (by dsimp only; omega) (.bool false))
      have B1 := Lib.hid (B1.out.far (p := ⟨w.heap.size + 1 + 1, 1, none⟩) (by dsimp only; omega) (.bool false))
      have B2 := Lib.hid (B2.out.far (p := ⟨w.heap.size + 1 + 1, 1, none⟩) (by dsimp only; omega) (.bool false))
      have B3 := Lib.hid hs1
      clear hs1
      generalize (w1.setCell ⟨w.heap.size + 1 + 1, 1, none⟩ (.bool false)) = w2 at *
      obtain ⟨zB10, zB11, zB12, zB13, zB14, zB15, zB16, zB17, zB18⟩ := (B1.out).cells9
      obtain ⟨zB30, zB31, zB32, zB33, zB34, zB35, zB36, zB37, zB38⟩ := (B3.out).cells9
      obtain ⟨f0, f1, f2, f3, f4, f5, f6, f7, f8⟩ := B3.out.frozens9
      go_upto_region 10 with fail
      clear zB10 zB11 zB12 zB13 zB14 zB15 zB16 zB17 zB18
      clear zB30 zB31 zB32 zB33 zB34 zB35 zB36 zB37 zB38
      clear f0 f1 f2 f3 f4 f5 f6 f7 f8
      have hs1 : Blk (w2.setCell ⟨w.heap.size + 1 + 1, 4, none⟩ (.int .i64 x1)) (w.heap.size + 1 + 1) 40 #[.int .i64 m, .bool false, .int .i64 0, .int .i64 0, .int .i64 x1, .int .i64 0, .int .i64 0, .int .i64 0, .int .i64 0] := B3.out.set_ 4 (.int .i64 x1)
      have HB := Lib.hid (HB.out.setCell (p := ⟨w.heap.size + 1 + 1, 4, none⟩) (by dsimp only; omega) (.int .i64 x1))
      have B1 := Lib.hid (B1.out.far (p := ⟨w.heap.size + 1 + 1, 4, none⟩) (by dsimp only; omega) (.int .i64 x1))
      have B2 := Lib.hid (B2.out.far (p := ⟨w.heap.size + 1 + 1, 4, none⟩) (by dsimp only; omega) (.int .i64 x1))
      have hs2 : Blk ((w2.setCell ⟨w.heap.size + 1 + 1, 4, none⟩ (.int .i64 x1)).setCell ⟨w.heap.size + 1 + 1, 5, none⟩ (.int .i64 y1)) (w.heap.size + 1 + 1) 40 #[.int .i64 m, .bool false, .int .i64 0, .int .i64 0, .int .i64 x1, .int .i64 y1, .int .i64 0, .int .i64 0, .int .i64 0] := hs1.set_ 5 (.int .i64 y1)
      have HB := Lib.hid (HB.out.setCell (p := ⟨w.heap.size + 1 + 1, 5, none⟩) (by dsimp only; omega) (.int .i64 y1))
      have B1 := Lib.hid (B1.out.far (p := ⟨w.heap.size + 1 + 1, 5, none⟩) (by dsimp only; omega) (.int .i64 y1))
      have B2 := Lib.hid (B2.out.far (p := ⟨w.heap.size + 1 + 1, 5, none⟩) (by dsimp only; omega) (.int .i64 y1))
      have B3 := Lib.hid hs2
      clear hs1 hs2
      generalize ((w2.setCell ⟨w.heap.size + 1 + 1, 4, none⟩ (.int .i64 x1)).setCell ⟨w.heap.size + 1 + 1, 5, none⟩ (.int .i64 y1)) = w3 at *
      obtain ⟨zB10, zB11, zB12, zB13, zB14, zB15, zB16, zB17, zB18⟩ := (B1.out).cells9
      obtain ⟨zB30, zB31, zB32, zB33, zB34, zB35, zB36, zB37, zB38⟩ := (B3.out).cells9
      obtain ⟨f0, f1, f2, f3, f4, f5, f6, f7, f8⟩ := B2.out.frozens9
      obtain ⟨q0, q1, q2, q3, q4, q5, q6, q7, q8⟩ := B2.out.cells9
      go_wp2_with fail
      clear zB10 zB11 zB12 zB13 zB14 zB15 zB16 zB17 zB18
      clear zB30 zB31 zB32 zB33 zB34 zB35 zB36 zB37 zB38
      clear f0 f1 f2 f3 f4 f5 f6 f7 f8 q0 q1 q2 q3 q4 q5 q6 q7 q8
      have hs1 : Blk (w3.setCell ⟨w.heap.size + 1, 0, none⟩ (.int .i64 m)) (w.heap.size + 1) 40 #[.int .i64 m, .bool false, .int .i64 0, .int .i64 0, .int .i64 0, .int .i64 0, .int .i64 0, .int .i64 0, .int .i64 0] := B2.out.set_ 0 (.int .i64 m)
      have HB := Lib.hid (HB.out.setCell (p := ⟨w.heap.size + 1, 0, none⟩) (by dsimp only; omega) (.int .i64 m))
      have B1 := Lib.hid (B1.out.far (p := ⟨w.heap.size + 1, 0, none⟩) (by dsimp only; omega) (.int .i64 m))
      have B3 := Lib.hid (B3.out.far (p := ⟨w.heap.size + 1, 0, none⟩) (by dsimp only; omega) (.int .i64 m))
      have hs2 : Blk ((w3.setCell ⟨w.heap.size + 1, 0, none⟩ (.int .i64 m)).setCell ⟨w.heap.size + 1, 1, none⟩ (.bool false)) (w.heap.size + 1) 40 #[.int .i64 m, .bool false, .int .i64 0, .int .i64 0, .int .i64 0, .int .i64 0, .int .i64 0, .int .i64 0, .int .i64 0] := hs1.set_ 1 (.bool false)
      have HB := Lib.hid (HB.out.setCell (p := ⟨w.heap.size + 1, 1, none⟩) (by dsimp only; omega) (.bool false))
      have B1 := Lib.hid (B1.out.far (p := ⟨w.heap.size + 1, 1, none⟩) (by dsimp only; omega) (.bool false))
      have B3 := Lib.hid (B3.out.far (p := ⟨w.heap.size + 1, 1, none⟩) (by dsimp only; omega) (.bool false))
      have hs3 : Blk (((w3.setCell ⟨w.heap.size + 1, 0, none⟩ (.int .i64 m)).setCell ⟨w.heap.size + 1, 1, none⟩ (.bool false)).setCell ⟨w.heap.size + 1, 2, none⟩ (.int .i64 0)) (w.heap.size + 1) 40 #[.int .i64 m, .bool false, .int .i64 0, .int .i64 0, .int .i64 0, .int .i64 0, .int .i64 0, .int .i64 0, .int .i64 0] := hs2.set_ 2 (.int .i64 0)
      have HB := Lib.hid (HB.out.setCell (p := ⟨w.heap.size + 1, 2, none⟩) (by dsimp only; omega) (.int .i64 0))
      have B1 := Lib.hid (B1.out.far (p := ⟨w.heap.size + 1, 2, none⟩) (by dsimp only; omega) (.int .i64 0))
      have B3 := Lib.hid (B3.out.far (p := ⟨w.heap.size + 1, 2, none⟩) (by dsimp only; omega) (.int .i64 0))
      have hs4 : Blk ((((w3.setCell ⟨w.heap.size + 1, 0, none⟩ (.int .i64 m)).setCell ⟨w.heap.size + 1, 1, none⟩ (.bool false)).setCell ⟨w.heap.size + 1, 2, none⟩ (.int .i64 0)).setCell ⟨w.heap.size + 1, 3, none⟩ (.int .i64 0)) (w.heap.size + 1) 40 #[.int .i64 m, .bool false, .int .i64 0, .int .i64 0, .int .i64 0, .int .i64 0, .int .i64 0, .int .i64 0, .int .i64 0] := hs3.set_ 3 (.int .i64 0)
      have HB := Lib.hid (HB.out.setCell (p := ⟨w.heap.size + 1, 3, none⟩) (by dsimp only; omega) (.int .i64 0))
      have B1 := Lib.hid (B1.out.far (p := ⟨w.heap.size + 1, 3, none⟩) (by dsimp only; omega) (.int .i64 0))
      have B3 := Lib.hid (B3.out.far (p := ⟨w.heap.size + 1, 3, none⟩) (by dsimp only; omega) (.int .i64 0))
      have hs5 : Blk (((((w3.setCell ⟨w.heap.size + 1, 0, none⟩ (.int .i64 m)).setCell ⟨w.heap.size + 1, 1, none⟩ (.bool false)).setCell ⟨w.heap.size + 1, 2, none⟩ (.int .i64 0)).setCell ⟨w.heap.size + 1, 3, none⟩ (.int .i64 0)).setCell ⟨w.heap.size + 1, 4, none⟩ (.int .i64 x1)) (w.heap.size + 1) 40 #[.int .i64 m, .bool false, .int .i64 0, .int .i64 0, .int .i64 x1, .int .i64 0, .int .i64 0, .int .i64 0, .int .i64 0] := hs4.set_ 4 (.int .i64 x1)
      have HB := Lib.hid (HB.out.setCell (p := ⟨w.heap.size + 1, 4, none⟩) (by dsimp only; omega) (.int .i64 x1))
      have B1 := Lib.hid (B1.out.far (p := ⟨w.heap.size + 1, 4, none⟩) (by dsimp only; omega) (.int .i64 x1))
      have B3 := Lib.hid (B3.out.far (p := ⟨w.heap.size + 1, 4, none⟩) (by dsimp only; omega) (.int .i64 x1))
      have hs6 : Blk ((((((w3.setCell ⟨w.heap.size + 1, 0, none⟩ (.int .i64 m)).setCell ⟨w.heap.size + 1, 1, none⟩ (.bool false)).setCell ⟨w.heap.size + 1, 2, none⟩ (.int .i64 0)).setCell ⟨w.heap.size + 1, 3, none⟩ (.int .i64 0)).setCell ⟨w.heap.size + 1, 4, none⟩ (.int .i64 x1)).setCell ⟨w.heap.size + 1, 5, none⟩ (.int .i64 y1)) (w.heap.size + 1) 40 #[.int .i64 m, .bool false, .int .i64 0, .int .i64 0, .int .i64 x1, .int .i64 y1, .int .i64 0, .int .i64 0, .int .i64 0] := hs5.set_ 5 (.int .i64 y1)
      have HB := Lib.hid (HB.out.setCell (p := ⟨w.heap.size + 1, 5, none⟩) (by dsimp only; omega) (.int .i64 y1))
      have B1 := Lib.hid (B1.out.far (p := ⟨w.heap.size + 1, 5, none⟩) (by dsimp only; omega) (.int .i64 y1))
      have B3 := Lib.hid (B3.out.far (p := ⟨w.heap.size + 1, 5, none⟩) (by dsimp only; omega) (.int .i64 y1))
      have hs7 : Blk (((((((w3.setCell ⟨w.heap.size + 1, 0, none⟩ (.int .i64 m)).setCell ⟨w.heap.size + 1, 1, none⟩ (.bool false)).setCell ⟨w.heap.size + 1, 2, none⟩ (.int .i64 0)).setCell ⟨w.heap.size + 1, 3, none⟩ (.int .i64 0)).setCell ⟨w.heap.size + 1, 4, none⟩ (.int .i64 x1)).setCell ⟨w.heap.size + 1, 5, none⟩ (.int .i64 y1)).setCell ⟨w.heap.size + 1, 6, none⟩ (.int .i64 0)) (w.heap.size + 1) 40 #[.int .i64 m, .bool false, .int .i64 0, .int .i64 0, .int .i64 x1, .int .i64 y1, .int .i64 0, .int .i64 0, .int .i64 0] := hs6.set_ 6 (.int .i64 0)
      have HB := Lib.hid (HB.out.setCell (p := ⟨w.heap.size + 1, 6, none⟩) (by dsimp only; omega) (.int .i64 0))
      have B1 := Lib.hid (B1.out.far (p := ⟨w.heap.size + 1, 6, none⟩) (by dsimp only; omega) (.int .i64 0))
      have B3 := Lib.hid (B3.out.far (p := ⟨w.heap.size + 1, 6, none⟩) (by dsimp only; omega) (.int .i64 0))
      have hs8 : Blk ((((((((w3.setCell ⟨w.heap.size + 1, 0, none⟩ (.int .i64 m)).setCell ⟨w.heap.size + 1, 1, none⟩ (.bool false)).setCell ⟨w.heap.size + 1, 2, none⟩ (.int .i64 0)).setCell ⟨w.heap.size + 1, 3, none⟩ (.int .i64 0)).setCell ⟨w.heap.size + 1, 4, none⟩ (.int .i64 x1)).setCell ⟨w.heap.size + 1, 5, none⟩ (.int .i64 y1)).setCell ⟨w.heap.size + 1, 6, none⟩ (.int .i64 0)).setCell ⟨w.heap.size + 1, 7, none⟩ (.int .i64 0)) (w.heap.size + 1) 40 #[.int .i64 m, .bool false, .int .i64 0, .int .i64 0, .int .i64 x1, .int .i64 y1, .int .i64 0, .int .i64 0, .int .i64 0] := hs7.set_ 7 (.int .i64 0)
      have HB := Lib.hid (HB.out.setCell (p := ⟨w.heap.size + 1, 7, none⟩) (by dsimp only; omega) (.int .i64 0))
      have B1 := Lib.hid (B1.out.far (p := ⟨w.heap.size + 1, 7, none⟩) (by dsimp only; omega) (.int .i64 0))
      have B3 := Lib.hid (B3.out.far (p := ⟨w.heap.size + 1, 7, none⟩) (by dsimp only; omega) (.int .i64 0))
      have hs9 : Blk (((((((((w3.setCell ⟨w.heap.size + 1, 0, none⟩ (.int .i64 m)).setCell ⟨w.heap.size + 1, 1, none⟩ (.bool false)).setCell ⟨w.heap.size + 1, 2, none⟩ (.int .i64 0)).setCell ⟨w.heap.size + 1, 3, none⟩ (.int .i64 0)).setCell ⟨w.heap.size + 1, 4, none⟩ (.int .i64 x1)).setCell ⟨w.heap.size + 1, 5, none⟩ (.int .i64 y1)).setCell ⟨w.heap.size + 1, 6, none⟩ (.int .i64 0)).setCell ⟨w.heap.size + 1, 7, none⟩ (.int .i64 0)).setCell ⟨w.heap.size + 1, 8, none⟩ (.int .i64 0)) (w.heap.size + 1) 40 #[.int .i64 m, .bool false, .int .i64 0, .int .i64 0, .int .i64 x1, .int .i64 y1, .int .i64 0, .int .i64 0, .int .i64 0] := hs8.set_ 8 (.int .i64 0)
      have HB := Lib.hid (HB.out.setCell (p := ⟨w.heap.size + 1, 8, none⟩) (by dsimp only; omega) (.int .i64 0))
      have B1 := Lib.hid (B1.out.far (p := ⟨w.heap.size + 1, 8, none⟩) (by dsimp only; omega) (.int .i64 0))
      have B3 := Lib.hid (B3.out.far (p := ⟨w.heap.size + 1, 8, none⟩) (by dsimp only; omega) (.int .i64 0))
      have B2 := Lib.hid hs9
      clear hs1 hs2 hs3 hs4 hs5 hs6 hs7 hs8 hs9
      generalize (((((((((w3.setCell ⟨w.heap.size + 1, 0, none⟩ (.int .i64 m)).setCell ⟨w.heap.size + 1, 1, none⟩ (.bool false)).setCell ⟨w.heap.size + 1, 2, none⟩ (.int .i64 0)).setCell ⟨w.heap.size + 1, 3, none⟩ (.int .i64 0)).setCell ⟨w.heap.size + 1, 4, none⟩ (.int .i64 x1)).setCell ⟨w.heap.size + 1, 5, none⟩ (.int .i64 y1)).setCell ⟨w.heap.size + 1, 6, none⟩ (.int .i64 0)).setCell ⟨w.heap.size + 1, 7, none⟩ (.int .i64 0)).setCell ⟨w.heap.size + 1, 8, none⟩ (.int .i64 0)) = w4 at *
      have hn := B2.out
      refine bodyPost_ret (results_cell_row rfl _ _ (w.heap.size + 1) 40 _ (0, 0) _ rfl hn Try.underlying40 rfl (by kernel_rfl)) rfl ?_
      exact ⟨rfl, HB.out⟩
    · have hv : plainBk ⟨m, false, x0, y0, x1, y1, d0, d1, d2⟩ = ⟨m, false, 0, 0, x1, y1, 0, 0, 0⟩ := by simp [plainBk, hz, e2, e4]
      rw [hv]
      clear hv hm hz e2 e4
      go_enter Try.func28, Try.ntmps28
      go_upto_region 2 with fail
      have HB := Lib.hid (below_alloc_ (below_alloc_ (below_alloc_ (HB.out) (.cells #[.int .i64 m, .bool false, .int .i64 x0, .int .i64 y0, .int .i64 x1, .int .i64 y1, .int .i64 d0, .int .i64 d1, .int .i64 d2] 40)) (.cells #[.int .i64 0, .bool false, .int .i64 0, .int .i64 0, .int .i64 0, .int .i64 0, .int .i64 0, .int .i64 0, .int .i64 0] 40)) (.cells #[.int .i64 m, .bool false, .int .i64 0, .int .i64 0, .int .i64 0, .int .i64 0, .int .i64 0, .int .i64 0, .int .i64 0] 40))
      have hzw : (((w.alloc (.cells #[.int .i64 m, .bool false, .int .i64 x0, .int .i64 y0, .int .i64 x1, .int .i64 y1, .int .i64 d0, .int .i64 d1, .int .i64 d2] 40)).alloc (.cells #[.int .i64 0, .bool false, .int .i64 0, .int .i64 0, .int .i64 0, .int .i64 0, .int .i64 0, .int .i64 0, .int .i64 0] 40)).alloc (.cells #[.int .i64 m, .bool false, .int .i64 0, .int .i64 0, .int .i64 0, .int .i64 0, .int .i64 0, .int .i64 0, .int .i64 0] 40)).heap.size = w.heap.size + 3 := by simp only [World.size_alloc]
      have B1 := ((Blk.new (w) 40 #[.int .i64 m, .bool false, .int .i64 x0, .int .i64 y0, .int .i64 x1, .int .i64 y1, .int .i64 d0, .int .i64 d1, .int .i64 d2]).alloc (.cells #[.int .i64 0, .bool false, .int .i64 0, .int .i64 0, .int .i64 0, .int .i64 0, .int .i64 0, .int .i64 0, .int .i64 0] 40)).alloc (.cells #[.int .i64 m, .bool false, .int .i64 0, .int .i64 0, .int .i64 0, .int .i64 0, .int .i64 0, .int .i64 0, .int .i64 0] 40)
      skip
      have B1 := Lib.hid B1
      have B2 := (Blk.new (w.alloc (.cells #[.int .i64 m, .bool false, .int .i64 x0, .int .i64 y0, .int .i64 x1, .int .i64 y1, .int .i64 d0, .int .i64 d1, .int .i64 d2] 40)) 40 #[.int .i64 0, .bool false, .int .i64 0, .int .i64 0, .int .i64 0, .int .i64 0, .int .i64 0, .int .i64 0, .int .i64 0]).alloc (.cells #[.int .i64 m, .bool false, .int .i64 0, .int .i64 0, .int .i64 0, .int .i64 0, .int .i64 0, .int .i64 0, .int .i64 0] 40)
      rw [show (w.alloc (.cells #[.int .i64 m, .bool false, .int .i64 x0, .int .i64 y0, .int .i64 x1, .int .i64 y1, .int .i64 d0, .int .i64 d1, .int .i64 d2] 40)).heap.size = w.heap.size + 1 by simp only [World.size_alloc]] at B2
      have B2 := Lib.hid B2
      have B3 := Blk.new ((w.alloc (.cells #[.int .i64 m, .bool false, .int .i64 x0, .int .i64 y0, .int .i64 x1, .int .i64 y1, .int .i64 d0, .int .i64 d1, .int .i64 d2] 40)).alloc (.cells #[.int .i64 0, .bool false, .int .i64 0, .int .i64 0, .int .i64 0, .int .i64 0, .int .i64 0, .int .i64 0, .int .i64 0] 40)) 40 #[.int .i64 m, .bool false, .int .i64 0, .int .i64 0, .int .i64 0, .int .i64 0, .int .i64 0, .int .i64 0, .int .i64 0]
      rw [show ((w.alloc (.cells #[.int .i64 m, .bool false, .int .i64 x0, .int .i64 y0, .int .i64 x1, .int .i64 y1, .int .i64 d0, .int .i64 d1, .int .i64 d2] 40)).alloc (.cells #[.int .i64 0, .bool false, .int .i64 0, .int .i64 0, .int .i64 0, .int .i64 0, .int .i64 0, .int .i64 0, .int .i64 0] 40)).heap.size = w.heap.size + 1 + 1 by simp only [World.size_alloc]] at B3
      have B3 := Lib.hid B3
      generalize ((w.alloc (.cells #[.int .i64 m, .bool false, .int .i64 x0, .int .i64 y0, .int .i64 x1, .int .i64 y1, .int .i64 d0, .int .i64 d1, .int .i64 d2] 40)).alloc (.cells #[.int .i64 0, .bool false, .int .i64 0, .int .i64 0, .int .i64 0, .int .i64 0, .int .i64 0, .int .i64 0, .int .i64 0] 40)).alloc (.cells #[.int .i64 m, .bool false, .int .i64 0, .int .i64 0, .int .i64 0, .int .i64 0, .int .i64 0, .int .i64 0, .int .i64 0] 40) = w1 at *
      clear hzw
      obtain ⟨zB10, zB11, zB12, zB13, zB14, zB15, zB16, zB17, zB18⟩ := (B1.out).cells9
      obtain ⟨zB30, zB31, zB32, zB33, zB34, zB35, zB36, zB37, zB38⟩ := (B3.out).cells9
      obtain ⟨f0, f1, f2, f3, f4, f5, f6, f7, f8⟩ := B3.out.frozens9
      go_upto_region 6 with fail
      clear zB10 zB11 zB12 zB13 zB14 zB15 zB16 zB17 zB18
      clear zB30 zB31 zB32 zB33 zB34 zB35 zB36 zB37 zB38
      clear f0 f1 f2 f3 f4 f5 f6 f7 f8
      have hs1 : Blk (w1.setCell ⟨w.heap.size + 1 + 1, 1, none⟩ (.bool false)) (w.heap.size + 1 + 1) 40 #[.int .i64 m, .bool false, .int .i64 0, .int .i64 0, .int .i64 0, .int .i64 0, .int .i64 0, .int .i64 0, .int .i64 0] := B3.out.set_ 1 (.bool false)
      have HB := Lib.hid (HB.out.setCell (p := ⟨w.heap.size + 1 + 1, 1, none⟩) (by dsimp only; omega) (.bool false))
      have B1 := Lib.hid (B1.out.far (p := ⟨w.heap.size + 1 + 1, 1, none⟩) (by dsimp only; omega) (.bool false))
      have B2 := Lib.hid (B2.out.far (p := ⟨w.heap.size + 1 + 1, 1, none⟩) (by dsimp only; omega) (.bool false))
      have B3 := Lib.hid hs1
      clear hs1
      generalize (w1.setCell ⟨w.heap.size + 1 + 1, 1, none⟩ (.bool false)) = w2 at *
      obtain ⟨zB10, zB11, zB12, zB13, zB14, zB15, zB16, zB17, zB18⟩ := (B1.out).cells9
      obtain ⟨zB30, zB31, zB32, zB33, zB34, zB35, zB36, zB37, zB38⟩ := (B3.out).cells9
      obtain ⟨f0, f1, f2, f3, f4, f5, f6, f7, f8⟩ := B3.out.frozens9
      go_upto_region 10 with fail
      clear zB10 zB11 zB12 zB13 zB14 zB15 zB16 zB17 zB18
      clear zB30 zB31 zB32 zB33 zB34 zB35 zB36 zB37 zB38
      clear f0 f1 f2 f3 f4 f5 f6 f7 f8
      have hs1 : Blk (w2.setCell ⟨w.heap.size + 1 + 1, 4, none⟩ (.int .i64 x1)) (w.heap.size + 1 + 1) 40 #[.int .i64 m, .bool false, .int .i64 0, .int .i64 0, .int .i64 x1, .int .i64 0, .int .i64 0, .int .i64 0, .int .i64 0] := B3.out.set_ 4 (.int .i64 x1)
      have HB := Lib.hid (HB.out.setCell (p := ⟨w.heap.size + 1 + 1, 4, none⟩) (by dsimp only; omega) (.int .i64 x1))
      have B1 := Lib.hid (B1.out.far (p := ⟨w.heap.size + 1 + 1, 4, none⟩) (by dsimp only; omega) (.int .i64 x1))
      have B2 := Lib.hid (B2.out.far (p := ⟨w.heap.size + 1 + 1, 4, none⟩) (by dsimp only; omega) (.int .i64 x1))
      have hs2 : Blk ((w2.setCell ⟨w.heap.size + 1 + 1, 4, none⟩ (.int .i64 x1)).setCell ⟨w.heap.size + 1 + 1, 5, none⟩ (.int .i64 y1)) (w.heap.size + 1 + 1) 40 #[.int .i64 m, .bool false, .int .i64 0, .int .i64 0, .int .i64 x1, .int .i64 y1, .int .i64 0, .int .i64 0, .int .i64 0] := hs1.set_ 5 (.int .i64 y1)
      have HB := Lib.hid (HB.out.setCell (p := ⟨w.heap.size + 1 + 1, 5, none⟩) (by dsimp only; omega) (.int .i64 y1))
      have B1 := Lib.hid (B1.out.far (p := ⟨w.heap.size + 1 + 1, 5, none⟩) (by dsimp only; omega) (.int .i64 y1))
      have B2 := Lib.hid (B2.out.far (p := ⟨w.heap.size + 1 + 1, 5, none⟩) (by dsimp only; omega) (.int .i64 y1))
      have B3 := Lib.hid hs2
      clear hs1 hs2
      generalize ((w2.setCell ⟨w.heap.size + 1 + 1, 4, none⟩ (.int .i64 x1)).setCell ⟨w.heap.size + 1 + 1, 5, none⟩ (.int .i64 y1)) = w3 at *
      obtain ⟨zB10, zB11, zB12, zB13, zB14, zB15, zB16, zB17, zB18⟩ := (B1.out).cells9
      obtain ⟨zB30, zB31, zB32, zB33, zB34, zB35, zB36, zB37, zB38⟩ := (B3.out).cells9
      obtain ⟨f0, f1, f2, f3, f4, f5, f6, f7, f8⟩ := B2.out.frozens9
      obtain ⟨q0, q1, q2, q3, q4, q5, q6, q7, q8⟩ := B2.out.cells9
      go_wp2_with fail
      clear zB10 zB11 zB12 zB13 zB14 zB15 zB16 zB17 zB18
      clear zB30 zB31 zB32 zB33 zB34 zB35 zB36 zB37 zB38
      clear f0 f1 f2 f3 f4 f5 f6 f7 f8 q0 q1 q2 q3 q4 q5 q6 q7 q8
      have hs1 : Blk (w3.setCell ⟨w.heap.size + 1, 0, none⟩ (.int .i64 m)) (w.heap.size + 1) 40 #[.int .i64 m, .bool false, .int .i64 0, .int .i64 0, .int .i64 0, .int .i64 0, .int .i64 0, .int .i64 0, .int .i64 0] := B2.out.set_ 0 (.int .i64 m)
      have HB := Lib.hid (HB.out.setCell (p := ⟨w.heap.size + 1, 0, none⟩) (by dsimp only; omega) (.int .i64 m))
      have B1 := Lib.hid (B1.out.far (p := ⟨w.heap.size + 1, 0, none⟩) (by dsimp only; omega) (.int .i64 m))
      have B3 := Lib.hid (B3.out.far (p := ⟨w.heap.size + 1, 0, none⟩) (by dsimp only; omega) (.int .i64 m))
      have hs2 : Blk ((w3.setCell ⟨w.heap.size + 1, 0, none⟩ (.int .i64 m)).setCell ⟨w.heap.size + 1, 1, none⟩ (.bool false)) (w.heap.size + 1) 40 #[.int .i64 m, .bool false, .int .i64 0, .int .i64 0, .int .i64 0, .int .i64 0, .int .i64 0, .int .i64 0, .int .i64 0] := hs1.set_ 1 (.bool false)
      have HB := Lib.hid (HB.out.setCell (p := ⟨w.heap.size + 1, 1, none⟩) (by dsimp only; omega) (.bool false))
      have B1 := Lib.hid (B1.out.far (p := ⟨w.heap.size + 1, 1, none⟩) (by dsimp only; omega) (.bool false))
      have B3 := Lib.hid (B3.out.far (p := ⟨w.heap.size + 1, 1, none⟩) (by dsimp only; omega) (.bool false))
      have hs3 : Blk (((w3.setCell ⟨w.heap.size + 1, 0, none⟩ (.int .i64 m)).setCell ⟨w.heap.size + 1, 1, none⟩ (.bool false)).setCell ⟨w.heap.size + 1, 2, none⟩ (.int .i64 0)) (w.heap.size + 1) 40 #[.int .i64 m, .bool false, .int .i64 0, .int .i64 0, .int .i64 0, .int .i64 0, .int .i64 0, .int .i64 0, .int .i64 0] := hs2.set_ 2 (.int .i64 0)
      have HB := Lib.hid (HB.out.setCell (p := ⟨w.heap.size + 1, 2, none⟩) (by dsimp only; omega) (.int .i64 0))
      have B1 := Lib.hid (B1.out.far (p := ⟨w.heap.size + 1, 2, none⟩) (by dsimp only; omega) (.int .i64 0))
      have B3 := Lib.hid (B3.out.far (p := ⟨w.heap.size + 1, 2, none⟩) (by dsimp only; omega) (.int .i64 0))
      have hs4 : Blk ((((w3.setCell ⟨w.heap.size + 1, 0, none⟩ (.int .i64 m)).setCell ⟨w.heap.size + 1, 1, none⟩ (.bool false)).setCell ⟨w.heap.size + 1, 2, none⟩ (.int .i64 0)).setCell ⟨w.heap.size + 1, 3, none⟩ (.int .i64 0)) (w.heap.size + 1) 40 #[.int .i64 m, .bool false, .int .i64 0, .int .i64 0, .int .i64 0, .int .i64 0, .int .i64 0, .int .i64 0, .int .i64 0] := hs3.set_ 3 (.int .i64 0)
      have HB := Lib.hid (HB.out.setCell (p := ⟨w.heap.size + 1, 3, none⟩) (by dsimp only; omega) (.int .i64 0))
      have B1 := Lib.hid (B1.out.far (p := ⟨w.heap.size + 1, 3, none⟩) (by dsimp only; omega) (.int .i64 0))
      have B3 := Lib.hid (B3.out.far (p := ⟨w.heap.size + 1, 3, none⟩) (by dsimp only; omega) (.int .i64 0))
      have hs5 : Blk (((((w3.setCell ⟨w.heap.size + 1, 0, none⟩ (.int .i64 m)).setCell ⟨w.heap.size + 1, 1, none⟩ (.bool false)).setCell ⟨w.heap.size + 1, 2, none⟩ (.int .i64 0)).setCell ⟨w.heap.size + 1, 3, none⟩ (.int .i64 0)).setCell ⟨w.heap.size + 1, 4, none⟩ (.int .i64 x1)) (w.heap.size + 1) 40 #[.int .i64 m, .bool false, .int .i64 0, .int .i64 0, .int .i64 x1, .int .i64 0, .int .i64 0, .int .i64 0, .int .i64 0] := hs4.set_ 4 (.int .i64 x1)
      have HB := Lib.hid (HB.out.setCell (p := ⟨w.heap.size + 1, 4, none⟩) (by dsimp only; omega) (.int .i64 x1))
      have B1 := Lib.hid (B1.out.far (p := ⟨w.heap.size + 1, 4, none⟩) (by dsimp only; omega) (.int .i64 x1))
      have B3 := Lib.hid (B3.out.far (p := ⟨w.heap.size + 1, 4, none⟩) (by dsimp only; omega) (.int .i64 x1))
      have hs6 : Blk ((((((w3.setCell ⟨w.heap.size + 1, 0, none⟩ (.int .i64 m)).setCell ⟨w.heap.size + 1, 1, none⟩ (.bool false)).setCell ⟨w.heap.size + 1, 2, none⟩ (.int .i64 0)).setCell ⟨w.heap.size + 1, 3, none⟩ (.int .i64 0)).setCell ⟨w.heap.size + 1, 4, none⟩ (.int .i64 x1)).setCell ⟨w.heap.size + 1, 5, none⟩ (.int .i64 y1)) (w.heap.size + 1) 40 #[.int .i64 m, .bool false, .int .i64 0, .int .i64 0, .int .i64 x1, .int .i64 y1, .int .i64 0, .int .i64 0, .int .i64 0] := hs5.set_ 5 (.int .i64 y1)
      have HB := Lib.hid (HB.out.setCell (p := ⟨w.heap.size + 1, 5, none⟩) (by dsimp only; omega) (.int .i64 y1))
      have B1 := Lib.hid (B1.out.far (p := ⟨w.heap.size + 1, 5, none⟩) (by dsimp only; omega) (.int .i64 y1))
      have B3 := Lib.hid (B3.out.far (p := ⟨w.heap.size + 1, 5, none⟩) (by dsimp only; omega) (.int .i64 y1))
      have hs7 : Blk (((((((w3.setCell ⟨w.heap.size + 1, 0, none⟩ (.int .i64 m)).setCell ⟨w.heap.size + 1, 1, none⟩ (.bool false)).setCell ⟨w.heap.size + 1, 2, none⟩ (.int .i64 0)).setCell ⟨w.heap.size + 1, 3, none⟩ (.int .i64 0)).setCell ⟨w.heap.size + 1, 4, none⟩ (.int .i64 x1)).setCell ⟨w.heap.size + 1, 5, none⟩ (.int .i64 y1)).setCell ⟨w.heap.size + 1, 6, none⟩ (.int .i64 0)) (w.heap.size + 1) 40 #[.int .i64 m, .bool false, .int .i64 0, .int .i64 0, .int .i64 x1, .int .i64 y1, .int .i64 0, .int .i64 0, .int .i64 0] := hs6.set_ 6 (.int .i64 0)
      have HB := Lib.hid (HB.out.setCell (p := ⟨w.heap.size + 1, 6, none⟩) (by dsimp only; omega) (.int .i64 0))
      have B1 := Lib.hid (B1.out.far (p := ⟨w.heap.size + 1, 6, none⟩) (by dsimp only; omega) (.int .i64 0))
      have B3 := Lib.hid (B3.out.far (p := ⟨w.heap.size + 1, 6, none⟩) (by dsimp only; omega) (.int .i64 0))
      have hs8 : Blk ((((((((w3.setCell ⟨w.heap.size + 1, 0, none⟩ (.int .i64 m)).setCell ⟨w.heap.size + 1, 1, none⟩ (.bool false)).setCell ⟨w.heap.size + 1, 2, none⟩ (.int .i64 0)).setCell ⟨w.heap.size + 1, 3, none⟩ (.int .i64 0)).setCell ⟨w.heap.size + 1, 4, none⟩ (.int .i64 x1)).setCell ⟨w.heap.size + 1, 5, none⟩ (.int .i64 y1)).setCell ⟨w.heap.size + 1, 6, none⟩ (.int .i64 0)).setCell ⟨w.heap.size + 1, 7, none⟩ (.int .i64 0)) (w.heap.size + 1) 40 #[.int .i64 m, .bool false, .int .i64 0, .int .i64 0, .int .i64 x1, .int .i64 y1, .int .i64 0, .int .i64 0, .int .i64 0] := hs7.set_ 7 (.int .i64 0)
      have HB := Lib.hid (HB.out.setCell (p := ⟨w.heap.size + 1, 7, none⟩) (by dsimp only; omega) (.int .i64 0))
      have B1 := Lib.hid (B1.out.far (p := ⟨w.heap.size + 1, 7, none⟩) (by dsimp only; omega) (.int .i64 0))
      have B3 := Lib.hid (B3.out.far (p := ⟨w.heap.size + 1, 7, none⟩) (by dsimp only; omega) (.int .i64 0))
      have hs9 : Blk (((((((((w3.setCell ⟨w.heap.size + 1, 0, none⟩ (.int .i64 m)).setCell ⟨w.heap.size + 1, 1, none⟩ (.bool false)).setCell ⟨w.heap.size + 1, 2, none⟩ (.int .i64 0)).setCell ⟨w.heap.size + 1, 3, none⟩ (.int .i64 0)).setCell ⟨w.heap.size + 1, 4, none⟩ (.int .i64 x1)).setCell ⟨w.heap.size + 1, 5, none⟩ (.int .i64 y1)).setCell ⟨w.heap.size + 1, 6, none⟩ (.int .i64 0)).setCell ⟨w.heap.size + 1, 7, none⟩ (.int .i64 0)).setCell ⟨w.heap.size + 1, 8, none⟩ (.int .i64 0)) (w.heap.size + 1) 40 #[.int .i64 m, .bool false, .int .i64 0, .int .i64 0, .int .i64 x1, .int .i64 y1, .int .i64 0, .int .i64 0, .int .i64 0] := hs8.set_ 8 (.int .i64 0)
      have HB := Lib.hid (HB.out.setCell (p := ⟨w.heap.size + 1, 8, none⟩) (by dsimp only; omega) (.int .i64 0))
      have B1 := Lib.hid (B1.out.far (p := ⟨w.heap.size + 1, 8, none⟩) (by dsimp only; omega) (.int .i64 0))
      have B3 := Lib.hid (B3.out.far (p := ⟨w.heap.size + 1, 8, none⟩) (by dsimp only; omega) (.int .i64 0))
      have B2 := Lib.hid hs9
      clear hs1 hs2 hs3 hs4 hs5 hs6 hs7 hs8 hs9
      generalize (((((((((w3.setCell ⟨w.heap.size + 1, 0, none⟩ (.int .i64 m)).setCell ⟨w.heap.size + 1, 1, none⟩ (.bool false)).setCell ⟨w.heap.size + 1, 2, none⟩ (.int .i64 0)).setCell ⟨w.heap.size + 1, 3, none⟩ (.int .i64 0)).setCell ⟨w.heap.size + 1, 4, none⟩ (.int .i64 x1)).setCell ⟨w.heap.size + 1, 5, none⟩ (.int .i64 y1)).setCell ⟨w.heap.size + 1, 6, none⟩ (.int .i64 0)).setCell ⟨w.heap.size + 1, 7, none⟩ (.int .i64 0)).setCell ⟨w.heap.size + 1, 8, none⟩ (.int .i64 0)) = w4 at *
      have hn := B2.out
      refine bodyPost_ret (results_cell_row rfl _ _ (w.heap.size + 1) 40 _ (0, 0) _ rfl hn Try.underlying40 rfl (by kernel_rfl)) rfl ?_
      exact ⟨rfl, HB.out⟩
    · have hv : plainBk ⟨m, false, x0, y0, x1, y1, d0, d1, d2⟩ = ⟨m, false, x0, y0, x1, y1, 0, 0, 0⟩ := by simp [plainBk, hz, e2, e4]
      rw [hv]
      clear hv hm hz e2 e4
      go_enter Try.func28, Try.ntmps28
      go_upto_region 2 with fail
      have HB := Lib.hid (below_alloc_ (below_alloc_ (below_alloc_ (HB.out) (.cells #[.int .i64 m, .bool false, .int .i64 x0, .int .i64 y0, .int .i64 x1, .int .i64 y1, .int .i64 d0, .int .i64 d1, .int .i64 d2] 40)) (.cells #[.int .i64 0, .bool false, .int .i64 0, .int .i64 0, .int .i64 0, .int .i64 0, .int .i64 0, .int .i64 0, .int .i64 0] 40)) (.cells #[.int .i64 m, .bool false, .int .i64 0, .int .i64 0, .int .i64 0, .int .i64 0, .int .i64 0, .int .i64 0, .int .i64 0] 40))
      have hzw : (((w.alloc (.cells #[.int .i64 m, .bool false, .int .i64 x0, .int .i64 y0, .int .i64 x1, .int .i64 y1, .int .i64 d0, .int .i64 d1, .int .i64 d2] 40)).alloc (.cells #[.int .i64 0, .bool false, .int .i64 0, .int .i64 0, .int .i64 0, .int .i64 0, .int .i64 0, .int .i64 0, .int .i64 0] 40)).alloc (.cells #[.int .i64 m, .bool false, .int .i64 0, .int .i64 0, .int .i64 0, .int .i64 0, .int .i64 0, .int .i64 0, .int .i64 0] 40)).heap.size = w.heap.size + 3 := by simp only [World.size_alloc]
      have B1 := ((Blk.new (w) 40 #[.int .i64 m, .bool false, .int .i64 x0, .int .i64 y0, .int .i64 x1, .int .i64 y1, .int .i64 d0, .int .i64 d1, .int .i64 d2]).alloc (.cells #[.int .i64 0, .bool false, .int .i64 0, .int .i64 0, .int .i64 0, .int .i64 0, .int .i64 0, .int .i64 0, .int .i64 0] 40)).alloc (.cells #[.int .i64 m, .bool false, .int .i64 0, .int .i64 0, .int .i64 0, .int .i64 0, .int .i64 0, .int .i64 0, .int .i64 0] 40)
      skip
      have B1 := Lib.hid B1
      have B2 := (Blk.new (w.alloc (.cells #[.int .i64 m, .bool false, .int .i64 x0, .int .i64 y0, .int .i64 x1, .int .i64 y1, .int .i64 d0, .int .i64 d1, .int .i64 d2] 40)) 40 #[.int .i64 0, .bool false, .int .i64 0, .int .i64 0, .int .i64 0, .int .i64 0, .int .i64 0, .int .i64 0, .int .i64 0]).alloc (.cells #[.int .i64 m, .bool false, .int .i64 0, .int .i64 0, .int .i64 0, .int .i64 0, .int .i64 0, .int .i64 0, .int .i64 0] 40)
      rw [show (w.alloc (.cells #[.int .i64 m, .bool false, .int .i64 x0, .int .i64 y0, .int .i64 x1, .int .i64 y1, .int .i64 d0, .int .i64 d1, .int .i64 d2] 40)).heap.size = w.heap.size + 1 by simp only [World.size_alloc]] at B2
      have B2 := Lib.hid B2
      have B3 := Blk.new ((w.alloc (.cells #[.int .i64 m, .bool false, .int .i64 x0, .int .i64 y0, .int .i64 x1, .int .i64 y1, .int .i64 d0, .int .i64 d1, .int .i64 d2] 40)).alloc (.cells #[.int .i64 0, .bool false, .int .i64 0, .int .i64 0, .int .i64 0, .int .i64 0, .int .i64 0, .int .i64 0, .int .i64 0] 40)) 40 #[.int .i64 m, .bool false, .int .i64 0, .int .i64 0, .int .i64 0, .int .i64 0, .int .i64 0, .int .i64 0, .int .i64 0]
      rw [show ((w.alloc (.cells #[.int .i64 m, .bool false, .int .i64 x0, .int .i64 y0, .int .i64 x1, .int .i64 y1, .int .i64 d0, .int .i64 d1, .int .i64 d2] 40)).alloc (.cells #[.int .i64 0, .bool false, .int .i64 0, .int .i64 0, .int .i64 0, .int .i64 0, .int .i64 0, .int .i64 0, .int .i64 0] 40)).heap.size = w.heap.size + 1 + 1 by simp only [World.size_alloc]] at B3
      have B3 := Lib.hid B3
      generalize ((w.alloc (.cells #[.int .i64 m, .bool false, .int .i64 x0, .int .i64 y0, .int .i64 x1, .int .i64 y1, .int .i64 d0, .int .i64 d1, .int .i64 d2] 40)).alloc (.cells #[.int .i64 0, .bool false, .int .i64 0, .int .i64 0, .int .i64 0, .int .i64 0, .int .i64 0, .int .i64 0, .int .i64 0] 40)).alloc (.cells #[.int .i64 m, .bool false, .int .i64 0, .int .i64 0, .int .i64 0, .int .i64 0, .int .i64 0, .int .i64 0, .int .i64 0] 40) = w1 at *
      clear hzw
      obtain ⟨zB10, zB11, zB12, zB13, zB14, zB15, zB16, zB17, zB18⟩ := (B1.out).cells9
      obtain ⟨zB30, zB31, zB32, zB33, zB34, zB35, zB36, zB37, zB38⟩ := (B3.out).cells9
      obtain ⟨f0, f1, f2, f3, f4, f5, f6, f7, f8⟩ := B3.out.frozens9
      go_upto_region 6 with fail
      clear zB10 zB11 zB12 zB13 zB14 zB15 zB16 zB17 zB18
      clear zB30 zB31 zB32 zB33 zB34 zB35 zB36 zB37 zB38
      clear f0 f1 f2 f3 f4 f5 f6 f7 f8
      have hs1 : Blk (w1.setCell ⟨w.heap.size + 1 + 1, 1, none⟩ (.bool false)) (w.heap.size + 1 + 1) 40 #[.int .i64 m, .bool false, .int .i64 0, .int .i64 0, .int .i64 0, .int .i64 0, .int .i64 0, .int .i64 0, .int .i64 0] := B3.out.set_ 1 (.bool false)
      have HB := Lib.hid (HB.out.setCell (p := ⟨w.heap.size + 1 + 1, 1, none⟩) (by dsimp only; omega) (.bool false))
      have B1 := Lib.hid (B1.out.far (p := ⟨w.heap.size + 1 + 1, 1, none⟩) (by dsimp only; omega) (.bool false))
      have B2 := Lib.hid (B2.out.far (p := ⟨w.heap.size + 1 + 1, 1, none⟩) (by dsimp only; omega) (.bool false))
      have B3 := Lib.hid hs1
      clear hs1
      generalize (w1.setCell ⟨w.heap.size + 1 + 1, 1, none⟩ (.bool false)) = w2 at *
      obtain ⟨zB10, zB11, zB12, zB13, zB14, zB15, zB16, zB17, zB18⟩ := (B1.out).cells9
      obtain ⟨zB30, zB31, zB32, zB33, zB34, zB35, zB36, zB37, zB38⟩ := (B3.out).cells9
      obtain ⟨f0, f1, f2, f3, f4, f5, f6, f7, f8⟩ := B3.out.frozens9
      go_upto_region 8 with fail
      clear zB10 zB11 zB12 zB13 zB14 zB15 zB16 zB17 zB18
      clear zB30 zB31 zB32 zB33 zB34 zB35 zB36 zB37 zB38
      clear f0 f1 f2 f3 f4 f5 f6 f7 f8
      have hs1 : Blk (w2.setCell ⟨w.heap.size + 1 + 1, 2, none⟩ (.int .i64 x0)) (w.heap.size + 1 + 1) 40 #[.int .i64 m, .bool false, .int .i64 x0, .int .i64 0, .int .i64 0, .int .i64 0, .int .i64 0, .int .i64 0, .int .i64 0] := B3.out.set_ 2 (.int .i64 x0)
      have HB := Lib.hid (HB.out.setCell (p := ⟨w.heap.size + 1 + 1, 2, none⟩) (by dsimp only; omega) (.int .i64 x0))
      have B1 := Lib.hid (B1.out.far (p := ⟨w.heap.size + 1 + 1, 2, none⟩) (by dsimp only; omega) (.int .i64 x0))
      have B2 := Lib.hid (B2.out.far (p := ⟨w.heap.size + 1 + 1, 2, none⟩) (by dsimp only; omega) (.int .i64 x0))
      have hs2 : Blk ((w2.setCell ⟨w.heap.size + 1 + 1, 2, none⟩ (.int .i64 x0)).setCell ⟨w.heap.size + 1 + 1, 3, none⟩ (.int .i64 y0)) (w.heap.size + 1 + 1) 40 #[.int .i64 m, .bool false, .int .i64 x0, .int .i64 y0, .int .i64 0, .int .i64 0, .int .i64 0, .int .i64 0, .int .i64 0] := hs1.set_ 3 (.int .i64 y0)
      have HB := Lib.hid (HB.out.setCell (p := ⟨w.heap.size + 1 + 1, 3, none⟩) (by dsimp only; omega) (.int .i64 y0))
      have B1 := Lib.hid (B1.out.far (p := ⟨w.heap.size + 1 + 1, 3, none⟩) (by dsimp only; omega) (.int .i64 y0))
      have B2 := Lib.hid (B2.out.far (p := ⟨w.heap.size + 1 + 1, 3, none⟩) (by dsimp only; omega) (.int .i64 y0))
      have B3 := Lib.hid hs2
      clear hs1 hs2
      generalize ((w2.setCell ⟨w.heap.size + 1 + 1, 2, none⟩ (.int .i64 x0)).setCell ⟨w.heap.size + 1 + 1, 3, none⟩ (.int .i64 y0)) = w3 at *
      obtain ⟨zB10, zB11, zB12, zB13, zB14, zB15, zB16, zB17, zB18⟩ := (B1.out).cells9
      obtain ⟨zB30, zB31, zB32, zB33, zB34, zB35, zB36, zB37, zB38⟩ := (B3.out).cells9
      obtain ⟨f0, f1, f2, f3, f4, f5, f6, f7, f8⟩ := B3.out.frozens9
      go_upto_region 10 with fail
      clear zB10 zB11 zB12 zB13 zB14 zB15 zB16 zB17 zB18
      clear zB30 zB31 zB32 zB33 zB34 zB35 zB36 zB37 zB38
      clear f0 f1 f2 f3 f4 f5 f6 f7 f8
      have hs1 : Blk (w3.setCell ⟨w.heap.size + 1 + 1, 4, none⟩ (.int .i64 x1)) (w.heap.size + 1 + 1) 40 #[.int .i64 m, .bool false, .int .i64 x0, .int .i64 y0, .int .i64 x1, .int .i64 0, .int .i64 0, .int .i64 0, .int .i64 0] := B3.out.set_ 4 (.int .i64 x1)
      have HB := Lib.hid (HB.out.setCell (p := ⟨w.heap.size + 1 + 1, 4, none⟩) (by dsimp only; omega) (.int .i64 x1))
      have B1 := Lib.hid (B1.out.far (p := ⟨w.heap.size + 1 + 1, 4, none⟩) (by dsimp only; omega) (.int .i64 x1))
      have B2 := Lib.hid (B2.out.far (p := ⟨w.heap.size + 1 + 1, 4, none⟩) (by dsimp only; omega) (.int .i64 x1))
      have hs2 : Blk ((w3.setCell ⟨w.heap.size + 1 + 1, 4, none⟩ (.int .i64 x1)).setCell ⟨w.heap.size + 1 + 1, 5, none⟩ (.int .i64 y1)) (w.heap.size + 1 + 1) 40 #[.int .i64 m, .bool false, .int .i64 x0, .int .i64 y0, .int .i64 x1, .int .i64 y1, .int .i64 0, .int .i64 0, .int .i64 0] := hs1.set_ 5 (.int .i64 y1)
      have HB := Lib.hid (HB.out.setCell (p := ⟨w.heap.size + 1 + 1, 5, none⟩) (by dsimp only; omega) (.int .i64 y1))
      have B1 := Lib.hid (B1.out.far (p := ⟨w.heap.size + 1 + 1, 5, none⟩) (by dsimp only; omega) (.int .i64 y1))
      have B2 := Lib.hid (B2.out.far (p := ⟨w.heap.size + 1 + 1, 5, none⟩) (by dsimp only; omega) (.int .i64 y1))
      have B3 := Lib.hid hs2
      clear hs1 hs2
      generalize ((w3.setCell ⟨w.heap.size + 1 + 1, 4, none⟩ (.int .i64 x1)).setCell ⟨w.heap.size + 1 + 1, 5, none⟩ (.int .i64 y1)) = w4 at *
      obtain ⟨zB10, zB11, zB12, zB13, zB14, zB15, zB16, zB17, zB18⟩ := (B1.out).cells9
      obtain ⟨zB30, zB31, zB32, zB33, zB34, zB35, zB36, zB37, zB38⟩ := (B3.out).cells9
      obtain ⟨f0, f1, f2, f3, f4, f5, f6, f7, f8⟩ := B2.out.frozens9
      obtain ⟨q0, q1, q2, q3, q4, q5, q6, q7, q8⟩ := B2.out.cells9
      go_wp2_with fail
      clear zB10 zB11 zB12 zB13 zB14 zB15 zB16 zB17 zB18
      clear zB30 zB31 zB32 zB33 zB34 zB35 zB36 zB37 zB38
      clear f0 f1 f2 f3 f4 f5 f6 f7 f8 q0 q1 q2 q3 q4 q5 q6 q7 q8
      have hs1 : Blk (w4.setCell ⟨w.heap.size + 1, 0, none⟩ (.int .i64 m)) (w.heap.size + 1) 40 #[.int .i64 m, .bool false, .int .i64 0, .int .i64 0, .int .i64 0, .int .i64 0, .int .i64 0, .int .i64 0, .int .i64 0] := B2.out.set_ 0 (.int .i64 m)
      have HB := Lib.hid (HB.out.setCell (p := ⟨w.heap.size + 1, 0, none⟩) (by dsimp only; omega) (.int .i64 m))
      have B1 := Lib.hid (B1.out.far (p := ⟨w.heap.size + 1, 0, none⟩) (by dsimp only; omega) (.int .i64 m))
      have B3 := Lib.hid (B3.out.far (p := ⟨w.heap.size + 1, 0, none⟩) (by dsimp only; omega) (.int .i64 m))
      have hs2 : Blk ((w4.setCell ⟨w.heap.size + 1, 0, none⟩ (.int .i64 m)).setCell ⟨w.heap.size + 1, 1, none⟩ (.bool false)) (w.heap.size + 1) 40 #[.int .i64 m, .bool false, .int .i64 0, .int .i64 0, .int .i64 0, .int .i64 0, .int .i64 0, .int .i64 0, .int .i64 0] := hs1.set_ 1 (.bool false)
      have HB := Lib.hid (HB.out.setCell (p := ⟨w.heap.size + 1, 1, none⟩) (by dsimp only; omega) (.bool false))
      have B1 := Lib.hid (B1.out.far (p := ⟨w.heap.size + 1, 1, none⟩) (by dsimp only; omega) (.bool false))
      have B3 := Lib.hid (B3.out.far (p := ⟨w.heap.size + 1, 1, none⟩) (by dsimp only; omega) (.bool false))
      have hs3 : Blk (((w4.setCell ⟨w.heap.size + 1, 0, none⟩ (.int .i64 m)).setCell ⟨w.heap.size + 1, 1, none⟩ (.bool false)).setCell ⟨w.heap.size + 1, 2, none⟩ (.int .i64 x0)) (w.heap.size + 1) 40 #[.int .i64 m, .bool false, .int .i64 x0, .int .i64 0, .int .i64 0, .int .i64 0, .int .i64 0, .int .i64 0, .int .i64 0] := hs2.set_ 2 (.int .i64 x0)
      have HB := Lib.hid (HB.out.setCell (p := ⟨w.heap.size + 1, 2, none⟩) (by dsimp only; omega) (.int .i64 x0))
      have B1 := Lib.hid (B1.out.far (p := ⟨w.heap.size + 1, 2, none⟩) (by dsimp only; omega) (.int .i64 x0))
      have B3 := Lib.hid (B3.out.far (p := ⟨w.heap.size + 1, 2, none⟩) (by dsimp only; omega) (.int .i64 x0))
      have hs4 : Blk ((((w4.setCell ⟨w.heap.size + 1, 0, none⟩ (.int .i64 m)).setCell ⟨w.heap.size + 1, 1, none⟩ (.bool false)).setCell ⟨w.heap.size + 1, 2, none⟩ (.int .i64 x0)).setCell ⟨w.heap.size + 1, 3, none⟩ (.int .i64 y0)) (w.heap.size + 1) 40 #[.int .i64 m, .bool false, .int .i64 x0, .int .i64 y0, .int .i64 0, .int .i64 0, .int .i64 0, .int .i64 0, .int .i64 0] := hs3.set_ 3 (.int .i64 y0)
      have HB := Lib.hid (HB.out.setCell (p := ⟨w.heap.size + 1, 3, none⟩) (by dsimp only; omega) (.int .i64 y0))
      have B1 := Lib.hid (B1.out.far (p := ⟨w.heap.size + 1, 3, none⟩) (by dsimp only; omega) (.int .i64 y0))
      have B3 := Lib.hid (B3.out.far (p := ⟨w.heap.size + 1, 3, none⟩) (by dsimp only; omega) (.int .i64 y0))
      have hs5 : Blk (((((w4.setCell ⟨w.heap.size + 1, 0, none⟩ (.int .i64 m)).setCell ⟨w.heap.size + 1, 1, none⟩ (.bool false)).setCell ⟨w.heap.size + 1, 2, none⟩ (.int .i64 x0)).setCell ⟨w.heap.size + 1, 3, none⟩ (.int .i64 y0)).setCell ⟨w.heap.size + 1, 4, none⟩ (.int .i64 x1)) (w.heap.size + 1) 40 #[.int .i64 m, .bool false, .int .i64 x0, .int .i64 y0, .int .i64 x1, .int .i64 0, .int .i64 0, .int .i64 0, .int .i64 0] := hs4.set_ 4 (.int .i64 x1)
      have HB := Lib.hid (HB.out.setCell (p := ⟨w.heap.size + 1, 4, none⟩) (by dsimp only; omega) (.int .i64 x1))
      have B1 := Lib.hid (B1.out.far (p := ⟨w.heap.size + 1, 4, none⟩) (by dsimp only; omega) (.int .i64 x1))
      have B3 := Lib.hid (B3.out.far (p := ⟨w.heap.size + 1, 4, none⟩) (by dsimp only; omega) (.int .i64 x1))
      have hs6 : Blk ((((((w4.setCell ⟨w.heap.size + 1, 0, none⟩ (.int .i64 m)).setCell ⟨w.heap.size + 1, 1, none⟩ (.bool false)).setCell ⟨w.heap.size + 1, 2, none⟩ (.int .i64 x0)).setCell ⟨w.heap.size + 1, 3, none⟩ (.int .i64 y0)).setCell ⟨w.heap.size + 1, 4, none⟩ (.int .i64 x1)).setCell ⟨w.heap.size + 1, 5, none⟩ (.int .i64 y1)) (w.heap.size + 1) 40 #[.int .i64 m, .bool false, .int .i64 x0, .int .i64 y0, .int .i64 x1, .int .i64 y1, .int .i64 0, .int .i64 0, .int .i64 0] := hs5.set_ 5 (.int .i64 y1)
      have HB := Lib.hid (HB.out.setCell (p := ⟨w.heap.size + 1, 5, none⟩) (by dsimp only; omega) (.int .i64 y1))
      have B1 := Lib.hid (B1.out.far (p := ⟨w.heap.size + 1, 5, none⟩) (by dsimp only; omega) (.int .i64 y1))
      have B3 := Lib.hid (B3.out.far (p := ⟨w.heap.size + 1, 5, none⟩) (by dsimp only; omega) (.int .i64 y1))
      have hs7 : Blk (((((((w4.setCell ⟨w.heap.size + 1, 0, none⟩ (.int .i64 m)).setCell ⟨w.heap.size + 1, 1, none⟩ (.bool false)).setCell ⟨w.heap.size + 1, 2, none⟩ (.int .i64 x0)).setCell ⟨w.heap.size + 1, 3, none⟩ (.int .i64 y0)).setCell ⟨w.heap.size + 1, 4, none⟩ (.int .i64 x1)).setCell ⟨w.heap.size + 1, 5, none⟩ (.int .i64 y1)).setCell ⟨w.heap.size + 1, 6, none⟩ (.int .i64 0)) (w.heap.size + 1) 40 #[.int .i64 m, .bool false, .int .i64 x0, .int .i64 y0, .int .i64 x1, .int .i64 y1, .int .i64 0, .int .i64 0, .int .i64 0] := hs6.set_ 6 (.int .i64 0)
      have HB := Lib.hid (HB.out.setCell (p := ⟨w.heap.size + 1, 6, none⟩) (by dsimp only; omega) (.int .i64 0))
      have B1 := Lib.hid (B1.out.far (p := ⟨w.heap.size + 1, 6, none⟩) (by dsimp only; omega) (.int .i64 0))
      have B3 := Lib.hid (B3.out.far (p := ⟨w.heap.size + 1, 6, none⟩) (by dsimp only; omega) (.int .i64 0))
      have hs8 : Blk ((((((((w4.setCell ⟨w.heap.size + 1, 0, none⟩ (.int .i64 m)).setCell ⟨w.heap.size + 1, 1, none⟩ (.bool false)).setCell ⟨w.heap.size + 1, 2, none⟩ (.int .i64 x0)).setCell ⟨w.heap.size + 1, 3, none⟩ (.int .i64 y0)).setCell ⟨w.heap.size + 1, 4, none⟩ (.int .i64 x1)).setCell ⟨w.heap.size + 1, 5, none⟩ (.int .i64 y1)).setCell ⟨w.heap.size + 1, 6, none⟩ (.int .i64 0)).setCell ⟨w.heap.size + 1, 7, none⟩ (.int .i64 0)) (w.heap.size + 1) 40 #[.int .i64 m, .bool false, .int .i64 x0, .int .i64 y0, .int .i64 x1, .int .i64 y1, .int .i64 0, .int .i64 0, .int .i64 0] := hs7.set_ 7 (.int .i64 0)
      have HB := Lib.hid (HB.out.setCell (p := ⟨w.heap.size + 1, 7, none⟩) (by dsimp only; omega) (.int .i64 0))
      have B1 := Lib.hid (B1.out.far (p := ⟨w.heap.size + 1, 7, none⟩) (by dsimp only; omega) (.int .i64 0))
      have B3 := Lib.hid (B3.out.far (p := ⟨w.heap.size + 1, 7, none⟩) (by dsimp only; omega) (.int .i64 0))
      have hs9 : Blk (((((((((w4.setCell ⟨w.heap.size + 1, 0, none⟩ (.int .i64 m)).setCell ⟨w.heap.size + 1, 1, none⟩ (.bool false)).setCell ⟨w.heap.size + 1, 2, none⟩ (.int .i64 x0)).setCell ⟨w.heap.size + 1, 3, none⟩ (.int .i64 y0)).setCell ⟨w.heap.size + 1, 4, none⟩ (.int .i64 x1)).setCell ⟨w.heap.size + 1, 5, none⟩ (.int .i64 y1)).setCell ⟨w.heap.size + 1, 6, none⟩ (.int .i64 0)).setCell ⟨w.heap.size + 1, 7, none⟩ (.int .i64 0)).setCell ⟨w.heap.size + 1, 8, none⟩ (.int .i64 0)) (w.heap.size + 1) 40 #[.int .i64 m, .bool false, .int .i64 x0, .int .i64 y0, .int .i64 x1, .int .i64 y1, .int .i64 0, .int .i64 0, .int .i64 0] := hs8.set_ 8 (.int .i64 0)
      have HB := Lib.hid (HB.out.setCell (p := ⟨w.heap.size + 1, 8, none⟩) (by dsimp only; omega) (.int .i64 0))
      have B1 := Lib.hid (B1.out.far (p := ⟨w.heap.size + 1, 8, none⟩) (by dsimp only; omega) (.int .i64 0))
      have B3 := Lib.hid (B3.out.far (p := ⟨w.heap.size + 1, 8, none⟩) (by dsimp only; omega) (.int .i64 0))
      have B2 := Lib.hid hs9
      clear hs1 hs2 hs3 hs4 hs5 hs6 hs7 hs8 hs9
      generalize (((((((((w4.setCell ⟨w.heap.size + 1, 0, none⟩ (.int .i64 m)).setCell ⟨w.heap.size + 1, 1, none⟩ (.bool false)).setCell ⟨w.heap.size + 1, 2, none⟩ (.int .i64 x0)).setCell ⟨w.heap.size + 1, 3, none⟩ (.int .i64 y0)).setCell ⟨w.heap.size + 1, 4, none⟩ (.int .i64 x1)).setCell ⟨w.heap.size + 1, 5, none⟩ (.int .i64 y1)).setCell ⟨w.heap.size + 1, 6, none⟩ (.int .i64 0)).setCell ⟨w.heap.size + 1, 7, none⟩ (.int .i64 0)).setCell ⟨w.heap.size + 1, 8, none⟩ (.int .i64 0)) = w5 at *
      have hn := B2.out
      refine bodyPost_ret (results_cell_row rfl _ _ (w.heap.size + 1) 40 _ (0, 0) _ rfl hn Try.underlying40 rfl (by kernel_rfl)) rfl ?_
      exact ⟨rfl, HB.out⟩
    · have hv : plainBk ⟨m, false, x0, y0, x1, y1, d0, d1, d2⟩ = ⟨m, false, x0, y0, x1, y1, 0, 0, 0⟩ := by simp [plainBk, hz, e2, e4]
      rw [hv]
      clear hv hm hz e2 e4
      go_enter Try.func28, Try.ntmps28
      go_upto_region 2 with fail
      have HB := Lib.hid (below_alloc_ (below_alloc_ (below_alloc_ (HB.out) (.cells #[.int .i64 m, .bool false, .int .i64 x0, .int .i64 y0, .int .i64 x1, .int .i64 y1, .int .i64 d0, .int .i64 d1, .int .i64 d2] 40)) (.cells #[.int .i64 0, .bool false, .int .i64 0, .int .i64 0, .int .i64 0, .int .i64 0, .int .i64 0, .int .i64 0, .int .i64 0] 40)) (.cells #[.int .i64 m, .bool false, .int .i64 0, .int .i64 0, .int .i64 0, .int .i64 0, .int .i64 0, .int .i64 0, .int .i64 0] 40))
      have hzw : (((w.alloc (.cells #[.int .i64 m, .bool false, .int .i64 x0, .int .i64 y0, .int .i64 x1, .int .i64 y1, .int .i64 d0, .int .i64 d1, .int .i64 d2] 40)).alloc (.cells #[.int .i64 0, .bool false, .int .i64 0, .int .i64 0, .int .i64 0, .int .i64 0, .int .i64 0, .int .i64 0, .int .i64 0] 40)).alloc (.cells #[.int .i64 m, .bool false, .int .i64 0, .int .i64 0, .int .i64 0, .int .i64 0, .int .i64 0, .int .i64 0, .int .i64 0] 40)).heap.size = w.heap.size + 3 := by simp only [World.size_alloc]
      have B1 := ((Blk.new (w) 40 #[.int .i64 m, .bool false, .int .i64 x0, .int .i64 y0, .int .i64 x1, .int .i64 y1, .int .i64 d0, .int .i64 d1, .int .i64 d2]).alloc (.cells #[.int .i64 0, .bool false, .int .i64 0, .int .i64 0, .int .i64 0, .int .i64 0, .int .i64 0, .int .i64 0, .int .i64 0] 40)).alloc (.cells #[.int .i64 m, .bool false, .int .i64 0, .int .i64 0, .int .i64 0, .int .i64 0, .int .i64 0, .int .i64 0, .int .i64 0] 40)
      skip
      have B1 := Lib.hid B1
      have B2 := (Blk.new (w.alloc (.cells #[.int .i64 m, .bool false, .int .i64 x0, .int .i64 y0, .int .i64 x1, .int .i64 y1, .int .i64 d0, .int .i64 d1, .int .i64 d2] 40)) 40 #[.int .i64 0, .bool false, .int .i64 0, .int .i64 0, .int .i64 0, .int .i64 0, .int .i64 0, .int .i64 0, .int .i64 0]).alloc (.cells #[.int .i64 m, .bool false, .int .i64 0, .int .i64 0, .int .i64 0, .int .i64 0, .int .i64 0, .int .i64 0, .int .i64 0] 40)
      rw [show (w.alloc (.cells #[.int .i64 m, .bool false, .int .i64 x0, .int .i64 y0, .int .i64 x1, .int .i64 y1, .int .i64 d0, .int .i64 d1, .int .i64 d2] 40)).heap.size = w.heap.size + 1 by simp only [World.size_alloc]] at B2
      have B2 := Lib.hid B2
      have B3 := Blk.new ((w.alloc (.cells #[.int .i64 m, .bool false, .int .i64 x0, .int .i64 y0, .int .i64 x1, .int .i64 y1, .int .i64 d0, .int .i64 d1, .int .i64 d2] 40)).alloc (.cells #[.int .i64 0, .bool false, .int .i64 0, .int .i64 0, .int .i64 0, .int .i64 0, .int .i64 0, .int .i64 0, .int .i64 0] 40)) 40 #[.int .i64 m, .bool false, .int .i64 0, .int .i64 0, .int .i64 0, .int .i64 0, .int .i64 0, .int .i64 0, .int .i64 0]
      rw [show ((w.alloc (.cells #[.int .i64 m, .bool false, .int .i64 x0, .int .i64 y0, .int .i64 x1, .int .i64 y1, .int .i64 d0, .int .i64 d1, .int .i64 d2] 40)).alloc (.cells #[.int .i64 0, .bool false, .int .i64 0, .int .i64 0, .int .i64 0, .int .i64 0, .int .i64 0, .int .i64 0, .int .i64 0] 40)).heap.size = w.heap.size + 1 + 1 by simp only [World.size_alloc]] at B3
      have B3 := Lib.hid B3
      generalize ((w.alloc (.cells #[.int .i64 m, .bool false, .int .i64 x0, .int .i64 y0, .int .i64 x1, .int .i64 y1, .int .i64 d0, .int .i64 d1, .int .i64 d2] 40)).alloc (.cells #[.int .i64 0, .bool false, .int .i64 0, .int .i64 0, .int .i64 0, .int .i64 0, .int .i64 0, .int .i64 0, .int .i64 0] 40)).alloc (.cells #[.int .i64 m, .bool false, .int .i64 0, .int .i64 0, .int .i64 0, .int .i64 0, .int .i64 0, .int .i64 0, .int .i64 0] 40) = w1 at *
      clear hzw
      obtain ⟨zB10, zB11, zB12, zB13, zB14, zB15, zB16, zB17, zB18⟩ := (B1.out).cells9
      obtain ⟨zB30, zB31, zB32, zB33, zB34, zB35, zB36, zB37, zB38⟩ := (B3.out).cells9
      obtain ⟨f0, f1, f2, f3, f4, f5, f6, f7, f8⟩ := B3.out.frozens9
      go_upto_region 6 with fail
      clear zB10 zB11 zB12 zB13 zB14 zB15 zB16 zB17 zB18
      clear zB30 zB31 zB32 zB33 zB34 zB35 zB36 zB37 zB38
      clear f0 f1 f2 f3 f4 f5 f6 f7 f8
      have hs1 : Blk (w1.setCell ⟨w.heap.size + 1 + 1, 1, none⟩ (.bool false)) (w.heap.size + 1 + 1) 40 #[.int .i64 m, .bool false, .int .i64 0, .int .i64 0, .int .i64 0, .int .i64 0, .int .i64 0, .int .i64 0, .int .i64 0] := B3.out.set_ 1 (.bool false)
      have HB := Lib.hid (HB.out.setCell (p := ⟨w.heap.size + 1 + 1, 1, none⟩) (by dsimp only; omega) (.bool false))
      have B1 := Lib.hid (B1.out.far (p := ⟨w.heap.size + 1 + 1, 1, none⟩) (by dsimp only; omega) (.bool false))
      have B2 := Lib.hid (B2.out.far (p := ⟨w.heap.size + 1 + 1, 1, none⟩) (by dsimp only; omega) (.bool false))
      have B3 := Lib.hid hs1
      clear hs1
      generalize (w1.setCell ⟨w.heap.size + 1 + 1, 1, none⟩ (.bool false)) = w2 at *
      obtain ⟨zB10, zB11, zB12, zB13, zB14, zB15, zB16, zB17, zB18⟩ := (B1.out).cells9
      obtain ⟨zB30, zB31, zB32, zB33, zB34, zB35, zB36, zB37, zB38⟩ := (B3.out).cells9
      obtain ⟨f0, f1, f2, f3, f4, f5, f6, f7, f8⟩ := B3.out.frozens9
      go_upto_region 8 with fail
      clear zB10 zB11 zB12 zB13 zB14 zB15 zB16 zB17 zB18
      clear zB30 zB31 zB32 zB33 zB34 zB35 zB36 zB37 zB38
      clear f0 f1 f2 f3 f4 f5 f6 f7 f8
      have hs1 : Blk (w2.setCell ⟨w.heap.size + 1 + 1, 2, none⟩ (.int .i64 x0)) (w.heap.size + 1 + 1) 40 #[.int .i64 m, .bool false, .int .i64 x0, .int .i64 0, .int .i64 0, .int .i64 0, .int .i64 0, .int .i64 0, .int .i64 0] := B3.out.set_ 2 (.int .i64 x0)
      have HB := Lib.hid (HB.out.setCell (p := ⟨w.heap.size + 1 + 1, 2, none⟩) (by dsimp only; omega) (.int .i64 x0))
      have B1 := Lib.hid (B1.out.far (p := ⟨w.heap.size + 1 + 1, 2, none⟩) (by dsimp only; omega) (.int .i64 x0))
      have B2 := Lib.hid (B2.out.far (p := ⟨w.heap.size + 1 + 1, 2, none⟩) (by dsimp only; omega) (.int .i64 x0))
      have hs2 : Blk ((w2.setCell ⟨w.heap.size + 1 + 1, 2, none⟩ (.int .i64 x0)).setCell ⟨w.heap.size + 1 + 1, 3, none⟩ (.int .i64 y0)) (w.heap.size + 1 + 1) 40 #[.int .i64 m, .bool false, .int .i64 x0, .int .i64 y0, .int .i64 0, .int .i64 0, .int .i64 0, .int .i64 0, .int .i64 0] := hs1.set_ 3 (.int .i64 y0)
      have HB := Lib.hid (HB.out.setCell (p := ⟨w.heap.size + 1 + 1, 3, none⟩) (by dsimp only; omega) (.int .i64 y0))
      have B1 := Lib.hid (B1.out.far (p := ⟨w.heap.size + 1 + 1, 3, none⟩) (by dsimp only; omega) (.int .i64 y0))
      have B2 := Lib.hid (B2.out.far (p := ⟨w.heap.size + 1 + 1, 3, none⟩) (by dsimp only; omega) (.int .i64 y0))
      have B3 := Lib.hid hs2
      clear hs1 hs2
      generalize ((w2.setCell ⟨w.heap.size + 1 + 1, 2, none⟩ (.int .i64 x0)).setCell ⟨w.heap.size + 1 + 1, 3, none⟩ (.int .i64 y0)) = w3 at *
      obtain ⟨zB10, zB11, zB12, zB13, zB14, zB15, zB16, zB17, zB18⟩ := (B1.out).cells9
      obtain ⟨zB30, zB31, zB32, zB33, zB34, zB35, zB36, zB37, zB38⟩ := (B3.out).cells9
      obtain ⟨f0, f1, f2, f3, f4, f5, f6, f7, f8⟩ := B3.out.frozens9
      go_upto_region 10 with fail
      clear zB10 zB11 zB12 zB13 zB14 zB15 zB16 zB17 zB18
      clear zB30 zB31 zB32 zB33 zB34 zB35 zB36 zB37 zB38
      clear f0 f1 f2 f3 f4 f5 f6 f7 f8
      have hs1 : Blk (w3.setCell ⟨w.heap.size + 1 + 1, 4, none⟩ (.int .i64 x1)) (w.heap.size + 1 + 1) 40 #[.int .i64 m, .bool false, .int .i64 x0, .int .i64 y0, .int .i64 x1, .int .i64 0, .int .i64 0, .int .i64 0, .int .i64 0] := B3.out.set_ 4 (.int .i64 x1)
      have HB := Lib.hid (HB.out.setCell (p := ⟨w.heap.size + 1 + 1, 4, none⟩) (by dsimp only; omega) (.int .i64 x1))
      have B1 := Lib.hid (B1.out.far (p := ⟨w.heap.size + 1 + 1, 4, none⟩) (by dsimp only; omega) (.int .i64 x1))
      have B2 := Lib.hid (B2.out.far (p := ⟨w.heap.size + 1 + 1, 4, none⟩) (by dsimp only; omega) (.int .i64 x1))
      have hs2 : Blk ((w3.setCell ⟨w.heap.size + 1 + 1, 4, none⟩ (.int .i64 x1)).setCell ⟨w.heap.size + 1 + 1, 5, none⟩ (.int .i64 y1)) (w.heap.size + 1 + 1) 40 #[.int .i64 m, .bool false, .int .i64 x0, .int .i64 y0, .int .i64 x1, .int .i64 y1, .int .i64 0, .int .i64 0, .int .i64 0] := hs1.set_ 5 (.int .i64 y1)
      have HB := Lib.hid (HB.out.setCell (p := ⟨w.heap.size + 1 + 1, 5, none⟩) (by dsimp only; omega) (.int .i64 y1))
      have B1 := Lib.hid (B1.out.far (p := ⟨w.heap.size + 1 + 1, 5, none⟩) (by dsimp only; omega) (.int .i64 y1))
      have B2 := Lib.hid (B2.out.far (p := ⟨w.heap.size + 1 + 1, 5, none⟩) (by dsimp only; omega) (.int .i64 y1))
      have B3 := Lib.hid hs2
      clear hs1 hs2
      generalize ((w3.setCell ⟨w.heap.size + 1 + 1, 4, none⟩ (.int .i64 x1)).setCell ⟨w.heap.size + 1 + 1, 5, none⟩ (.int .i64 y1)) = w4 at *
      obtain ⟨zB10, zB11, zB12, zB13, zB14, zB15, zB16, zB17, zB18⟩ := (B1.out).cells9
      obtain ⟨zB30, zB31, zB32, zB33, zB34, zB35, zB36, zB37, zB38⟩ := (B3.out).cells9
      obtain ⟨f0, f1, f2, f3, f4, f5, f6, f7, f8⟩ := B2.out.frozens9
      obtain ⟨q0, q1, q2, q3, q4, q5, q6, q7, q8⟩ := B2.out.cells9
      go_wp2_with fail
      clear zB10 zB11 zB12 zB13 zB14 zB15 zB16 zB17 zB18
      clear zB30 zB31 zB32 zB33 zB34 zB35 zB36 zB37 zB38
      clear f0 f1 f2 f3 f4 f5 f6 f7 f8 q0 q1 q2 q3 q4 q5 q6 q7 q8
      have hs1 : Blk (w4.setCell ⟨w.heap.size + 1, 0, none⟩ (.int .i64 m)) (w.heap.size + 1) 40 #[.int .i64 m, .bool false, .int .i64 0, .int .i64 0, .int .i64 0, .int .i64 0, .int .i64 0, .int .i64 0, .int .i64 0] := B2.out.set_ 0 (.int .i64 m)
      have HB := Lib.hid (HB.out.setCell (p := ⟨w.heap.size + 1, 0, none⟩) (by dsimp only; omega) (.int .i64 m))
      have B1 := Lib.hid (B1.out.far (p := ⟨w.heap.size + 1, 0, none⟩) (by dsimp only; omega) (.int .i64 m))
      have B3 := Lib.hid (B3.out.far (p := ⟨w.heap.size + 1, 0, none⟩) (by dsimp only; omega) (.int .i64 m))
      have hs2 : Blk ((w4.setCell ⟨w.heap.size + 1, 0, none⟩ (.int .i64 m)).setCell ⟨w.heap.size + 1, 1, none⟩ (.bool false)) (w.heap.size + 1) 40 #[.int .i64 m, .bool false, .int .i64 0, .int .i64 0, .int .i64 0, .int .i64 0, .int .i64 0, .int .i64 0, .int .i64 0] := hs1.set_ 1 (.bool false)
      have HB := Lib.hid (HB.out.setCell (p := ⟨w.heap.size + 1, 1, none⟩) (by dsimp only; omega) (.bool false))
      have B1 := Lib.hid (B1.out.far (p := ⟨w.heap.size + 1, 1, none⟩) (by dsimp only; omega) (.bool false))
      have B3 := Lib.hid (B3.out.far (p := ⟨w.heap.size + 1, 1, none⟩) (by dsimp only; omega) (.bool false))
      have hs3 : Blk (((w4.setCell ⟨w.heap.size + 1, 0, none⟩ (.int .i64 m)).setCell ⟨w.heap.size + 1, 1, none⟩ (.bool false)).setCell ⟨w.heap.size + 1, 2, none⟩ (.int .i64 x0)) (w.heap.size + 1) 40 #[.int .i64 m, .bool false, .int .i64 x0, .int .i64 0, .int .i64 0, .int .i64 0, .int .i64 0, .int .i64 0, .int .i64 0] := hs2.set_ 2 (.int .i64 x0)
      have HB := Lib.hid (HB.out.setCell (p := ⟨w.heap.size + 1, 2, none⟩) (by dsimp only; omega) (.int .i64 x0))
      have B1 := Lib.hid (B1.out.far (p := ⟨w.heap.size + 1, 2, none⟩) (by dsimp only; omega) (.int .i64 x0))
      have B3 := Lib.hid (B3.out.far (p := ⟨w.heap.size + 1, 2, none⟩) (by dsimp only; omega) (.int .i64 x0))
      have hs4 : Blk ((((w4.setCell ⟨w.heap.size + 1, 0, none⟩ (.int .i64 m)).setCell ⟨w.heap.size + 1, 1, none⟩ (.bool false)).setCell ⟨w.heap.size + 1, 2, none⟩ (.int .i64 x0)).setCell ⟨w.heap.size + 1, 3, none⟩ (.int .i64 y0)) (w.heap.size + 1) 40 #[.int .i64 m, .bool false, .int .i64 x0, .int .i64 y0, .int .i64 0, .int .i64 0, .int .i64 0, .int .i64 0, .int .i64 0] := hs3.set_ 3 (.int .i64 y0)
      have HB := Lib.hid (HB.out.setCell (p := ⟨w.heap.size + 1, 3, none⟩) (by dsimp only; omega) (.int .i64 y0))
      have B1 := Lib.hid (B1.out.far (p := ⟨w.heap.size + 1, 3, none⟩) (by dsimp only; omega) (.int .i64 y0))
      have B3 := Lib.hid (B3.out.far (p := ⟨w.heap.size + 1, 3, none⟩) (by dsimp only; omega) (.int .i64 y0))
      have hs5 : Blk (((((w4.setCell ⟨w.heap.size + 1, 0, none⟩ (.int .i64 m)).setCell ⟨w.heap.size + 1, 1, none⟩ (.bool false)).setCell ⟨w.heap.size + 1, 2, none⟩ (.int .i64 x0)).setCell ⟨w.heap.size + 1, 3, none⟩ (.int .i64 y0)).setCell ⟨w.heap.size + 1, 4, none⟩ (.int .i64 x1)) (w.heap.size + 1) 40 #[.int .i64 m, .bool false, .int .i64 x0, .int .i64 y0, .int .i64 x1, .int .i64 0, .int .i64 0, .int .i64 0, .int .i64 0] := hs4.set_ 4 (.int .i64 x1)
      have HB := Lib.hid (HB.out.setCell (p := ⟨w.heap.size + 1, 4, none⟩) (by dsimp only; omega) (.int .i64 x1))
      have B1 := Lib.hid (B1.out.far (p := ⟨w.heap.size + 1, 4, none⟩) (by dsimp only; omega) (.int .i64 x1))
      have B3 := Lib.hid (B3.out.far (p := ⟨w.heap.size + 1, 4, none⟩) (by dsimp only; omega) (.int .i64 x1))
      have hs6 : Blk ((((((w4.setCell ⟨w.heap.size + 1, 0, none⟩ (.int .i64 m)).setCell ⟨w.heap.size + 1, 1, none⟩ (.bool false)).setCell ⟨w.heap.size + 1, 2, none⟩ (.int .i64 x0)).setCell ⟨w.heap.size + 1, 3, none⟩ (.int .i64 y0)).setCell ⟨w.heap.size + 1, 4, none⟩ (.int .i64 x1)).setCell ⟨w.heap.size + 1, 5, none⟩ (.int .i64 y1)) (w.heap.size + 1) 40 #[.int .i64 m, .bool false, .int .i64 x0, .int .i64 y0, .int .i64 x1, .int .i64 y1, .int .i64 0, .int .i64 0, .int .i64 0] := hs5.set_ 5 (.int .i64 y1)
      have HB := Lib.hid (HB.out.setCell (p := ⟨w.heap.size + 1, 5, none⟩) (by dsimp only; omega) (.int .i64 y1))
      have B1 := Lib.hid (B1.out.far (p := ⟨w.heap.size + 1, 5, none⟩) (by dsimp only; omega) (.int .i64 y1))
      have B3 := Lib.hid (B3.out.far (p := ⟨w.heap.size + 1, 5, none⟩) (by dsimp only; omega) (.int .i64 y1))
      have hs7 : Blk (((((((w4.setCell ⟨w.heap.size + 1, 0, none⟩ (.int .i64 m)).setCell ⟨w.heap.size + 1, 1, none⟩ (.bool false)).setCell ⟨w.heap.size + 1, 2, none⟩ (.int .i64 x0)).setCell ⟨w.heap.size + 1, 3, none⟩ (.int .i64 y0)).setCell ⟨w.heap.size + 1, 4, none⟩ (.int .i64 x1)).setCell ⟨w.heap.size + 1, 5, none⟩ (.int .i64 y1)).setCell ⟨w.heap.size + 1, 6, none⟩ (.int .i64 0)) (w.heap.size + 1) 40 #[.int .i64 m, .bool false, .int .i64 x0, .int .i64 y0, .int .i64 x1, .int .i64 y1, .int .i64 0, .int .i64 0, .int .i64 0] := hs6.set_ 6 (.int .i64 0)
      have HB := Lib.hid (HB.out.setCell (p := ⟨w.heap.size + 1, 6, none⟩) (by dsimp only; omega) (.int .i64 0))
      have B1 := Lib.hid (B1.out.far (p := ⟨w.heap.size + 1, 6, none⟩) (by dsimp only; omega) (.int .i64 0))
      have B3 := Lib.hid (B3.out.far (p := ⟨w.heap.size + 1, 6, none⟩) (by dsimp only; omega) (.int .i64 0))
      have hs8 : Blk ((((((((w4.setCell ⟨w.heap.size + 1, 0, none⟩ (.int .i64 m)).setCell ⟨w.heap.size + 1, 1, none⟩ (.bool false)).setCell ⟨w.heap.size + 1, 2, none⟩ (.int .i64 x0)).setCell ⟨w.heap.size + 1, 3, none⟩ (.int .i64 y0)).setCell ⟨w.heap.size + 1, 4, none⟩ (.int .i64 x1)).setCell ⟨w.heap.size + 1, 5, none⟩ (.int .i64 y1)).setCell ⟨w.heap.size + 1, 6, none⟩ (.int .i64 0)).setCell ⟨w.heap.size + 1, 7, none⟩ (.int .i64 0)) (w.heap.size + 1) 40 #[.int .i64 m, .bool false, .int .i64 x0, .int .i64 y0, .int .i64 x1, .int .i64 y1, .int .i64 0, .int .i64 0, .int .i64 0] := hs7.set_ 7 (.int .i64 0)
      have HB := Lib.hid (HB.out.setCell (p := ⟨w.heap.size + 1, 7, none⟩) (by dsimp only; omega) (.int .i64 0))
      have B1 := Lib.hid (B1.out.far (p := ⟨w.heap.size + 1, 7, none⟩) (by dsimp only; omega) (.int .i64 0))
      have B3 := Lib.hid (B3.out.far (p := ⟨w.heap.size + 1, 7, none⟩) (by dsimp only; omega) (.int .i64 0))
      have hs9 : Blk (((((((((w4.setCell ⟨w.heap.size + 1, 0, none⟩ (.int .i64 m)).setCell ⟨w.heap.size + 1, 1, none⟩ (.bool false)).setCell ⟨w.heap.size + 1, 2, none⟩ (.int .i64 x0)).setCell ⟨w.heap.size + 1, 3, none⟩ (.int .i64 y0)).setCell ⟨w.heap.size + 1, 4, none⟩ (.int .i64 x1)).setCell ⟨w.heap.size + 1, 5, none⟩ (.int .i64 y1)).setCell ⟨w.heap.size + 1, 6, none⟩ (.int .i64 0)).setCell ⟨w.heap.size + 1, 7, none⟩ (.int .i64 0)).setCell ⟨w.heap.size + 1, 8, none⟩ (.int .i64 0)) (w.heap.size + 1) 40 #[.int .i64 m, .bool false, .int .i64 x0, .int .i64 y0, .int .i64 x1, .int .i64 y1, .int .i64 0, .int .i64 0, .int .i64 0] := hs8.set_ 8 (.int .i64 0)
      have HB := Lib.hid (HB.out.setCell (p := ⟨w.heap.size + 1, 8, none⟩) (by dsimp only; omega) (.int .i64 0))
      have B1 := Lib.hid (B1.out.far (p := ⟨w.heap.size + 1, 8, none⟩) (by dsimp only; omega) (.int .i64 0))
      have B3 := Lib.hid (B3.out.far (p := ⟨w.heap.size + 1, 8, none⟩) (by dsimp only; omega) (.int .i64 0))
      have B2 := Lib.hid hs9
      clear hs1 hs2 hs3 hs4 hs5 hs6 hs7 hs8 hs9
      generalize (((((((((w4.setCell ⟨w.heap.size + 1, 0, none⟩ (.int .i64 m)).setCell ⟨w.heap.size + 1, 1, none⟩ (.bool false)).setCell ⟨w.heap.size + 1, 2, none⟩ (.int .i64 x0)).setCell ⟨w.heap.size + 1, 3, none⟩ (.int .i64 y0)).setCell ⟨w.heap.size + 1, 4, none⟩ (.int .i64 x1)).setCell ⟨w.heap.size + 1, 5, none⟩ (.int .i64 y1)).setCell ⟨w.heap.size + 1, 6, none⟩ (.int .i64 0)).setCell ⟨w.heap.size + 1, 7, none⟩ (.int .i64 0)).setCell ⟨w.heap.size + 1, 8, none⟩ (.int .i64 0)) = w5 at *
      have hn := B2.out
      refine bodyPost_ret (results_cell_row rfl _ _ (w.heap.size + 1) 40 _ (0, 0) _ rfl hn Try.underlying40 rfl (by kernel_rfl)) rfl ?_
      exact ⟨rfl, HB.out⟩

end Go.Proofs.Ytiedjeholmoccaa
