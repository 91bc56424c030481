/- Params: bases, right videos, what is other, the best base. -/
import Derived.Test.YtgdlleoefncikaaPar4
import Derived.Test.YtgdlleoefncikaaWalk
import Derived.Test.YtgdlleoefncikaaMono4
namespace Go.Proofs.Ytgdlleoefncikaa
open Go.RowKit
set_option linter.unusedVariables false
set_option linter.unusedSimpArgs false
def btw (n l m : Int) : Bool := decide (l ≤ n) && decide (n ≤ m)
def rightVd (v : Vd) : Bool := btw v.W 1 128 && btw v.H 1 128 && btw v.C 0 2 && btw v.B 8 16
set_option maxRecDepth 100000 in
set_option maxHeartbeats 6400000 in
theorem btw_c (n l m : Int) (w : World) : Calls Try.prog 36 #[.int .i64 n, .int .i64 l, .int .i64 m] w fun e w' => e = .returned (.bool (btw n l m)) ∧ Below w.heap.size w w' := by
  unfold btw
  by_cases h1 : l ≤ n
  · rw [show decide (l ≤ n) = true by simpa using h1, Bool.true_and]
    by_cases h2 : n ≤ m
    · rw [show decide (n ≤ m) = true by simpa using h2]
      go_enter Try.func36, Try.ntmps36
      go_wp2_with fail
      go_ret
      exact ⟨rfl, Below.refl _ _⟩
    · rw [show decide (n ≤ m) = false by simpa using h2]
      have h3 : m < n := by omega
      go_enter Try.func36, Try.ntmps36
      go_wp2_with fail
      go_ret
      exact ⟨by simp, Below.refl _ _⟩
  · rw [show decide (l ≤ n) = false by simpa using h1, Bool.false_and]
    have h3 : n < l := by omega
    have h4 : decide (l ≤ n) = false := by simpa using h1
    go_enter Try.func36, Try.ntmps36
    go_wp2_with fail
    go_ret
    exact ⟨rfl, Below.refl _ _⟩
set_option maxRecDepth 100000 in
set_option maxHeartbeats 6400000 in
theorem precon_0 (v : Vd) (w : World) (h0 : btw v.W 1 128 = false) : Calls Try.prog 22 #[vdV v] w fun e w' => e = .returned (.bool false) ∧ Below w.heap.size w w' := by
  have HB := Lib.hid (Below.refl w.heap.size w)
  have H0 := Lib.hid h0
  clear h0
  go_enter Try.func22, Try.ntmps22
  go_wp2_with fail
  have HB := Lib.hid (below_alloc_ (HB.out) (.cells #[.int .i64 v.W, .int .i64 v.H, .int .i64 v.C, .int .i64 v.B] 23))
  have hzw : (w.alloc (.cells #[.int .i64 v.W, .int .i64 v.H, .int .i64 v.C, .int .i64 v.B] 23)).heap.size = w.heap.size + 1 := by simp only [World.size_alloc]
  have B1 := Blk.new (w) 23 #[.int .i64 v.W, .int .i64 v.H, .int .i64 v.C, .int .i64 v.B]
  skip
  have B1 := Lib.hid B1
  generalize w.alloc (.cells #[.int .i64 v.W, .int .i64 v.H, .int .i64 v.C, .int .i64 v.B] 23) = w1 at *
  clear hzw
  have HB1 := Lib.hid (Below.refl w1.heap.size w1)
  obtain ⟨zB10, zB11, zB12, zB13⟩ := (B1.out.below HB1.out B1.out.lt).cells4
  go_wp2_with fail
  clear zB10 zB11 zB12 zB13
  refine (btw_c v.W 1 128 _).mono ?_
  rintro e w2 ⟨rfl, hb'⟩
  have HB1 := Lib.hid ((HB1.out).trans (hb'.mono (HB1.out).size))
  clear hb'
  rw [H0.out]
  obtain ⟨zB10, zB11, zB12, zB13⟩ := (B1.out.below HB1.out B1.out.lt).cells4
  go_wp2_with fail
  clear zB10 zB11 zB12 zB13
  go_ret
  exact ⟨rfl, HB.out.trans (HB1.out.mono HB.out.size)⟩
set_option maxRecDepth 100000 in
set_option maxHeartbeats 6400000 in
theorem precon_1 (v : Vd) (w : World) (h0 : btw v.W 1 128 = true) (h1 : btw v.H 1 128 = false) : Calls Try.prog 22 #[vdV v] w fun e w' => e = .returned (.bool false) ∧ Below w.heap.size w w' := by
  have HB := Lib.hid (Below.refl w.heap.size w)
  have H0 := Lib.hid h0
  have H1 := Lib.hid h1
  clear h0
  clear h1
  go_enter Try.func22, Try.ntmps22
  go_wp2_with fail
  have HB := Lib.hid (below_alloc_ (HB.out) (.cells #[.int .i64 v.W, .int .i64 v.H, .int .i64 v.C, .int .i64 v.B] 23))
  have hzw : (w.alloc (.cells #[.int .i64 v.W, .int .i64 v.H, .int .i64 v.C, .int .i64 v.B] 23)).heap.size = w.heap.size + 1 := by simp only [World.size_alloc]
  have B1 := Blk.new (w) 23 #[.int .i64 v.W, .int .i64 v.H, .int .i64 v.C, .int .i64 v.B]
  skip
  have B1 := Lib.hid B1
  generalize w.alloc (.cells #[.int .i64 v.W, .int .i64 v.H, .int .i64 v.C, .int .i64 v.B] 23) = w1 at *
  clear hzw
  have HB1 := Lib.hid (Below.refl w1.heap.size w1)
  obtain ⟨zB10, zB11, zB12, zB13⟩ := (B1.out.below HB1.out B1.out.lt).cells4
  go_wp2_with fail
  clear zB10 zB11 zB12 zB13
  refine (btw_c v.W 1 128 _).mono ?_
  rintro e w2 ⟨rfl, hb'⟩
  have HB1 := Lib.hid ((HB1.out).trans (hb'.mono (HB1.out).size))
  clear hb'
  rw [H0.out]
  obtain ⟨zB10, zB11, zB12, zB13⟩ := (B1.out.below HB1.out B1.out.lt).cells4
  go_wp2_with fail
  clear zB10 zB11 zB12 zB13
  refine (btw_c v.H 1 128 _).mono ?_
  rintro e w3 ⟨rfl, hb'⟩
  have HB1 := Lib.hid ((HB1.out).trans (hb'.mono (HB1.out).size))
  clear hb'
  rw [H1.out]
  obtain ⟨zB10, zB11, zB12, zB13⟩ := (B1.out.below HB1.out B1.out.lt).cells4
  go_wp2_with fail
  clear zB10 zB11 zB12 zB13
  go_ret
  exact ⟨rfl, HB.out.trans (HB1.out.mono HB.out.size)⟩
set_option maxRecDepth 100000 in
set_option maxHeartbeats 6400000 in
theorem precon_2 (v : Vd) (w : World) (h0 : btw v.W 1 128 = true) (h1 : btw v.H 1 128 = true) (h2 : btw v.C 0 2 = false) : Calls Try.prog 22 #[vdV v] w fun e w' => e = .returned (.bool false) ∧ Below w.heap.size w w' := by
  have HB := Lib.hid (Below.refl w.heap.size w)
  have H0 := Lib.hid h0
  have H1 := Lib.hid h1
  have H2 := Lib.hid h2
  clear h0
  clear h1
  clear h2
  go_enter Try.func22, Try.ntmps22
  go_wp2_with fail
  have HB := Lib.hid (below_alloc_ (HB.out) (.cells #[.int .i64 v.W, .int .i64 v.H, .int .i64 v.C, .int .i64 v.B] 23))
  have hzw : (w.alloc (.cells #[.int .i64 v.W, .int .i64 v.H, .int .i64 v.C, .int .i64 v.B] 23)).heap.size = w.heap.size + 1 := by simp only [World.size_alloc]
  have B1 := Blk.new (w) 23 #[.int .i64 v.W, .int .i64 v.H, .int .i64 v.C, .int .i64 v.B]
  skip
  have B1 := Lib.hid B1
  generalize w.alloc (.cells #[.int .i64 v.W, .int .i64 v.H, .int .i64 v.C, .int .i64 v.B] 23) = w1 at *
  clear hzw
  have HB1 := Lib.hid (Below.refl w1.heap.size w1)
  obtain ⟨zB10, zB11, zB12, zB13⟩ := (B1.out.below HB1.out B1.out.lt).cells4
  go_wp2_with fail
  clear zB10 zB11 zB12 zB13
  refine (btw_c v.W 1 128 _).mono ?_
  rintro e w2 ⟨rfl, hb'⟩
  have HB1 := Lib.hid ((HB1.out).trans (hb'.mono (HB1.out).size))
  clear hb'
  rw [H0.out]
  obtain ⟨zB10, zB11, zB12, zB13⟩ := (B1.out.below HB1.out B1.out.lt).cells4
  go_wp2_with fail
  clear zB10 zB11 zB12 zB13
  refine (btw_c v.H 1 128 _).mono ?_
  rintro e w3 ⟨rfl, hb'⟩
  have HB1 := Lib.hid ((HB1.out).trans (hb'.mono (HB1.out).size))
  clear hb'
  rw [H1.out]
  obtain ⟨zB10, zB11, zB12, zB13⟩ := (B1.out.below HB1.out B1.out.lt).cells4
  go_wp2_with fail
  clear zB10 zB11 zB12 zB13
  refine (btw_c v.C 0 2 _).mono ?_
  rintro e w4 ⟨rfl, hb'⟩
  have HB1 := Lib.hid ((HB1.out).trans (hb'.mono (HB1.out).size))
  clear hb'
  rw [H2.out]
  obtain ⟨zB10, zB11, zB12, zB13⟩ := (B1.out.below HB1.out B1.out.lt).cells4
  go_wp2_with fail
  clear zB10 zB11 zB12 zB13
  go_ret
  exact ⟨rfl, HB.out.trans (HB1.out.mono HB.out.size)⟩
set_option maxRecDepth 100000 in
set_option maxHeartbeats 6400000 in
theorem precon_3 (v : Vd) (w : World) (h0 : btw v.W 1 128 = true) (h1 : btw v.H 1 128 = true) (h2 : btw v.C 0 2 = true) (h3 : btw v.B 8 16 = false) : Calls Try.prog 22 #[vdV v] w fun e w' => e = .returned (.bool false) ∧ Below w.heap.size w w' := by
  have HB := Lib.hid (Below.refl w.heap.size w)
  have H0 := Lib.hid h0
  have H1 := Lib.hid h1
  have H2 := Lib.hid h2
  have H3 := Lib.hid h3
  clear h0
  clear h1
  clear h2
  clear h3
  go_enter Try.func22, Try.ntmps22
  go_wp2_with fail
  have HB := Lib.hid (below_alloc_ (HB.out) (.cells #[.int .i64 v.W, .int .i64 v.H, .int .i64 v.C, .int .i64 v.B] 23))
  have hzw : (w.alloc (.cells #[.int .i64 v.W, .int .i64 v.H, .int .i64 v.C, .int .i64 v.B] 23)).heap.size = w.heap.size + 1 := by simp only [World.size_alloc]
  have B1 := Blk.new (w) 23 #[.int .i64 v.W, .int .i64 v.H, .int .i64 v.C, .int .i64 v.B]
  skip
  have B1 := Lib.hid B1
  generalize w.alloc (.cells #[.int .i64 v.W, .int .i64 v.H, .int .i64 v.C, .int .i64 v.B] 23) = w1 at *
  clear hzw
  have HB1 := Lib.hid (Below.refl w1.heap.size w1)
  obtain ⟨zB10, zB11, zB12, zB13⟩ := (B1.out.below HB1.out B1.out.lt).cells4
  go_wp2_with fail
  clear zB10 zB11 zB12 zB13
  refine (btw_c v.W 1 128 _).mono ?_
  rintro e w2 ⟨rfl, hb'⟩
  have HB1 := Lib.hid ((HB1.out).trans (hb'.mono (HB1.out).size))
  clear hb'
  rw [H0.out]
  obtain ⟨zB10, zB11, zB12, zB13⟩ := (B1.out.below HB1.out B1.out.lt).cells4
  go_wp2_with fail
  clear zB10 zB11 zB12 zB13
  refine (btw_c v.H 1 128 _).mono ?_
  rintro e w3 ⟨rfl, hb'⟩
  have HB1 := Lib.hid ((HB1.out).trans (hb'.mono (HB1.out).size))
  clear hb'
  rw [H1.out]
  obtain ⟨zB10, zB11, zB12, zB13⟩ := (B1.out.below HB1.out B1.out.lt).cells4
  go_wp2_with fail
  clear zB10 zB11 zB12 zB13
  refine (btw_c v.C 0 2 _).mono ?_
  rintro e w4 ⟨rfl, hb'⟩
  have HB1 := Lib.hid ((HB1.out).trans (hb'.mono (HB1.out).size))
  clear hb'
  rw [H2.out]
  obtain ⟨zB10, zB11, zB12, zB13⟩ := (B1.out.below HB1.out B1.out.lt).cells4
  go_wp2_with fail
  clear zB10 zB11 zB12 zB13
  refine (btw_c v.B 8 16 _).mono ?_
  rintro e w5 ⟨rfl, hb'⟩
  have HB1 := Lib.hid ((HB1.out).trans (hb'.mono (HB1.out).size))
  clear hb'
  rw [H3.out]
  obtain ⟨zB10, zB11, zB12, zB13⟩ := (B1.out.below HB1.out B1.out.lt).cells4
  go_wp2_with fail
  clear zB10 zB11 zB12 zB13
  go_ret
  exact ⟨rfl, HB.out.trans (HB1.out.mono HB.out.size)⟩
set_option maxRecDepth 100000 in
set_option maxHeartbeats 6400000 in
theorem precon_4 (v : Vd) (w : World) (h0 : btw v.W 1 128 = true) (h1 : btw v.H 1 128 = true) (h2 : btw v.C 0 2 = true) (h3 : btw v.B 8 16 = true) : Calls Try.prog 22 #[vdV v] w fun e w' => e = .returned (.bool true) ∧ Below w.heap.size w w' := by
  have HB := Lib.hid (Below.refl w.heap.size w)
  have H0 := Lib.hid h0
  have H1 := Lib.hid h1
  have H2 := Lib.hid h2
  have H3 := Lib.hid h3
  clear h0
  clear h1
  clear h2
  clear h3
  go_enter Try.func22, Try.ntmps22
  go_wp2_with fail
  have HB := Lib.hid (below_alloc_ (HB.out) (.cells #[.int .i64 v.W, .int .i64 v.H, .int .i64 v.C, .int .i64 v.B] 23))
  have hzw : (w.alloc (.cells #[.int .i64 v.W, .int .i64 v.H, .int .i64 v.C, .int .i64 v.B] 23)).heap.size = w.heap.size + 1 := by simp only [World.size_alloc]
  have B1 := Blk.new (w) 23 #[.int .i64 v.W, .int .i64 v.H, .int .i64 v.C, .int .i64 v.B]
  skip
  have B1 := Lib.hid B1
  generalize w.alloc (.cells #[.int .i64 v.W, .int .i64 v.H, .int .i64 v.C, .int .i64 v.B] 23) = w1 at *
  clear hzw
  have HB1 := Lib.hid (Below.refl w1.heap.size w1)
  obtain ⟨zB10, zB11, zB12, zB13⟩ := (B1.out.below HB1.out B1.out.lt).cells4
  go_wp2_with fail
  clear zB10 zB11 zB12 zB13
  refine (btw_c v.W 1 128 _).mono ?_
  rintro e w2 ⟨rfl, hb'⟩
  have HB1 := Lib.hid ((HB1.out).trans (hb'.mono (HB1.out).size))
  clear hb'
  rw [H0.out]
  obtain ⟨zB10, zB11, zB12, zB13⟩ := (B1.out.below HB1.out B1.out.lt).cells4
  go_wp2_with fail
  clear zB10 zB11 zB12 zB13
  refine (btw_c v.H 1 128 _).mono ?_
  rintro e w3 ⟨rfl, hb'⟩
  have HB1 := Lib.hid ((HB1.out).trans (hb'.mono (HB1.out).size))
  clear hb'
  rw [H1.out]
  obtain ⟨zB10, zB11, zB12, zB13⟩ := (B1.out.below HB1.out B1.out.lt).cells4
  go_wp2_with fail
  clear zB10 zB11 zB12 zB13
  refine (btw_c v.C 0 2 _).mono ?_
  rintro e w4 ⟨rfl, hb'⟩
  have HB1 := Lib.hid ((HB1.out).trans (hb'.mono (HB1.out).size))
  clear hb'
  rw [H2.out]
  obtain ⟨zB10, zB11, zB12, zB13⟩ := (B1.out.below HB1.out B1.out.lt).cells4
  go_wp2_with fail
  clear zB10 zB11 zB12 zB13
  refine (btw_c v.B 8 16 _).mono ?_
  rintro e w5 ⟨rfl, hb'⟩
  have HB1 := Lib.hid ((HB1.out).trans (hb'.mono (HB1.out).size))
  clear hb'
  rw [H3.out]
  obtain ⟨zB10, zB11, zB12, zB13⟩ := (B1.out.below HB1.out B1.out.lt).cells4
  go_wp2_with fail
  clear zB10 zB11 zB12 zB13
  go_ret
  exact ⟨rfl, HB.out.trans (HB1.out.mono HB.out.size)⟩
theorem precon_c (v : Vd) (w : World) : Calls Try.prog 22 #[vdV v] w fun e w' => e = .returned (.bool (rightVd v)) ∧ Below w.heap.size w w' := by
  unfold rightVd
  cases h0 : btw v.W 1 128 with
  | false => exact precon_0 v w h0
  | true =>
    cases h1 : btw v.H 1 128 with
    | false => exact precon_1 v w h0 h1
    | true =>
      cases h2 : btw v.C 0 2 with
      | false => exact precon_2 v w h0 h1 h2
      | true =>
        cases h3 : btw v.B 8 16 with
        | false => exact precon_3 v w h0 h1 h2 h3
        | true => exact precon_4 v w h0 h1 h2 h3
set_option maxRecDepth 100000 in
set_option maxHeartbeats 6400000 in
theorem rrecon_0 (v : Vd) (w : World) (h0 : v.W < 1) : Calls Try.prog 14 #[vdV v] w fun e w' => e = .returned (.bool false) ∧ Below w.heap.size w w' := by
  have HB := Lib.hid (Below.refl w.heap.size w)
  obtain ⟨W, H, C, B⟩ := v
  dsimp only at *
  have d0 : decide (1 ≤ W) = false := by simp; omega
  go_enter Try.func14, Try.ntmps14
  go_wp2_with fail
  have HB := Lib.hid (below_alloc_ (HB.out) (.cells #[.int .i64 W, .int .i64 H, .int .i64 C, .int .i64 B] 23))
  have hzw : (w.alloc (.cells #[.int .i64 W, .int .i64 H, .int .i64 C, .int .i64 B] 23)).heap.size = w.heap.size + 1 := by simp only [World.size_alloc]
  have B1 := Blk.new (w) 23 #[.int .i64 W, .int .i64 H, .int .i64 C, .int .i64 B]
  skip
  have B1 := Lib.hid B1
  generalize w.alloc (.cells #[.int .i64 W, .int .i64 H, .int .i64 C, .int .i64 B] 23) = w1 at *
  clear hzw
  obtain ⟨zB10, zB11, zB12, zB13⟩ := (B1.out).cells4
  go_wp2_with fail
  clear zB10 zB11 zB12 zB13
  go_ret
  exact ⟨rfl, HB.out⟩
set_option maxRecDepth 100000 in
set_option maxHeartbeats 6400000 in
theorem rrecon_1 (v : Vd) (w : World) (h0 : 1 ≤ v.W) (h1 : 128 < v.W) : Calls Try.prog 14 #[vdV v] w fun e w' => e = .returned (.bool false) ∧ Below w.heap.size w w' := by
  have HB := Lib.hid (Below.refl w.heap.size w)
  obtain ⟨W, H, C, B⟩ := v
  dsimp only at *
  have d0 : decide (1 ≤ W) = true := by simp; omega
  have d1 : decide (W ≤ 128) = false := by simp; omega
  go_enter Try.func14, Try.ntmps14
  go_wp2_with fail
  have HB := Lib.hid (below_alloc_ (HB.out) (.cells #[.int .i64 W, .int .i64 H, .int .i64 C, .int .i64 B] 23))
  have hzw : (w.alloc (.cells #[.int .i64 W, .int .i64 H, .int .i64 C, .int .i64 B] 23)).heap.size = w.heap.size + 1 := by simp only [World.size_alloc]
  have B1 := Blk.new (w) 23 #[.int .i64 W, .int .i64 H, .int .i64 C, .int .i64 B]
  skip
  have B1 := Lib.hid B1
  generalize w.alloc (.cells #[.int .i64 W, .int .i64 H, .int .i64 C, .int .i64 B] 23) = w1 at *
  clear hzw
  obtain ⟨zB10, zB11, zB12, zB13⟩ := (B1.out).cells4
  go_wp2_with fail
  clear zB10 zB11 zB12 zB13
  go_ret
  exact ⟨rfl, HB.out⟩
set_option maxRecDepth 100000 in
set_option maxHeartbeats 6400000 in
theorem rrecon_2 (v : Vd) (w : World) (h0 : 1 ≤ v.W) (h1 : v.W ≤ 128) (h2 : v.H < 1) : Calls Try.prog 14 #[vdV v] w fun e w' => e = .returned (.bool false) ∧ Below w.heap.size w w' := by
  have HB := Lib.hid (Below.refl w.heap.size w)
  obtain ⟨W, H, C, B⟩ := v
  dsimp only at *
  have d0 : decide (1 ≤ W) = true := by simp; omega
  have d1 : decide (W ≤ 128) = true := by simp; omega
  have d2 : decide (1 ≤ H) = false := by simp; omega
  go_enter Try.func14, Try.ntmps14
  go_wp2_with fail
  have HB := Lib.hid (below_alloc_ (HB.out) (.cells #[.int .i64 W, .int .i64 H, .int .i64 C, .int .i64 B] 23))
  have hzw : (w.alloc (.cells #[.int .i64 W, .int .i64 H, .int .i64 C, .int .i64 B] 23)).heap.size = w.heap.size + 1 := by simp only [World.size_alloc]
  have B1 := Blk.new (w) 23 #[.int .i64 W, .int .i64 H, .int .i64 C, .int .i64 B]
  skip
  have B1 := Lib.hid B1
  generalize w.alloc (.cells #[.int .i64 W, .int .i64 H, .int .i64 C, .int .i64 B] 23) = w1 at *
  clear hzw
  obtain ⟨zB10, zB11, zB12, zB13⟩ := (B1.out).cells4
  go_wp2_with fail
  clear zB10 zB11 zB12 zB13
  go_ret
  exact ⟨rfl, HB.out⟩
set_option maxRecDepth 100000 in
set_option maxHeartbeats 6400000 in
theorem rrecon_3 (v : Vd) (w : World) (h0 : 1 ≤ v.W) (h1 : v.W ≤ 128) (h2 : 1 ≤ v.H) (h3 : 128 < v.H) : Calls Try.prog 14 #[vdV v] w fun e w' => e = .returned (.bool false) ∧ Below w.heap.size w w' := by
  have HB := Lib.hid (Below.refl w.heap.size w)
  obtain ⟨W, H, C, B⟩ := v
  dsimp only at *
  have d0 : decide (1 ≤ W) = true := by simp; omega
  have d1 : decide (W ≤ 128) = true := by simp; omega
  have d2 : decide (1 ≤ H) = true := by simp; omega
  have d3 : decide (H ≤ 128) = false := by simp; omega
  go_enter Try.func14, Try.ntmps14
  go_wp2_with fail
  have HB := Lib.hid (below_alloc_ (HB.out) (.cells #[.int .i64 W, .int .i64 H, .int .i64 C, .int .i64 B] 23))
  have hzw : (w.alloc (.cells #[.int .i64 W, .int .i64 H, .int .i64 C, .int .i64 B] 23)).heap.size = w.heap.size + 1 := by simp only [World.size_alloc]
  have B1 := Blk.new (w) 23 #[.int .i64 W, .int .i64 H, .int .i64 C, .int .i64 B]
  skip
  have B1 := Lib.hid B1
  generalize w.alloc (.cells #[.int .i64 W, .int .i64 H, .int .i64 C, .int .i64 B] 23) = w1 at *
  clear hzw
  obtain ⟨zB10, zB11, zB12, zB13⟩ := (B1.out).cells4
  go_wp2_with fail
  clear zB10 zB11 zB12 zB13
  go_ret
  exact ⟨rfl, HB.out⟩
set_option maxRecDepth 100000 in
set_option maxHeartbeats 6400000 in
theorem rrecon_4 (v : Vd) (w : World) (h0 : 1 ≤ v.W) (h1 : v.W ≤ 128) (h2 : 1 ≤ v.H) (h3 : v.H ≤ 128) (h4 : v.C < 0) : Calls Try.prog 14 #[vdV v] w fun e w' => e = .returned (.bool false) ∧ Below w.heap.size w w' := by
  have HB := Lib.hid (Below.refl w.heap.size w)
  obtain ⟨W, H, C, B⟩ := v
  dsimp only at *
  have d0 : decide (1 ≤ W) = true := by simp; omega
  have d1 : decide (W ≤ 128) = true := by simp; omega
  have d2 : decide (1 ≤ H) = true := by simp; omega
  have d3 : decide (H ≤ 128) = true := by simp; omega
  have d4 : decide (0 ≤ C) = false := by simp; omega
  go_enter Try.func14, Try.ntmps14
  go_wp2_with fail
  have HB := Lib.hid (below_alloc_ (HB.out) (.cells #[.int .i64 W, .int .i64 H, .int .i64 C, .int .i64 B] 23))
  have hzw : (w.alloc (.cells #[.int .i64 W, .int .i64 H, .int .i64 C, .int .i64 B] 23)).heap.size = w.heap.size + 1 := by simp only [World.size_alloc]
  have B1 := Blk.new (w) 23 #[.int .i64 W, .int .i64 H, .int .i64 C, .int .i64 B]
  skip
  have B1 := Lib.hid B1
  generalize w.alloc (.cells #[.int .i64 W, .int .i64 H, .int .i64 C, .int .i64 B] 23) = w1 at *
  clear hzw
  obtain ⟨zB10, zB11, zB12, zB13⟩ := (B1.out).cells4
  go_wp2_with fail
  clear zB10 zB11 zB12 zB13
  go_ret
  exact ⟨rfl, HB.out⟩
set_option maxRecDepth 100000 in
set_option maxHeartbeats 6400000 in
theorem rrecon_5 (v : Vd) (w : World) (h0 : 1 ≤ v.W) (h1 : v.W ≤ 128) (h2 : 1 ≤ v.H) (h3 : v.H ≤ 128) (h4 : 0 ≤ v.C) (h5 : 2 < v.C) : Calls Try.prog 14 #[vdV v] w fun e w' => e = .returned (.bool false) ∧ Below w.heap.size w w' := by
  have HB := Lib.hid (Below.refl w.heap.size w)
  obtain ⟨W, H, C, B⟩ := v
  dsimp only at *
  have d0 : decide (1 ≤ W) = true := by simp; omega
  have d1 : decide (W ≤ 128) = true := by simp; omega
  have d2 : decide (1 ≤ H) = true := by simp; omega
  have d3 : decide (H ≤ 128) = true := by simp; omega
  have d4 : decide (0 ≤ C) = true := by simp; omega
  have d5 : decide (C ≤ 2) = false := by simp; omega
  go_enter Try.func14, Try.ntmps14
  go_wp2_with fail
  have HB := Lib.hid (below_alloc_ (HB.out) (.cells #[.int .i64 W, .int .i64 H, .int .i64 C, .int .i64 B] 23))
  have hzw : (w.alloc (.cells #[.int .i64 W, .int .i64 H, .int .i64 C, .int .i64 B] 23)).heap.size = w.heap.size + 1 := by simp only [World.size_alloc]
  have B1 := Blk.new (w) 23 #[.int .i64 W, .int .i64 H, .int .i64 C, .int .i64 B]
  skip
  have B1 := Lib.hid B1
  generalize w.alloc (.cells #[.int .i64 W, .int .i64 H, .int .i64 C, .int .i64 B] 23) = w1 at *
  clear hzw
  obtain ⟨zB10, zB11, zB12, zB13⟩ := (B1.out).cells4
  go_wp2_with fail
  clear zB10 zB11 zB12 zB13
  go_ret
  exact ⟨rfl, HB.out⟩
set_option maxRecDepth 100000 in
set_option maxHeartbeats 6400000 in
theorem rrecon_6 (v : Vd) (w : World) (h0 : 1 ≤ v.W) (h1 : v.W ≤ 128) (h2 : 1 ≤ v.H) (h3 : v.H ≤ 128) (h4 : 0 ≤ v.C) (h5 : v.C ≤ 2) (h6 : v.B < 8) : Calls Try.prog 14 #[vdV v] w fun e w' => e = .returned (.bool false) ∧ Below w.heap.size w w' := by
  have HB := Lib.hid (Below.refl w.heap.size w)
  obtain ⟨W, H, C, B⟩ := v
  dsimp only at *
  have d0 : decide (1 ≤ W) = true := by simp; omega
  have d1 : decide (W ≤ 128) = true := by simp; omega
  have d2 : decide (1 ≤ H) = true := by simp; omega
  have d3 : decide (H ≤ 128) = true := by simp; omega
  have d4 : decide (0 ≤ C) = true := by simp; omega
  have d5 : decide (C ≤ 2) = true := by simp; omega
  have d6 : decide (8 ≤ B) = false := by simp; omega
  go_enter Try.func14, Try.ntmps14
  go_wp2_with fail
  have HB := Lib.hid (below_alloc_ (HB.out) (.cells #[.int .i64 W, .int .i64 H, .int .i64 C, .int .i64 B] 23))
  have hzw : (w.alloc (.cells #[.int .i64 W, .int .i64 H, .int .i64 C, .int .i64 B] 23)).heap.size = w.heap.size + 1 := by simp only [World.size_alloc]
  have B1 := Blk.new (w) 23 #[.int .i64 W, .int .i64 H, .int .i64 C, .int .i64 B]
  skip
  have B1 := Lib.hid B1
  generalize w.alloc (.cells #[.int .i64 W, .int .i64 H, .int .i64 C, .int .i64 B] 23) = w1 at *
  clear hzw
  obtain ⟨zB10, zB11, zB12, zB13⟩ := (B1.out).cells4
  go_wp2_with fail
  clear zB10 zB11 zB12 zB13
  go_ret
  exact ⟨rfl, HB.out⟩
set_option maxRecDepth 100000 in
set_option maxHeartbeats 6400000 in
theorem rrecon_7 (v : Vd) (w : World) (h0 : 1 ≤ v.W) (h1 : v.W ≤ 128) (h2 : 1 ≤ v.H) (h3 : v.H ≤ 128) (h4 : 0 ≤ v.C) (h5 : v.C ≤ 2) (h6 : 8 ≤ v.B) (h7 : 16 < v.B) : Calls Try.prog 14 #[vdV v] w fun e w' => e = .returned (.bool false) ∧ Below w.heap.size w w' := by
  have HB := Lib.hid (Below.refl w.heap.size w)
  obtain ⟨W, H, C, B⟩ := v
  dsimp only at *
  have d0 : decide (1 ≤ W) = true := by simp; omega
  have d1 : decide (W ≤ 128) = true := by simp; omega
  have d2 : decide (1 ≤ H) = true := by simp; omega
  have d3 : decide (H ≤ 128) = true := by simp; omega
  have d4 : decide (0 ≤ C) = true := by simp; omega
  have d5 : decide (C ≤ 2) = true := by simp; omega
  have d6 : decide (8 ≤ B) = true := by simp; omega
  have d7 : decide (B ≤ 16) = false := by simp; omega
  go_enter Try.func14, Try.ntmps14
  go_wp2_with fail
  have HB := Lib.hid (below_alloc_ (HB.out) (.cells #[.int .i64 W, .int .i64 H, .int .i64 C, .int .i64 B] 23))
  have hzw : (w.alloc (.cells #[.int .i64 W, .int .i64 H, .int .i64 C, .int .i64 B] 23)).heap.size = w.heap.size + 1 := by simp only [World.size_alloc]
  have B1 := Blk.new (w) 23 #[.int .i64 W, .int .i64 H, .int .i64 C, .int .i64 B]
  skip
  have B1 := Lib.hid B1
  generalize w.alloc (.cells #[.int .i64 W, .int .i64 H, .int .i64 C, .int .i64 B] 23) = w1 at *
  clear hzw
  obtain ⟨zB10, zB11, zB12, zB13⟩ := (B1.out).cells4
  go_wp2_with fail
  clear zB10 zB11 zB12 zB13
  go_ret
  exact ⟨rfl, HB.out⟩
set_option maxRecDepth 100000 in
set_option maxHeartbeats 6400000 in
theorem rrecon_8 (v : Vd) (w : World) (h0 : 1 ≤ v.W) (h1 : v.W ≤ 128) (h2 : 1 ≤ v.H) (h3 : v.H ≤ 128) (h4 : 0 ≤ v.C) (h5 : v.C ≤ 2) (h6 : 8 ≤ v.B) (h7 : v.B ≤ 16) : Calls Try.prog 14 #[vdV v] w fun e w' => e = .returned (.bool true) ∧ Below w.heap.size w w' := by
  have HB := Lib.hid (Below.refl w.heap.size w)
  obtain ⟨W, H, C, B⟩ := v
  dsimp only at *
  have d0 : decide (1 ≤ W) = true := by simp; omega
  have d1 : decide (W ≤ 128) = true := by simp; omega
  have d2 : decide (1 ≤ H) = true := by simp; omega
  have d3 : decide (H ≤ 128) = true := by simp; omega
  have d4 : decide (0 ≤ C) = true := by simp; omega
  have d5 : decide (C ≤ 2) = true := by simp; omega
  have d6 : decide (8 ≤ B) = true := by simp; omega
  have d7 : decide (B ≤ 16) = true := by simp; omega
  go_enter Try.func14, Try.ntmps14
  go_wp2_with fail
  have HB := Lib.hid (below_alloc_ (HB.out) (.cells #[.int .i64 W, .int .i64 H, .int .i64 C, .int .i64 B] 23))
  have hzw : (w.alloc (.cells #[.int .i64 W, .int .i64 H, .int .i64 C, .int .i64 B] 23)).heap.size = w.heap.size + 1 := by simp only [World.size_alloc]
  have B1 := Blk.new (w) 23 #[.int .i64 W, .int .i64 H, .int .i64 C, .int .i64 B]
  skip
  have B1 := Lib.hid B1
  generalize w.alloc (.cells #[.int .i64 W, .int .i64 H, .int .i64 C, .int .i64 B] 23) = w1 at *
  clear hzw
  obtain ⟨zB10, zB11, zB12, zB13⟩ := (B1.out).cells4
  go_wp2_with fail
  clear zB10 zB11 zB12 zB13
  go_ret
  exact ⟨rfl, HB.out⟩
theorem rightVd_iff (v : Vd) : rightVd v = true ↔ (1 ≤ v.W ∧ v.W ≤ 128) ∧ (1 ≤ v.H ∧ v.H ≤ 128) ∧ (0 ≤ v.C ∧ v.C ≤ 2) ∧ (8 ≤ v.B ∧ v.B ≤ 16) := by
  unfold rightVd btw
  simp only [Bool.and_eq_true, decide_eq_true_eq, and_assoc]
theorem rrecon_c (v : Vd) (w : World) : Calls Try.prog 14 #[vdV v] w fun e w' => e = .returned (.bool (rightVd v)) ∧ Below w.heap.size w w' := by
  have hf : ¬ ((1 ≤ v.W ∧ v.W ≤ 128) ∧ (1 ≤ v.H ∧ v.H ≤ 128) ∧ (0 ≤ v.C ∧ v.C ≤ 2) ∧ (8 ≤ v.B ∧ v.B ≤ 16)) → rightVd v = false := fun h => by
    cases e : rightVd v with
    | false => rfl
    | true => exact absurd ((rightVd_iff v).1 e) h
  by_cases h0 : 1 ≤ v.W
  rotate_left
  · rw [hf (by omega)]; exact rrecon_0 v w (by omega)
  by_cases h1 : v.W ≤ 128
  rotate_left
  · rw [hf (by omega)]; exact rrecon_1 v w h0 (by omega)
  by_cases h2 : 1 ≤ v.H
  rotate_left
  · rw [hf (by omega)]; exact rrecon_2 v w h0 h1 (by omega)
  by_cases h3 : v.H ≤ 128
  rotate_left
  · rw [hf (by omega)]; exact rrecon_3 v w h0 h1 h2 (by omega)
  by_cases h4 : 0 ≤ v.C
  rotate_left
  · rw [hf (by omega)]; exact rrecon_4 v w h0 h1 h2 h3 (by omega)
  by_cases h5 : v.C ≤ 2
  rotate_left
  · rw [hf (by omega)]; exact rrecon_5 v w h0 h1 h2 h3 h4 (by omega)
  by_cases h6 : 8 ≤ v.B
  rotate_left
  · rw [hf (by omega)]; exact rrecon_6 v w h0 h1 h2 h3 h4 h5 (by omega)
  by_cases h7 : v.B ≤ 16
  rotate_left
  · rw [hf (by omega)]; exact rrecon_7 v w h0 h1 h2 h3 h4 h5 h6 (by omega)
  rw [(rightVd_iff v).2 (by omega)]
  exact rrecon_8 v w h0 h1 h2 h3 h4 h5 h6 h7

end Go.Proofs.Ytgdlleoefncikaa
