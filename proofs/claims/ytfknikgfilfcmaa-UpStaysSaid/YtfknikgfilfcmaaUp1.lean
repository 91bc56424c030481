/- up: what is between a reference's places. -/
import Derived.Test.YtfknikgfilfcmaaPl2
import Derived.Test.YtfknikgfilfcmaaWalk
namespace Go.Proofs.Ytfknikgfilfcmaa
open Go.RowKit
set_option linter.unusedVariables false
set_option linter.unusedSimpArgs false

/-- A reference in block R: a plane's sides, its samples, the most of one. -/
structure RefAt (w : World) (R a b : Nat) (V : List Int) (m : Int) : Prop where
  a1 : 1 ≤ a
  a2 : a ≤ 1024
  b1 : 1 ≤ b
  b2 : b ≤ 1024
  len : V.length = a * b
  m1 : 1 ≤ m
  m2 : m ≤ 65535
  s : ∀ k, 0 ≤ rdn V k ∧ rdn V k ≤ m
  blk : ∃ ad c, Blk w R 51 #[.int .i64 a, .int .i64 b, .slice (some ad) V.length c, .int .i64 m] ∧ ReadsI w (some ad) V
theorem RefAt.below {w w' : World} {R a b : Nat} {V : List Int} {m : Int} (h : RefAt w R a b V m) (hb : Below w.heap.size w w') : RefAt w' R a b V m := by
  obtain ⟨ad, c, h1, h2⟩ := h.blk
  exact ⟨h.a1, h.a2, h.b1, h.b2, h.len, h.m1, h.m2, h.s, ad, c, h1.below hb h1.lt, h2.kept hb⟩
theorem RefAt.lt {w : World} {R a b : Nat} {V : List Int} {m : Int} (h : RefAt w R a b V m) : R < w.heap.size := by
  obtain ⟨ad, c, h1, _⟩ := h.blk
  exact h1.lt
/-- The sample at the nearest place. -/
def smp (a b : Nat) (V : List Int) (x y : Int) : Int := rdn V (nearI y b * a + nearI x a).toNat
def plI (n : Int) : Int := min (max n (-1099511627776)) 1099511627776
def halfI (m : Int) (g : Int → Int) : Int := min (max ((16 + 21 * (g 0 + g 1) + -7 * (g (-1) + g 2) + 3 * (g (-2) + g 3) + -1 * (g (-3) + g 4)) / 32) 0) m
def rowI (a b : Nat) (V : List Int) (m x y : Int) : Int := if x % 2 = 0 then smp a b V (x / 2) y else halfI m (fun k => smp a b V (x / 2 + k) y)
def betI (a b : Nat) (V : List Int) (m x y : Int) : Int := if y % 2 = 0 then rowI a b V m x (y / 2) else halfI m (fun k => rowI a b V m x (y / 2 + k))
theorem halfI_bd {m : Int} (g : Int → Int) (h : 1 ≤ m) : 0 ≤ halfI m g ∧ halfI m g ≤ m := by unfold halfI; omega
theorem smp_bd {a b : Nat} {V : List Int} {m : Int} (h : ∀ k, 0 ≤ rdn V k ∧ rdn V k ≤ m) (x y : Int) : 0 ≤ smp a b V x y ∧ smp a b V x y ≤ m := h _
theorem rowI_bd {a b : Nat} {V : List Int} {m : Int} (h : ∀ k, 0 ≤ rdn V k ∧ rdn V k ≤ m) (hm : 1 ≤ m) (x y : Int) : 0 ≤ rowI a b V m x y ∧ rowI a b V m x y ≤ m := by
  unfold rowI; split
  · exact h _
  · exact halfI_bd _ hm
theorem betI_bd {a b : Nat} {V : List Int} {m : Int} (h : ∀ k, 0 ≤ rdn V k ∧ rdn V k ≤ m) (hm : 1 ≤ m) (x y : Int) : 0 ≤ betI a b V m x y ∧ betI a b V m x y ≤ m := by
  unfold betI; split
  · exact rowI_bd h hm _ _
  · exact halfI_bd _ hm

theorem uplace_c (n : Int) (w : World) : Calls Try.prog 22 #[.int .i64 n] w fun e w' => e = .returned (.int .i64 (plI n)) ∧ w = w' := by
  by_cases h1 : n < -1099511627776
  all_goals by_cases h2 : 1099511627776 < n
  all_goals
    go_enter Try.func22, Try.ntmps22
    go_wp2_with fail
    go_ret
    exact ⟨ret_int (by unfold plI; omega), rfl⟩

set_option maxRecDepth 100000 in
set_option maxHeartbeats 3200000 in
theorem uwhole_c (R a b : Nat) (V : List Int) (m x y : Int) (w : World) (hr : RefAt w R a b V m) :
    Calls Try.prog 40 #[.pointer (some ⟨R, 0, none⟩), .int .i64 x, .int .i64 y] w fun e w' => e = .returned (.int .i64 (smp a b V x y)) ∧ Below w.heap.size w w' := by
  obtain ⟨a1, a2, b1, b2, len, m1, m2, s, ad, c, hb, hR⟩ := hr
  obtain ⟨ky, kx, ey, ex, lx, ly, lt⟩ := near_in (x := x) (y := y) a1 b1 a2 b2
  have ha := area_bd (W := a) (H := b) (by omega) (by omega) (by omega) (by omega)
  have hN : ((a * b : Nat) : Int) = (a : Int) * (b : Int) := Int.natCast_mul a b
  have hK : ((ky * a : Nat) : Int) = (ky : Int) * (a : Int) := Int.natCast_mul ky a
  have er : (nearI y b * a + nearI x a).toNat = ky * a + kx := by rw [ey, ex, ← hK]; omega
  unfold smp
  rw [er]
  obtain ⟨c0, c1, c2, c3⟩ := hb.cells4
  have c4 := hR.cellv (i := ky * a + kx) (by omega)
  generalize hk : ky * a + kx = k at *
  have hn : V.length ≤ 1048576 := by omega
  have g1 : (k : Int) < (V.length : Int) := by omega
  have F1 : IntKind.i64.wrap ((ky : Int) * (a : Int)) = (ky : Int) * (a : Int) := IntWalk.i64_in _ (by omega)
  have F2 : IntKind.i64.wrap ((ky : Int) * (a : Int) + (kx : Int)) = (k : Int) := by rw [IntWalk.i64_in _ (by omega)]; omega
  have F3 : IntKind.i64.wrap ((a : Int) - 1) = (a : Int) - 1 := IntWalk.i64_in _ (by omega)
  have F4 : IntKind.i64.wrap ((b : Int) - 1) = (b : Int) - 1 := IntWalk.i64_in _ (by omega)
  have F5 : (if (a : Int) - 1 < (if x < 0 then 0 else x) then (a : Int) - 1 else (if x < 0 then 0 else x)) = kx := by rw [← ex]; unfold nearI; split <;> split <;> omega
  have F6 : (if (b : Int) - 1 < (if y < 0 then 0 else y) then (b : Int) - 1 else (if y < 0 then 0 else y)) = ky := by rw [← ey]; unfold nearI; split <;> split <;> omega
  have z : 0 ≤ rdn V k ∧ rdn V k ≤ m := s k
  generalize rdn V k = q at *
  generalize V.length = n at *
  clear er hk hN hK len ey ex lt ha lx ly s hb hR
  go_enter Try.func40, Try.ntmps40
  go_wp2_with fail
  go_quiet (fail)
  go_wp2_with fail
  all_goals
    go_quiet (fail)
    go_wp2_with fail
    go_ret
    exact ⟨rfl, below_drewN (below_drewN (Below.refl _ _) _) _⟩

theorem up_idx (a b c d : Value) (w : World) : (Instr.index 53 (.agg #[a, b, c, d]) (.int .i64 0)).run Try.prog w = .ok a w ∧ (Instr.index 53 (.agg #[a, b, c, d]) (.int .i64 1)).run Try.prog w = .ok b w ∧ (Instr.index 53 (.agg #[a, b, c, d]) (.int .i64 2)).run Try.prog w = .ok c w ∧ (Instr.index 53 (.agg #[a, b, c, d]) (.int .i64 3)).run Try.prog w = .ok d w := ⟨rfl, rfl, rfl, rfl⟩
/-- A function told numbers: of eight places its answers, in worlds that grow from w. -/
def Told (w : World) (kf : Nat) (caps : Array Value) (g : Int → Int) : Prop :=
  ∀ (k : Int) (W : World), -3 ≤ k → k ≤ 4 → Below w.heap.size w W → Calls Try.prog kf (#[.int .i64 k] ++ caps) W fun e W' => e = .returned (.int .i64 (g k)) ∧ Below W.heap.size W W'
set_option maxRecDepth 100000 in
set_option maxHeartbeats 3200000 in
theorem uhalf_c (R a b : Nat) (V : List Int) (m : Int) (kf : Nat) (q1 q2 q3 : Value) (g : Int → Int) (w : World) (hr : RefAt w R a b V m) (hcf : ∀ (args : Array Value) (W : World), (callFunc kf args).run Try.prog W = .ok (.enter kf args) W)
    (hg : ∀ k, 0 ≤ g k ∧ g k ≤ 65535) (ht : Told w kf #[q1, q2, q3] g) :
    Calls Try.prog 34 #[.pointer (some ⟨R, 0, none⟩), .func (.func kf) #[] #[q1, q2, q3]] w fun e w' => e = .returned (.int .i64 (halfI m g)) ∧ Below w.heap.size w w' := by
  have HR := Lib.hid hr
  have HT := Lib.hid ht
  have HB := Lib.hid (Below.refl w.heap.size w)
  have hm1 := hr.m1
  have hm2 := hr.m2
  have g0 := hg (-3)
  have g1 := hg (-2)
  have g2 := hg (-1)
  have g3 := hg (0)
  have g4 := hg (1)
  have g5 := hg (2)
  have g6 := hg (3)
  have g7 := hg (4)
  have i0 : ∀ a b c d w, (Instr.index 53 (.agg #[a, b, c, d]) (.int .i64 0)).run Try.prog w = .ok a w := fun a b c d w => (up_idx a b c d w).1
  have i1 : ∀ a b c d w, (Instr.index 53 (.agg #[a, b, c, d]) (.int .i64 1)).run Try.prog w = .ok b w := fun a b c d w => (up_idx a b c d w).2.1
  have i2 : ∀ a b c d w, (Instr.index 53 (.agg #[a, b, c, d]) (.int .i64 2)).run Try.prog w = .ok c w := fun a b c d w => (up_idx a b c d w).2.2.1
  have i3 : ∀ a b c d w, (Instr.index 53 (.agg #[a, b, c, d]) (.int .i64 3)).run Try.prog w = .ok d w := fun a b c d w => (up_idx a b c d w).2.2.2
  unfold halfI
  generalize hz0 : g (-3) = z0 at *
  generalize hz1 : g (-2) = z1 at *
  generalize hz2 : g (-1) = z2 at *
  generalize hz3 : g (0) = z3 at *
  generalize hz4 : g (1) = z4 at *
  generalize hz5 : g (2) = z5 at *
  generalize hz6 : g (3) = z6 at *
  generalize hz7 : g (4) = z7 at *
  have HZ := Lib.hid (And.intro hz0 (And.intro hz1 (And.intro hz2 (And.intro hz3 (And.intro hz4 (And.intro hz5 (And.intro hz6 hz7)))))))
  clear hz0 hz1 hz2 hz3 hz4 hz5 hz6 hz7 hr ht hg
  go_enter Try.func34, Try.ntmps34
  go_wp2_with fail
  refine wp_loop_rounds 5 ?_
  rw [rounds_succ]
  go_wp2_with fail
  refine (HT.out (0) _ (by decide) (by decide) HB.out).mono ?_
  rintro e w0a ⟨rfl, hb'⟩
  rw [HZ.out.2.2.2.1]
  have HB := Lib.hid (HB.out.trans (hb'.mono HB.out.size))
  clear hb'
  go_wp2_with fail
  refine (HT.out (1) _ (by decide) (by decide) HB.out).mono ?_
  rintro e w0b ⟨rfl, hb'⟩
  rw [HZ.out.2.2.2.2.1]
  have HB := Lib.hid (HB.out.trans (hb'.mono HB.out.size))
  clear hb'
  go_wp2_with fail
  rw [rounds_succ]
  go_wp2_with fail
  refine (HT.out (-1) _ (by decide) (by decide) HB.out).mono ?_
  rintro e w1a ⟨rfl, hb'⟩
  rw [HZ.out.2.2.1]
  have HB := Lib.hid (HB.out.trans (hb'.mono HB.out.size))
  clear hb'
  go_wp2_with fail
  refine (HT.out (2) _ (by decide) (by decide) HB.out).mono ?_
  rintro e w1b ⟨rfl, hb'⟩
  rw [HZ.out.2.2.2.2.2.1]
  have HB := Lib.hid (HB.out.trans (hb'.mono HB.out.size))
  clear hb'
  go_wp2_with fail
  rw [rounds_succ]
  go_wp2_with fail
  refine (HT.out (-2) _ (by decide) (by decide) HB.out).mono ?_
  rintro e w2a ⟨rfl, hb'⟩
  rw [HZ.out.2.1]
  have HB := Lib.hid (HB.out.trans (hb'.mono HB.out.size))
  clear hb'
  go_wp2_with fail
  refine (HT.out (3) _ (by decide) (by decide) HB.out).mono ?_
  rintro e w2b ⟨rfl, hb'⟩
  rw [HZ.out.2.2.2.2.2.2.1]
  have HB := Lib.hid (HB.out.trans (hb'.mono HB.out.size))
  clear hb'
  go_wp2_with fail
  rw [rounds_succ]
  go_wp2_with fail
  refine (HT.out (-3) _ (by decide) (by decide) HB.out).mono ?_
  rintro e w3a ⟨rfl, hb'⟩
  rw [HZ.out.1]
  have HB := Lib.hid (HB.out.trans (hb'.mono HB.out.size))
  clear hb'
  go_wp2_with fail
  refine (HT.out (4) _ (by decide) (by decide) HB.out).mono ?_
  rintro e w3b ⟨rfl, hb'⟩
  rw [HZ.out.2.2.2.2.2.2.2]
  have HB := Lib.hid (HB.out.trans (hb'.mono HB.out.size))
  clear hb'
  have c3 := (let ⟨_, _, h, _⟩ := (HR.out.below HB.out).blk; h.cells4.2.2.2)
  go_wp2_with fail
  rw [rounds_succ]
  go_wp2_with fail
  all_goals
    go_ret
    exact ⟨ret_int (by omega), HB.out⟩

theorem urow1_c (R a b : Nat) (V : List Int) (m i y k : Int) (b3 b7 b5 : Nat) (w : World) (hr : RefAt w R a b V m) (h3 : Blk w b3 27 #[.pointer (some ⟨R, 0, none⟩)]) (h7 : Blk w b7 3 #[.int .i64 i]) (h5 : Blk w b5 3 #[.int .i64 y])
    (i0 : -10000000000000 ≤ i) (i1 : i ≤ 10000000000000) (k0 : -3 ≤ k) (k1 : k ≤ 4) :
    Calls Try.prog 41 (#[.int .i64 k] ++ #[.pointer (some ⟨b3, 0, none⟩), .pointer (some ⟨b7, 0, none⟩), .pointer (some ⟨b5, 0, none⟩)]) w fun e w' => e = .returned (.int .i64 (smp a b V (i + k) y)) ∧ Below w.heap.size w w' := by
  have HR := Lib.hid hr
  have c3 := h3.cells1
  have c7 := h7.cells1
  have c5 := h5.cells1
  clear hr h3 h7 h5
  show Calls Try.prog _ #[.int .i64 k, .pointer (some ⟨b3, 0, none⟩), .pointer (some ⟨b7, 0, none⟩), .pointer (some ⟨b5, 0, none⟩)] w _
  go_enter Try.func41, Try.ntmps41
  go_wp2_with fail
  refine (uwhole_c R a b V m (i + k) y w HR.out).mono ?_
  rintro e w1 ⟨rfl, hb'⟩
  have HB := Lib.hid hb'
  clear hb' c3 c5 c7
  go_wp2_with fail
  go_ret
  exact ⟨rfl, HB.out⟩
set_option maxHeartbeats 1600000 in
theorem urow_c (R a b : Nat) (V : List Int) (m x y : Int) (w : World) (hr : RefAt w R a b V m) (x0 : -9000000000000 ≤ x) (x1 : x ≤ 9000000000000) :
    Calls Try.prog 33 #[.pointer (some ⟨R, 0, none⟩), .int .i64 x, .int .i64 y] w fun e w' => e = .returned (.int .i64 (rowI a b V m x y)) ∧ Below w.heap.size w w' := by
  obtain ⟨w3, hw3⟩ : ∃ w3, w3 = ((w.alloc (.cells #[.pointer (some ⟨R, 0, none⟩)] 27)).alloc (.cells #[.int .i64 y] 3)).alloc (.cells #[.int .i64 (x / 2)] 3) := ⟨_, rfl⟩
  have hb3 : Below w.heap.size w w3 := by rw [hw3]; exact below_alloc_ (below_alloc_ (below_alloc_ (Below.refl _ _) _) _) _
  have hr3 := hr.below hb3
  have p3 : Blk w3 w.heap.size 27 #[.pointer (some ⟨R, 0, none⟩)] := by rw [hw3]; exact ((Blk.new w _ _).alloc _).alloc _
  have p5 : Blk w3 (w.heap.size + 1) 3 #[.int .i64 y] := by rw [hw3]; have h := (Blk.new (w.alloc (.cells #[.pointer (some ⟨R, 0, none⟩)] 27)) 3 #[.int .i64 y]).alloc (.cells #[.int .i64 (x / 2)] 3); rw [World.size_alloc] at h; exact h
  have p7 : Blk w3 (w.heap.size + 1 + 1) 3 #[.int .i64 (x / 2)] := by rw [hw3]; have h := Blk.new ((w.alloc (.cells #[.pointer (some ⟨R, 0, none⟩)] 27)).alloc (.cells #[.int .i64 y] 3)) 3 #[.int .i64 (x / 2)]; rw [World.size_alloc, World.size_alloc] at h; exact h
  have HW3 := Lib.hid hw3
  have HB := Lib.hid hb3
  have HR := Lib.hid hr3
  have H3 := Lib.hid p3
  have H5 := Lib.hid p5
  have H7 := Lib.hid p7
  have hm1 := hr.m1
  have hm2 := hr.m2
  have HS := Lib.hid hr.s
  clear hw3 hb3 hr3 p3 p5 p7 hr
  by_cases hx : x % 2 = 0
  · have HW := Lib.hid (show rowI a b V m x y = smp a b V (x / 2) y by unfold rowI; rw [if_pos hx])
    have E1 : bits .and .i64 x 1 = 0 := (i64_and1 x).trans hx
    clear hx
    go_enter Try.func33, Try.ntmps33
    go_wp2_with fail
    rw [← HW3.out]
    refine (uwhole_c R a b V m (x / 2) y w3 HR.out).mono ?_
    rintro e w4 ⟨rfl, hb'⟩
    have HB := Lib.hid (HB.out.trans (hb'.mono HB.out.size))
    clear hb'
    go_wp2_with fail
    go_ret
    exact ⟨by rw [HW.out]; rfl, HB.out⟩
  · have HW := Lib.hid (show rowI a b V m x y = halfI m (fun k => smp a b V (x / 2 + k) y) by unfold rowI; rw [if_neg hx])
    have E1 : bits .and .i64 x 1 = 1 := (i64_and1 x).trans (by omega)
    have HC := Lib.hid (uhalf_c R a b V m 41 (.pointer (some ⟨w.heap.size, 0, none⟩)) (.pointer (some ⟨w.heap.size + 1 + 1, 0, none⟩)) (.pointer (some ⟨w.heap.size + 1, 0, none⟩)) (fun k => smp a b V (x / 2 + k) y) w3 HR.out (fun _ _ => by kernel_rfl)
      (fun k => by have := smp_bd (a := a) (b := b) HS.out (x / 2 + k) y; omega)
      (fun k W k0 k1 hb => urow1_c R a b V m (x / 2) y k w.heap.size (w.heap.size + 1 + 1) (w.heap.size + 1) W (HR.out.below hb) (H3.out.below hb H3.out.lt) (H7.out.below hb H7.out.lt) (H5.out.below hb H5.out.lt) (by omega) (by omega) k0 k1))
    clear hx
    go_enter Try.func33, Try.ntmps33
    go_wp2_with fail
    rw [← HW3.out]
    refine HC.out.mono ?_
    rintro e w4 ⟨rfl, hb'⟩
    have HB := Lib.hid (HB.out.trans (hb'.mono HB.out.size))
    clear hb'
    rw [← HW.out]
    go_wp2_with fail
    go_ret
    exact ⟨rfl, HB.out⟩
theorem ubet1_c (R a b : Nat) (V : List Int) (m x i k : Int) (b3 b4 b7 : Nat) (w : World) (hr : RefAt w R a b V m) (h3 : Blk w b3 27 #[.pointer (some ⟨R, 0, none⟩)]) (h4 : Blk w b4 3 #[.int .i64 x]) (h7 : Blk w b7 3 #[.int .i64 i])
    (i0 : -10000000000000 ≤ i) (i1 : i ≤ 10000000000000) (k0 : -3 ≤ k) (k1 : k ≤ 4) (x0 : -9000000000000 ≤ x) (x1 : x ≤ 9000000000000) :
    Calls Try.prog 35 (#[.int .i64 k] ++ #[.pointer (some ⟨b3, 0, none⟩), .pointer (some ⟨b4, 0, none⟩), .pointer (some ⟨b7, 0, none⟩)]) w fun e w' => e = .returned (.int .i64 (rowI a b V m x (i + k))) ∧ Below w.heap.size w w' := by
  have HR := Lib.hid hr
  have c3 := h3.cells1
  have c7 := h7.cells1
  have c4 := h4.cells1
  clear hr h3 h7 h4
  show Calls Try.prog _ #[.int .i64 k, .pointer (some ⟨b3, 0, none⟩), .pointer (some ⟨b4, 0, none⟩), .pointer (some ⟨b7, 0, none⟩)] w _
  go_enter Try.func35, Try.ntmps35
  go_wp2_with fail
  refine (urow_c R a b V m x (i + k) w HR.out x0 x1).mono ?_
  rintro e w1 ⟨rfl, hb'⟩
  have HB := Lib.hid hb'
  clear hb' c3 c4 c7
  go_wp2_with fail
  go_ret
  exact ⟨rfl, HB.out⟩
set_option maxHeartbeats 1600000 in
theorem ubet_c (R a b : Nat) (V : List Int) (m x y : Int) (w : World) (hr : RefAt w R a b V m) (x0 : -9000000000000 ≤ x) (x1 : x ≤ 9000000000000) (y0 : -9000000000000 ≤ y) (y1 : y ≤ 9000000000000) :
    Calls Try.prog 21 #[.pointer (some ⟨R, 0, none⟩), .int .i64 x, .int .i64 y] w fun e w' => e = .returned (.int .i64 (betI a b V m x y)) ∧ Below w.heap.size w w' := by
  obtain ⟨w3, hw3⟩ : ∃ w3, w3 = ((w.alloc (.cells #[.pointer (some ⟨R, 0, none⟩)] 27)).alloc (.cells #[.int .i64 x] 3)).alloc (.cells #[.int .i64 (y / 2)] 3) := ⟨_, rfl⟩
  have hb3 : Below w.heap.size w w3 := by rw [hw3]; exact below_alloc_ (below_alloc_ (below_alloc_ (Below.refl _ _) _) _) _
  have hr3 := hr.below hb3
  have p3 : Blk w3 w.heap.size 27 #[.pointer (some ⟨R, 0, none⟩)] := by rw [hw3]; exact ((Blk.new w _ _).alloc _).alloc _
  have p5 : Blk w3 (w.heap.size + 1) 3 #[.int .i64 x] := by rw [hw3]; have h := (Blk.new (w.alloc (.cells #[.pointer (some ⟨R, 0, none⟩)] 27)) 3 #[.int .i64 x]).alloc (.cells #[.int .i64 (y / 2)] 3); rw [World.size_alloc] at h; exact h
  have p7 : Blk w3 (w.heap.size + 1 + 1) 3 #[.int .i64 (y / 2)] := by rw [hw3]; have h := Blk.new ((w.alloc (.cells #[.pointer (some ⟨R, 0, none⟩)] 27)).alloc (.cells #[.int .i64 x] 3)) 3 #[.int .i64 (y / 2)]; rw [World.size_alloc, World.size_alloc] at h; exact h
  have HW3 := Lib.hid hw3
  have HB := Lib.hid hb3
  have HR := Lib.hid hr3
  have H3 := Lib.hid p3
  have H5 := Lib.hid p5
  have H7 := Lib.hid p7
  have hm1 := hr.m1
  have hm2 := hr.m2
  have HS := Lib.hid hr.s
  clear hw3 hb3 hr3 p3 p5 p7 hr
  by_cases hx : y % 2 = 0
  · have HW := Lib.hid (show betI a b V m x y = rowI a b V m x (y / 2) by unfold betI; rw [if_pos hx])
    have E1 : bits .and .i64 y 1 = 0 := (i64_and1 y).trans hx
    clear hx
    go_enter Try.func21, Try.ntmps21
    go_wp2_with fail
    rw [← HW3.out]
    refine (urow_c R a b V m x (y / 2) w3 HR.out x0 x1).mono ?_
    rintro e w4 ⟨rfl, hb'⟩
    have HB := Lib.hid (HB.out.trans (hb'.mono HB.out.size))
    clear hb'
    go_wp2_with fail
    go_ret
    exact ⟨by rw [HW.out]; rfl, HB.out⟩
  · have HW := Lib.hid (show betI a b V m x y = halfI m (fun k => rowI a b V m x (y / 2 + k)) by unfold betI; rw [if_neg hx])
    have E1 : bits .and .i64 y 1 = 1 := (i64_and1 y).trans (by omega)
    have HC := Lib.hid (uhalf_c R a b V m 35 (.pointer (some ⟨w.heap.size, 0, none⟩)) (.pointer (some ⟨w.heap.size + 1, 0, none⟩)) (.pointer (some ⟨w.heap.size + 1 + 1, 0, none⟩)) (fun k => rowI a b V m x (y / 2 + k)) w3 HR.out (fun _ _ => by kernel_rfl)
      (fun k => by have := rowI_bd (a := a) (b := b) HS.out hm1 x (y / 2 + k); omega)
      (fun k W k0 k1 hb => ubet1_c R a b V m x (y / 2) k w.heap.size (w.heap.size + 1) (w.heap.size + 1 + 1) W (HR.out.below hb) (H3.out.below hb H3.out.lt) (H5.out.below hb H5.out.lt) (H7.out.below hb H7.out.lt) (by omega) (by omega) k0 k1 x0 x1))
    clear hx
    go_enter Try.func21, Try.ntmps21
    go_wp2_with fail
    rw [← HW3.out]
    refine HC.out.mono ?_
    rintro e w4 ⟨rfl, hb'⟩
    have HB := Lib.hid (HB.out.trans (hb'.mono HB.out.size))
    clear hb'
    rw [← HW.out]
    go_wp2_with fail
    go_ret
    exact ⟨rfl, HB.out⟩
theorem plI_bd (n : Int) : -1099511627776 ≤ plI n ∧ plI n ≤ 1099511627776 := by unfold plI; omega
theorem uHalf_c (R a b : Nat) (V : List Int) (m x y : Int) (w : World) (hr : RefAt w R a b V m) :
    Calls Try.prog 9 #[.pointer (some ⟨R, 0, none⟩), .int .i64 x, .int .i64 y] w fun e w' => e = .returned (.int .i64 (betI a b V m (plI x) (plI y))) ∧ Below w.heap.size w w' := by
  have HR := Lib.hid hr
  have hx := plI_bd x
  have hy := plI_bd y
  have HX := Lib.hid hx
  have HY := Lib.hid hy
  clear hr hx hy
  go_enter Try.func9, Try.ntmps9
  go_wp2_with fail
  refine (uplace_c x _).mono ?_
  rintro e w1 ⟨rfl, rfl⟩
  go_wp2_with fail
  refine (uplace_c y _).mono ?_
  rintro e w1 ⟨rfl, rfl⟩
  go_wp2_with fail
  have hx := HX.out
  have hy := HY.out
  refine (ubet_c R a b V m (plI x) (plI y) w HR.out (by omega) (by omega) (by omega) (by omega)).mono ?_
  rintro e w1 ⟨rfl, hb'⟩
  have HB := Lib.hid hb'
  clear hb' hx hy
  go_wp2_with fail
  go_ret
  exact ⟨rfl, HB.out⟩
theorem uHalf_nil (x y : Int) (w : World) :
    Calls Try.prog 9 #[.pointer none, .int .i64 x, .int .i64 y] w fun e w' => e = .returned (.int .i64 0) ∧ w = w' := by
  go_enter Try.func9, Try.ntmps9
  go_wp2_with fail
  go_ret
  exact ⟨rfl, rfl⟩

end Go.Proofs.Ytfknikgfilfcmaa
