/- up: a finer place's number. -/
import Derived.Test.YtfknikgfilfcmaaUp1
import Derived.Deep.DeepCutAuto
import Derived.Deep.CutBlock
namespace Go.Proofs.Ytfknikgfilfcmaa
open Go.RowKit
set_option linter.unusedVariables false
set_option linter.unusedSimpArgs false

def fineI (s : Int) (B : Int → Int → Int) (x y : Int) : Int :=
  ((s - x % s) * (s - y % s) * B (x / s) (y / s) + x % s * (s - y % s) * B (x / s + 1) (y / s) + (s - x % s) * (y % s) * B (x / s) (y / s + 1) + x % s * (y % s) * B (x / s + 1) (y / s + 1) + s * s / 2) / (s * s)
def atI (a b : Nat) (V : List Int) (m x y p : Int) : Int :=
  if p < 0 ∨ 3 < p then 0 else if p = 0 then betI a b V m (2 * plI x) (2 * plI y) else if p = 1 then betI a b V m (plI x) (plI y)
  else if p = 2 then fineI 2 (betI a b V m) (plI x) (plI y) else fineI 4 (betI a b V m) (plI x) (plI y)
theorem uAt_nil (x y p : Int) (w : World) :
    Calls Try.prog 10 #[.pointer none, .int .i64 x, .int .i64 y, .int .i64 p] w fun e w' => e = .returned (.int .i64 0) ∧ w = w' := by
  go_enter Try.func10, Try.ntmps10
  go_wp2_with fail
  go_ret
  exact ⟨rfl, rfl⟩
theorem uAt_far (R : Nat) (x y p : Int) (w : World) (hp : p < 0 ∨ 3 < p) :
    Calls Try.prog 10 #[.pointer (some ⟨R, 0, none⟩), .int .i64 x, .int .i64 y, .int .i64 p] w fun e w' => e = .returned (.int .i64 0) ∧ w = w' := by
  rcases hp with hp | hp
  all_goals
    go_enter Try.func10, Try.ntmps10
    go_wp2_with fail
    go_ret
    exact ⟨rfl, rfl⟩
set_option maxRecDepth 100000 in
set_option maxHeartbeats 3200000 in
theorem uAt_0 (R a b : Nat) (V : List Int) (m x y : Int) (w : World) (hr : RefAt w R a b V m) :
    Calls Try.prog 10 #[.pointer (some ⟨R, 0, none⟩), .int .i64 x, .int .i64 y, .int .i64 0] w fun e w' => e = .returned (.int .i64 (betI a b V m (2 * plI x) (2 * plI y))) ∧ Below w.heap.size w w' := by
  have HR := Lib.hid hr
  have hm1 := hr.m1
  have hm2 := hr.m2
  have HS := Lib.hid hr.s
  have hx := plI_bd x
  have hy := plI_bd y
  have HPX := Lib.hid (fun W => uplace_c x W)
  have HPY := Lib.hid (fun W => uplace_c y W)
  generalize plI x = X at *
  generalize plI y = Y at *
  clear hr
  go_enter Try.func10, Try.ntmps10
  go_wp2_with fail
  refine (HPX.out _).mono ?_
  rintro e w1 ⟨rfl, rfl⟩
  go_wp2_with fail
  refine (HPY.out _).mono ?_
  rintro e w1 ⟨rfl, rfl⟩
  go_wp2_with fail
  have HB1 := Lib.hid (Below.refl w.heap.size w)
  have hx2 := hx
  have hy2 := hy
  have F : IntKind.i64.wrap (X * 2) = 2 * X := (IntWalk.i64_in _ (by omega)).trans (by omega)
  have FX1 := F
  clear F
  have F : IntKind.i64.wrap (2 * X) = 2 * X := IntWalk.i64_in _ (by omega)
  have FX2 := F
  clear F
  have F : IntKind.i64.wrap (Y * 2) = 2 * Y := (IntWalk.i64_in _ (by omega)).trans (by omega)
  have FY3 := F
  clear F
  have F : IntKind.i64.wrap (2 * Y) = 2 * Y := IntWalk.i64_in _ (by omega)
  have FY4 := F
  clear F
  have HB1 := Lib.hid ((HB1.out).drew)
  refine wp_region_held_drew (S := (fun w' => True)) (by kernel_rfl) ?hS0 (fun hHeld => ?_)
  case hS0 => exact trivial
  refine wpAnyH_take (i := 0) (oi := ⟨some 37, _, _, _, _, _⟩) (v := ?v1) rfl (by kernel_rfl) (by kernel_rfl) (by kernel_rfl) (fun _ _ _ h => h) (Or.inl ⟨by rfl, ?h1⟩) (by assumption) ?r1
  case h1 => (intro w hSw; (try dsimp only at hSw); go_simp; try with_reducible rfl)
  try simp only [Act.put, List.setIfInBounds_toArray, List.set_cons_zero, List.set_cons_succ]
  refine wpAnyH_take (i := 1) (oi := ⟨some 38, _, _, _, _, _⟩) (v := ?v2) rfl (by kernel_rfl) (by kernel_rfl) (by kernel_rfl) (fun _ _ _ h => h) (Or.inl ⟨by rfl, ?h2⟩) (by assumption) ?r2
  case h2 => (intro w hSw; (try dsimp only at hSw); go_simp; try with_reducible rfl)
  try simp only [Act.put, List.setIfInBounds_toArray, List.set_cons_zero, List.set_cons_succ]
  refine wpAnyH_take (i := 2) (oi := ⟨some 39, _, _, _, _, _⟩) (v := ?v3) rfl (by kernel_rfl) (by kernel_rfl) (by kernel_rfl) (fun _ _ _ h => h) (Or.inl ⟨by rfl, ?h3⟩) (by assumption) ?r3
  case h3 => (intro w hSw; (try dsimp only at hSw); go_simp; try with_reducible rfl)
  try simp only [Act.put, List.setIfInBounds_toArray, List.set_cons_zero, List.set_cons_succ]
  refine wpAnyH_take (i := 3) (oi := ⟨some 40, _, _, _, _, _⟩) (v := ?v4) rfl (by kernel_rfl) (by kernel_rfl) (by kernel_rfl) (fun _ _ _ h => h) (Or.inl ⟨by rfl, ?h4⟩) (by assumption) ?r4
  case h4 => (intro w hSw; (try dsimp only at hSw); go_simp; try with_reducible rfl)
  try simp only [Act.put, List.setIfInBounds_toArray, List.set_cons_zero, List.set_cons_succ]
  refine wpAnyH_take (i := 4) (oi := ⟨some 41, _, _, _, _, _⟩) (v := ?v5) rfl (by kernel_rfl) (by kernel_rfl) (by kernel_rfl) (fun _ _ _ h => h) (Or.inl ⟨by rfl, ?h5⟩) (by assumption) ?r5
  case h5 => (intro w hSw; (try dsimp only at hSw); go_simp; try with_reducible rfl)
  try simp only [Act.put, List.setIfInBounds_toArray, List.set_cons_zero, List.set_cons_succ]
  refine wpAnyH_take (i := 5) (oi := ⟨some 42, _, _, _, _, _⟩) (v := ?v6) rfl (by kernel_rfl) (by kernel_rfl) (by kernel_rfl) (fun _ _ _ h => h) (Or.inl ⟨by rfl, ?h6⟩) (by assumption) ?r6
  case h6 => (intro w hSw; (try dsimp only at hSw); go_simp; try with_reducible rfl)
  try simp only [Act.put, List.setIfInBounds_toArray, List.set_cons_zero, List.set_cons_succ]
  refine wpAnyH_take (i := 6) (oi := ⟨some 43, _, _, _, _, _⟩) (v := ?v7) rfl (by kernel_rfl) (by kernel_rfl) (by kernel_rfl) (fun _ _ _ h => h) (Or.inl ⟨by rfl, ?h7⟩) (by assumption) ?r7
  case h7 => (intro w hSw; (try dsimp only at hSw); go_simp; try with_reducible rfl)
  try simp only [Act.put, List.setIfInBounds_toArray, List.set_cons_zero, List.set_cons_succ]
  refine wpAnyH_ready (rs := [7]) (by kernel_rfl) (by simp) ?_
  refine (AllReadyH.cons (o := ⟨some 44, _, _, _, _, _⟩) rfl (fun K hK => ?_) AllReadyH.nil)
  go_simp
  have HS1 := HB1
  refine (ubet_c R a b V m (2 * X) (2 * Y) _ (HR.out.below HB1.out) (by omega) (by omega) (by omega) (by omega)).mono ?_
  rintro e w1 ⟨rfl, hb'⟩
  have HB1 := Lib.hid ((HB1.out).trans (hb'.mono (HB1.out).size))
  clear hb'
  refine hK.out _ _ ?hS8 (fun hHeld => ?_)
  case hS8 => exact trivial
  clear hK K
  try simp only [Act.put, List.setIfInBounds_toArray, List.set_cons_zero, List.set_cons_succ]
  refine wpAnyH_take (i := 8) (oi := ⟨some 8, _, _, _, _, _⟩) (v := ?v9) rfl (by kernel_rfl) (by kernel_rfl) (by kernel_rfl) (fun _ _ _ h => h) (Or.inl ⟨by rfl, ?h9⟩) (by assumption) ?r9
  case h9 => (intro w hSw; (try dsimp only at hSw); go_simp; try with_reducible rfl)
  try simp only [Act.put, List.setIfInBounds_toArray, List.set_cons_zero, List.set_cons_succ]
  refine wpAnyH_done (by kernel_rfl) ?_ _
  clear hHeld
  go_wp2_with fail
  go_ret
  exact ⟨rfl, HB1.out⟩

set_option maxRecDepth 100000 in
set_option maxHeartbeats 3200000 in
theorem uAt_1 (R a b : Nat) (V : List Int) (m x y : Int) (w : World) (hr : RefAt w R a b V m) :
    Calls Try.prog 10 #[.pointer (some ⟨R, 0, none⟩), .int .i64 x, .int .i64 y, .int .i64 1] w fun e w' => e = .returned (.int .i64 (betI a b V m (plI x) (plI y))) ∧ Below w.heap.size w w' := by
  have HR := Lib.hid hr
  have hm1 := hr.m1
  have hm2 := hr.m2
  have HS := Lib.hid hr.s
  have hx := plI_bd x
  have hy := plI_bd y
  have HPX := Lib.hid (fun W => uplace_c x W)
  have HPY := Lib.hid (fun W => uplace_c y W)
  generalize plI x = X at *
  generalize plI y = Y at *
  clear hr
  go_enter Try.func10, Try.ntmps10
  go_wp2_with fail
  refine (HPX.out _).mono ?_
  rintro e w1 ⟨rfl, rfl⟩
  go_wp2_with fail
  refine (HPY.out _).mono ?_
  rintro e w1 ⟨rfl, rfl⟩
  go_wp2_with fail
  have HB1 := Lib.hid (Below.refl w.heap.size w)
  have hx2 := hx
  have hy2 := hy
  have F : IntKind.i64.wrap (X) = X := IntWalk.i64_in _ (by omega)
  have FX5 := F
  clear F
  have F : IntKind.i64.wrap (Y) = Y := IntWalk.i64_in _ (by omega)
  have FY6 := F
  clear F
  have HB1 := Lib.hid ((HB1.out).drew)
  refine wp_region_held_drew (S := (fun w' => True)) (by kernel_rfl) ?hS0 (fun hHeld => ?_)
  case hS0 => exact trivial
  refine wpAnyH_take (i := 0) (oi := ⟨some 37, _, _, _, _, _⟩) (v := ?v10) rfl (by kernel_rfl) (by kernel_rfl) (by kernel_rfl) (fun _ _ _ h => h) (Or.inl ⟨by rfl, ?h10⟩) (by assumption) ?r10
  case h10 => (intro w hSw; (try dsimp only at hSw); go_simp; try with_reducible rfl)
  try simp only [Act.put, List.setIfInBounds_toArray, List.set_cons_zero, List.set_cons_succ]
  refine wpAnyH_take (i := 1) (oi := ⟨some 38, _, _, _, _, _⟩) (v := ?v11) rfl (by kernel_rfl) (by kernel_rfl) (by kernel_rfl) (fun _ _ _ h => h) (Or.inl ⟨by rfl, ?h11⟩) (by assumption) ?r11
  case h11 => (intro w hSw; (try dsimp only at hSw); go_simp; try with_reducible rfl)
  try simp only [Act.put, List.setIfInBounds_toArray, List.set_cons_zero, List.set_cons_succ]
  refine wpAnyH_take (i := 2) (oi := ⟨some 39, _, _, _, _, _⟩) (v := ?v12) rfl (by kernel_rfl) (by kernel_rfl) (by kernel_rfl) (fun _ _ _ h => h) (Or.inl ⟨by rfl, ?h12⟩) (by assumption) ?r12
  case h12 => (intro w hSw; (try dsimp only at hSw); go_simp; try with_reducible rfl)
  try simp only [Act.put, List.setIfInBounds_toArray, List.set_cons_zero, List.set_cons_succ]
  refine wpAnyH_take (i := 3) (oi := ⟨some 40, _, _, _, _, _⟩) (v := ?v13) rfl (by kernel_rfl) (by kernel_rfl) (by kernel_rfl) (fun _ _ _ h => h) (Or.inl ⟨by rfl, ?h13⟩) (by assumption) ?r13
  case h13 => (intro w hSw; (try dsimp only at hSw); go_simp; try with_reducible rfl)
  try simp only [Act.put, List.setIfInBounds_toArray, List.set_cons_zero, List.set_cons_succ]
  refine wpAnyH_take (i := 4) (oi := ⟨some 41, _, _, _, _, _⟩) (v := ?v14) rfl (by kernel_rfl) (by kernel_rfl) (by kernel_rfl) (fun _ _ _ h => h) (Or.inl ⟨by rfl, ?h14⟩) (by assumption) ?r14
  case h14 => (intro w hSw; (try dsimp only at hSw); go_simp; try with_reducible rfl)
  try simp only [Act.put, List.setIfInBounds_toArray, List.set_cons_zero, List.set_cons_succ]
  refine wpAnyH_take (i := 5) (oi := ⟨some 42, _, _, _, _, _⟩) (v := ?v15) rfl (by kernel_rfl) (by kernel_rfl) (by kernel_rfl) (fun _ _ _ h => h) (Or.inl ⟨by rfl, ?h15⟩) (by assumption) ?r15
  case h15 => (intro w hSw; (try dsimp only at hSw); go_simp; try with_reducible rfl)
  try simp only [Act.put, List.setIfInBounds_toArray, List.set_cons_zero, List.set_cons_succ]
  refine wpAnyH_take (i := 6) (oi := ⟨some 43, _, _, _, _, _⟩) (v := ?v16) rfl (by kernel_rfl) (by kernel_rfl) (by kernel_rfl) (fun _ _ _ h => h) (Or.inl ⟨by rfl, ?h16⟩) (by assumption) ?r16
  case h16 => (intro w hSw; (try dsimp only at hSw); go_simp; try with_reducible rfl)
  try simp only [Act.put, List.setIfInBounds_toArray, List.set_cons_zero, List.set_cons_succ]
  refine wpAnyH_ready (rs := [7]) (by kernel_rfl) (by simp) ?_
  refine (AllReadyH.cons (o := ⟨some 44, _, _, _, _, _⟩) rfl (fun K hK => ?_) AllReadyH.nil)
  go_simp
  have HS1 := HB1
  refine (ubet_c R a b V m (X) (Y) _ (HR.out.below HB1.out) (by omega) (by omega) (by omega) (by omega)).mono ?_
  rintro e w1 ⟨rfl, hb'⟩
  have HB1 := Lib.hid ((HB1.out).trans (hb'.mono (HB1.out).size))
  clear hb'
  refine hK.out _ _ ?hS17 (fun hHeld => ?_)
  case hS17 => exact trivial
  clear hK K
  try simp only [Act.put, List.setIfInBounds_toArray, List.set_cons_zero, List.set_cons_succ]
  refine wpAnyH_take (i := 8) (oi := ⟨some 8, _, _, _, _, _⟩) (v := ?v18) rfl (by kernel_rfl) (by kernel_rfl) (by kernel_rfl) (fun _ _ _ h => h) (Or.inl ⟨by rfl, ?h18⟩) (by assumption) ?r18
  case h18 => (intro w hSw; (try dsimp only at hSw); go_simp; try with_reducible rfl)
  try simp only [Act.put, List.setIfInBounds_toArray, List.set_cons_zero, List.set_cons_succ]
  refine wpAnyH_done (by kernel_rfl) ?_ _
  clear hHeld
  go_wp2_with fail
  go_ret
  exact ⟨rfl, HB1.out⟩

theorem mul_bd4 {p q : Int} (h0 : 0 ≤ p) (h1 : p ≤ 4) (g0 : 0 ≤ q) (g1 : q ≤ 4) : 0 ≤ p * q ∧ p * q ≤ 16 := by
  have h2 := Int.mul_nonneg h0 g0
  have h3 : p * q ≤ 4 * 4 := Int.mul_le_mul h1 g1 g0 (by omega)
  omega
theorem mul_bdz {p z : Int} (h0 : 0 ≤ p) (h1 : p ≤ 16) (g0 : 0 ≤ z) (g1 : z ≤ 65535) : 0 ≤ p * z ∧ p * z ≤ 1048560 := by
  have h2 := Int.mul_nonneg h0 g0
  have h3 : p * z ≤ 16 * 65535 := Int.mul_le_mul h1 g1 g0 (by omega)
  omega
def ps (c t0 t1 t2 t3 : Int) : Nat → Int
  | 0 => c
  | 1 => c + t0
  | 2 => c + t0 + t1
  | 3 => c + t0 + t1 + t2
  | _ => c + t0 + t1 + t2 + t3
set_option maxRecDepth 100000 in
set_option maxHeartbeats 3200000 in
theorem uAt_2 (R a b : Nat) (V : List Int) (m x y : Int) (w : World) (hr : RefAt w R a b V m) :
    Calls Try.prog 10 #[.pointer (some ⟨R, 0, none⟩), .int .i64 x, .int .i64 y, .int .i64 2] w fun e w' => e = .returned (.int .i64 (fineI 2 (betI a b V m) (plI x) (plI y))) ∧ Below w.heap.size w w' := by
  have HR := Lib.hid hr
  have hm1 := hr.m1
  have hm2 := hr.m2
  have HS := Lib.hid hr.s
  have hx := plI_bd x
  have hy := plI_bd y
  have HPX := Lib.hid (fun W => uplace_c x W)
  have HPY := Lib.hid (fun W => uplace_c y W)
  generalize plI x = X at *
  generalize plI y = Y at *
  clear hr
  have FIN : fineI 2 (betI a b V m) X Y = ((2 - X % 2) * (2 - Y % 2) * betI a b V m (X / 2) (Y / 2) + X % 2 * (2 - Y % 2) * betI a b V m (X / 2 + 1) (Y / 2) + (2 - X % 2) * (Y % 2) * betI a b V m (X / 2) (Y / 2 + 1) + X % 2 * (Y % 2) * betI a b V m (X / 2 + 1) (Y / 2 + 1) + 2) / 4 := rfl
  have r0 : 0 ≤ X % 2 ∧ X % 2 < 2 := by omega
  have r1 : 0 ≤ Y % 2 ∧ Y % 2 < 2 := by omega
  obtain ⟨p0, hp0⟩ : ∃ q, q = (2 - X % 2) * (2 - Y % 2) := ⟨_, rfl⟩
  have d0 : 0 ≤ p0 ∧ p0 ≤ 16 := by rw [hp0]; exact mul_bd4 (by omega) (by omega) (by omega) (by omega)
  obtain ⟨z0, hz0⟩ : ∃ q, q = betI a b V m (X / 2) (Y / 2) := ⟨_, rfl⟩
  have y0 : 0 ≤ z0 ∧ z0 ≤ 65535 := by rw [hz0]; have := betI_bd (a := a) (b := b) HS.out hm1 (X / 2) (Y / 2); omega
  obtain ⟨t0, ht0⟩ : ∃ q, q = p0 * z0 := ⟨_, rfl⟩
  have x0 : 0 ≤ t0 ∧ t0 ≤ 1048560 := by rw [ht0]; exact mul_bdz d0.1 d0.2 y0.1 y0.2
  have N0 := Lib.hid (show p0 ≤ 0 → t0 = 0 from fun h => by rw [ht0, show p0 = 0 by omega, Int.zero_mul])
  obtain ⟨p1, hp1⟩ : ∃ q, q = X % 2 * (2 - Y % 2) := ⟨_, rfl⟩
  have d1 : 0 ≤ p1 ∧ p1 ≤ 16 := by rw [hp1]; exact mul_bd4 (by omega) (by omega) (by omega) (by omega)
  obtain ⟨z1, hz1⟩ : ∃ q, q = betI a b V m (X / 2 + 1) (Y / 2) := ⟨_, rfl⟩
  have y1 : 0 ≤ z1 ∧ z1 ≤ 65535 := by rw [hz1]; have := betI_bd (a := a) (b := b) HS.out hm1 (X / 2 + 1) (Y / 2); omega
  obtain ⟨t1, ht1⟩ : ∃ q, q = p1 * z1 := ⟨_, rfl⟩
  have x1 : 0 ≤ t1 ∧ t1 ≤ 1048560 := by rw [ht1]; exact mul_bdz d1.1 d1.2 y1.1 y1.2
  have N1 := Lib.hid (show p1 ≤ 0 → t1 = 0 from fun h => by rw [ht1, show p1 = 0 by omega, Int.zero_mul])
  obtain ⟨p2, hp2⟩ : ∃ q, q = (2 - X % 2) * (Y % 2) := ⟨_, rfl⟩
  have d2 : 0 ≤ p2 ∧ p2 ≤ 16 := by rw [hp2]; exact mul_bd4 (by omega) (by omega) (by omega) (by omega)
  obtain ⟨z2, hz2⟩ : ∃ q, q = betI a b V m (X / 2) (Y / 2 + 1) := ⟨_, rfl⟩
  have y2 : 0 ≤ z2 ∧ z2 ≤ 65535 := by rw [hz2]; have := betI_bd (a := a) (b := b) HS.out hm1 (X / 2) (Y / 2 + 1); omega
  obtain ⟨t2, ht2⟩ : ∃ q, q = p2 * z2 := ⟨_, rfl⟩
  have x2 : 0 ≤ t2 ∧ t2 ≤ 1048560 := by rw [ht2]; exact mul_bdz d2.1 d2.2 y2.1 y2.2
  have N2 := Lib.hid (show p2 ≤ 0 → t2 = 0 from fun h => by rw [ht2, show p2 = 0 by omega, Int.zero_mul])
  obtain ⟨p3, hp3⟩ : ∃ q, q = X % 2 * (Y % 2) := ⟨_, rfl⟩
  have d3 : 0 ≤ p3 ∧ p3 ≤ 16 := by rw [hp3]; exact mul_bd4 (by omega) (by omega) (by omega) (by omega)
  obtain ⟨z3, hz3⟩ : ∃ q, q = betI a b V m (X / 2 + 1) (Y / 2 + 1) := ⟨_, rfl⟩
  have y3 : 0 ≤ z3 ∧ z3 ≤ 65535 := by rw [hz3]; have := betI_bd (a := a) (b := b) HS.out hm1 (X / 2 + 1) (Y / 2 + 1); omega
  obtain ⟨t3, ht3⟩ : ∃ q, q = p3 * z3 := ⟨_, rfl⟩
  have x3 : 0 ≤ t3 ∧ t3 ≤ 1048560 := by rw [ht3]; exact mul_bdz d3.1 d3.2 y3.1 y3.2
  have N3 := Lib.hid (show p3 ≤ 0 → t3 = 0 from fun h => by rw [ht3, show p3 = 0 by omega, Int.zero_mul])
  rw [← hp0, ← hz0, ← ht0, ← hp1, ← hz1, ← ht1, ← hp2, ← hz2, ← ht2, ← hp3, ← hz3, ← ht3] at FIN
  have F0 : wrap64 ((2 - X % 2) * (2 - Y % 2)) = p0 := by rw [← hp0]; unfold wrap64; omega
  have Z0 := Lib.hid hz0
  have T0 := Lib.hid ht0
  clear hp0 hz0 ht0
  have F1 : wrap64 (X % 2 * (2 - Y % 2)) = p1 := by rw [← hp1]; unfold wrap64; omega
  have Z1 := Lib.hid hz1
  have T1 := Lib.hid ht1
  clear hp1 hz1 ht1
  have F2 : wrap64 ((2 - X % 2) * (Y % 2)) = p2 := by rw [← hp2]; unfold wrap64; omega
  have Z2 := Lib.hid hz2
  have T2 := Lib.hid ht2
  clear hp2 hz2 ht2
  have F3 : wrap64 (X % 2 * (Y % 2)) = p3 := by rw [← hp3]; unfold wrap64; omega
  have Z3 := Lib.hid hz3
  have T3 := Lib.hid ht3
  clear hp3 hz3 ht3
  have FI := Lib.hid FIN
  clear FIN r0 r1
  have E1 : bits .and .i64 X 1 = X % 2 := i64_and1 X
  have E2 : bits .and .i64 Y 1 = Y % 2 := i64_and1 Y
  have J0 : bits .and .i64 0 1 = 0 := by rw [i64_and1]; rfl
  have J1 : bits .and .i64 1 1 = 1 := by rw [i64_and1]; rfl
  have J2 : bits .and .i64 2 1 = 0 := by rw [i64_and1]; rfl
  have J3 : bits .and .i64 3 1 = 1 := by rw [i64_and1]; rfl
  have i0 : ∀ a b c d w, (Instr.index 53 (.agg #[a, b, c, d]) (.int .i64 0)).run Try.prog w = .ok a w := fun a b c d w => (up_idx a b c d w).1
  have i1 : ∀ a b c d w, (Instr.index 53 (.agg #[a, b, c, d]) (.int .i64 1)).run Try.prog w = .ok b w := fun a b c d w => (up_idx a b c d w).2.1
  have i2 : ∀ a b c d w, (Instr.index 53 (.agg #[a, b, c, d]) (.int .i64 2)).run Try.prog w = .ok c w := fun a b c d w => (up_idx a b c d w).2.2.1
  have i3 : ∀ a b c d w, (Instr.index 53 (.agg #[a, b, c, d]) (.int .i64 3)).run Try.prog w = .ok d w := fun a b c d w => (up_idx a b c d w).2.2.2
  go_enter Try.func10, Try.ntmps10
  go_wp2_with fail
  refine (HPX.out _).mono ?_
  rintro e w1 ⟨rfl, rfl⟩
  go_wp2_with fail
  refine (HPY.out _).mono ?_
  rintro e w1 ⟨rfl, rfl⟩
  go_wp2_with fail
  go_quiet (fail)
  go_wp2_with fail
  have HBW := Lib.hid (below_drewN (Below.refl w.heap.size w) nq)
  generalize w.drewN nq = w0 at *
  clear E1 E2 F0 F1 F2 F3
  go_loopw [16, 88] (fun u v wr => ∃ k : Nat, k ≤ 4 ∧ v = .int .i64 k ∧ u = .int .i64 (ps 2 t0 t1 t2 t3 k) ∧ Below w.heap.size w wr) (fun _ v _ => 4 - (intOf v).toNat)
  case atStart => exact ⟨0, by omega, rfl, rfl, HBW.out⟩
  case round =>
    obtain ⟨k, hk, rfl, rfl, hB⟩ := hrel
    have HB := Lib.hid hB
    clear hB
    rcases (show k = 0 ∨ k = 1 ∨ k = 2 ∨ k = 3 ∨ k = 4 by omega) with rfl | rfl | rfl | rfl | rfl
    · simp only [ps]
      by_cases hw : 0 < p0
      · have T := T0.out.symm
        go_wp2_with fail
        refine (ubet_c R a b V m (X / 2) (Y / 2) _ (HR.out.below HB.out) (by omega) (by omega) (by omega) (by omega)).mono ?_
        rintro e w1 ⟨rfl, hb'⟩
        rw [← Z0.out]
        have HB := Lib.hid (HB.out.trans (hb'.mono HB.out.size))
        clear hb'
        go_wp2_with fail
        go_roundw
        case rel => exact ⟨1, by omega, rfl, rfl, HB.out⟩
        case measure => simp [intOf]
      · have T := N0.out (by omega)
        skip
        go_wp2_with fail
        go_roundw
        case rel => exact ⟨1, by omega, rfl, by simp only [ps]; have := N0.out (by omega); congr 1; omega, HB.out⟩
        case measure => simp [intOf]
    · simp only [ps]
      by_cases hw : 0 < p1
      · have T := T1.out.symm
        go_wp2_with fail
        refine (ubet_c R a b V m (X / 2 + 1) (Y / 2) _ (HR.out.below HB.out) (by omega) (by omega) (by omega) (by omega)).mono ?_
        rintro e w1 ⟨rfl, hb'⟩
        rw [← Z1.out]
        have HB := Lib.hid (HB.out.trans (hb'.mono HB.out.size))
        clear hb'
        go_wp2_with fail
        go_roundw
        case rel => exact ⟨2, by omega, rfl, rfl, HB.out⟩
        case measure => simp [intOf]
      · have T := N1.out (by omega)
        skip
        go_wp2_with fail
        go_roundw
        case rel => exact ⟨2, by omega, rfl, by simp only [ps]; have := N1.out (by omega); congr 1; omega, HB.out⟩
        case measure => simp [intOf]
    · simp only [ps]
      by_cases hw : 0 < p2
      · have T := T2.out.symm
        go_wp2_with fail
        refine (ubet_c R a b V m (X / 2) (Y / 2 + 1) _ (HR.out.below HB.out) (by omega) (by omega) (by omega) (by omega)).mono ?_
        rintro e w1 ⟨rfl, hb'⟩
        rw [← Z2.out]
        have HB := Lib.hid (HB.out.trans (hb'.mono HB.out.size))
        clear hb'
        go_wp2_with fail
        go_roundw
        case rel => exact ⟨3, by omega, rfl, rfl, HB.out⟩
        case measure => simp [intOf]
      · have T := N2.out (by omega)
        skip
        go_wp2_with fail
        go_roundw
        case rel => exact ⟨3, by omega, rfl, by simp only [ps]; have := N2.out (by omega); congr 1; omega, HB.out⟩
        case measure => simp [intOf]
    · simp only [ps]
      by_cases hw : 0 < p3
      · have T := T3.out.symm
        go_wp2_with fail
        refine (ubet_c R a b V m (X / 2 + 1) (Y / 2 + 1) _ (HR.out.below HB.out) (by omega) (by omega) (by omega) (by omega)).mono ?_
        rintro e w1 ⟨rfl, hb'⟩
        rw [← Z3.out]
        have HB := Lib.hid (HB.out.trans (hb'.mono HB.out.size))
        clear hb'
        go_wp2_with fail
        go_roundw
        case rel => exact ⟨4, by omega, rfl, rfl, HB.out⟩
        case measure => simp [intOf]
      · have T := N3.out (by omega)
        skip
        go_wp2_with fail
        go_roundw
        case rel => exact ⟨4, by omega, rfl, by simp only [ps]; have := N3.out (by omega); congr 1; omega, HB.out⟩
        case measure => simp [intOf]
    · simp only [ps]
      go_wp2_with fail
      go_ret
      exact ⟨by rw [FI.out]; exact ret_int (by omega), HB.out⟩

set_option maxRecDepth 100000 in
set_option maxHeartbeats 3200000 in
theorem uAt_3 (R a b : Nat) (V : List Int) (m x y : Int) (w : World) (hr : RefAt w R a b V m) :
    Calls Try.prog 10 #[.pointer (some ⟨R, 0, none⟩), .int .i64 x, .int .i64 y, .int .i64 3] w fun e w' => e = .returned (.int .i64 (fineI 4 (betI a b V m) (plI x) (plI y))) ∧ Below w.heap.size w w' := by
  have HR := Lib.hid hr
  have hm1 := hr.m1
  have hm2 := hr.m2
  have HS := Lib.hid hr.s
  have hx := plI_bd x
  have hy := plI_bd y
  have HPX := Lib.hid (fun W => uplace_c x W)
  have HPY := Lib.hid (fun W => uplace_c y W)
  generalize plI x = X at *
  generalize plI y = Y at *
  clear hr
  have FIN : fineI 4 (betI a b V m) X Y = ((4 - X % 4) * (4 - Y % 4) * betI a b V m (X / 4) (Y / 4) + X % 4 * (4 - Y % 4) * betI a b V m (X / 4 + 1) (Y / 4) + (4 - X % 4) * (Y % 4) * betI a b V m (X / 4) (Y / 4 + 1) + X % 4 * (Y % 4) * betI a b V m (X / 4 + 1) (Y / 4 + 1) + 8) / 16 := rfl
  have r0 : 0 ≤ X % 4 ∧ X % 4 < 4 := by omega
  have r1 : 0 ≤ Y % 4 ∧ Y % 4 < 4 := by omega
  obtain ⟨p0, hp0⟩ : ∃ q, q = (4 - X % 4) * (4 - Y % 4) := ⟨_, rfl⟩
  have d0 : 0 ≤ p0 ∧ p0 ≤ 16 := by rw [hp0]; exact mul_bd4 (by omega) (by omega) (by omega) (by omega)
  obtain ⟨z0, hz0⟩ : ∃ q, q = betI a b V m (X / 4) (Y / 4) := ⟨_, rfl⟩
  have y0 : 0 ≤ z0 ∧ z0 ≤ 65535 := by rw [hz0]; have := betI_bd (a := a) (b := b) HS.out hm1 (X / 4) (Y / 4); omega
  obtain ⟨t0, ht0⟩ : ∃ q, q = p0 * z0 := ⟨_, rfl⟩
  have x0 : 0 ≤ t0 ∧ t0 ≤ 1048560 := by rw [ht0]; exact mul_bdz d0.1 d0.2 y0.1 y0.2
  have N0 := Lib.hid (show p0 ≤ 0 → t0 = 0 from fun h => by rw [ht0, show p0 = 0 by omega, Int.zero_mul])
  obtain ⟨p1, hp1⟩ : ∃ q, q = X % 4 * (4 - Y % 4) := ⟨_, rfl⟩
  have d1 : 0 ≤ p1 ∧ p1 ≤ 16 := by rw [hp1]; exact mul_bd4 (by omega) (by omega) (by omega) (by omega)
  obtain ⟨z1, hz1⟩ : ∃ q, q = betI a b V m (X / 4 + 1) (Y / 4) := ⟨_, rfl⟩
  have y1 : 0 ≤ z1 ∧ z1 ≤ 65535 := by rw [hz1]; have := betI_bd (a := a) (b := b) HS.out hm1 (X / 4 + 1) (Y / 4); omega
  obtain ⟨t1, ht1⟩ : ∃ q, q = p1 * z1 := ⟨_, rfl⟩
  have x1 : 0 ≤ t1 ∧ t1 ≤ 1048560 := by rw [ht1]; exact mul_bdz d1.1 d1.2 y1.1 y1.2
  have N1 := Lib.hid (show p1 ≤ 0 → t1 = 0 from fun h => by rw [ht1, show p1 = 0 by omega, Int.zero_mul])
  obtain ⟨p2, hp2⟩ : ∃ q, q = (4 - X % 4) * (Y % 4) := ⟨_, rfl⟩
  have d2 : 0 ≤ p2 ∧ p2 ≤ 16 := by rw [hp2]; exact mul_bd4 (by omega) (by omega) (by omega) (by omega)
  obtain ⟨z2, hz2⟩ : ∃ q, q = betI a b V m (X / 4) (Y / 4 + 1) := ⟨_, rfl⟩
  have y2 : 0 ≤ z2 ∧ z2 ≤ 65535 := by rw [hz2]; have := betI_bd (a := a) (b := b) HS.out hm1 (X / 4) (Y / 4 + 1); omega
  obtain ⟨t2, ht2⟩ : ∃ q, q = p2 * z2 := ⟨_, rfl⟩
  have x2 : 0 ≤ t2 ∧ t2 ≤ 1048560 := by rw [ht2]; exact mul_bdz d2.1 d2.2 y2.1 y2.2
  have N2 := Lib.hid (show p2 ≤ 0 → t2 = 0 from fun h => by rw [ht2, show p2 = 0 by omega, Int.zero_mul])
  obtain ⟨p3, hp3⟩ : ∃ q, q = X % 4 * (Y % 4) := ⟨_, rfl⟩
  have d3 : 0 ≤ p3 ∧ p3 ≤ 16 := by rw [hp3]; exact mul_bd4 (by omega) (by omega) (by omega) (by omega)
  obtain ⟨z3, hz3⟩ : ∃ q, q = betI a b V m (X / 4 + 1) (Y / 4 + 1) := ⟨_, rfl⟩
  have y3 : 0 ≤ z3 ∧ z3 ≤ 65535 := by rw [hz3]; have := betI_bd (a := a) (b := b) HS.out hm1 (X / 4 + 1) (Y / 4 + 1); omega
  obtain ⟨t3, ht3⟩ : ∃ q, q = p3 * z3 := ⟨_, rfl⟩
  have x3 : 0 ≤ t3 ∧ t3 ≤ 1048560 := by rw [ht3]; exact mul_bdz d3.1 d3.2 y3.1 y3.2
  have N3 := Lib.hid (show p3 ≤ 0 → t3 = 0 from fun h => by rw [ht3, show p3 = 0 by omega, Int.zero_mul])
  rw [← hp0, ← hz0, ← ht0, ← hp1, ← hz1, ← ht1, ← hp2, ← hz2, ← ht2, ← hp3, ← hz3, ← ht3] at FIN
  have F0 : wrap64 ((4 - X % 4) * (4 - Y % 4)) = p0 := by rw [← hp0]; unfold wrap64; omega
  have Z0 := Lib.hid hz0
  have T0 := Lib.hid ht0
  clear hp0 hz0 ht0
  have F1 : wrap64 (X % 4 * (4 - Y % 4)) = p1 := by rw [← hp1]; unfold wrap64; omega
  have Z1 := Lib.hid hz1
  have T1 := Lib.hid ht1
  clear hp1 hz1 ht1
  have F2 : wrap64 ((4 - X % 4) * (Y % 4)) = p2 := by rw [← hp2]; unfold wrap64; omega
  have Z2 := Lib.hid hz2
  have T2 := Lib.hid ht2
  clear hp2 hz2 ht2
  have F3 : wrap64 (X % 4 * (Y % 4)) = p3 := by rw [← hp3]; unfold wrap64; omega
  have Z3 := Lib.hid hz3
  have T3 := Lib.hid ht3
  clear hp3 hz3 ht3
  have FI := Lib.hid FIN
  clear FIN r0 r1
  have E1 : bits .and .i64 X 3 = X % 4 := i64_and3 X
  have E2 : bits .and .i64 Y 3 = Y % 4 := i64_and3 Y
  have J0 : bits .and .i64 0 1 = 0 := by rw [i64_and1]; rfl
  have J1 : bits .and .i64 1 1 = 1 := by rw [i64_and1]; rfl
  have J2 : bits .and .i64 2 1 = 0 := by rw [i64_and1]; rfl
  have J3 : bits .and .i64 3 1 = 1 := by rw [i64_and1]; rfl
  have i0 : ∀ a b c d w, (Instr.index 53 (.agg #[a, b, c, d]) (.int .i64 0)).run Try.prog w = .ok a w := fun a b c d w => (up_idx a b c d w).1
  have i1 : ∀ a b c d w, (Instr.index 53 (.agg #[a, b, c, d]) (.int .i64 1)).run Try.prog w = .ok b w := fun a b c d w => (up_idx a b c d w).2.1
  have i2 : ∀ a b c d w, (Instr.index 53 (.agg #[a, b, c, d]) (.int .i64 2)).run Try.prog w = .ok c w := fun a b c d w => (up_idx a b c d w).2.2.1
  have i3 : ∀ a b c d w, (Instr.index 53 (.agg #[a, b, c, d]) (.int .i64 3)).run Try.prog w = .ok d w := fun a b c d w => (up_idx a b c d w).2.2.2
  go_enter Try.func10, Try.ntmps10
  go_wp2_with fail
  refine (HPX.out _).mono ?_
  rintro e w1 ⟨rfl, rfl⟩
  go_wp2_with fail
  refine (HPY.out _).mono ?_
  rintro e w1 ⟨rfl, rfl⟩
  go_wp2_with fail
  go_quiet (fail)
  go_wp2_with fail
  have HBW := Lib.hid (below_drewN (Below.refl w.heap.size w) nq)
  generalize w.drewN nq = w0 at *
  clear E1 E2 F0 F1 F2 F3
  go_loopw [16, 88] (fun u v wr => ∃ k : Nat, k ≤ 4 ∧ v = .int .i64 k ∧ u = .int .i64 (ps 8 t0 t1 t2 t3 k) ∧ Below w.heap.size w wr) (fun _ v _ => 4 - (intOf v).toNat)
  case atStart => exact ⟨0, by omega, rfl, rfl, HBW.out⟩
  case round =>
    obtain ⟨k, hk, rfl, rfl, hB⟩ := hrel
    have HB := Lib.hid hB
    clear hB
    rcases (show k = 0 ∨ k = 1 ∨ k = 2 ∨ k = 3 ∨ k = 4 by omega) with rfl | rfl | rfl | rfl | rfl
    · simp only [ps]
      by_cases hw : 0 < p0
      · have T := T0.out.symm
        go_wp2_with fail
        refine (ubet_c R a b V m (X / 4) (Y / 4) _ (HR.out.below HB.out) (by omega) (by omega) (by omega) (by omega)).mono ?_
        rintro e w1 ⟨rfl, hb'⟩
        rw [← Z0.out]
        have HB := Lib.hid (HB.out.trans (hb'.mono HB.out.size))
        clear hb'
        go_wp2_with fail
        go_roundw
        case rel => exact ⟨1, by omega, rfl, rfl, HB.out⟩
        case measure => simp [intOf]
      · have T := N0.out (by omega)
        skip
        go_wp2_with fail
        go_roundw
        case rel => exact ⟨1, by omega, rfl, by simp only [ps]; have := N0.out (by omega); congr 1; omega, HB.out⟩
        case measure => simp [intOf]
    · simp only [ps]
      by_cases hw : 0 < p1
      · have T := T1.out.symm
        go_wp2_with fail
        refine (ubet_c R a b V m (X / 4 + 1) (Y / 4) _ (HR.out.below HB.out) (by omega) (by omega) (by omega) (by omega)).mono ?_
        rintro e w1 ⟨rfl, hb'⟩
        rw [← Z1.out]
        have HB := Lib.hid (HB.out.trans (hb'.mono HB.out.size))
        clear hb'
        go_wp2_with fail
        go_roundw
        case rel => exact ⟨2, by omega, rfl, rfl, HB.out⟩
        case measure => simp [intOf]
      · have T := N1.out (by omega)
        skip
        go_wp2_with fail
        go_roundw
        case rel => exact ⟨2, by omega, rfl, by simp only [ps]; have := N1.out (by omega); congr 1; omega, HB.out⟩
        case measure => simp [intOf]
    · simp only [ps]
      by_cases hw : 0 < p2
      · have T := T2.out.symm
        go_wp2_with fail
        refine (ubet_c R a b V m (X / 4) (Y / 4 + 1) _ (HR.out.below HB.out) (by omega) (by omega) (by omega) (by omega)).mono ?_
        rintro e w1 ⟨rfl, hb'⟩
        rw [← Z2.out]
        have HB := Lib.hid (HB.out.trans (hb'.mono HB.out.size))
        clear hb'
        go_wp2_with fail
        go_roundw
        case rel => exact ⟨3, by omega, rfl, rfl, HB.out⟩
        case measure => simp [intOf]
      · have T := N2.out (by omega)
        skip
        go_wp2_with fail
        go_roundw
        case rel => exact ⟨3, by omega, rfl, by simp only [ps]; have := N2.out (by omega); congr 1; omega, HB.out⟩
        case measure => simp [intOf]
    · simp only [ps]
      by_cases hw : 0 < p3
      · have T := T3.out.symm
        go_wp2_with fail
        refine (ubet_c R a b V m (X / 4 + 1) (Y / 4 + 1) _ (HR.out.below HB.out) (by omega) (by omega) (by omega) (by omega)).mono ?_
        rintro e w1 ⟨rfl, hb'⟩
        rw [← Z3.out]
        have HB := Lib.hid (HB.out.trans (hb'.mono HB.out.size))
        clear hb'
        go_wp2_with fail
        go_roundw
        case rel => exact ⟨4, by omega, rfl, rfl, HB.out⟩
        case measure => simp [intOf]
      · have T := N3.out (by omega)
        skip
        go_wp2_with fail
        go_roundw
        case rel => exact ⟨4, by omega, rfl, by simp only [ps]; have := N3.out (by omega); congr 1; omega, HB.out⟩
        case measure => simp [intOf]
    · simp only [ps]
      go_wp2_with fail
      go_ret
      exact ⟨by rw [FI.out]; exact ret_int (by omega), HB.out⟩


end Go.Proofs.Ytfknikgfilfcmaa
