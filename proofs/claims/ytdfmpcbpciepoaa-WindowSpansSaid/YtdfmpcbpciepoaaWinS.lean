/- The walk of the law WindowSpans: it answers true at every input. -/
import Derived.Test.YtdfmpcbpciepoaaWinF
import Derived.Test.YtdfmpcbpciepoaaOpen
import Derived.Deep.RegionHeld3
namespace Go.Proofs.Ytdfmpcbpciepoaa
open Go.RowKit
set_option linter.unusedVariables false
set_option linter.unusedSimpArgs false

theorem count_step {n s k : Int} (h1 : 1 ≤ n) (h3 : 1 ≤ s) (hk : k * s < n) : k + 1 ≤ (n + s - 1) / s := by
  apply Int.le_ediv_of_mul_le (by omega)
  rw [Int.add_mul]
  omega
theorem count_end {n s k : Int} (h3 : 1 ≤ s) (hk : n ≤ k * s) : (n + s - 1) / s ≤ k := by
  have : (n + s - 1) / s < k + 1 := Int.ediv_lt_of_lt_mul (by omega) (by rw [Int.add_mul]; omega)
  omega

set_option maxHeartbeats 3200000 in
theorem spans_c (lx ly sx sy n size : Int) (w : World) (hx : lx ≤ 9223372036854775807) (hy : ly ≤ 9223372036854775807) :
    Calls Try.prog 4 #[lapsV lx ly sx sy, .int .i64 n, .int .i64 size] w fun e w' => e = .returned (.bool true) ∧ Below w.heap.size w w' := by
  have H1 := Lib.hid (wright_c lx ly sx sy)
  have H2 := Lib.hid (fun w => rwright_c lx ly sx sy w hx hy)
  unfold lapsV
  unfold lapsV at H1 H2
  go_enter Try.func4, Try.ntmps4
  go_wp2_with fail
  refine (first_c _).mono ?_
  rintro e w1 ⟨rfl, hb1⟩
  have h0 : w1.cell? ⟨w.heap.size, 0, none⟩ = some (.int .i64 lx) := (hb1.cell (p := ⟨w.heap.size, 0, none⟩) (by simp)).trans (by simp)
  have h1 : w1.cell? ⟨w.heap.size, 1, none⟩ = some (.int .i64 ly) := (hb1.cell (p := ⟨w.heap.size, 1, none⟩) (by simp)).trans (by simp)
  have h2 : w1.cell? ⟨w.heap.size, 2, none⟩ = some (.int .i64 sx) := (hb1.cell (p := ⟨w.heap.size, 2, none⟩) (by simp)).trans (by simp)
  have h3 : w1.cell? ⟨w.heap.size, 3, none⟩ = some (.int .i64 sy) := (hb1.cell (p := ⟨w.heap.size, 3, none⟩) (by simp)).trans (by simp)
  have hz : w.heap.size < w1.heap.size := by have := hb1.size; simp at this; omega
  have Hb : Hid (Below w.heap.size w w1) := Lib.hid (((Below.refl _ _).alloc (Nat.le_refl _) _).trans (hb1.mono (by simp)))
  clear hb1
  have hcase : (wayB lx sx = true ∧ 0 ≤ n ∧ n ≤ 1024) ∨ wayB lx sx = false ∨ (wayB lx sx = true ∧ n < 0) ∨ (wayB lx sx = true ∧ 1024 < n) := by
    cases wayB lx sx <;> simp <;> omega
  have Hs : Hid (∀ W, Calls Try.prog 14 #[.int .i64 sx, .int .i64 lx, .int .i64 n] W fun e w' => e = .returned (.tuple #[.int .i64 (spanA sx lx n), .int .i64 (spanB sx lx n)]) ∧ W = w') := Lib.hid (fun W => span_c sx lx n W)
  rcases hcase with ⟨hw, h6, h7⟩ | hw | ⟨hw, h6⟩ | ⟨hw, h6⟩
  · have ha : spanA sx lx n = n * sx - (lx - sx) / 2 := if_pos (decide_eq_true ⟨hw, h6, h7⟩)
    have hb : spanB sx lx n = n * sx - (lx - sx) / 2 + lx := if_pos (decide_eq_true ⟨hw, h6, h7⟩)
    rw [ha, hb] at Hs
    clear ha hb
    have Hw := Lib.hid hw
    have ⟨g1, g2, g3, g4, g5⟩ := wayB_t hw
    have ⟨g8, g9⟩ := mul_bd h6 h7 g1 g2
    clear hw
    go_wp2_with fail
    refine (Hs.out _).mono ?_
    rintro e w2 ⟨rfl, rfl⟩
    clear Hs
    go_wp2_with fail
    refine (rway_c _ _ _ hx).mono ?_
    rintro e w2 ⟨rfl, rfl⟩
    rw [Hw.out]
    clear Hw
    by_cases hs : 1 ≤ size ∧ size ≤ 1024 ∧ 1 ≤ sy ∧ sy ≤ 64
    · have Hc : Hid (countF size sy = (size + sy - 1) / sy) := Lib.hid (if_pos hs)
      obtain ⟨s1, s2, s3, s4⟩ := hs
      have ⟨c1, c2⟩ := count_bd s1 s2 s3
      go_wp2_with fail
      go_loop [11] (fun v => ∃ k : Int, 0 ≤ k ∧ k ≤ (size + sy - 1) / sy ∧ v = .int .i64 k) (fun v => 1024 - (intOf v).toNat)
      case atStart => exact ⟨0, by omega, c1, rfl⟩
      case round =>
        obtain ⟨k, k0, k1, rfl⟩ := hrel
        have ⟨m1, m2⟩ := mul_bd k0 (by omega) s3 s4
        by_cases hlt : k * sy < size
        · have hk := count_step s1 s3 hlt
          go_wp2_with fail
          go_round
          case rel => exact ⟨k + 1, by omega, hk, rfl⟩
          case measure => simp [intOf]; omega
        · have hk := count_end (n := size) (k := k) s3 (by omega)
          have He : countF size sy = k := by rw [Hc.out]; omega
          clear Hc
          have Hk : Hid (∀ W, Calls Try.prog 15 #[.int .i64 size, .int .i64 sy] W fun e w' => e = .returned (.int .i64 k) ∧ W = w') := Lib.hid (by rw [← He]; exact fun W => count_c size sy W)
          clear He
          go_wp2_with fail
          go_region_held3 (fun w' => w'.cell? ⟨w.heap.size, 0, none⟩ = some (.int .i64 lx) ∧ w'.cell? ⟨w.heap.size, 1, none⟩ = some (.int .i64 ly) ∧ w'.cell? ⟨w.heap.size, 2, none⟩ = some (.int .i64 sx) ∧ w'.cell? ⟨w.heap.size, 3, none⟩ = some (.int .i64 sy))
            (go_keep)
            (first
              | (go_at_call 15; refine (Hk.out _).mono ?_; rintro e w3 ⟨rfl, rfl⟩)
              | (go_at_call 16; refine (H1.out _).mono ?_; rintro e w3 ⟨rfl, rfl⟩)
              | (go_at_call 17; refine (H2.out _).mono ?_; rintro e w3 ⟨rfl, rfl⟩))
          all_goals
            go_wp2_with fail
            go_ret
            exact ⟨ret_bool (by simp), by first | exact (((Hb.out).drew).alloc (by have := Hb.out.size; simp; omega) _).alloc (by have := Hb.out.size; simp; omega) _ | exact ((Hb.out).alloc (by have := Hb.out.size; simp; omega) _).alloc (by have := Hb.out.size; simp; omega) _⟩
    · have He : countF size sy = 0 := if_neg hs
      have Hk : Hid (∀ W, Calls Try.prog 15 #[.int .i64 size, .int .i64 sy] W fun e w' => e = .returned (.int .i64 0) ∧ W = w') := Lib.hid (by rw [← He]; exact fun W => count_c size sy W)
      clear He
      go_wp2_with fail
      all_goals
        go_region_held3 (fun w' => w'.cell? ⟨w.heap.size, 0, none⟩ = some (.int .i64 lx) ∧ w'.cell? ⟨w.heap.size, 1, none⟩ = some (.int .i64 ly) ∧ w'.cell? ⟨w.heap.size, 2, none⟩ = some (.int .i64 sx) ∧ w'.cell? ⟨w.heap.size, 3, none⟩ = some (.int .i64 sy))
          (go_keep)
          (first
            | (go_at_call 15; refine (Hk.out _).mono ?_; rintro e w3 ⟨rfl, rfl⟩)
            | (go_at_call 16; refine (H1.out _).mono ?_; rintro e w3 ⟨rfl, rfl⟩)
            | (go_at_call 17; refine (H2.out _).mono ?_; rintro e w3 ⟨rfl, rfl⟩))
        all_goals
          go_wp2_with fail
          go_ret
          exact ⟨ret_bool (by simp), by first | exact (((Hb.out).drew).alloc (by have := Hb.out.size; simp; omega) _).alloc (by have := Hb.out.size; simp; omega) _ | exact ((Hb.out).alloc (by have := Hb.out.size; simp; omega) _).alloc (by have := Hb.out.size; simp; omega) _⟩
  · have hf : spanOk sx lx n = false := decide_eq_false (by rw [hw]; simp)
    have ha : spanA sx lx n = 0 := by simp [spanA, hf]
    have hb : spanB sx lx n = 0 := by simp [spanB, hf]
    rw [ha, hb] at Hs
    clear ha hb hf
    have Hw := Lib.hid hw
    clear hw
    go_wp2_with fail
    refine (Hs.out _).mono ?_
    rintro e w2 ⟨rfl, rfl⟩
    clear Hs
    go_wp2_with fail
    refine (rway_c _ _ _ hx).mono ?_
    rintro e w2 ⟨rfl, rfl⟩
    rw [Hw.out]
    clear Hw
    by_cases hs : 1 ≤ size ∧ size ≤ 1024 ∧ 1 ≤ sy ∧ sy ≤ 64
    · have Hc : Hid (countF size sy = (size + sy - 1) / sy) := Lib.hid (if_pos hs)
      obtain ⟨s1, s2, s3, s4⟩ := hs
      have ⟨c1, c2⟩ := count_bd s1 s2 s3
      go_wp2_with fail
      go_loop [11] (fun v => ∃ k : Int, 0 ≤ k ∧ k ≤ (size + sy - 1) / sy ∧ v = .int .i64 k) (fun v => 1024 - (intOf v).toNat)
      case atStart => exact ⟨0, by omega, c1, rfl⟩
      case round =>
        obtain ⟨k, k0, k1, rfl⟩ := hrel
        have ⟨m1, m2⟩ := mul_bd k0 (by omega) s3 s4
        by_cases hlt : k * sy < size
        · have hk := count_step s1 s3 hlt
          go_wp2_with fail
          go_round
          case rel => exact ⟨k + 1, by omega, hk, rfl⟩
          case measure => simp [intOf]; omega
        · have hk := count_end (n := size) (k := k) s3 (by omega)
          have He : countF size sy = k := by rw [Hc.out]; omega
          clear Hc
          have Hk : Hid (∀ W, Calls Try.prog 15 #[.int .i64 size, .int .i64 sy] W fun e w' => e = .returned (.int .i64 k) ∧ W = w') := Lib.hid (by rw [← He]; exact fun W => count_c size sy W)
          clear He
          go_wp2_with fail
          go_region_held3 (fun w' => w'.cell? ⟨w.heap.size, 0, none⟩ = some (.int .i64 lx) ∧ w'.cell? ⟨w.heap.size, 1, none⟩ = some (.int .i64 ly) ∧ w'.cell? ⟨w.heap.size, 2, none⟩ = some (.int .i64 sx) ∧ w'.cell? ⟨w.heap.size, 3, none⟩ = some (.int .i64 sy))
            (go_keep)
            (first
              | (go_at_call 15; refine (Hk.out _).mono ?_; rintro e w3 ⟨rfl, rfl⟩)
              | (go_at_call 16; refine (H1.out _).mono ?_; rintro e w3 ⟨rfl, rfl⟩)
              | (go_at_call 17; refine (H2.out _).mono ?_; rintro e w3 ⟨rfl, rfl⟩))
          all_goals
            go_wp2_with fail
            go_ret
            exact ⟨ret_bool (by simp), by first | exact (((Hb.out).drew).alloc (by have := Hb.out.size; simp; omega) _).alloc (by have := Hb.out.size; simp; omega) _ | exact ((Hb.out).alloc (by have := Hb.out.size; simp; omega) _).alloc (by have := Hb.out.size; simp; omega) _⟩
    · have He : countF size sy = 0 := if_neg hs
      have Hk : Hid (∀ W, Calls Try.prog 15 #[.int .i64 size, .int .i64 sy] W fun e w' => e = .returned (.int .i64 0) ∧ W = w') := Lib.hid (by rw [← He]; exact fun W => count_c size sy W)
      clear He
      go_wp2_with fail
      all_goals
        go_region_held3 (fun w' => w'.cell? ⟨w.heap.size, 0, none⟩ = some (.int .i64 lx) ∧ w'.cell? ⟨w.heap.size, 1, none⟩ = some (.int .i64 ly) ∧ w'.cell? ⟨w.heap.size, 2, none⟩ = some (.int .i64 sx) ∧ w'.cell? ⟨w.heap.size, 3, none⟩ = some (.int .i64 sy))
          (go_keep)
          (first
            | (go_at_call 15; refine (Hk.out _).mono ?_; rintro e w3 ⟨rfl, rfl⟩)
            | (go_at_call 16; refine (H1.out _).mono ?_; rintro e w3 ⟨rfl, rfl⟩)
            | (go_at_call 17; refine (H2.out _).mono ?_; rintro e w3 ⟨rfl, rfl⟩))
        all_goals
          go_wp2_with fail
          go_ret
          exact ⟨ret_bool (by simp), by first | exact (((Hb.out).drew).alloc (by have := Hb.out.size; simp; omega) _).alloc (by have := Hb.out.size; simp; omega) _ | exact ((Hb.out).alloc (by have := Hb.out.size; simp; omega) _).alloc (by have := Hb.out.size; simp; omega) _⟩
  all_goals
    have hf : spanOk sx lx n = false := decide_eq_false (by rintro ⟨_, _, _⟩; omega)
    have ha : spanA sx lx n = 0 := by simp [spanA, hf]
    have hb : spanB sx lx n = 0 := by simp [spanB, hf]
    rw [ha, hb] at Hs
    clear ha hb hf
    have Hw := Lib.hid hw
    clear hw
    go_wp2_with fail
    refine (Hs.out _).mono ?_
    rintro e w2 ⟨rfl, rfl⟩
    clear Hs
    go_wp2_with fail
    refine (rway_c _ _ _ hx).mono ?_
    rintro e w2 ⟨rfl, rfl⟩
    rw [Hw.out]
    clear Hw
    by_cases hs : 1 ≤ size ∧ size ≤ 1024 ∧ 1 ≤ sy ∧ sy ≤ 64
    · have Hc : Hid (countF size sy = (size + sy - 1) / sy) := Lib.hid (if_pos hs)
      obtain ⟨s1, s2, s3, s4⟩ := hs
      have ⟨c1, c2⟩ := count_bd s1 s2 s3
      go_wp2_with fail
      go_loop [11] (fun v => ∃ k : Int, 0 ≤ k ∧ k ≤ (size + sy - 1) / sy ∧ v = .int .i64 k) (fun v => 1024 - (intOf v).toNat)
      case atStart => exact ⟨0, by omega, c1, rfl⟩
      case round =>
        obtain ⟨k, k0, k1, rfl⟩ := hrel
        have ⟨m1, m2⟩ := mul_bd k0 (by omega) s3 s4
        by_cases hlt : k * sy < size
        · have hk := count_step s1 s3 hlt
          go_wp2_with fail
          go_round
          case rel => exact ⟨k + 1, by omega, hk, rfl⟩
          case measure => simp [intOf]; omega
        · have hk := count_end (n := size) (k := k) s3 (by omega)
          have He : countF size sy = k := by rw [Hc.out]; omega
          clear Hc
          have Hk : Hid (∀ W, Calls Try.prog 15 #[.int .i64 size, .int .i64 sy] W fun e w' => e = .returned (.int .i64 k) ∧ W = w') := Lib.hid (by rw [← He]; exact fun W => count_c size sy W)
          clear He
          go_wp2_with fail
          go_region_held3 (fun w' => w'.cell? ⟨w.heap.size, 0, none⟩ = some (.int .i64 lx) ∧ w'.cell? ⟨w.heap.size, 1, none⟩ = some (.int .i64 ly) ∧ w'.cell? ⟨w.heap.size, 2, none⟩ = some (.int .i64 sx) ∧ w'.cell? ⟨w.heap.size, 3, none⟩ = some (.int .i64 sy))
            (go_keep)
            (first
              | (go_at_call 15; refine (Hk.out _).mono ?_; rintro e w3 ⟨rfl, rfl⟩)
              | (go_at_call 16; refine (H1.out _).mono ?_; rintro e w3 ⟨rfl, rfl⟩)
              | (go_at_call 17; refine (H2.out _).mono ?_; rintro e w3 ⟨rfl, rfl⟩))
          all_goals
            go_wp2_with fail
            go_ret
            exact ⟨ret_bool (by simp), by first | exact (((Hb.out).drew).alloc (by have := Hb.out.size; simp; omega) _).alloc (by have := Hb.out.size; simp; omega) _ | exact ((Hb.out).alloc (by have := Hb.out.size; simp; omega) _).alloc (by have := Hb.out.size; simp; omega) _⟩
    · have He : countF size sy = 0 := if_neg hs
      have Hk : Hid (∀ W, Calls Try.prog 15 #[.int .i64 size, .int .i64 sy] W fun e w' => e = .returned (.int .i64 0) ∧ W = w') := Lib.hid (by rw [← He]; exact fun W => count_c size sy W)
      clear He
      go_wp2_with fail
      all_goals
        go_region_held3 (fun w' => w'.cell? ⟨w.heap.size, 0, none⟩ = some (.int .i64 lx) ∧ w'.cell? ⟨w.heap.size, 1, none⟩ = some (.int .i64 ly) ∧ w'.cell? ⟨w.heap.size, 2, none⟩ = some (.int .i64 sx) ∧ w'.cell? ⟨w.heap.size, 3, none⟩ = some (.int .i64 sy))
          (go_keep)
          (first
            | (go_at_call 15; refine (Hk.out _).mono ?_; rintro e w3 ⟨rfl, rfl⟩)
            | (go_at_call 16; refine (H1.out _).mono ?_; rintro e w3 ⟨rfl, rfl⟩)
            | (go_at_call 17; refine (H2.out _).mono ?_; rintro e w3 ⟨rfl, rfl⟩))
        all_goals
          go_wp2_with fail
          go_ret
          exact ⟨ret_bool (by simp), by first | exact (((Hb.out).drew).alloc (by have := Hb.out.size; simp; omega) _).alloc (by have := Hb.out.size; simp; omega) _ | exact ((Hb.out).alloc (by have := Hb.out.size; simp; omega) _).alloc (by have := Hb.out.size; simp; omega) _⟩

end Go.Proofs.Ytdfmpcbpciepoaa
