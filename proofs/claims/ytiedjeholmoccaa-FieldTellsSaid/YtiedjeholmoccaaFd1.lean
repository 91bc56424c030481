/- Fields: blocks and units in memory; which numbers and blocks may be. -/
import Derived.Test.YtiedjeholmoccaaEnc
import Derived.LoopN
import Derived.IntWalk
namespace Go.Proofs.Ytiedjeholmoccaa
open Go.RowKit Go.Sort
set_option linter.unusedVariables false
set_option linter.unusedSimpArgs false

/-- A block of motion. -/
structure Bk where
  m : Int
  g : Bool
  x0 : Int
  y0 : Int
  x1 : Int
  y1 : Int
  d0 : Int
  d1 : Int
  d2 : Int
deriving DecidableEq
def bkC (b : Bk) : List Value := [.int .i64 b.m, .bool b.g, .int .i64 b.x0, .int .i64 b.y0, .int .i64 b.x1, .int .i64 b.y1, .int .i64 b.d0, .int .i64 b.d1, .int .i64 b.d2]
abbrev bkV (b : Bk) : Value := .agg #[.int .i64 b.m, .bool b.g, .int .i64 b.x0, .int .i64 b.y0, .int .i64 b.x1, .int .i64 b.y1, .int .i64 b.d0, .int .i64 b.d1, .int .i64 b.d2]
def Bk.zero : Bk := ⟨0, false, 0, 0, 0, 0, 0, 0, 0⟩
def EK : Enc Bk where
  t := 40
  n := 9
  bytes := 72
  z := bkV Bk.zero
  c := bkC
  hl _ := rfl
  hn := by omega
  one b u hu := by
    simp [bkC] at hu
    rcases hu with rfl | rfl | rfl | rfl | rfl | rfl | rfl | rfl | rfl <;> rfl
  info := by kernel_rfl
  zs := rfl
  small := by omega
/-- A unit of a field. -/
structure Un where
  x : Int
  y : Int
  s : Int
deriving DecidableEq
def unC (u : Un) : List Value := [.int .i64 u.x, .int .i64 u.y, .int .i64 u.s]
abbrev unV (u : Un) : Value := .agg #[.int .i64 u.x, .int .i64 u.y, .int .i64 u.s]
def EU : Enc Un where
  t := 34
  n := 3
  bytes := 24
  z := unV ⟨0, 0, 0⟩
  c := unC
  hl _ := rfl
  hn := by omega
  one b u hu := by
    simp [unC] at hu
    rcases hu with rfl | rfl | rfl <;> rfl
  info := by kernel_rfl
  zs := rfl
  small := by omega
/-- A field as a value, its lists being vs and vk. -/
abbrev flV (a d : Int) (vs vk : Value) : Value := .agg #[.int .i64 a, .int .i64 d, vs, vk]
def countB (n : Int) : Bool := decide (1 ≤ n ∧ n ≤ 64)
theorem countB_t {n : Int} (h : countB n = true) : 1 ≤ n ∧ n ≤ 64 := by simpa [countB] using h
theorem countB_f {n : Int} (h : countB n = false) : n < 1 ∨ 64 < n := by simp [countB] at h; omega
def smallB (n : Int) : Bool := decide (-16777216 ≤ n ∧ n ≤ 16777216)
theorem smallB_t {n : Int} (h : smallB n = true) : -16777216 ≤ n ∧ n ≤ 16777216 := by simpa [smallB] using h
def modeB (n : Int) : Bool := decide (0 ≤ n ∧ n ≤ 3)
/-- May a block be? -/
def okBk (b : Bk) : Bool := modeB b.m && smallB b.x0 && smallB b.y0 && smallB b.x1 && smallB b.y1 && smallB b.d0 && smallB b.d1 && smallB b.d2
theorem okBk_m {b : Bk} (h : okBk b = true) : 0 ≤ b.m ∧ b.m ≤ 3 := by
  simp only [okBk, Bool.and_eq_true] at h
  simpa [modeB] using h.1.1.1.1.1.1.1
/-- Are all numbers ones of a split? -/
def okS (S : List Int) : Bool := S.all fun s => decide (0 ≤ s ∧ s ≤ 2)
def okK (K : List Bk) : Bool := K.all okBk
/-- A right field? -/
def okFl (a d : Int) (S : List Int) (K : List Bk) : Bool := countB a && countB d && ((S.length : Int) == a * d) && ((K.length : Int) == 16 * (S.length : Int)) && okS S && okK K
theorem fcount_c (n : Int) (w : World) : Calls Try.prog 31 #[.int .i64 n] w fun e w' => e = .returned (.bool (countB n)) ∧ w = w' := by
  by_cases h1 : 1 ≤ n <;> by_cases h2 : n ≤ 64
  all_goals
    go_enter Try.func31, Try.ntmps31
    go_wp2_with fail
    go_ret
    exact ⟨ret_bool (by simp [countB, h1, h2] <;> omega), rfl⟩
theorem fsmall_c (n : Int) (w : World) : Calls Try.prog 45 #[.int .i64 n] w fun e w' => e = .returned (.bool (smallB n)) ∧ w = w' := by
  by_cases h1 : -16777216 ≤ n <;> by_cases h2 : n ≤ 16777216
  all_goals
    go_enter Try.func45, Try.ntmps45
    go_wp2_with fail
    go_ret
    exact ⟨ret_bool (by simp [smallB, h1, h2] <;> omega), rfl⟩
theorem rnear_c (n : Int) (w : World) : Calls Try.prog 42 #[.int .i64 n] w fun e w' => e = .returned (.bool (smallB n)) ∧ w = w' := by
  by_cases h1 : -16777216 ≤ n <;> by_cases h2 : n ≤ 16777216
  all_goals
    go_enter Try.func42, Try.ntmps42
    go_wp2_with fail
    go_ret
    exact ⟨ret_bool (by simp [smallB, h1, h2] <;> omega), rfl⟩
theorem run_size {t : TypeId} {n : Nat} (h : (Try.prog.info? t).map (·.size) = some n) (w : World) : (sizeOf t).run Try.prog w = .ok n w := by
  cases hq : Try.prog.info? t with
  | none => simp [hq] at h
  | some i =>
    have : i.size = n := by simpa [hq] using h
    simp [sizeOf, typeInfo, hq, this]
theorem run_agg {t : TypeId} {d : TypeDesc} (h : Try.prog.underlying t = some d) (w : World) : (isAgg t).run Try.prog w = .ok (match d with | .struct _ | .array _ _ => true | _ => false) w := by
  unfold isAgg
  rw [Sem.run_bind, run_underlying h w]
  cases d <;> simp
theorem idx_vec (a b c d : Value) (w : World) : (Instr.index 37 (.agg #[a, b, c, d]) (.int .i64 0)).run Try.prog w = .ok (.agg #[a, b]) w ∧
    (Instr.index 37 (.agg #[a, b, c, d]) (.int .i64 1)).run Try.prog w = .ok (.agg #[c, d]) w := by
  refine ⟨?_, ?_⟩ <;>
    simp [Instr.index, run_underlying Try.underlying37, asIntOf, go_sem, run_size (t := 36) (n := 2) (by kernel_rfl), run_agg Try.underlying36]
set_option maxRecDepth 100000 in
set_option maxHeartbeats 6400000 in
theorem fblock_c (b : Bk) (w : World) : Calls Try.prog 34 #[bkV b] w fun e w' => e = .returned (.bool (okBk b)) ∧ Below w.heap.size w w' := by
  obtain ⟨m, g, x0, y0, x1, y1, d0, d1, d2⟩ := b
  unfold okBk
  dsimp only
  by_cases hm0 : 0 ≤ m
  · by_cases hm3 : m ≤ 3
    · have hm : modeB m = true := by simp [modeB]; omega
      rw [hm]
      clear hm
      cases e0 : smallB x0 with
      | false =>
        have hv : (true && false && smallB y0 && smallB x1 && smallB y1 && smallB d0 && smallB d1 && smallB d2) = false := by simp
        simp only [hv, Bool.and_false, Bool.false_and, Bool.true_and, Bool.and_true]
        clear hv
        have i0 : ∀ a b c d w, (Instr.index 37 (.agg #[a, b, c, d]) (.int .i64 0)).run Try.prog w = .ok (.agg #[a, b]) w := fun a b c d w => (idx_vec a b c d w).1
        have i1 : ∀ a b c d w, (Instr.index 37 (.agg #[a, b, c, d]) (.int .i64 1)).run Try.prog w = .ok (.agg #[c, d]) w := fun a b c d w => (idx_vec a b c d w).2
        have E := Lib.hid e0
        clear e0
        go_enter Try.func34, Try.ntmps34
        go_wp2_with fail
        refine wp_loop_rounds 3 ?_
        rw [rounds_succ]
        go_wp2_with fail
        refine (fsmall_c x0 _).mono ?_
        rintro e w1 ⟨rfl, rfl⟩
        rw [E.out]
        go_wp2_with fail
        go_ret
        exact ⟨rfl, ((Below.refl _ _).alloc (Nat.le_refl _) _).alloc (by simp) _⟩
      | true =>
        cases e1 : smallB y0 with
        | false =>
          have hv : (true && true && false && smallB x1 && smallB y1 && smallB d0 && smallB d1 && smallB d2) = false := by simp
          simp only [hv, Bool.and_false, Bool.false_and, Bool.true_and, Bool.and_true]
          clear hv
          have i0 : ∀ a b c d w, (Instr.index 37 (.agg #[a, b, c, d]) (.int .i64 0)).run Try.prog w = .ok (.agg #[a, b]) w := fun a b c d w => (idx_vec a b c d w).1
          have i1 : ∀ a b c d w, (Instr.index 37 (.agg #[a, b, c, d]) (.int .i64 1)).run Try.prog w = .ok (.agg #[c, d]) w := fun a b c d w => (idx_vec a b c d w).2
          have E := Lib.hid e1
          have E0 := Lib.hid e0
          clear e0 e1
          go_enter Try.func34, Try.ntmps34
          go_wp2_with fail
          refine wp_loop_rounds 3 ?_
          rw [rounds_succ]
          go_wp2_with fail
          refine (fsmall_c x0 _).mono ?_
          rintro e w1 ⟨rfl, rfl⟩
          rw [E0.out]
          go_wp2_with fail
          refine (fsmall_c y0 _).mono ?_
          rintro e w1 ⟨rfl, rfl⟩
          rw [E.out]
          go_wp2_with fail
          go_ret
          exact ⟨rfl, ((Below.refl _ _).alloc (Nat.le_refl _) _).alloc (by simp) _⟩
        | true =>
          cases e2 : smallB x1 with
          | false =>
            have hv : (true && true && true && false && smallB y1 && smallB d0 && smallB d1 && smallB d2) = false := by simp
            simp only [hv, Bool.and_false, Bool.false_and, Bool.true_and, Bool.and_true]
            clear hv
            have i0 : ∀ a b c d w, (Instr.index 37 (.agg #[a, b, c, d]) (.int .i64 0)).run Try.prog w = .ok (.agg #[a, b]) w := fun a b c d w => (idx_vec a b c d w).1
            have i1 : ∀ a b c d w, (Instr.index 37 (.agg #[a, b, c, d]) (.int .i64 1)).run Try.prog w = .ok (.agg #[c, d]) w := fun a b c d w => (idx_vec a b c d w).2
            have E := Lib.hid e2
            have E0 := Lib.hid e0
            have E1 := Lib.hid e1
            clear e0 e1 e2
            go_enter Try.func34, Try.ntmps34
            go_wp2_with fail
            refine wp_loop_rounds 3 ?_
            rw [rounds_succ]
            go_wp2_with fail
            refine (fsmall_c x0 _).mono ?_
            rintro e w1 ⟨rfl, rfl⟩
            rw [E0.out]
            go_wp2_with fail
            refine (fsmall_c y0 _).mono ?_
            rintro e w1 ⟨rfl, rfl⟩
            rw [E1.out]
            go_wp2_with fail
            rw [rounds_succ]
            go_wp2_with fail
            refine (fsmall_c x1 _).mono ?_
            rintro e w1 ⟨rfl, rfl⟩
            rw [E.out]
            go_wp2_with fail
            go_ret
            exact ⟨rfl, (((Below.refl _ _).alloc (Nat.le_refl _) _).alloc (by simp) _).alloc (by simp; omega) _⟩
          | true =>
            cases e3 : smallB y1 with
            | false =>
              have hv : (true && true && true && true && false && smallB d0 && smallB d1 && smallB d2) = false := by simp
              simp only [hv, Bool.and_false, Bool.false_and, Bool.true_and, Bool.and_true]
              clear hv
              have i0 : ∀ a b c d w, (Instr.index 37 (.agg #[a, b, c, d]) (.int .i64 0)).run Try.prog w = .ok (.agg #[a, b]) w := fun a b c d w => (idx_vec a b c d w).1
              have i1 : ∀ a b c d w, (Instr.index 37 (.agg #[a, b, c, d]) (.int .i64 1)).run Try.prog w = .ok (.agg #[c, d]) w := fun a b c d w => (idx_vec a b c d w).2
              have E := Lib.hid e3
              have E0 := Lib.hid e0
              have E1 := Lib.hid e1
              have E2 := Lib.hid e2
              clear e0 e1 e2 e3
              go_enter Try.func34, Try.ntmps34
              go_wp2_with fail
              refine wp_loop_rounds 3 ?_
              rw [rounds_succ]
              go_wp2_with fail
              refine (fsmall_c x0 _).mono ?_
              rintro e w1 ⟨rfl, rfl⟩
              rw [E0.out]
              go_wp2_with fail
              refine (fsmall_c y0 _).mono ?_
              rintro e w1 ⟨rfl, rfl⟩
              rw [E1.out]
              go_wp2_with fail
              rw [rounds_succ]
              go_wp2_with fail
              refine (fsmall_c x1 _).mono ?_
              rintro e w1 ⟨rfl, rfl⟩
              rw [E2.out]
              go_wp2_with fail
              refine (fsmall_c y1 _).mono ?_
              rintro e w1 ⟨rfl, rfl⟩
              rw [E.out]
              go_wp2_with fail
              go_ret
              exact ⟨rfl, (((Below.refl _ _).alloc (Nat.le_refl _) _).alloc (by simp) _).alloc (by simp; omega) _⟩
            | true =>
              cases e4 : smallB d0 with
              | false =>
                have hv : (true && true && true && true && true && false && smallB d1 && smallB d2) = false := by simp
                simp only [hv, Bool.and_false, Bool.false_and, Bool.true_and, Bool.and_true]
                clear hv
                have i0 : ∀ a b c d w, (Instr.index 37 (.agg #[a, b, c, d]) (.int .i64 0)).run Try.prog w = .ok (.agg #[a, b]) w := fun a b c d w => (idx_vec a b c d w).1
                have i1 : ∀ a b c d w, (Instr.index 37 (.agg #[a, b, c, d]) (.int .i64 1)).run Try.prog w = .ok (.agg #[c, d]) w := fun a b c d w => (idx_vec a b c d w).2
                have E := Lib.hid e4
                have E0 := Lib.hid e0
                have E1 := Lib.hid e1
                have E2 := Lib.hid e2
                have E3 := Lib.hid e3
                clear e0 e1 e2 e3 e4
                go_enter Try.func34, Try.ntmps34
                go_wp2_with fail
                refine wp_loop_rounds 3 ?_
                rw [rounds_succ]
                go_wp2_with fail
                refine (fsmall_c x0 _).mono ?_
                rintro e w1 ⟨rfl, rfl⟩
                rw [E0.out]
                go_wp2_with fail
                refine (fsmall_c y0 _).mono ?_
                rintro e w1 ⟨rfl, rfl⟩
                rw [E1.out]
                go_wp2_with fail
                rw [rounds_succ]
                go_wp2_with fail
                refine (fsmall_c x1 _).mono ?_
                rintro e w1 ⟨rfl, rfl⟩
                rw [E2.out]
                go_wp2_with fail
                refine (fsmall_c y1 _).mono ?_
                rintro e w1 ⟨rfl, rfl⟩
                rw [E3.out]
                go_wp2_with fail
                rw [rounds_succ]
                go_wp2_with fail
                refine (fsmall_c d0 _).mono ?_
                rintro e w1 ⟨rfl, rfl⟩
                rw [E.out]
                go_wp2_with fail
                go_ret
                exact ⟨rfl, (((Below.refl _ _).alloc (Nat.le_refl _) _).alloc (by simp) _).alloc (by simp; omega) _⟩
              | true =>
                cases e5 : smallB d1 with
                | false =>
                  have hv : (true && true && true && true && true && true && false && smallB d2) = false := by simp
                  simp only [hv, Bool.and_false, Bool.false_and, Bool.true_and, Bool.and_true]
                  clear hv
                  have i0 : ∀ a b c d w, (Instr.index 37 (.agg #[a, b, c, d]) (.int .i64 0)).run Try.prog w = .ok (.agg #[a, b]) w := fun a b c d w => (idx_vec a b c d w).1
                  have i1 : ∀ a b c d w, (Instr.index 37 (.agg #[a, b, c, d]) (.int .i64 1)).run Try.prog w = .ok (.agg #[c, d]) w := fun a b c d w => (idx_vec a b c d w).2
                  have E := Lib.hid e5
                  have E0 := Lib.hid e0
                  have E1 := Lib.hid e1
                  have E2 := Lib.hid e2
                  have E3 := Lib.hid e3
                  have E4 := Lib.hid e4
                  clear e0 e1 e2 e3 e4 e5
                  go_enter Try.func34, Try.ntmps34
                  go_wp2_with fail
                  refine wp_loop_rounds 3 ?_
                  rw [rounds_succ]
                  go_wp2_with fail
                  refine (fsmall_c x0 _).mono ?_
                  rintro e w1 ⟨rfl, rfl⟩
                  rw [E0.out]
                  go_wp2_with fail
                  refine (fsmall_c y0 _).mono ?_
                  rintro e w1 ⟨rfl, rfl⟩
                  rw [E1.out]
                  go_wp2_with fail
                  rw [rounds_succ]
                  go_wp2_with fail
                  refine (fsmall_c x1 _).mono ?_
                  rintro e w1 ⟨rfl, rfl⟩
                  rw [E2.out]
                  go_wp2_with fail
                  refine (fsmall_c y1 _).mono ?_
                  rintro e w1 ⟨rfl, rfl⟩
                  rw [E3.out]
                  go_wp2_with fail
                  rw [rounds_succ]
                  go_wp2_with fail
                  refine (fsmall_c d0 _).mono ?_
                  rintro e w1 ⟨rfl, rfl⟩
                  rw [E4.out]
                  go_wp2_with fail
                  refine (fsmall_c d1 _).mono ?_
                  rintro e w1 ⟨rfl, rfl⟩
                  rw [E.out]
                  go_wp2_with fail
                  go_ret
                  exact ⟨rfl, (((Below.refl _ _).alloc (Nat.le_refl _) _).alloc (by simp) _).alloc (by simp; omega) _⟩
                | true =>
                  cases e6 : smallB d2 with
                  | false =>
                    have hv : (true && true && true && true && true && true && true && false) = false := by simp
                    simp only [hv, Bool.and_false, Bool.false_and, Bool.true_and, Bool.and_true]
                    clear hv
                    have i0 : ∀ a b c d w, (Instr.index 37 (.agg #[a, b, c, d]) (.int .i64 0)).run Try.prog w = .ok (.agg #[a, b]) w := fun a b c d w => (idx_vec a b c d w).1
                    have i1 : ∀ a b c d w, (Instr.index 37 (.agg #[a, b, c, d]) (.int .i64 1)).run Try.prog w = .ok (.agg #[c, d]) w := fun a b c d w => (idx_vec a b c d w).2
                    have E := Lib.hid e6
                    have E0 := Lib.hid e0
                    have E1 := Lib.hid e1
                    have E2 := Lib.hid e2
                    have E3 := Lib.hid e3
                    have E4 := Lib.hid e4
                    have E5 := Lib.hid e5
                    clear e0 e1 e2 e3 e4 e5 e6
                    go_enter Try.func34, Try.ntmps34
                    go_wp2_with fail
                    refine wp_loop_rounds 3 ?_
                    rw [rounds_succ]
                    go_wp2_with fail
                    refine (fsmall_c x0 _).mono ?_
                    rintro e w1 ⟨rfl, rfl⟩
                    rw [E0.out]
                    go_wp2_with fail
                    refine (fsmall_c y0 _).mono ?_
                    rintro e w1 ⟨rfl, rfl⟩
                    rw [E1.out]
                    go_wp2_with fail
                    rw [rounds_succ]
                    go_wp2_with fail
                    refine (fsmall_c x1 _).mono ?_
                    rintro e w1 ⟨rfl, rfl⟩
                    rw [E2.out]
                    go_wp2_with fail
                    refine (fsmall_c y1 _).mono ?_
                    rintro e w1 ⟨rfl, rfl⟩
                    rw [E3.out]
                    go_wp2_with fail
                    rw [rounds_succ]
                    go_wp2_with fail
                    refine (fsmall_c d0 _).mono ?_
                    rintro e w1 ⟨rfl, rfl⟩
                    rw [E4.out]
                    go_wp2_with fail
                    refine (fsmall_c d1 _).mono ?_
                    rintro e w1 ⟨rfl, rfl⟩
                    rw [E5.out]
                    go_wp2_with fail
                    refine (fsmall_c d2 _).mono ?_
                    rintro e w1 ⟨rfl, rfl⟩
                    rw [E.out]
                    go_wp2_with fail
                    go_ret
                    exact ⟨rfl, (((Below.refl _ _).alloc (Nat.le_refl _) _).alloc (by simp) _).alloc (by simp; omega) _⟩
                  | true =>
                    simp only [Bool.and_true, Bool.and_self]
                    have i0 : ∀ a b c d w, (Instr.index 37 (.agg #[a, b, c, d]) (.int .i64 0)).run Try.prog w = .ok (.agg #[a, b]) w := fun a b c d w => (idx_vec a b c d w).1
                    have i1 : ∀ a b c d w, (Instr.index 37 (.agg #[a, b, c, d]) (.int .i64 1)).run Try.prog w = .ok (.agg #[c, d]) w := fun a b c d w => (idx_vec a b c d w).2
                    skip
                    have E0 := Lib.hid e0
                    have E1 := Lib.hid e1
                    have E2 := Lib.hid e2
                    have E3 := Lib.hid e3
                    have E4 := Lib.hid e4
                    have E5 := Lib.hid e5
                    have E6 := Lib.hid e6
                    clear e0 e1 e2 e3 e4 e5 e6
                    go_enter Try.func34, Try.ntmps34
                    go_wp2_with fail
                    refine wp_loop_rounds 3 ?_
                    rw [rounds_succ]
                    go_wp2_with fail
                    refine (fsmall_c x0 _).mono ?_
                    rintro e w1 ⟨rfl, rfl⟩
                    rw [E0.out]
                    go_wp2_with fail
                    refine (fsmall_c y0 _).mono ?_
                    rintro e w1 ⟨rfl, rfl⟩
                    rw [E1.out]
                    go_wp2_with fail
                    rw [rounds_succ]
                    go_wp2_with fail
                    refine (fsmall_c x1 _).mono ?_
                    rintro e w1 ⟨rfl, rfl⟩
                    rw [E2.out]
                    go_wp2_with fail
                    refine (fsmall_c y1 _).mono ?_
                    rintro e w1 ⟨rfl, rfl⟩
                    rw [E3.out]
                    go_wp2_with fail
                    rw [rounds_succ]
                    go_wp2_with fail
                    refine (fsmall_c d0 _).mono ?_
                    rintro e w1 ⟨rfl, rfl⟩
                    rw [E4.out]
                    go_wp2_with fail
                    refine (fsmall_c d1 _).mono ?_
                    rintro e w1 ⟨rfl, rfl⟩
                    rw [E5.out]
                    go_wp2_with fail
                    refine (fsmall_c d2 _).mono ?_
                    rintro e w1 ⟨rfl, rfl⟩
                    rw [E6.out]
                    go_wp2_with fail
                    go_ret
                    exact ⟨rfl, (((Below.refl _ _).alloc (Nat.le_refl _) _).alloc (by simp) _).alloc (by simp; omega) _⟩
    · have hm : modeB m = false := by simp [modeB]; omega
      rw [hm]
      simp only [Bool.false_and]
      clear hm
      go_enter Try.func34, Try.ntmps34
      go_wp2_with fail
      go_ret
      exact ⟨rfl, (Below.refl _ _).alloc (Nat.le_refl _) _⟩
  · have hm : modeB m = false := by simp [modeB]; omega
    rw [hm]
    simp only [Bool.false_and]
    clear hm
    go_enter Try.func34, Try.ntmps34
    go_wp2_with fail
    go_ret
    exact ⟨rfl, (Below.refl _ _).alloc (Nat.le_refl _) _⟩

end Go.Proofs.Ytiedjeholmoccaa
