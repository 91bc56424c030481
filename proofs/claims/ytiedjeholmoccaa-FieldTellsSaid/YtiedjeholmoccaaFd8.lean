/- Fields: what counts of a block; a block asked for, set; squares that cover: of the program. -/
import Derived.Test.YtiedjeholmoccaaFd7
namespace Go.Proofs.Ytiedjeholmoccaa
open Go.RowKit Go.Sort
set_option linter.unusedVariables false
set_option linter.unusedSimpArgs false

set_option maxRecDepth 100000 in
set_option maxHeartbeats 6400000 in
theorem fplain_c (b : Bk) (w : World) : Calls Try.prog 27 #[bkV b] w fun e w' => e = .returned (bkV (plainBk b)) ∧ Below w.heap.size w w' := by
  obtain ⟨m, g, x0, y0, x1, y1, d0, d1, d2⟩ := b
  by_cases hm : m = 0
  · subst hm
    have hv : plainBk ⟨0, g, x0, y0, x1, y1, d0, d1, d2⟩ = ⟨0, false, 0, 0, 0, 0, d0, d1, d2⟩ := by simp [plainBk]
    rw [hv]
    clear hv
    have A0 : bits .and .i64 0 1 = 0 := by decide
    cases g with
    | true =>
      go_enter Try.func27, Try.ntmps27
      go_wp2_with fail
      refine wp_loop_rounds 3 ?_
      rw [rounds_succ]
      go_wp2_with fail
      rw [rounds_succ]
      go_wp2_with fail
      rw [rounds_succ]
      go_wp2_with fail
      have hn := Blk.new (w.alloc (.cells #[.int .i64 0, .bool false, .int .i64 0, .int .i64 0, .int .i64 0, .int .i64 0, .int .i64 d0, .int .i64 d1, .int .i64 d2] 40)) 40 #[.int .i64 0, .bool false, .int .i64 0, .int .i64 0, .int .i64 0, .int .i64 0, .int .i64 d0, .int .i64 d1, .int .i64 d2]
      rw [World.size_alloc] at hn
      refine bodyPost_ret (results_cell_row rfl _ _ (w.heap.size + 1) 40 _ (0, 0) _ rfl hn Try.underlying40 rfl (by kernel_rfl)) rfl ?_
      exact ⟨rfl, below_alloc_ (below_alloc_ (Below.refl w.heap.size w) _) _⟩
    | false =>
      go_enter Try.func27, Try.ntmps27
      go_wp2_with fail
      refine wp_loop_rounds 3 ?_
      rw [rounds_succ]
      go_wp2_with fail
      rw [rounds_succ]
      go_wp2_with fail
      rw [rounds_succ]
      go_wp2_with fail
      have hn := Blk.new (w.alloc (.cells #[.int .i64 0, .bool false, .int .i64 0, .int .i64 0, .int .i64 0, .int .i64 0, .int .i64 d0, .int .i64 d1, .int .i64 d2] 40)) 40 #[.int .i64 0, .bool false, .int .i64 0, .int .i64 0, .int .i64 0, .int .i64 0, .int .i64 d0, .int .i64 d1, .int .i64 d2]
      rw [World.size_alloc] at hn
      refine bodyPost_ret (results_cell_row rfl _ _ (w.heap.size + 1) 40 _ (0, 0) _ rfl hn Try.underlying40 rfl (by kernel_rfl)) rfl ?_
      exact ⟨rfl, below_alloc_ (below_alloc_ (Below.refl w.heap.size w) _) _⟩
  · have hm1 : (m != 0) = true := by simpa using hm
    cases g with
    | true =>
      have hv : plainBk ⟨m, true, x0, y0, x1, y1, d0, d1, d2⟩ = ⟨m, true, 0, 0, 0, 0, 0, 0, 0⟩ := by simp [plainBk, hm]
      rw [hv]
      clear hv hm
      by_cases p0 : m % 2 = 0 <;> by_cases p1 : m / 2 % 2 = 0
      all_goals
        have A0 : bits .and .i64 m 1 = m % 2 := i64_and1 m
        have A1 : bits .and .i64 (m / 2) 1 = m / 2 % 2 := i64_and1 _
        go_enter Try.func27, Try.ntmps27
        go_wp2_with fail
        refine wp_loop_rounds 3 ?_
        rw [rounds_succ]
        go_wp2_with fail
        rw [rounds_succ]
        go_wp2_with fail
        rw [rounds_succ]
        go_wp2_with fail
        have hn := Blk.new (w.alloc (.cells #[.int .i64 m, .bool true, .int .i64 0, .int .i64 0, .int .i64 0, .int .i64 0, .int .i64 0, .int .i64 0, .int .i64 0] 40)) 40 #[.int .i64 m, .bool true, .int .i64 0, .int .i64 0, .int .i64 0, .int .i64 0, .int .i64 0, .int .i64 0, .int .i64 0]
        rw [World.size_alloc] at hn
        refine bodyPost_ret (results_cell_row rfl _ _ (w.heap.size + 1) 40 _ (0, 0) _ rfl hn Try.underlying40 rfl (by kernel_rfl)) rfl ?_
        exact ⟨rfl, below_alloc_ (below_alloc_ (Below.refl w.heap.size w) _) _⟩
    | false =>
      by_cases p0 : m % 2 = 0
      · skip
        by_cases p1 : m / 2 % 2 = 0
        · skip
          have hv : plainBk ⟨m, false, x0, y0, x1, y1, d0, d1, d2⟩ = ⟨m, false, 0, 0, 0, 0, 0, 0, 0⟩ := by simp [plainBk, hm, p0, p1]
          rw [hv]
          clear hv hm
          have A0 : bits .and .i64 m 1 = m % 2 := i64_and1 m
          have A1 : bits .and .i64 (m / 2) 1 = m / 2 % 2 := i64_and1 _
          go_enter Try.func27, Try.ntmps27
          go_wp2_with fail
          refine wp_loop_rounds 3 ?_
          rw [rounds_succ]
          go_wp2_with fail
          rw [rounds_succ]
          go_wp2_with fail
          rw [rounds_succ]
          go_wp2_with fail
          have hn := Blk.new (w.alloc (.cells #[.int .i64 m, .bool false, .int .i64 0, .int .i64 0, .int .i64 0, .int .i64 0, .int .i64 0, .int .i64 0, .int .i64 0] 40)) 40 #[.int .i64 m, .bool false, .int .i64 0, .int .i64 0, .int .i64 0, .int .i64 0, .int .i64 0, .int .i64 0, .int .i64 0]
          rw [World.size_alloc] at hn
          refine bodyPost_ret (results_cell_row rfl _ _ (w.heap.size + 1) 40 _ (0, 0) _ rfl hn Try.underlying40 rfl (by kernel_rfl)) rfl ?_
          exact ⟨rfl, below_alloc_ (below_alloc_ (Below.refl w.heap.size w) _) _⟩
        · skip
          have hv : plainBk ⟨m, false, x0, y0, x1, y1, d0, d1, d2⟩ = ⟨m, false, 0, 0, x1, y1, 0, 0, 0⟩ := by simp [plainBk, hm, p0, p1]
          rw [hv]
          clear hv hm
          have A0 : bits .and .i64 m 1 = m % 2 := i64_and1 m
          have A1 : bits .and .i64 (m / 2) 1 = m / 2 % 2 := i64_and1 _
          go_enter Try.func27, Try.ntmps27
          go_wp2_with fail
          refine wp_loop_rounds 3 ?_
          rw [rounds_succ]
          go_wp2_with fail
          rw [rounds_succ]
          go_wp2_with fail
          rw [rounds_succ]
          go_wp2_with fail
          have hn := Blk.new (w.alloc (.cells #[.int .i64 m, .bool false, .int .i64 0, .int .i64 0, .int .i64 x1, .int .i64 y1, .int .i64 0, .int .i64 0, .int .i64 0] 40)) 40 #[.int .i64 m, .bool false, .int .i64 0, .int .i64 0, .int .i64 x1, .int .i64 y1, .int .i64 0, .int .i64 0, .int .i64 0]
          rw [World.size_alloc] at hn
          refine bodyPost_ret (results_cell_row rfl _ _ (w.heap.size + 1) 40 _ (0, 0) _ rfl hn Try.underlying40 rfl (by kernel_rfl)) rfl ?_
          exact ⟨rfl, below_alloc_ (below_alloc_ (Below.refl w.heap.size w) _) _⟩
      · skip
        by_cases p1 : m / 2 % 2 = 0
        · skip
          have hv : plainBk ⟨m, false, x0, y0, x1, y1, d0, d1, d2⟩ = ⟨m, false, x0, y0, 0, 0, 0, 0, 0⟩ := by simp [plainBk, hm, p0, p1]
          rw [hv]
          clear hv hm
          have A0 : bits .and .i64 m 1 = m % 2 := i64_and1 m
          have A1 : bits .and .i64 (m / 2) 1 = m / 2 % 2 := i64_and1 _
          go_enter Try.func27, Try.ntmps27
          go_wp2_with fail
          refine wp_loop_rounds 3 ?_
          rw [rounds_succ]
          go_wp2_with fail
          rw [rounds_succ]
          go_wp2_with fail
          rw [rounds_succ]
          go_wp2_with fail
          have hn := Blk.new (w.alloc (.cells #[.int .i64 m, .bool false, .int .i64 x0, .int .i64 y0, .int .i64 0, .int .i64 0, .int .i64 0, .int .i64 0, .int .i64 0] 40)) 40 #[.int .i64 m, .bool false, .int .i64 x0, .int .i64 y0, .int .i64 0, .int .i64 0, .int .i64 0, .int .i64 0, .int .i64 0]
          rw [World.size_alloc] at hn
          refine bodyPost_ret (results_cell_row rfl _ _ (w.heap.size + 1) 40 _ (0, 0) _ rfl hn Try.underlying40 rfl (by kernel_rfl)) rfl ?_
          exact ⟨rfl, below_alloc_ (below_alloc_ (Below.refl w.heap.size w) _) _⟩
        · skip
          have hv : plainBk ⟨m, false, x0, y0, x1, y1, d0, d1, d2⟩ = ⟨m, false, x0, y0, x1, y1, 0, 0, 0⟩ := by simp [plainBk, hm, p0, p1]
          rw [hv]
          clear hv hm
          have A0 : bits .and .i64 m 1 = m % 2 := i64_and1 m
          have A1 : bits .and .i64 (m / 2) 1 = m / 2 % 2 := i64_and1 _
          go_enter Try.func27, Try.ntmps27
          go_wp2_with fail
          refine wp_loop_rounds 3 ?_
          rw [rounds_succ]
          go_wp2_with fail
          rw [rounds_succ]
          go_wp2_with fail
          rw [rounds_succ]
          go_wp2_with fail
          have hn := Blk.new (w.alloc (.cells #[.int .i64 m, .bool false, .int .i64 x0, .int .i64 y0, .int .i64 x1, .int .i64 y1, .int .i64 0, .int .i64 0, .int .i64 0] 40)) 40 #[.int .i64 m, .bool false, .int .i64 x0, .int .i64 y0, .int .i64 x1, .int .i64 y1, .int .i64 0, .int .i64 0, .int .i64 0]
          rw [World.size_alloc] at hn
          refine bodyPost_ret (results_cell_row rfl _ _ (w.heap.size + 1) 40 _ (0, 0) _ rfl hn Try.underlying40 rfl (by kernel_rfl)) rfl ?_
          exact ⟨rfl, below_alloc_ (below_alloc_ (Below.refl w.heap.size w) _) _⟩

end Go.Proofs.Ytiedjeholmoccaa
