/- Params: what is other, the best base. -/
import Derived.Test.YtgdlleoefncikaaPar5
namespace Go.Proofs.Ytgdlleoefncikaa
open Go.RowKit Go.Sort
set_option linter.unusedVariables false
set_option linter.unusedSimpArgs false
theorem tab_cells {w : World} {g : Nat} {t : TypeId} (h : Blk w g t tabV) {k : Nat} (hk : k < 5) : w.cell? ⟨g, k * 4, none⟩ = some (.int .i64 (baseV k).W) ∧ w.cell? ⟨g, k * 4 + 1, none⟩ = some (.int .i64 (baseV k).H) ∧ w.cell? ⟨g, k * 4 + 2, none⟩ = some (.int .i64 (baseV k).C) ∧ w.cell? ⟨g, k * 4 + 3, none⟩ = some (.int .i64 (baseV k).B) := by
  rcases (by omega : k = 0 ∨ k = 1 ∨ k = 2 ∨ k = 3 ∨ k = 4) with rfl | rfl | rfl | rfl | rfl
  · exact ⟨h.cell 0, h.cell 1, h.cell 2, h.cell 3⟩
  · exact ⟨h.cell 4, h.cell 5, h.cell 6, h.cell 7⟩
  · exact ⟨h.cell 8, h.cell 9, h.cell 10, h.cell 11⟩
  · exact ⟨h.cell 12, h.cell 13, h.cell 14, h.cell 15⟩
  · exact ⟨h.cell 16, h.cell 17, h.cell 18, h.cell 19⟩
set_option maxRecDepth 100000 in
set_option maxHeartbeats 6400000 in
theorem pbases_c (w : World) : Calls Try.prog 7 #[] w fun e w' => ∃ g, e = .returned (.slice (some ⟨g, 0, none⟩) 5 5) ∧ w.heap.size ≤ g ∧ Blk w' g 42 tabV ∧ Below w.heap.size w w' := by
  go_enter Try.func7, Try.ntmps7
  go_wp2_with fail
  refine (ptable_c _).mono ?_
  rintro e w1 ⟨rfl, hb⟩
  have HB := Lib.hid hb
  clear hb
  go_wp2_with (refine wpList_store_new rfl _ _ _ rfl 42 _ tabV rfl rfl rfl (by kernel_rfl) tab_one ?_)
  go_ret
  exact ⟨_, rfl, HB.out.size, Blk.new _ _ _, below_alloc_ HB.out _⟩
set_option maxRecDepth 100000 in
set_option maxHeartbeats 6400000 in
theorem rbases_c (w : World) : Calls Try.prog 8 #[] w fun e w' => ∃ g, e = .returned (.slice (some ⟨g, 0, none⟩) 5 5) ∧ w.heap.size ≤ g ∧ Blk w' g 23 tabV ∧ Below w.heap.size w w' := by
  go_enter Try.func8, Try.ntmps8
  go_wp2_with fail
  go_ret
  exact ⟨_, rfl, Nat.le_refl _, Blk.new _ _ _, below_alloc_ (Below.refl _ _) _⟩
set_option maxRecDepth 100000 in
set_option maxHeartbeats 6400000 in
theorem pother_in (v : Vd) (k : Nat) (w : World) (hk : k < 5) : Calls Try.prog 9 #[vdV v, .int .i64 k] w fun e w' => e = .returned (.int .i64 (othN v k : Int)) ∧ Below w.heap.size w w' := by
  have HB := Lib.hid (Below.refl w.heap.size w)
  obtain ⟨b, hb⟩ : ∃ b, b = baseV k := ⟨_, rfl⟩
  have HBK := Lib.hid hb
  unfold othN
  rw [← hb]
  obtain ⟨o1, h1⟩ : ∃ o, o = oth1 v b := ⟨_, rfl⟩
  obtain ⟨o2, h2⟩ : ∃ o, o = oth2 v b := ⟨_, rfl⟩
  obtain ⟨o3, h3⟩ : ∃ o, o = oth3 v b := ⟨_, rfl⟩
  rw [← h1, ← h2, ← h3]
  have H1 := Lib.hid h1.symm
  have H2 := Lib.hid h2.symm
  have H3 := Lib.hid h3.symm
  have i0 : (0 : Int) ≤ (k : Int) := by omega
  have i5 : (k : Int) < 5 := by omega
  have F1 : decide ((k : Int) < 0) = false := by simp
  have F2 : decide (5 ≤ (k : Int)) = false := by simp; omega
  clear hb h1 h2 h3
  cases o1 <;> cases o2 <;> cases o3
  all_goals
    go_enter Try.func9, Try.ntmps9
    go_wp2_with fail
    have HB := Lib.hid (below_alloc_ (HB.out) (.cells #[.int .i64 v.W, .int .i64 v.H, .int .i64 v.C, .int .i64 v.B] 23))
    have hzw : (w.alloc (.cells #[.int .i64 v.W, .int .i64 v.H, .int .i64 v.C, .int .i64 v.B] 23)).heap.size = w.heap.size + 1 := by simp only [World.size_alloc]
    have B1 := Blk.new (w) 23 #[.int .i64 v.W, .int .i64 v.H, .int .i64 v.C, .int .i64 v.B]
    skip
    have B1 := Lib.hid B1
    generalize w.alloc (.cells #[.int .i64 v.W, .int .i64 v.H, .int .i64 v.C, .int .i64 v.B] 23) = w1 at *
    clear hzw
    have HB1 := Lib.hid (Below.refl w1.heap.size w1)
    refine (ptable_c _).mono ?_
    rintro e w2 ⟨rfl, hb'⟩
    have HB1 := Lib.hid ((HB1.out).trans (hb'.mono (HB1.out).size))
    clear hb'
    go_upto_region 2 with (refine wpList_store_new rfl _ _ _ rfl 42 _ tabV rfl rfl rfl (by kernel_rfl) tab_one ?_)
    have HB1 := Lib.hid (below_alloc_ (HB1.out) (.cells tabV 42))
    have hzw : (w2.alloc (.cells tabV 42)).heap.size = w2.heap.size + 1 := by simp only [World.size_alloc]
    have B5 := Blk.new (w2) 42 tabV
    skip
    have B5 := Lib.hid B5
    generalize w2.alloc (.cells tabV 42) = w3 at *
    clear hzw
    have B1 := Lib.hid (B1.out.below HB1.out B1.out.lt)
    have HB := Lib.hid (HB.out.trans (HB1.out.mono HB.out.size))
    have HB1 := Lib.hid (Below.refl w3.heap.size w3)
    go_upto_region 5 with fail
    clear F1 F2
    obtain ⟨y0, y1, y2, y3⟩ := tab_cells (B5.out.below HB1.out B5.out.lt) hk
    rw [← HBK.out] at y0 y1 y2 y3
    obtain ⟨zB10, zB11, zB12, zB13⟩ := (B1.out.below HB1.out B1.out.lt).cells4
    have kq0 := cell_regrown zB10
    have kq1 := cell_regrown zB11
    have kq2 := cell_regrown zB12
    have kq3 := cell_regrown zB13
    have kq4 := cell_regrown y0
    have kq5 := cell_regrown y1
    have kq6 := cell_regrown y2
    have kq7 := cell_regrown y3
    have qc0 := fun (d : Nat) (os : Array Obj) => Calls.regrown_of ((by have h := pothers_c v b (grow (redrawn w3 d) os); rw [H1.out, H2.out, H3.out] at h; exact h))
    clear zB10 zB11 zB12 zB13 y0 y1 y2 y3
    refine wp_region_quiet_below (by kernel_rfl) (by kernel_rfl) ?_
    repeat (go_big_quiet_step (first | with_reducible exact qc0 _ _))
    refine wpQuiet_nil ?_
    intro _ hw'
    obtain ⟨⟨dq, osq⟩, hw''⟩ := hw'
    subst hw''
    have hb' := below_regrown w3 dq osq
    clear kq0 kq1 kq2 kq3 kq4 kq5 kq6 kq7 qc0
    have HB1 := Lib.hid ((HB1.out).trans (hb'.mono (HB1.out).size))
    clear hb'
    generalize grow (redrawn w3 dq) osq = w4 at *
    have j0 := fun a b c w => (idx_bool a b c w).1
    have j1 := fun a b c w => (idx_bool a b c w).2.1
    have j2 := fun a b c w => (idx_bool a b c w).2.2
    go_wp2_with fail
    refine wp_loop_rounds 4 ?_
    rw [rounds_succ]
    go_wp2_with fail
    rw [rounds_succ]
    go_wp2_with fail
    rw [rounds_succ]
    go_wp2_with fail
    rw [rounds_succ]
    go_wp2_with fail
    go_ret
    exact ⟨rfl, HB.out.trans (HB1.out.mono HB.out.size)⟩
set_option maxRecDepth 100000 in
set_option maxHeartbeats 6400000 in
theorem pother_out (v : Vd) (i : Int) (w : World) (hi : ¬ (0 ≤ i ∧ i < 5)) : Calls Try.prog 9 #[vdV v, .int .i64 i] w fun e w' => e = .returned (.int .i64 3) ∧ Below w.heap.size w w' := by
  have HB := Lib.hid (Below.refl w.heap.size w)
  have F0 : decide (i < 0) = true ∨ decide (i < 0) = false ∧ decide (5 ≤ i) = true := by simp; omega
  have F9 : i < 0 ∨ 0 ≤ i ∧ 5 ≤ i := by omega
  rcases F9 with F9 | ⟨F9, F8⟩
  all_goals
    clear F0
    try have F1 : decide (i < 0) = true := by simp; omega
    try have F1 : decide (i < 0) = false := by simp; omega
    try have F2 : decide (5 ≤ i) = true := by simp; omega
    go_enter Try.func9, Try.ntmps9
    go_wp2_with fail
    have HB := Lib.hid (below_alloc_ (HB.out) (.cells #[.int .i64 v.W, .int .i64 v.H, .int .i64 v.C, .int .i64 v.B] 23))
    have hzw : (w.alloc (.cells #[.int .i64 v.W, .int .i64 v.H, .int .i64 v.C, .int .i64 v.B] 23)).heap.size = w.heap.size + 1 := by simp only [World.size_alloc]
    have B1 := Blk.new (w) 23 #[.int .i64 v.W, .int .i64 v.H, .int .i64 v.C, .int .i64 v.B]
    skip
    have B1 := Lib.hid B1
    generalize w.alloc (.cells #[.int .i64 v.W, .int .i64 v.H, .int .i64 v.C, .int .i64 v.B] 23) = w1 at *
    clear hzw
    have HB1 := Lib.hid (Below.refl w1.heap.size w1)
    refine (ptable_c _).mono ?_
    rintro e w2 ⟨rfl, hb'⟩
    have HB1 := Lib.hid ((HB1.out).trans (hb'.mono (HB1.out).size))
    clear hb'
    go_upto_region 2 with (refine wpList_store_new rfl _ _ _ rfl 42 _ tabV rfl rfl rfl (by kernel_rfl) tab_one ?_)
    have HB1 := Lib.hid (below_alloc_ (HB1.out) (.cells tabV 42))
    have hzw : (w2.alloc (.cells tabV 42)).heap.size = w2.heap.size + 1 := by simp only [World.size_alloc]
    have B5 := Blk.new (w2) 42 tabV
    skip
    have B5 := Lib.hid B5
    generalize w2.alloc (.cells tabV 42) = w3 at *
    clear hzw
    have B1 := Lib.hid (B1.out.below HB1.out B1.out.lt)
    have HB := Lib.hid (HB.out.trans (HB1.out.mono HB.out.size))
    have HB1 := Lib.hid (Below.refl w3.heap.size w3)
    go_wp2_with fail
    refine (pgroups_c _ _).mono ?_
    rintro e w4 ⟨g1, g2, g3, rfl, _, _, _, _, _, _, hb'⟩
    have HB1 := Lib.hid ((HB1.out).trans (hb'.mono (HB1.out).size))
    clear hb'
    go_wp2_with fail
    go_ret
    exact ⟨rfl, HB.out.trans (HB1.out.mono HB.out.size)⟩
theorem pother_c (v : Vd) (i : Int) (w : World) : Calls Try.prog 9 #[vdV v, .int .i64 i] w fun e w' => e = .returned (.int .i64 (othI v i)) ∧ Below w.heap.size w w' := by
  unfold othI
  by_cases h : 0 ≤ i ∧ i < 5
  · rw [if_pos h]
    obtain ⟨k, rfl⟩ := Int.eq_ofNat_of_zero_le h.1
    exact pother_in v k w (by omega)
  · rw [if_neg h]
    exact pother_out v i w h
set_option maxRecDepth 100000 in
set_option maxHeartbeats 6400000 in
theorem rone_c (b : Bool) (w : World) : Calls Try.prog 21 #[.bool b] w fun e w' => e = .returned (.int .i64 (one b : Int)) ∧ Below w.heap.size w w' := by
  cases b
  all_goals
    go_enter Try.func21, Try.ntmps21
    go_wp2_with fail
    go_ret
    exact ⟨rfl, Below.refl _ _⟩
theorem one_le (b : Bool) : one b ≤ 1 := by cases b <;> decide
set_option maxRecDepth 100000 in
set_option maxHeartbeats 6400000 in
theorem rother_in (v : Vd) (k : Nat) (w : World) (hk : k < 5) : Calls Try.prog 10 #[vdV v, .int .i64 k] w fun e w' => e = .returned (.int .i64 (othN v k : Int)) ∧ Below w.heap.size w w' := by
  have HB := Lib.hid (Below.refl w.heap.size w)
  obtain ⟨b, hb⟩ : ∃ b, b = baseV k := ⟨_, rfl⟩
  have HBK := Lib.hid hb
  unfold othN
  rw [← hb]
  have i0 : (0 : Int) ≤ (k : Int) := by omega
  have i5 : (k : Int) < 5 := by omega
  have F1 : decide ((k : Int) < 0) = false := by simp
  have F2 : decide (5 ≤ (k : Int)) = false := by simp; omega
  clear hb
  obtain ⟨n1, h1⟩ : ∃ n, n = one (oth1 v b) := ⟨_, rfl⟩
  obtain ⟨n2, h2⟩ : ∃ n, n = one (oth2 v b) := ⟨_, rfl⟩
  obtain ⟨n3, h3⟩ : ∃ n, n = one (oth3 v b) := ⟨_, rfl⟩
  have l1 : n1 ≤ 1 := by rw [h1]; exact one_le _
  have l2 : n2 ≤ 1 := by rw [h2]; exact one_le _
  have l3 : n3 ≤ 1 := by rw [h3]; exact one_le _
  rw [← h1, ← h2, ← h3]
  have H1 := Lib.hid h1.symm
  have H2 := Lib.hid (show one (v.C != b.C) = n2 from h2.symm)
  have H3 := Lib.hid (show one (v.B != b.B) = n3 from h3.symm)
  clear h1 h2 h3
  cases hW : (v.W != b.W)
  case false =>
    have H0 := Lib.hid (show one (v.H != b.H) = n1 by rw [← H1.out]; unfold oth1; rw [hW]; rw [Bool.false_or])
    clear H1
    go_enter Try.func10, Try.ntmps10
    go_wp2_with fail
    have HB := Lib.hid (below_alloc_ (HB.out) (.cells #[.int .i64 v.W, .int .i64 v.H, .int .i64 v.C, .int .i64 v.B] 23))
    have hzw : (w.alloc (.cells #[.int .i64 v.W, .int .i64 v.H, .int .i64 v.C, .int .i64 v.B] 23)).heap.size = w.heap.size + 1 := by simp only [World.size_alloc]
    have B1 := Blk.new (w) 23 #[.int .i64 v.W, .int .i64 v.H, .int .i64 v.C, .int .i64 v.B]
    skip
    have B1 := Lib.hid B1
    generalize w.alloc (.cells #[.int .i64 v.W, .int .i64 v.H, .int .i64 v.C, .int .i64 v.B] 23) = w1 at *
    clear hzw
    refine (rbases_c _).mono ?_
    rintro e w2 ⟨g, rfl, hge, htb, hb'⟩
    have HB := Lib.hid ((HB.out).trans (hb'.mono (HB.out).size))
    have B1 := Lib.hid ((B1.out).below hb' (B1.out).lt)
    have B5 := Lib.hid htb
    clear hb' htb hge
    have HB1 := Lib.hid (Below.refl w2.heap.size w2)
    go_upto_region 4 with fail
    clear F1 F2
    obtain ⟨y0, y1, y2, y3⟩ := tab_cells (B5.out.below HB1.out B5.out.lt) hk
    rw [← HBK.out] at y0 y1 y2 y3
    obtain ⟨zB10, zB11, zB12, zB13⟩ := (B1.out.below HB1.out B1.out.lt).cells4
    have kq0 := cell_regrown zB10
    have kq1 := cell_regrown zB11
    have kq2 := cell_regrown zB12
    have kq3 := cell_regrown zB13
    have kq4 := cell_regrown y0
    have kq5 := cell_regrown y1
    have kq6 := cell_regrown y2
    have kq7 := cell_regrown y3
    have qc0 := fun (d : Nat) (os : Array Obj) => Calls.regrown_of ((by have h := rone_c (v.H != b.H) (grow (redrawn w2 d) os); rw [H0.out] at h; exact h))
    have qc1 := fun (d : Nat) (os : Array Obj) => Calls.regrown_of ((by have h := rone_c (v.C != b.C) (grow (redrawn w2 d) os); rw [H2.out] at h; exact h))
    have qc2 := fun (d : Nat) (os : Array Obj) => Calls.regrown_of ((by have h := rone_c (v.B != b.B) (grow (redrawn w2 d) os); rw [H3.out] at h; exact h))
    clear zB10 zB11 zB12 zB13 y0 y1 y2 y3
    refine wp_region_quiet_below (by kernel_rfl) (by kernel_rfl) ?_
    repeat (go_big_quiet_step (first | with_reducible exact qc0 _ _ | with_reducible exact qc1 _ _ | with_reducible exact qc2 _ _))
    refine wpQuiet_nil ?_
    intro _ hw'
    obtain ⟨⟨dq, osq⟩, hw''⟩ := hw'
    subst hw''
    have hb' := below_regrown w2 dq osq
    clear kq0 kq1 kq2 kq3 kq4 kq5 kq6 kq7 qc0 qc1 qc2
    have HB1 := Lib.hid ((HB1.out).trans (hb'.mono (HB1.out).size))
    clear hb'
    generalize grow (redrawn w2 dq) osq = w3 at *
    go_wp2_with fail
    go_ret
    exact ⟨by push_cast; rfl, HB.out.trans (HB1.out.mono HB.out.size)⟩
  case true =>
    have H0 := Lib.hid (show one true = n1 by rw [← H1.out]; unfold oth1; rw [hW]; rfl)
    clear H1
    go_enter Try.func10, Try.ntmps10
    go_wp2_with fail
    have HB := Lib.hid (below_alloc_ (HB.out) (.cells #[.int .i64 v.W, .int .i64 v.H, .int .i64 v.C, .int .i64 v.B] 23))
    have hzw : (w.alloc (.cells #[.int .i64 v.W, .int .i64 v.H, .int .i64 v.C, .int .i64 v.B] 23)).heap.size = w.heap.size + 1 := by simp only [World.size_alloc]
    have B1 := Blk.new (w) 23 #[.int .i64 v.W, .int .i64 v.H, .int .i64 v.C, .int .i64 v.B]
    skip
    have B1 := Lib.hid B1
    generalize w.alloc (.cells #[.int .i64 v.W, .int .i64 v.H, .int .i64 v.C, .int .i64 v.B] 23) = w4 at *
    clear hzw
    refine (rbases_c _).mono ?_
    rintro e w5 ⟨g, rfl, hge, htb, hb'⟩
    have HB := Lib.hid ((HB.out).trans (hb'.mono (HB.out).size))
    have B1 := Lib.hid ((B1.out).below hb' (B1.out).lt)
    have B5 := Lib.hid htb
    clear hb' htb hge
    have HB1 := Lib.hid (Below.refl w5.heap.size w5)
    go_upto_region 4 with fail
    clear F1 F2
    obtain ⟨y0, y1, y2, y3⟩ := tab_cells (B5.out.below HB1.out B5.out.lt) hk
    rw [← HBK.out] at y0 y1 y2 y3
    obtain ⟨zB10, zB11, zB12, zB13⟩ := (B1.out.below HB1.out B1.out.lt).cells4
    have kq0 := cell_regrown zB10
    have kq1 := cell_regrown zB11
    have kq2 := cell_regrown zB12
    have kq3 := cell_regrown zB13
    have kq4 := cell_regrown y0
    have kq5 := cell_regrown y1
    have kq6 := cell_regrown y2
    have kq7 := cell_regrown y3
    have qc0 := fun (d : Nat) (os : Array Obj) => Calls.regrown_of ((by have h := rone_c true (grow (redrawn w5 d) os); rw [H0.out] at h; exact h))
    have qc1 := fun (d : Nat) (os : Array Obj) => Calls.regrown_of ((by have h := rone_c (v.C != b.C) (grow (redrawn w5 d) os); rw [H2.out] at h; exact h))
    have qc2 := fun (d : Nat) (os : Array Obj) => Calls.regrown_of ((by have h := rone_c (v.B != b.B) (grow (redrawn w5 d) os); rw [H3.out] at h; exact h))
    clear zB10 zB11 zB12 zB13 y0 y1 y2 y3
    refine wp_region_quiet_below (by kernel_rfl) (by kernel_rfl) ?_
    repeat (go_big_quiet_step (first | with_reducible exact qc0 _ _ | with_reducible exact qc1 _ _ | with_reducible exact qc2 _ _))
    refine wpQuiet_nil ?_
    intro _ hw'
    obtain ⟨⟨dq, osq⟩, hw''⟩ := hw'
    subst hw''
    have hb' := below_regrown w5 dq osq
    clear kq0 kq1 kq2 kq3 kq4 kq5 kq6 kq7 qc0 qc1 qc2
    have HB1 := Lib.hid ((HB1.out).trans (hb'.mono (HB1.out).size))
    clear hb'
    generalize grow (redrawn w5 dq) osq = w6 at *
    go_wp2_with fail
    go_ret
    exact ⟨by push_cast; rfl, HB.out.trans (HB1.out.mono HB.out.size)⟩
set_option maxRecDepth 100000 in
set_option maxHeartbeats 6400000 in
theorem rother_out (v : Vd) (i : Int) (w : World) (hi : ¬ (0 ≤ i ∧ i < 5)) : Calls Try.prog 10 #[vdV v, .int .i64 i] w fun e w' => e = .returned (.int .i64 3) ∧ Below w.heap.size w w' := by
  have HB := Lib.hid (Below.refl w.heap.size w)
  have F9 : i < 0 ∨ 0 ≤ i ∧ 5 ≤ i := by omega
  rcases F9 with F9 | ⟨F9, F8⟩
  all_goals
    try have F1 : decide (i < 0) = true := by simp; omega
    try have F1 : decide (i < 0) = false := by simp; omega
    try have F2 : decide (5 ≤ i) = true := by simp; omega
    go_enter Try.func10, Try.ntmps10
    go_wp2_with fail
    have HB := Lib.hid (below_alloc_ (HB.out) (.cells #[.int .i64 v.W, .int .i64 v.H, .int .i64 v.C, .int .i64 v.B] 23))
    have hzw : (w.alloc (.cells #[.int .i64 v.W, .int .i64 v.H, .int .i64 v.C, .int .i64 v.B] 23)).heap.size = w.heap.size + 1 := by simp only [World.size_alloc]
    have B1 := Blk.new (w) 23 #[.int .i64 v.W, .int .i64 v.H, .int .i64 v.C, .int .i64 v.B]
    skip
    have B1 := Lib.hid B1
    generalize w.alloc (.cells #[.int .i64 v.W, .int .i64 v.H, .int .i64 v.C, .int .i64 v.B] 23) = w1 at *
    clear hzw
    refine (rbases_c _).mono ?_
    rintro e w2 ⟨g, rfl, hge, htb, hb'⟩
    have HB := Lib.hid ((HB.out).trans (hb'.mono (HB.out).size))
    have B1 := Lib.hid ((B1.out).below hb' (B1.out).lt)
    have B5 := Lib.hid htb
    clear hb' htb hge
    have HB1 := Lib.hid (Below.refl w2.heap.size w2)
    go_wp2_with fail
    go_ret
    exact ⟨rfl, HB.out⟩
theorem rother_c (v : Vd) (i : Int) (w : World) : Calls Try.prog 10 #[vdV v, .int .i64 i] w fun e w' => e = .returned (.int .i64 (othI v i)) ∧ Below w.heap.size w w' := by
  unfold othI
  by_cases h : 0 ≤ i ∧ i < 5
  · rw [if_pos h]
    obtain ⟨k, rfl⟩ := Int.eq_ofNat_of_zero_le h.1
    exact rother_in v k w (by omega)
  · rw [if_neg h]
    exact rother_out v i w h
set_option maxRecDepth 100000 in
set_option maxHeartbeats 6400000 in
theorem pbest_c (v : Vd) (w : World) : Calls Try.prog 12 #[vdV v] w fun e w' => e = .returned (.int .i64 (bestN v : Int)) ∧ Below w.heap.size w w' := by
  have HB := Lib.hid (Below.refl w.heap.size w)
  go_enter Try.func12, Try.ntmps12
  go_wp2_with fail
  have HB := Lib.hid (below_alloc_ (HB.out) (.cells #[.int .i64 v.W, .int .i64 v.H, .int .i64 v.C, .int .i64 v.B] 23))
  have hzw : (w.alloc (.cells #[.int .i64 v.W, .int .i64 v.H, .int .i64 v.C, .int .i64 v.B] 23)).heap.size = w.heap.size + 1 := by simp only [World.size_alloc]
  have B1 := Blk.new (w) 23 #[.int .i64 v.W, .int .i64 v.H, .int .i64 v.C, .int .i64 v.B]
  skip
  have B1 := Lib.hid B1
  generalize w.alloc (.cells #[.int .i64 v.W, .int .i64 v.H, .int .i64 v.C, .int .i64 v.B] 23) = w1 at *
  clear hzw
  have HB1 := Lib.hid (Below.refl w1.heap.size w1)
  refine (ptable_c _).mono ?_
  rintro e w2 ⟨rfl, hb'⟩
  have HB1 := Lib.hid ((HB1.out).trans (hb'.mono (HB1.out).size))
  clear hb'
  go_wp2_with fail
  have B1 := Lib.hid (B1.out.below HB1.out B1.out.lt)
  have HB := Lib.hid (HB.out.trans (HB1.out.mono HB.out.size))
  have HB1 := Lib.hid (Below.refl w2.heap.size w2)
  go_loopw [3, 6] (fun bv iv wr => ∃ k : Nat, k ≤ 5 ∧ iv = .int .i64 k ∧ bv = .int .i64 (bstK v k : Int) ∧ Below w2.heap.size w2 wr) (fun _ iv _ => 5 - (intOf iv).toNat)
  case atStart => exact ⟨0, Nat.zero_le _, rfl, rfl, HB1.out⟩
  case round =>
    clear HB1
    obtain ⟨k, hk, rfl, rfl, hb⟩ := hrel
    have HB1 := Lib.hid hb
    obtain ⟨wo, ewo⟩ : ∃ wo, wo = wr := ⟨_, rfl⟩
    subst ewo
    clear hb
    by_cases hkl : k < 5
    · skip
      have hbl := bstK_lt v k hk
      obtain ⟨c, hc⟩ : ∃ c, c = bstK v k := ⟨_, rfl⟩
      rw [← hc] at hbl ⊢
      have HC := Lib.hid hc
      obtain ⟨p, hp⟩ : ∃ p, p = othN v k := ⟨_, rfl⟩
      obtain ⟨q, hq⟩ : ∃ q, q = othN v c := ⟨_, rfl⟩
      have HP := Lib.hid hp.symm
      have HQ := Lib.hid hq.symm
      clear hc hp hq
      have c1 : (k : Int) < 5 := by omega
      go_upto_region 5 with fail
      clear c1
      by_cases hlt : p < q
      · skip
        have T : decide ((p : Int) < (q : Int)) = true := by simp; omega
        have HN := Lib.hid (show bstK v (k + 1) = k by unfold bstK; rw [← HC.out, HP.out, HQ.out]; exact if_pos hlt)
        obtain ⟨zB10, zB11, zB12, zB13⟩ := (B1.out.below HB1.out B1.out.lt).cells4
        have kq0 := cell_regrown zB10
        have kq1 := cell_regrown zB11
        have kq2 := cell_regrown zB12
        have kq3 := cell_regrown zB13
        have qc0 := fun (d : Nat) (os : Array Obj) => Calls.regrown_of ((by have h := pother_in v k (grow (redrawn wo d) os) hkl; rw [HP.out] at h; exact h))
        have qc1 := fun (d : Nat) (os : Array Obj) => Calls.regrown_of ((by have h := pother_in v c (grow (redrawn wo d) os) hbl; rw [HQ.out] at h; exact h))
        clear zB10 zB11 zB12 zB13
        refine wp_region_quiet_below (by kernel_rfl) (by kernel_rfl) ?_
        repeat (go_big_quiet_step (first | with_reducible exact qc0 _ _ | with_reducible exact qc1 _ _))
        refine wpQuiet_nil ?_
        intro _ hw'
        obtain ⟨⟨dq, osq⟩, hw''⟩ := hw'
        subst hw''
        have hb' := below_regrown wo dq osq
        clear kq0 kq1 kq2 kq3 qc0 qc1
        have HB1 := Lib.hid ((HB1.out).trans (hb'.mono (HB1.out).size))
        clear hb'
        generalize grow (redrawn wo dq) osq = w3 at *
        go_wp2_with fail
        go_roundw
        case rel => exact ⟨k + 1, by omega, by go_num, by rw [HN.out], HB1.out⟩
        case measure => simp [intOf]; omega
      · skip
        have T : decide ((p : Int) < (q : Int)) = false := by simp; omega
        have HN := Lib.hid (show bstK v (k + 1) = c by unfold bstK; rw [← HC.out, HP.out, HQ.out]; exact if_neg hlt)
        obtain ⟨zB10, zB11, zB12, zB13⟩ := (B1.out.below HB1.out B1.out.lt).cells4
        have kq0 := cell_regrown zB10
        have kq1 := cell_regrown zB11
        have kq2 := cell_regrown zB12
        have kq3 := cell_regrown zB13
        have qc0 := fun (d : Nat) (os : Array Obj) => Calls.regrown_of ((by have h := pother_in v k (grow (redrawn wo d) os) hkl; rw [HP.out] at h; exact h))
        have qc1 := fun (d : Nat) (os : Array Obj) => Calls.regrown_of ((by have h := pother_in v c (grow (redrawn wo d) os) hbl; rw [HQ.out] at h; exact h))
        clear zB10 zB11 zB12 zB13
        refine wp_region_quiet_below (by kernel_rfl) (by kernel_rfl) ?_
        repeat (go_big_quiet_step (first | with_reducible exact qc0 _ _ | with_reducible exact qc1 _ _))
        refine wpQuiet_nil ?_
        intro _ hw'
        obtain ⟨⟨dq, osq⟩, hw''⟩ := hw'
        subst hw''
        have hb' := below_regrown wo dq osq
        clear kq0 kq1 kq2 kq3 qc0 qc1
        have HB1 := Lib.hid ((HB1.out).trans (hb'.mono (HB1.out).size))
        clear hb'
        generalize grow (redrawn wo dq) osq = w3 at *
        go_wp2_with fail
        go_roundw
        case rel => exact ⟨k + 1, by omega, by go_num, by rw [HN.out], HB1.out⟩
        case measure => simp [intOf]; omega
    · skip
      obtain rfl : k = 5 := by omega
      go_wp2_with fail
      go_ret
      exact ⟨rfl, HB.out.trans (HB1.out.mono HB.out.size)⟩
set_option maxRecDepth 100000 in
set_option maxHeartbeats 6400000 in
theorem rbest_c (v : Vd) (w : World) : Calls Try.prog 13 #[vdV v] w fun e w' => e = .returned (.int .i64 (bestN v : Int)) ∧ Below w.heap.size w w' := by
  have HB := Lib.hid (Below.refl w.heap.size w)
  go_enter Try.func13, Try.ntmps13
  go_wp2_with fail
  have HB := Lib.hid (below_alloc_ (HB.out) (.cells #[.int .i64 v.W, .int .i64 v.H, .int .i64 v.C, .int .i64 v.B] 23))
  have hzw : (w.alloc (.cells #[.int .i64 v.W, .int .i64 v.H, .int .i64 v.C, .int .i64 v.B] 23)).heap.size = w.heap.size + 1 := by simp only [World.size_alloc]
  have B1 := Blk.new (w) 23 #[.int .i64 v.W, .int .i64 v.H, .int .i64 v.C, .int .i64 v.B]
  skip
  have B1 := Lib.hid B1
  generalize w.alloc (.cells #[.int .i64 v.W, .int .i64 v.H, .int .i64 v.C, .int .i64 v.B] 23) = w1 at *
  clear hzw
  have HB1 := Lib.hid (Below.refl w1.heap.size w1)
  go_loopw [2, 3] (fun _ nv wr => ∃ n : Nat, n ≤ 3 ∧ nv = .int .i64 n ∧ (∀ j, j < 5 → n ≤ othN v j) ∧ Below w1.heap.size w1 wr) (fun _ nv _ => 3 - (intOf nv).toNat)
  case atStart => exact ⟨0, Nat.zero_le _, rfl, fun _ _ => Nat.zero_le _, HB1.out⟩
  case round =>
    clear HB1
    obtain ⟨n, hn, rfl, hall, hb⟩ := hrel
    have HA := Lib.hid hall
    have HB1 := Lib.hid hb
    obtain ⟨wo, ewo⟩ : ∃ wo, wo = wr := ⟨_, rfl⟩
    subst ewo
    clear hb hall
    by_cases hnl : n < 3
    · skip
      have c1 : (n : Int) < 3 := by omega
      go_wp2_with fail
      clear c1
      go_loopw [2, 4] (fun _ iv wr => ∃ i : Nat, i ≤ 5 ∧ iv = .int .i64 i ∧ (∀ j, j < i → othN v j ≠ n) ∧ Below w1.heap.size w1 wr) (fun _ iv _ => 5 - (intOf iv).toNat)
      case atStart => exact ⟨0, Nat.zero_le _, rfl, fun j hj => absurd hj (Nat.not_lt_zero j), HB1.out⟩
      case round =>
        clear HB1
        obtain ⟨i, hi, rfl, hno, hb⟩ := hrel
        have HN := Lib.hid hno
        have HB1 := Lib.hid hb
        obtain ⟨wp, ewp⟩ : ∃ wp, wp = wr := ⟨_, rfl⟩
        subst ewp
        clear hb hno
        by_cases hil : i < 5
        · skip
          obtain ⟨p, hp⟩ : ∃ p, p = othN v i := ⟨_, rfl⟩
          have HP := Lib.hid hp.symm
          clear hp
          have c2 : (i : Int) < 5 := by omega
          obtain ⟨zB10, zB11, zB12, zB13⟩ := (B1.out.below HB1.out B1.out.lt).cells4
          go_wp2_with fail
          clear zB10 zB11 zB12 zB13
          clear c2
          have h9 := rother_in v i wp hil
          rw [HP.out] at h9
          refine (h9).mono ?_
          rintro e w2 ⟨rfl, hb'⟩
          have HB1 := Lib.hid ((HB1.out).trans (hb'.mono (HB1.out).size))
          clear hb'
          clear h9
          by_cases he : p = n
          · skip
            subst he
            go_wp2_with fail
            go_ret
            exact ⟨by rw [bestN_of hil HP.out HA.out HN.out]; rfl, HB.out.trans (HB1.out.mono HB.out.size)⟩
          · skip
            have E : ((p : Int) == (n : Int)) = false := by simp; omega
            have HE := Lib.hid he
            clear he
            go_wp2_with fail
            go_roundw
            case rel => exact ⟨i + 1, by omega, by go_num, fun j hj => by rcases Nat.lt_succ_iff_lt_or_eq.1 hj with h | rfl; exact HN.out j h; rw [HP.out]; exact HE.out, HB1.out⟩
            case measure => simp [intOf]; omega
        · skip
          obtain rfl : i = 5 := by omega
          go_wp2_with fail
          go_roundw
          case rel => exact ⟨n + 1, by omega, by go_num, fun j hj => by have := HA.out j hj; have := HN.out j hj; omega, HB1.out⟩
          case measure => simp [intOf]; omega
    · skip
      obtain rfl : n = 3 := by omega
      go_wp2_with fail
      go_ret
      exact ⟨by rw [bestN_three HA.out]; rfl, HB.out.trans (HB1.out.mono HB.out.size)⟩

end Go.Proofs.Ytgdlleoefncikaa
