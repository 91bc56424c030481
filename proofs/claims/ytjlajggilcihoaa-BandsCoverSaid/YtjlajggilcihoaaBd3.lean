/- Bands: one band; is it within a plane. -/
import Derived.Test.YtjlajggilcihoaaBd2
import Derived.Deep.DeepCutAuto
import Derived.Deep.CutBlock
namespace Go.Proofs.Ytjlajggilcihoaa
open Go.RowKit Go.Sort
set_option linter.unusedVariables false
set_option linter.unusedSimpArgs false

section
variable {w : World} {b : Nat} {t : TypeId} {x0 x1 x2 x3 x4 x5 : Value}
theorem Blk.six (h : Blk w b t #[x0, x1, x2, x3, x4, x5]) : (w.cell? ⟨b, 0, none⟩ = some x0 ∧ w.cell? ⟨b, 1, none⟩ = some x1 ∧ w.cell? ⟨b, 2, none⟩ = some x2 ∧ w.cell? ⟨b, 3, none⟩ = some x3 ∧ w.cell? ⟨b, 4, none⟩ = some x4 ∧ w.cell? ⟨b, 5, none⟩ = some x5) ∧ (w.frozen? ⟨b, 0, none⟩ = false ∧ w.frozen? ⟨b, 1, none⟩ = false ∧ w.frozen? ⟨b, 2, none⟩ = false ∧ w.frozen? ⟨b, 3, none⟩ = false ∧ w.frozen? ⟨b, 4, none⟩ = false ∧ w.frozen? ⟨b, 5, none⟩ = false) :=
  ⟨⟨h.cell 0, h.cell 1, h.cell 2, h.cell 3, h.cell 4, h.cell 5⟩, ⟨h.frozen 0, h.frozen 1, h.frozen 2, h.frozen 3, h.frozen 4, h.frozen 5⟩⟩
theorem Blk.cells6 (h : Blk w b t #[x0, x1, x2, x3, x4, x5]) : w.cell? ⟨b, 0, none⟩ = some x0 ∧ w.cell? ⟨b, 1, none⟩ = some x1 ∧ w.cell? ⟨b, 2, none⟩ = some x2 ∧ w.cell? ⟨b, 3, none⟩ = some x3 ∧ w.cell? ⟨b, 4, none⟩ = some x4 ∧ w.cell? ⟨b, 5, none⟩ = some x5 := ⟨h.cell 0, h.cell 1, h.cell 2, h.cell 3, h.cell 4, h.cell 5⟩
/-- Six cells stored into a variable. -/
theorem ret_six (h : Blk w b t #[x0, x1, x2, x3, x4, x5]) (y0 y1 y2 y3 y4 y5 : Value) :
    Blk ((((((w.setCell ⟨b, 0, none⟩ y0).setCell ⟨b, 1, none⟩ y1).setCell ⟨b, 2, none⟩ y2).setCell ⟨b, 3, none⟩ y3).setCell ⟨b, 4, none⟩ y4).setCell ⟨b, 5, none⟩ y5) b t #[y0, y1, y2, y3, y4, y5] ∧ (∀ g u cs, Blk w g u cs → g ≠ b → Blk ((((((w.setCell ⟨b, 0, none⟩ y0).setCell ⟨b, 1, none⟩ y1).setCell ⟨b, 2, none⟩ y2).setCell ⟨b, 3, none⟩ y3).setCell ⟨b, 4, none⟩ y4).setCell ⟨b, 5, none⟩ y5) g u cs) ∧ (∀ B a, Below B a w → B ≤ b → Below B a ((((((w.setCell ⟨b, 0, none⟩ y0).setCell ⟨b, 1, none⟩ y1).setCell ⟨b, 2, none⟩ y2).setCell ⟨b, 3, none⟩ y3).setCell ⟨b, 4, none⟩ y4).setCell ⟨b, 5, none⟩ y5)) :=
  ⟨((((((h.set_ 0 y0).set_ 1 y1).set_ 2 y2).set_ 3 y3).set_ 4 y4).set_ 5 y5), fun g u cs hg hne => ((((((hg.far hne y0).far hne y1).far hne y2).far hne y3).far hne y4).far hne y5), fun B a hb hB => ((((((hb.setCell hB _).setCell hB _).setCell hB _).setCell hB _).setCell hB _).setCell hB _)⟩
end
set_option maxRecDepth 100000 in
set_option maxHeartbeats 6400000 in
theorem bband_0 (w h d l : Int) (W : World) (w0 : 0 ≤ w) (w1 : w ≤ 1024) (h0 : 0 ≤ h) (h1 : h ≤ 1024) (l0 : 0 ≤ l) (l1 : l ≤ d) (d1 : d ≤ 6) :
    Calls Try.prog 26 #[.int .i64 w, .int .i64 h, .int .i64 d, .int .i64 l, .int .i64 0] W fun e W' => e = .returned (bdV (bandI w h d l 0)) ∧ Below W.heap.size W W' := by
  obtain ⟨mm, hmm, m0, m1, m2⟩ : ∃ mm, (if l - 1 < 0 then 0 else l - 1) = mm ∧ max (l - 1) 0 = mm ∧ 0 ≤ mm ∧ mm ≤ d := ⟨max (l - 1) 0, by split <;> omega, rfl, by omega, by omega⟩
  obtain ⟨s, hs⟩ : ∃ s, d - mm = s := ⟨_, rfl⟩
  have s0 : 0 ≤ s := by omega
  have s1 : s ≤ 64 := by omega
  obtain ⟨q, hq⟩ : ∃ q, (2 : Int) ^ s.toNat = q := ⟨_, rfl⟩
  obtain ⟨a, ha⟩ : ∃ a, w / q = a := ⟨_, rfl⟩
  obtain ⟨c, hc⟩ : ∃ c, h / q = c := ⟨_, rfl⟩
  have HV := Lib.hid (show bandI w h d l 0 = ⟨l, 0, 0, 0, a, c⟩ by unfold bandI p2; rw [m0, hs, hq, ha, hc]; simp)
  have A1 : bits .and .i64 0 1 = 0 := by decide
  have A2 : bits .and .i64 0 2 = 0 := by decide
  have HB1 := Lib.hid (Below.refl W.heap.size W)
  clear m0 l1
  go_enter Try.func26, Try.ntmps26
  go_wp2_with fail
  have HB1 := Lib.hid (below_alloc_ (HB1.out) (.cells #[.int .i64 0, .int .i64 0, .int .i64 0, .int .i64 0, .int .i64 0, .int .i64 0] 31))
  have hzw : (W.alloc (.cells #[.int .i64 0, .int .i64 0, .int .i64 0, .int .i64 0, .int .i64 0, .int .i64 0] 31)).heap.size = W.heap.size + 1 := by simp only [World.size_alloc]
  have B10 := Blk.new (W) 31 #[.int .i64 0, .int .i64 0, .int .i64 0, .int .i64 0, .int .i64 0, .int .i64 0]
  skip
  have B10 := Lib.hid B10
  generalize W.alloc (.cells #[.int .i64 0, .int .i64 0, .int .i64 0, .int .i64 0, .int .i64 0, .int .i64 0] 31) = w1 at *
  clear hzw
  have HB1 := Lib.hid ((HB1.out).drew)
  have B10 := Lib.hid ((B10.out).drew)
  refine wp_region_held_drew (S := (fun _ => True)) (by kernel_rfl) ?hS0 (fun hHeld => ?_)
  case hS0 => exact trivial
  refine wpAnyH_take (i := 0) (oi := ⟨some 18, _, _, _, _, _⟩) (v := ?v1) rfl (by kernel_rfl) (by kernel_rfl) (by kernel_rfl) (fun _ _ _ h => h) (Or.inl ⟨by rfl, ?h1⟩) (by assumption) ?r1
  case h1 => (intro w hSw; (try dsimp only at hSw); go_simp; try with_reducible rfl)
  try simp only [Act.put, List.setIfInBounds_toArray, List.set_cons_zero, List.set_cons_succ]
  refine wpAnyH_take (i := 1) (oi := ⟨some 19, _, _, _, _, _⟩) (v := ?v2) rfl (by kernel_rfl) (by kernel_rfl) (by kernel_rfl) (fun _ _ _ h => h) (Or.inl ⟨by rfl, ?h2⟩) (by assumption) ?r2
  case h2 => (intro w hSw; (try dsimp only at hSw); go_simp; try with_reducible rfl)
  try simp only [Act.put, List.setIfInBounds_toArray, List.set_cons_zero, List.set_cons_succ]
  refine wpAnyH_take (i := 2) (oi := ⟨some 20, _, _, _, _, _⟩) (v := ?v3) rfl (by kernel_rfl) (by kernel_rfl) (by kernel_rfl) (fun _ _ _ h => h) (Or.inl ⟨by rfl, ?h3⟩) (by assumption) ?r3
  case h3 => (intro w hSw; (try dsimp only at hSw); go_simp; try with_reducible rfl)
  try simp only [Act.put, List.setIfInBounds_toArray, List.set_cons_zero, List.set_cons_succ]
  refine wpAnyH_take (i := 3) (oi := ⟨some 21, _, _, _, _, _⟩) (v := ?v4) rfl (by kernel_rfl) (by kernel_rfl) (by kernel_rfl) (fun _ _ _ h => h) (Or.inl ⟨by rfl, ?h4⟩) (by assumption) ?r4
  case h4 => (intro w hSw; (try dsimp only at hSw); go_simp; try with_reducible rfl)
  try simp only [Act.put, List.setIfInBounds_toArray, List.set_cons_zero, List.set_cons_succ]
  refine wpAnyH_take (i := 4) (oi := ⟨some 22, _, _, _, _, _⟩) (v := ?v5) rfl (by kernel_rfl) (by kernel_rfl) (by kernel_rfl) (fun _ _ _ h => h) (Or.inl ⟨by rfl, ?h5⟩) (by assumption) ?r5
  case h5 => (intro w hSw; (try dsimp only at hSw); go_simp; try with_reducible rfl)
  try simp only [Act.put, List.setIfInBounds_toArray, List.set_cons_zero, List.set_cons_succ]
  refine wpAnyH_take (i := 5) (oi := ⟨some 23, _, _, _, _, _⟩) (v := ?v6) rfl (by kernel_rfl) (by kernel_rfl) (by kernel_rfl) (fun _ _ _ h => h) (Or.inl ⟨by rfl, ?h6⟩) (by assumption) ?r6
  case h6 => (intro w hSw; (try dsimp only at hSw); go_simp; try with_reducible rfl)
  try simp only [Act.put, List.setIfInBounds_toArray, List.set_cons_zero, List.set_cons_succ]
  refine wpAnyH_take (i := 6) (oi := ⟨some 24, _, _, _, _, _⟩) (v := ?v7) rfl (by kernel_rfl) (by kernel_rfl) (by kernel_rfl) (fun _ _ _ h => h) (Or.inl ⟨by rfl, ?h7⟩) (by assumption) ?r7
  case h7 => (intro w hSw; (try dsimp only at hSw); go_simp; try with_reducible rfl)
  try simp only [Act.put, List.setIfInBounds_toArray, List.set_cons_zero, List.set_cons_succ]
  refine wpAnyH_take (i := 7) (oi := ⟨some 25, _, _, _, _, _⟩) (v := ?v8) rfl (by kernel_rfl) (by kernel_rfl) (by kernel_rfl) (fun _ _ _ h => h) (Or.inl ⟨by rfl, ?h8⟩) (by assumption) ?r8
  case h8 => (intro w hSw; (try dsimp only at hSw); go_simp; try with_reducible rfl)
  try simp only [Act.put, List.setIfInBounds_toArray, List.set_cons_zero, List.set_cons_succ]
  refine wpAnyH_take (i := 8) (oi := ⟨some 26, _, _, _, _, _⟩) (v := ?v9) rfl (by kernel_rfl) (by kernel_rfl) (by kernel_rfl) (fun _ _ _ h => h) (Or.inl ⟨by rfl, ?h9⟩) (by assumption) ?r9
  case h9 => (intro w hSw; (try dsimp only at hSw); go_simp; try with_reducible rfl)
  try simp only [Act.put, List.setIfInBounds_toArray, List.set_cons_zero, List.set_cons_succ]
  refine wpAnyH_ready (rs := [9]) (by kernel_rfl) (by simp) ?_
  refine (AllReadyH.cons (o := ⟨some 12, _, _, _, _, _⟩) rfl (fun K hK => ?_) AllReadyH.nil)
  go_simp
  have hlt := HB1.out.size
  have hl10 := B10.out.lt
  have HB1 := Lib.hid (below_alloc_ (HB1.out) (.cells #[.int .i64 0, .int .i64 0, .int .i64 0, .int .i64 0, .int .i64 0, .int .i64 0] 31))
  have B10 := Lib.hid ((B10.out).alloc (.cells #[.int .i64 0, .int .i64 0, .int .i64 0, .int .i64 0, .int .i64 0, .int .i64 0] 31))
  have hzw : (w1.drew.alloc (.cells #[.int .i64 0, .int .i64 0, .int .i64 0, .int .i64 0, .int .i64 0, .int .i64 0] 31)).heap.size = w1.drew.heap.size + 1 := by simp only [World.size_alloc]
  have B12 := Blk.new (w1.drew) 31 #[.int .i64 0, .int .i64 0, .int .i64 0, .int .i64 0, .int .i64 0, .int .i64 0]
  skip
  have B12 := Lib.hid B12
  have B12 := Lib.hid (show Blk _ (w1.heap.size) _ _ from B12.out)
  try rw [show (w1.alloc (.cells #[.int .i64 0, .int .i64 0, .int .i64 0, .int .i64 0, .int .i64 0, .int .i64 0] 31)).drew = w1.drew.alloc (.cells #[.int .i64 0, .int .i64 0, .int .i64 0, .int .i64 0, .int .i64 0, .int .i64 0] 31) from rfl]
  generalize w1.drew.alloc (.cells #[.int .i64 0, .int .i64 0, .int .i64 0, .int .i64 0, .int .i64 0, .int .i64 0] 31) = w2 at *
  have hge : W.heap.size ≤ w1.heap.size := hlt
  have hne : W.heap.size ≠ w1.heap.size := Nat.ne_of_lt hl10
  clear hzw hlt hl10
  refine hK.out _ _ ?hS10 (fun hHeld => ?_)
  case hS10 => exact trivial
  clear hK K
  try simp only [Act.put, List.setIfInBounds_toArray, List.set_cons_zero, List.set_cons_succ]
  refine wpAnyH_ready (rs := [10]) (by kernel_rfl) (by simp) ?_
  refine (AllReadyH.cons (o := ⟨none, _, _, _, _, _⟩) rfl (fun K hK => ?_) AllReadyH.nil)
  obtain ⟨⟨q0, q1, q2, q3, q4, q5⟩, f0, f1, f2, f3, f4, f5⟩ := B12.out.six
  go_simp
  clear q0 q1 q2 q3 q4 q5 f0 f1 f2 f3 f4 f5
  obtain ⟨k1, k2, k3⟩ := ret_six B12.out (.int .i64 l) (.int .i64 0) (.int .i64 0) (.int .i64 0) (.int .i64 a) (.int .i64 c)
  have B12 := Lib.hid k1
  have B10 := Lib.hid (k2 _ _ _ B10.out hne)
  have HB1 := Lib.hid (k3 _ _ HB1.out hge)
  clear k1 k2 k3
  obtain ⟨b12, hb12⟩ : ∃ n, n = w1.heap.size := ⟨_, rfl⟩
  rw [← hb12] at B12 hge hne HB1 B10 ⊢
  generalize (((((w2.setCell ⟨b12, 0, none⟩ (.int .i64 l)).setCell ⟨b12, 1, none⟩ (.int .i64 0)).setCell ⟨b12, 2, none⟩ (.int .i64 0)).setCell ⟨b12, 3, none⟩ (.int .i64 0)).setCell ⟨b12, 4, none⟩ (.int .i64 a)).setCell ⟨b12, 5, none⟩ (.int .i64 c) = w3 at *
  clear hb12
  refine hK.out _ _ ?hS11 (fun hHeld => ?_)
  case hS11 => exact trivial
  clear hK K
  try simp only [Act.put, List.setIfInBounds_toArray, List.set_cons_zero, List.set_cons_succ]
  refine wpAnyH_done (by kernel_rfl) ?_ _
  clear hHeld
  obtain ⟨⟨q0, q1, q2, q3, q4, q5⟩, f0, f1, f2, f3, f4, f5⟩ := B12.out.six
  obtain ⟨⟨r0, r1, r2, r3, r4, r5⟩, g0, g1, g2, g3, g4, g5⟩ := B10.out.six
  have nn0 : ∀ i j : Nat, (⟨W.heap.size, i, none⟩ : Addr) ≠ ⟨b12, j, none⟩ := fun i j e => hne (by injection e)
  clear nn0
  go_wp2_with fail
  clear q0 q1 q2 q3 q4 q5 f0 f1 f2 f3 f4 f5 r0 r1 r2 r3 r4 r5 g0 g1 g2 g3 g4 g5
  obtain ⟨k1, _, k3⟩ := ret_six B10.out (.int .i64 l) (.int .i64 0) (.int .i64 0) (.int .i64 0) (.int .i64 a) (.int .i64 c)
  refine bodyPost_ret (results_cell_row rfl _ _ W.heap.size 31 _ (0, 0) _ rfl k1 Try.underlying31 rfl (by kernel_rfl)) rfl ?_
  exact ⟨by rw [HV.out], k3 _ _ HB1.out (Nat.le_refl _)⟩

set_option maxRecDepth 100000 in
set_option maxHeartbeats 6400000 in
theorem bband_1 (w h d l : Int) (W : World) (w0 : 0 ≤ w) (w1 : w ≤ 1024) (h0 : 0 ≤ h) (h1 : h ≤ 1024) (l0 : 0 ≤ l) (l1 : l ≤ d) (d1 : d ≤ 6) :
    Calls Try.prog 26 #[.int .i64 w, .int .i64 h, .int .i64 d, .int .i64 l, .int .i64 1] W fun e W' => e = .returned (bdV (bandI w h d l 1)) ∧ Below W.heap.size W W' := by
  obtain ⟨mm, hmm, m0, m1, m2⟩ : ∃ mm, (if l - 1 < 0 then 0 else l - 1) = mm ∧ max (l - 1) 0 = mm ∧ 0 ≤ mm ∧ mm ≤ d := ⟨max (l - 1) 0, by split <;> omega, rfl, by omega, by omega⟩
  obtain ⟨s, hs⟩ : ∃ s, d - mm = s := ⟨_, rfl⟩
  have s0 : 0 ≤ s := by omega
  have s1 : s ≤ 64 := by omega
  obtain ⟨q, hq⟩ : ∃ q, (2 : Int) ^ s.toNat = q := ⟨_, rfl⟩
  obtain ⟨a, ha⟩ : ∃ a, w / q = a := ⟨_, rfl⟩
  obtain ⟨c, hc⟩ : ∃ c, h / q = c := ⟨_, rfl⟩
  have HV := Lib.hid (show bandI w h d l 1 = ⟨l, 1, a, 0, a, c⟩ by unfold bandI p2; rw [m0, hs, hq, ha, hc]; simp)
  have A1 : bits .and .i64 1 1 = 1 := by decide
  have A2 : bits .and .i64 1 2 = 0 := by decide
  have HB1 := Lib.hid (Below.refl W.heap.size W)
  clear m0 l1
  go_enter Try.func26, Try.ntmps26
  go_wp2_with fail
  have HB1 := Lib.hid (below_alloc_ (HB1.out) (.cells #[.int .i64 0, .int .i64 0, .int .i64 0, .int .i64 0, .int .i64 0, .int .i64 0] 31))
  have hzw : (W.alloc (.cells #[.int .i64 0, .int .i64 0, .int .i64 0, .int .i64 0, .int .i64 0, .int .i64 0] 31)).heap.size = W.heap.size + 1 := by simp only [World.size_alloc]
  have B10 := Blk.new (W) 31 #[.int .i64 0, .int .i64 0, .int .i64 0, .int .i64 0, .int .i64 0, .int .i64 0]
  skip
  have B10 := Lib.hid B10
  generalize W.alloc (.cells #[.int .i64 0, .int .i64 0, .int .i64 0, .int .i64 0, .int .i64 0, .int .i64 0] 31) = w1 at *
  clear hzw
  have HB1 := Lib.hid ((HB1.out).drew)
  have B10 := Lib.hid ((B10.out).drew)
  refine wp_region_held_drew (S := (fun _ => True)) (by kernel_rfl) ?hS0 (fun hHeld => ?_)
  case hS0 => exact trivial
  refine wpAnyH_take (i := 0) (oi := ⟨some 18, _, _, _, _, _⟩) (v := ?v12) rfl (by kernel_rfl) (by kernel_rfl) (by kernel_rfl) (fun _ _ _ h => h) (Or.inl ⟨by rfl, ?h12⟩) (by assumption) ?r12
  case h12 => (intro w hSw; (try dsimp only at hSw); go_simp; try with_reducible rfl)
  try simp only [Act.put, List.setIfInBounds_toArray, List.set_cons_zero, List.set_cons_succ]
  refine wpAnyH_take (i := 1) (oi := ⟨some 19, _, _, _, _, _⟩) (v := ?v13) rfl (by kernel_rfl) (by kernel_rfl) (by kernel_rfl) (fun _ _ _ h => h) (Or.inl ⟨by rfl, ?h13⟩) (by assumption) ?r13
  case h13 => (intro w hSw; (try dsimp only at hSw); go_simp; try with_reducible rfl)
  try simp only [Act.put, List.setIfInBounds_toArray, List.set_cons_zero, List.set_cons_succ]
  refine wpAnyH_take (i := 2) (oi := ⟨some 20, _, _, _, _, _⟩) (v := ?v14) rfl (by kernel_rfl) (by kernel_rfl) (by kernel_rfl) (fun _ _ _ h => h) (Or.inl ⟨by rfl, ?h14⟩) (by assumption) ?r14
  case h14 => (intro w hSw; (try dsimp only at hSw); go_simp; try with_reducible rfl)
  try simp only [Act.put, List.setIfInBounds_toArray, List.set_cons_zero, List.set_cons_succ]
  refine wpAnyH_take (i := 3) (oi := ⟨some 21, _, _, _, _, _⟩) (v := ?v15) rfl (by kernel_rfl) (by kernel_rfl) (by kernel_rfl) (fun _ _ _ h => h) (Or.inl ⟨by rfl, ?h15⟩) (by assumption) ?r15
  case h15 => (intro w hSw; (try dsimp only at hSw); go_simp; try with_reducible rfl)
  try simp only [Act.put, List.setIfInBounds_toArray, List.set_cons_zero, List.set_cons_succ]
  refine wpAnyH_take (i := 4) (oi := ⟨some 22, _, _, _, _, _⟩) (v := ?v16) rfl (by kernel_rfl) (by kernel_rfl) (by kernel_rfl) (fun _ _ _ h => h) (Or.inl ⟨by rfl, ?h16⟩) (by assumption) ?r16
  case h16 => (intro w hSw; (try dsimp only at hSw); go_simp; try with_reducible rfl)
  try simp only [Act.put, List.setIfInBounds_toArray, List.set_cons_zero, List.set_cons_succ]
  refine wpAnyH_take (i := 5) (oi := ⟨some 23, _, _, _, _, _⟩) (v := ?v17) rfl (by kernel_rfl) (by kernel_rfl) (by kernel_rfl) (fun _ _ _ h => h) (Or.inl ⟨by rfl, ?h17⟩) (by assumption) ?r17
  case h17 => (intro w hSw; (try dsimp only at hSw); go_simp; try with_reducible rfl)
  try simp only [Act.put, List.setIfInBounds_toArray, List.set_cons_zero, List.set_cons_succ]
  refine wpAnyH_take (i := 6) (oi := ⟨some 24, _, _, _, _, _⟩) (v := ?v18) rfl (by kernel_rfl) (by kernel_rfl) (by kernel_rfl) (fun _ _ _ h => h) (Or.inl ⟨by rfl, ?h18⟩) (by assumption) ?r18
  case h18 => (intro w hSw; (try dsimp only at hSw); go_simp; try with_reducible rfl)
  try simp only [Act.put, List.setIfInBounds_toArray, List.set_cons_zero, List.set_cons_succ]
  refine wpAnyH_take (i := 7) (oi := ⟨some 25, _, _, _, _, _⟩) (v := ?v19) rfl (by kernel_rfl) (by kernel_rfl) (by kernel_rfl) (fun _ _ _ h => h) (Or.inl ⟨by rfl, ?h19⟩) (by assumption) ?r19
  case h19 => (intro w hSw; (try dsimp only at hSw); go_simp; try with_reducible rfl)
  try simp only [Act.put, List.setIfInBounds_toArray, List.set_cons_zero, List.set_cons_succ]
  refine wpAnyH_take (i := 8) (oi := ⟨some 26, _, _, _, _, _⟩) (v := ?v20) rfl (by kernel_rfl) (by kernel_rfl) (by kernel_rfl) (fun _ _ _ h => h) (Or.inl ⟨by rfl, ?h20⟩) (by assumption) ?r20
  case h20 => (intro w hSw; (try dsimp only at hSw); go_simp; try with_reducible rfl)
  try simp only [Act.put, List.setIfInBounds_toArray, List.set_cons_zero, List.set_cons_succ]
  refine wpAnyH_ready (rs := [9]) (by kernel_rfl) (by simp) ?_
  refine (AllReadyH.cons (o := ⟨some 12, _, _, _, _, _⟩) rfl (fun K hK => ?_) AllReadyH.nil)
  go_simp
  have hlt := HB1.out.size
  have hl10 := B10.out.lt
  have HB1 := Lib.hid (below_alloc_ (HB1.out) (.cells #[.int .i64 0, .int .i64 0, .int .i64 0, .int .i64 0, .int .i64 0, .int .i64 0] 31))
  have B10 := Lib.hid ((B10.out).alloc (.cells #[.int .i64 0, .int .i64 0, .int .i64 0, .int .i64 0, .int .i64 0, .int .i64 0] 31))
  have hzw : (w1.drew.alloc (.cells #[.int .i64 0, .int .i64 0, .int .i64 0, .int .i64 0, .int .i64 0, .int .i64 0] 31)).heap.size = w1.drew.heap.size + 1 := by simp only [World.size_alloc]
  have B12 := Blk.new (w1.drew) 31 #[.int .i64 0, .int .i64 0, .int .i64 0, .int .i64 0, .int .i64 0, .int .i64 0]
  skip
  have B12 := Lib.hid B12
  have B12 := Lib.hid (show Blk _ (w1.heap.size) _ _ from B12.out)
  try rw [show (w1.alloc (.cells #[.int .i64 0, .int .i64 0, .int .i64 0, .int .i64 0, .int .i64 0, .int .i64 0] 31)).drew = w1.drew.alloc (.cells #[.int .i64 0, .int .i64 0, .int .i64 0, .int .i64 0, .int .i64 0, .int .i64 0] 31) from rfl]
  generalize w1.drew.alloc (.cells #[.int .i64 0, .int .i64 0, .int .i64 0, .int .i64 0, .int .i64 0, .int .i64 0] 31) = w2 at *
  have hge : W.heap.size ≤ w1.heap.size := hlt
  have hne : W.heap.size ≠ w1.heap.size := Nat.ne_of_lt hl10
  clear hzw hlt hl10
  refine hK.out _ _ ?hS21 (fun hHeld => ?_)
  case hS21 => exact trivial
  clear hK K
  try simp only [Act.put, List.setIfInBounds_toArray, List.set_cons_zero, List.set_cons_succ]
  refine wpAnyH_ready (rs := [10]) (by kernel_rfl) (by simp) ?_
  refine (AllReadyH.cons (o := ⟨none, _, _, _, _, _⟩) rfl (fun K hK => ?_) AllReadyH.nil)
  obtain ⟨⟨q0, q1, q2, q3, q4, q5⟩, f0, f1, f2, f3, f4, f5⟩ := B12.out.six
  go_simp
  clear q0 q1 q2 q3 q4 q5 f0 f1 f2 f3 f4 f5
  obtain ⟨k1, k2, k3⟩ := ret_six B12.out (.int .i64 l) (.int .i64 1) (.int .i64 0) (.int .i64 0) (.int .i64 a) (.int .i64 c)
  have B12 := Lib.hid k1
  have B10 := Lib.hid (k2 _ _ _ B10.out hne)
  have HB1 := Lib.hid (k3 _ _ HB1.out hge)
  clear k1 k2 k3
  obtain ⟨b12, hb12⟩ : ∃ n, n = w1.heap.size := ⟨_, rfl⟩
  rw [← hb12] at B12 hge hne HB1 B10 ⊢
  generalize (((((w2.setCell ⟨b12, 0, none⟩ (.int .i64 l)).setCell ⟨b12, 1, none⟩ (.int .i64 1)).setCell ⟨b12, 2, none⟩ (.int .i64 0)).setCell ⟨b12, 3, none⟩ (.int .i64 0)).setCell ⟨b12, 4, none⟩ (.int .i64 a)).setCell ⟨b12, 5, none⟩ (.int .i64 c) = w3 at *
  clear hb12
  refine hK.out _ _ ?hS22 (fun hHeld => ?_)
  case hS22 => exact trivial
  clear hK K
  try simp only [Act.put, List.setIfInBounds_toArray, List.set_cons_zero, List.set_cons_succ]
  refine wpAnyH_done (by kernel_rfl) ?_ _
  clear hHeld
  obtain ⟨⟨q0, q1, q2, q3, q4, q5⟩, f0, f1, f2, f3, f4, f5⟩ := B12.out.six
  obtain ⟨⟨r0, r1, r2, r3, r4, r5⟩, g0, g1, g2, g3, g4, g5⟩ := B10.out.six
  have nn0 : ∀ i j : Nat, (⟨W.heap.size, i, none⟩ : Addr) ≠ ⟨b12, j, none⟩ := fun i j e => hne (by injection e)
  clear nn0
  go_wp2_with fail
  clear q0 q1 q2 q3 q4 q5 f0 f1 f2 f3 f4 f5 r0 r1 r2 r3 r4 r5 g0 g1 g2 g3 g4 g5
  obtain ⟨k1, _, k3⟩ := ret_six ((B10.out).far (p := ⟨b12, 2, none⟩) hne (.int .i64 a)) (.int .i64 l) (.int .i64 1) (.int .i64 a) (.int .i64 0) (.int .i64 a) (.int .i64 c)
  refine bodyPost_ret (results_cell_row rfl _ _ W.heap.size 31 _ (0, 0) _ rfl k1 Try.underlying31 rfl (by kernel_rfl)) rfl ?_
  exact ⟨by rw [HV.out], k3 _ _ ((HB1.out).setCell (p := ⟨b12, 2, none⟩) hge (.int .i64 a)) (Nat.le_refl _)⟩

set_option maxRecDepth 100000 in
set_option maxHeartbeats 6400000 in
theorem bband_2 (w h d l : Int) (W : World) (w0 : 0 ≤ w) (w1 : w ≤ 1024) (h0 : 0 ≤ h) (h1 : h ≤ 1024) (l0 : 0 ≤ l) (l1 : l ≤ d) (d1 : d ≤ 6) :
    Calls Try.prog 26 #[.int .i64 w, .int .i64 h, .int .i64 d, .int .i64 l, .int .i64 2] W fun e W' => e = .returned (bdV (bandI w h d l 2)) ∧ Below W.heap.size W W' := by
  obtain ⟨mm, hmm, m0, m1, m2⟩ : ∃ mm, (if l - 1 < 0 then 0 else l - 1) = mm ∧ max (l - 1) 0 = mm ∧ 0 ≤ mm ∧ mm ≤ d := ⟨max (l - 1) 0, by split <;> omega, rfl, by omega, by omega⟩
  obtain ⟨s, hs⟩ : ∃ s, d - mm = s := ⟨_, rfl⟩
  have s0 : 0 ≤ s := by omega
  have s1 : s ≤ 64 := by omega
  obtain ⟨q, hq⟩ : ∃ q, (2 : Int) ^ s.toNat = q := ⟨_, rfl⟩
  obtain ⟨a, ha⟩ : ∃ a, w / q = a := ⟨_, rfl⟩
  obtain ⟨c, hc⟩ : ∃ c, h / q = c := ⟨_, rfl⟩
  have HV := Lib.hid (show bandI w h d l 2 = ⟨l, 2, 0, c, a, c⟩ by unfold bandI p2; rw [m0, hs, hq, ha, hc]; simp)
  have A1 : bits .and .i64 2 1 = 0 := by decide
  have A2 : bits .and .i64 2 2 = 2 := by decide
  have HB1 := Lib.hid (Below.refl W.heap.size W)
  clear m0 l1
  go_enter Try.func26, Try.ntmps26
  go_wp2_with fail
  have HB1 := Lib.hid (below_alloc_ (HB1.out) (.cells #[.int .i64 0, .int .i64 0, .int .i64 0, .int .i64 0, .int .i64 0, .int .i64 0] 31))
  have hzw : (W.alloc (.cells #[.int .i64 0, .int .i64 0, .int .i64 0, .int .i64 0, .int .i64 0, .int .i64 0] 31)).heap.size = W.heap.size + 1 := by simp only [World.size_alloc]
  have B10 := Blk.new (W) 31 #[.int .i64 0, .int .i64 0, .int .i64 0, .int .i64 0, .int .i64 0, .int .i64 0]
  skip
  have B10 := Lib.hid B10
  generalize W.alloc (.cells #[.int .i64 0, .int .i64 0, .int .i64 0, .int .i64 0, .int .i64 0, .int .i64 0] 31) = w1 at *
  clear hzw
  have HB1 := Lib.hid ((HB1.out).drew)
  have B10 := Lib.hid ((B10.out).drew)
  refine wp_region_held_drew (S := (fun _ => True)) (by kernel_rfl) ?hS0 (fun hHeld => ?_)
  case hS0 => exact trivial
  refine wpAnyH_take (i := 0) (oi := ⟨some 18, _, _, _, _, _⟩) (v := ?v23) rfl (by kernel_rfl) (by kernel_rfl) (by kernel_rfl) (fun _ _ _ h => h) (Or.inl ⟨by rfl, ?h23⟩) (by assumption) ?r23
  case h23 => (intro w hSw; (try dsimp only at hSw); go_simp; try with_reducible rfl)
  try simp only [Act.put, List.setIfInBounds_toArray, List.set_cons_zero, List.set_cons_succ]
  refine wpAnyH_take (i := 1) (oi := ⟨some 19, _, _, _, _, _⟩) (v := ?v24) rfl (by kernel_rfl) (by kernel_rfl) (by kernel_rfl) (fun _ _ _ h => h) (Or.inl ⟨by rfl, ?h24⟩) (by assumption) ?r24
  case h24 => (intro w hSw; (try dsimp only at hSw); go_simp; try with_reducible rfl)
  try simp only [Act.put, List.setIfInBounds_toArray, List.set_cons_zero, List.set_cons_succ]
  refine wpAnyH_take (i := 2) (oi := ⟨some 20, _, _, _, _, _⟩) (v := ?v25) rfl (by kernel_rfl) (by kernel_rfl) (by kernel_rfl) (fun _ _ _ h => h) (Or.inl ⟨by rfl, ?h25⟩) (by assumption) ?r25
  case h25 => (intro w hSw; (try dsimp only at hSw); go_simp; try with_reducible rfl)
  try simp only [Act.put, List.setIfInBounds_toArray, List.set_cons_zero, List.set_cons_succ]
  refine wpAnyH_take (i := 3) (oi := ⟨some 21, _, _, _, _, _⟩) (v := ?v26) rfl (by kernel_rfl) (by kernel_rfl) (by kernel_rfl) (fun _ _ _ h => h) (Or.inl ⟨by rfl, ?h26⟩) (by assumption) ?r26
  case h26 => (intro w hSw; (try dsimp only at hSw); go_simp; try with_reducible rfl)
  try simp only [Act.put, List.setIfInBounds_toArray, List.set_cons_zero, List.set_cons_succ]
  refine wpAnyH_take (i := 4) (oi := ⟨some 22, _, _, _, _, _⟩) (v := ?v27) rfl (by kernel_rfl) (by kernel_rfl) (by kernel_rfl) (fun _ _ _ h => h) (Or.inl ⟨by rfl, ?h27⟩) (by assumption) ?r27
  case h27 => (intro w hSw; (try dsimp only at hSw); go_simp; try with_reducible rfl)
  try simp only [Act.put, List.setIfInBounds_toArray, List.set_cons_zero, List.set_cons_succ]
  refine wpAnyH_take (i := 5) (oi := ⟨some 23, _, _, _, _, _⟩) (v := ?v28) rfl (by kernel_rfl) (by kernel_rfl) (by kernel_rfl) (fun _ _ _ h => h) (Or.inl ⟨by rfl, ?h28⟩) (by assumption) ?r28
  case h28 => (intro w hSw; (try dsimp only at hSw); go_simp; try with_reducible rfl)
  try simp only [Act.put, List.setIfInBounds_toArray, List.set_cons_zero, List.set_cons_succ]
  refine wpAnyH_take (i := 6) (oi := ⟨some 24, _, _, _, _, _⟩) (v := ?v29) rfl (by kernel_rfl) (by kernel_rfl) (by kernel_rfl) (fun _ _ _ h => h) (Or.inl ⟨by rfl, ?h29⟩) (by assumption) ?r29
  case h29 => (intro w hSw; (try dsimp only at hSw); go_simp; try with_reducible rfl)
  try simp only [Act.put, List.setIfInBounds_toArray, List.set_cons_zero, List.set_cons_succ]
  refine wpAnyH_take (i := 7) (oi := ⟨some 25, _, _, _, _, _⟩) (v := ?v30) rfl (by kernel_rfl) (by kernel_rfl) (by kernel_rfl) (fun _ _ _ h => h) (Or.inl ⟨by rfl, ?h30⟩) (by assumption) ?r30
  case h30 => (intro w hSw; (try dsimp only at hSw); go_simp; try with_reducible rfl)
  try simp only [Act.put, List.setIfInBounds_toArray, List.set_cons_zero, List.set_cons_succ]
  refine wpAnyH_take (i := 8) (oi := ⟨some 26, _, _, _, _, _⟩) (v := ?v31) rfl (by kernel_rfl) (by kernel_rfl) (by kernel_rfl) (fun _ _ _ h => h) (Or.inl ⟨by rfl, ?h31⟩) (by assumption) ?r31
  case h31 => (intro w hSw; (try dsimp only at hSw); go_simp; try with_reducible rfl)
  try simp only [Act.put, List.setIfInBounds_toArray, List.set_cons_zero, List.set_cons_succ]
  refine wpAnyH_ready (rs := [9]) (by kernel_rfl) (by simp) ?_
  refine (AllReadyH.cons (o := ⟨some 12, _, _, _, _, _⟩) rfl (fun K hK => ?_) AllReadyH.nil)
  go_simp
  have hlt := HB1.out.size
  have hl10 := B10.out.lt
  have HB1 := Lib.hid (below_alloc_ (HB1.out) (.cells #[.int .i64 0, .int .i64 0, .int .i64 0, .int .i64 0, .int .i64 0, .int .i64 0] 31))
  have B10 := Lib.hid ((B10.out).alloc (.cells #[.int .i64 0, .int .i64 0, .int .i64 0, .int .i64 0, .int .i64 0, .int .i64 0] 31))
  have hzw : (w1.drew.alloc (.cells #[.int .i64 0, .int .i64 0, .int .i64 0, .int .i64 0, .int .i64 0, .int .i64 0] 31)).heap.size = w1.drew.heap.size + 1 := by simp only [World.size_alloc]
  have B12 := Blk.new (w1.drew) 31 #[.int .i64 0, .int .i64 0, .int .i64 0, .int .i64 0, .int .i64 0, .int .i64 0]
  skip
  have B12 := Lib.hid B12
  have B12 := Lib.hid (show Blk _ (w1.heap.size) _ _ from B12.out)
  try rw [show (w1.alloc (.cells #[.int .i64 0, .int .i64 0, .int .i64 0, .int .i64 0, .int .i64 0, .int .i64 0] 31)).drew = w1.drew.alloc (.cells #[.int .i64 0, .int .i64 0, .int .i64 0, .int .i64 0, .int .i64 0, .int .i64 0] 31) from rfl]
  generalize w1.drew.alloc (.cells #[.int .i64 0, .int .i64 0, .int .i64 0, .int .i64 0, .int .i64 0, .int .i64 0] 31) = w2 at *
  have hge : W.heap.size ≤ w1.heap.size := hlt
  have hne : W.heap.size ≠ w1.heap.size := Nat.ne_of_lt hl10
  clear hzw hlt hl10
  refine hK.out _ _ ?hS32 (fun hHeld => ?_)
  case hS32 => exact trivial
  clear hK K
  try simp only [Act.put, List.setIfInBounds_toArray, List.set_cons_zero, List.set_cons_succ]
  refine wpAnyH_ready (rs := [10]) (by kernel_rfl) (by simp) ?_
  refine (AllReadyH.cons (o := ⟨none, _, _, _, _, _⟩) rfl (fun K hK => ?_) AllReadyH.nil)
  obtain ⟨⟨q0, q1, q2, q3, q4, q5⟩, f0, f1, f2, f3, f4, f5⟩ := B12.out.six
  go_simp
  clear q0 q1 q2 q3 q4 q5 f0 f1 f2 f3 f4 f5
  obtain ⟨k1, k2, k3⟩ := ret_six B12.out (.int .i64 l) (.int .i64 2) (.int .i64 0) (.int .i64 0) (.int .i64 a) (.int .i64 c)
  have B12 := Lib.hid k1
  have B10 := Lib.hid (k2 _ _ _ B10.out hne)
  have HB1 := Lib.hid (k3 _ _ HB1.out hge)
  clear k1 k2 k3
  obtain ⟨b12, hb12⟩ : ∃ n, n = w1.heap.size := ⟨_, rfl⟩
  rw [← hb12] at B12 hge hne HB1 B10 ⊢
  generalize (((((w2.setCell ⟨b12, 0, none⟩ (.int .i64 l)).setCell ⟨b12, 1, none⟩ (.int .i64 2)).setCell ⟨b12, 2, none⟩ (.int .i64 0)).setCell ⟨b12, 3, none⟩ (.int .i64 0)).setCell ⟨b12, 4, none⟩ (.int .i64 a)).setCell ⟨b12, 5, none⟩ (.int .i64 c) = w3 at *
  clear hb12
  refine hK.out _ _ ?hS33 (fun hHeld => ?_)
  case hS33 => exact trivial
  clear hK K
  try simp only [Act.put, List.setIfInBounds_toArray, List.set_cons_zero, List.set_cons_succ]
  refine wpAnyH_done (by kernel_rfl) ?_ _
  clear hHeld
  obtain ⟨⟨q0, q1, q2, q3, q4, q5⟩, f0, f1, f2, f3, f4, f5⟩ := B12.out.six
  obtain ⟨⟨r0, r1, r2, r3, r4, r5⟩, g0, g1, g2, g3, g4, g5⟩ := B10.out.six
  have nn0 : ∀ i j : Nat, (⟨W.heap.size, i, none⟩ : Addr) ≠ ⟨b12, j, none⟩ := fun i j e => hne (by injection e)
  clear nn0
  go_wp2_with fail
  clear q0 q1 q2 q3 q4 q5 f0 f1 f2 f3 f4 f5 r0 r1 r2 r3 r4 r5 g0 g1 g2 g3 g4 g5
  obtain ⟨k1, _, k3⟩ := ret_six ((B10.out).far (p := ⟨b12, 3, none⟩) hne (.int .i64 c)) (.int .i64 l) (.int .i64 2) (.int .i64 0) (.int .i64 c) (.int .i64 a) (.int .i64 c)
  refine bodyPost_ret (results_cell_row rfl _ _ W.heap.size 31 _ (0, 0) _ rfl k1 Try.underlying31 rfl (by kernel_rfl)) rfl ?_
  exact ⟨by rw [HV.out], k3 _ _ ((HB1.out).setCell (p := ⟨b12, 3, none⟩) hge (.int .i64 c)) (Nat.le_refl _)⟩

set_option maxRecDepth 100000 in
set_option maxHeartbeats 6400000 in
theorem bband_3 (w h d l : Int) (W : World) (w0 : 0 ≤ w) (w1 : w ≤ 1024) (h0 : 0 ≤ h) (h1 : h ≤ 1024) (l0 : 0 ≤ l) (l1 : l ≤ d) (d1 : d ≤ 6) :
    Calls Try.prog 26 #[.int .i64 w, .int .i64 h, .int .i64 d, .int .i64 l, .int .i64 3] W fun e W' => e = .returned (bdV (bandI w h d l 3)) ∧ Below W.heap.size W W' := by
  obtain ⟨mm, hmm, m0, m1, m2⟩ : ∃ mm, (if l - 1 < 0 then 0 else l - 1) = mm ∧ max (l - 1) 0 = mm ∧ 0 ≤ mm ∧ mm ≤ d := ⟨max (l - 1) 0, by split <;> omega, rfl, by omega, by omega⟩
  obtain ⟨s, hs⟩ : ∃ s, d - mm = s := ⟨_, rfl⟩
  have s0 : 0 ≤ s := by omega
  have s1 : s ≤ 64 := by omega
  obtain ⟨q, hq⟩ : ∃ q, (2 : Int) ^ s.toNat = q := ⟨_, rfl⟩
  obtain ⟨a, ha⟩ : ∃ a, w / q = a := ⟨_, rfl⟩
  obtain ⟨c, hc⟩ : ∃ c, h / q = c := ⟨_, rfl⟩
  have HV := Lib.hid (show bandI w h d l 3 = ⟨l, 3, a, c, a, c⟩ by unfold bandI p2; rw [m0, hs, hq, ha, hc]; simp)
  have A1 : bits .and .i64 3 1 = 1 := by decide
  have A2 : bits .and .i64 3 2 = 2 := by decide
  have HB1 := Lib.hid (Below.refl W.heap.size W)
  clear m0 l1
  go_enter Try.func26, Try.ntmps26
  go_wp2_with fail
  have HB1 := Lib.hid (below_alloc_ (HB1.out) (.cells #[.int .i64 0, .int .i64 0, .int .i64 0, .int .i64 0, .int .i64 0, .int .i64 0] 31))
  have hzw : (W.alloc (.cells #[.int .i64 0, .int .i64 0, .int .i64 0, .int .i64 0, .int .i64 0, .int .i64 0] 31)).heap.size = W.heap.size + 1 := by simp only [World.size_alloc]
  have B10 := Blk.new (W) 31 #[.int .i64 0, .int .i64 0, .int .i64 0, .int .i64 0, .int .i64 0, .int .i64 0]
  skip
  have B10 := Lib.hid B10
  generalize W.alloc (.cells #[.int .i64 0, .int .i64 0, .int .i64 0, .int .i64 0, .int .i64 0, .int .i64 0] 31) = w1 at *
  clear hzw
  have HB1 := Lib.hid ((HB1.out).drew)
  have B10 := Lib.hid ((B10.out).drew)
  refine wp_region_held_drew (S := (fun _ => True)) (by kernel_rfl) ?hS0 (fun hHeld => ?_)
  case hS0 => exact trivial
  refine wpAnyH_take (i := 0) (oi := ⟨some 18, _, _, _, _, _⟩) (v := ?v34) rfl (by kernel_rfl) (by kernel_rfl) (by kernel_rfl) (fun _ _ _ h => h) (Or.inl ⟨by rfl, ?h34⟩) (by assumption) ?r34
  case h34 => (intro w hSw; (try dsimp only at hSw); go_simp; try with_reducible rfl)
  try simp only [Act.put, List.setIfInBounds_toArray, List.set_cons_zero, List.set_cons_succ]
  refine wpAnyH_take (i := 1) (oi := ⟨some 19, _, _, _, _, _⟩) (v := ?v35) rfl (by kernel_rfl) (by kernel_rfl) (by kernel_rfl) (fun _ _ _ h => h) (Or.inl ⟨by rfl, ?h35⟩) (by assumption) ?r35
  case h35 => (intro w hSw; (try dsimp only at hSw); go_simp; try with_reducible rfl)
  try simp only [Act.put, List.setIfInBounds_toArray, List.set_cons_zero, List.set_cons_succ]
  refine wpAnyH_take (i := 2) (oi := ⟨some 20, _, _, _, _, _⟩) (v := ?v36) rfl (by kernel_rfl) (by kernel_rfl) (by kernel_rfl) (fun _ _ _ h => h) (Or.inl ⟨by rfl, ?h36⟩) (by assumption) ?r36
  case h36 => (intro w hSw; (try dsimp only at hSw); go_simp; try with_reducible rfl)
  try simp only [Act.put, List.setIfInBounds_toArray, List.set_cons_zero, List.set_cons_succ]
  refine wpAnyH_take (i := 3) (oi := ⟨some 21, _, _, _, _, _⟩) (v := ?v37) rfl (by kernel_rfl) (by kernel_rfl) (by kernel_rfl) (fun _ _ _ h => h) (Or.inl ⟨by rfl, ?h37⟩) (by assumption) ?r37
  case h37 => (intro w hSw; (try dsimp only at hSw); go_simp; try with_reducible rfl)
  try simp only [Act.put, List.setIfInBounds_toArray, List.set_cons_zero, List.set_cons_succ]
  refine wpAnyH_take (i := 4) (oi := ⟨some 22, _, _, _, _, _⟩) (v := ?v38) rfl (by kernel_rfl) (by kernel_rfl) (by kernel_rfl) (fun _ _ _ h => h) (Or.inl ⟨by rfl, ?h38⟩) (by assumption) ?r38
  case h38 => (intro w hSw; (try dsimp only at hSw); go_simp; try with_reducible rfl)
  try simp only [Act.put, List.setIfInBounds_toArray, List.set_cons_zero, List.set_cons_succ]
  refine wpAnyH_take (i := 5) (oi := ⟨some 23, _, _, _, _, _⟩) (v := ?v39) rfl (by kernel_rfl) (by kernel_rfl) (by kernel_rfl) (fun _ _ _ h => h) (Or.inl ⟨by rfl, ?h39⟩) (by assumption) ?r39
  case h39 => (intro w hSw; (try dsimp only at hSw); go_simp; try with_reducible rfl)
  try simp only [Act.put, List.setIfInBounds_toArray, List.set_cons_zero, List.set_cons_succ]
  refine wpAnyH_take (i := 6) (oi := ⟨some 24, _, _, _, _, _⟩) (v := ?v40) rfl (by kernel_rfl) (by kernel_rfl) (by kernel_rfl) (fun _ _ _ h => h) (Or.inl ⟨by rfl, ?h40⟩) (by assumption) ?r40
  case h40 => (intro w hSw; (try dsimp only at hSw); go_simp; try with_reducible rfl)
  try simp only [Act.put, List.setIfInBounds_toArray, List.set_cons_zero, List.set_cons_succ]
  refine wpAnyH_take (i := 7) (oi := ⟨some 25, _, _, _, _, _⟩) (v := ?v41) rfl (by kernel_rfl) (by kernel_rfl) (by kernel_rfl) (fun _ _ _ h => h) (Or.inl ⟨by rfl, ?h41⟩) (by assumption) ?r41
  case h41 => (intro w hSw; (try dsimp only at hSw); go_simp; try with_reducible rfl)
  try simp only [Act.put, List.setIfInBounds_toArray, List.set_cons_zero, List.set_cons_succ]
  refine wpAnyH_take (i := 8) (oi := ⟨some 26, _, _, _, _, _⟩) (v := ?v42) rfl (by kernel_rfl) (by kernel_rfl) (by kernel_rfl) (fun _ _ _ h => h) (Or.inl ⟨by rfl, ?h42⟩) (by assumption) ?r42
  case h42 => (intro w hSw; (try dsimp only at hSw); go_simp; try with_reducible rfl)
  try simp only [Act.put, List.setIfInBounds_toArray, List.set_cons_zero, List.set_cons_succ]
  refine wpAnyH_ready (rs := [9]) (by kernel_rfl) (by simp) ?_
  refine (AllReadyH.cons (o := ⟨some 12, _, _, _, _, _⟩) rfl (fun K hK => ?_) AllReadyH.nil)
  go_simp
  have hlt := HB1.out.size
  have hl10 := B10.out.lt
  have HB1 := Lib.hid (below_alloc_ (HB1.out) (.cells #[.int .i64 0, .int .i64 0, .int .i64 0, .int .i64 0, .int .i64 0, .int .i64 0] 31))
  have B10 := Lib.hid ((B10.out).alloc (.cells #[.int .i64 0, .int .i64 0, .int .i64 0, .int .i64 0, .int .i64 0, .int .i64 0] 31))
  have hzw : (w1.drew.alloc (.cells #[.int .i64 0, .int .i64 0, .int .i64 0, .int .i64 0, .int .i64 0, .int .i64 0] 31)).heap.size = w1.drew.heap.size + 1 := by simp only [World.size_alloc]
  have B12 := Blk.new (w1.drew) 31 #[.int .i64 0, .int .i64 0, .int .i64 0, .int .i64 0, .int .i64 0, .int .i64 0]
  skip
  have B12 := Lib.hid B12
  have B12 := Lib.hid (show Blk _ (w1.heap.size) _ _ from B12.out)
  try rw [show (w1.alloc (.cells #[.int .i64 0, .int .i64 0, .int .i64 0, .int .i64 0, .int .i64 0, .int .i64 0] 31)).drew = w1.drew.alloc (.cells #[.int .i64 0, .int .i64 0, .int .i64 0, .int .i64 0, .int .i64 0, .int .i64 0] 31) from rfl]
  generalize w1.drew.alloc (.cells #[.int .i64 0, .int .i64 0, .int .i64 0, .int .i64 0, .int .i64 0, .int .i64 0] 31) = w2 at *
  have hge : W.heap.size ≤ w1.heap.size := hlt
  have hne : W.heap.size ≠ w1.heap.size := Nat.ne_of_lt hl10
  clear hzw hlt hl10
  refine hK.out _ _ ?hS43 (fun hHeld => ?_)
  case hS43 => exact trivial
  clear hK K
  try simp only [Act.put, List.setIfInBounds_toArray, List.set_cons_zero, List.set_cons_succ]
  refine wpAnyH_ready (rs := [10]) (by kernel_rfl) (by simp) ?_
  refine (AllReadyH.cons (o := ⟨none, _, _, _, _, _⟩) rfl (fun K hK => ?_) AllReadyH.nil)
  obtain ⟨⟨q0, q1, q2, q3, q4, q5⟩, f0, f1, f2, f3, f4, f5⟩ := B12.out.six
  go_simp
  clear q0 q1 q2 q3 q4 q5 f0 f1 f2 f3 f4 f5
  obtain ⟨k1, k2, k3⟩ := ret_six B12.out (.int .i64 l) (.int .i64 3) (.int .i64 0) (.int .i64 0) (.int .i64 a) (.int .i64 c)
  have B12 := Lib.hid k1
  have B10 := Lib.hid (k2 _ _ _ B10.out hne)
  have HB1 := Lib.hid (k3 _ _ HB1.out hge)
  clear k1 k2 k3
  obtain ⟨b12, hb12⟩ : ∃ n, n = w1.heap.size := ⟨_, rfl⟩
  rw [← hb12] at B12 hge hne HB1 B10 ⊢
  generalize (((((w2.setCell ⟨b12, 0, none⟩ (.int .i64 l)).setCell ⟨b12, 1, none⟩ (.int .i64 3)).setCell ⟨b12, 2, none⟩ (.int .i64 0)).setCell ⟨b12, 3, none⟩ (.int .i64 0)).setCell ⟨b12, 4, none⟩ (.int .i64 a)).setCell ⟨b12, 5, none⟩ (.int .i64 c) = w3 at *
  clear hb12
  refine hK.out _ _ ?hS44 (fun hHeld => ?_)
  case hS44 => exact trivial
  clear hK K
  try simp only [Act.put, List.setIfInBounds_toArray, List.set_cons_zero, List.set_cons_succ]
  refine wpAnyH_done (by kernel_rfl) ?_ _
  clear hHeld
  obtain ⟨⟨q0, q1, q2, q3, q4, q5⟩, f0, f1, f2, f3, f4, f5⟩ := B12.out.six
  obtain ⟨⟨r0, r1, r2, r3, r4, r5⟩, g0, g1, g2, g3, g4, g5⟩ := B10.out.six
  have nn0 : ∀ i j : Nat, (⟨W.heap.size, i, none⟩ : Addr) ≠ ⟨b12, j, none⟩ := fun i j e => hne (by injection e)
  clear nn0
  go_wp2_with fail
  clear q0 q1 q2 q3 q4 q5 f0 f1 f2 f3 f4 f5 r0 r1 r2 r3 r4 r5 g0 g1 g2 g3 g4 g5
  obtain ⟨k1, _, k3⟩ := ret_six ((((B10.out).far (p := ⟨b12, 2, none⟩) hne (.int .i64 a))).far (p := ⟨b12, 3, none⟩) hne (.int .i64 c)) (.int .i64 l) (.int .i64 3) (.int .i64 a) (.int .i64 c) (.int .i64 a) (.int .i64 c)
  refine bodyPost_ret (results_cell_row rfl _ _ W.heap.size 31 _ (0, 0) _ rfl k1 Try.underlying31 rfl (by kernel_rfl)) rfl ?_
  exact ⟨by rw [HV.out], k3 _ _ ((((HB1.out).setCell (p := ⟨b12, 2, none⟩) hge (.int .i64 a))).setCell (p := ⟨b12, 3, none⟩) hge (.int .i64 c)) (Nat.le_refl _)⟩

theorem bband_c (w h d l o : Int) (W : World) (w0 : 0 ≤ w) (w1 : w ≤ 1024) (h0 : 0 ≤ h) (h1 : h ≤ 1024) (l0 : 0 ≤ l) (l1 : l ≤ d) (d1 : d ≤ 6) (o0 : 0 ≤ o) (o1 : o ≤ 3) :
    Calls Try.prog 26 #[.int .i64 w, .int .i64 h, .int .i64 d, .int .i64 l, .int .i64 o] W fun e W' => e = .returned (bdV (bandI w h d l o)) ∧ Below W.heap.size W W' := by
  have ho : o = 0 ∨ o = 1 ∨ o = 2 ∨ o = 3 := by omega
  rcases ho with rfl | rfl | rfl | rfl
  · exact bband_0 w h d l W w0 w1 h0 h1 l0 l1 d1
  · exact bband_1 w h d l W w0 w1 h0 h1 l0 l1 d1
  · exact bband_2 w h d l W w0 w1 h0 h1 l0 l1 d1
  · exact bband_3 w h d l W w0 w1 h0 h1 l0 l1 d1

end Go.Proofs.Ytjlajggilcihoaa
