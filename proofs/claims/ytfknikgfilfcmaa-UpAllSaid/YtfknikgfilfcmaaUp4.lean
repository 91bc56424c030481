/- up: a reference's plane. -/
import Derived.Test.YtfknikgfilfcmaaUp3
import Derived.Test.YtfknikgfilfcmaaPl7
namespace Go.Proofs.Ytfknikgfilfcmaa
open Go.RowKit
set_option linter.unusedVariables false
set_option linter.unusedSimpArgs false

theorem pad_same {a b : Nat} {V : List Int} (hok : okB a b V.length = true) (h1 : 1 ≤ a) (h2 : a ≤ 1024) (h3 : 1 ≤ b) (h4 : b ≤ 1024) (h5 : V.length = a * b) : padP a b V a b = ⟨a, b, V⟩ := by
  unfold padP
  rw [if_pos ⟨hok, by omega, by omega⟩]
  unfold sizedP
  rw [madeP_nat _ h1 h2 h3 h4]
  congr 1
  exact made_eq h5 (fun x y hx hy => atP_nat hok hx hy)
set_option maxRecDepth 100000 in
set_option maxHeartbeats 3200000 in
theorem uPlane_c (R a b : Nat) (V : List Int) (m : Int) (w : World) (hr : RefAt w R a b V m) :
    Calls Try.prog 12 #[.pointer (some ⟨R, 0, none⟩)] w (PlRes ⟨a, b, V⟩ w) := by
  obtain ⟨h1, h2, h3, h4, hl, m1, m2, hs, ad, c, hb, hR⟩ := hr
  have hok : okB a b V.length = true := by rw [hl]; exact okB_mk h1 h2 h3 h4
  have HPS := Lib.hid (pad_same hok h1 h2 h3 h4 hl)
  have hn : V.length ≤ 9223372036854775807 := by have := area_bd (W := a) (H := b) (by omega) (by omega) (by omega) (by omega); have := Int.natCast_mul a b; omega
  have RP := Lib.hid hR
  have BR := Lib.hid hb
  have RL := Lib.hid hb.lt
  have HB1 := Lib.hid (Below.refl w.heap.size w)
  clear hl hok hs hb hR
  go_enter Try.func12, Try.ntmps12
  go_wp2_with fail
  have RP := Lib.hid ((RP.out).alloc (.cells #[.int .i64 0, .int .i64 0, .slice none 0 0] 24))
  have BR := Lib.hid ((BR.out).alloc (.cells #[.int .i64 0, .int .i64 0, .slice none 0 0] 24))
  have HB1 := Lib.hid (below_alloc_ (HB1.out) (.cells #[.int .i64 0, .int .i64 0, .slice none 0 0] 24))
  have hzw : (w.alloc (.cells #[.int .i64 0, .int .i64 0, .slice none 0 0] 24)).heap.size = w.heap.size + 1 := by simp only [World.size_alloc]
  have B1 := Blk.new (w) 24 #[.int .i64 0, .int .i64 0, .slice none 0 0]
  skip
  have B1 := Lib.hid B1
  generalize w.alloc (.cells #[.int .i64 0, .int .i64 0, .slice none 0 0] 24) = w1 at *
  clear hzw
  have RP := Lib.hid ((RP.out).drew)
  have BR := Lib.hid ((BR.out).drew)
  have HB1 := Lib.hid ((HB1.out).drew)
  have B1 := Lib.hid ((B1.out).drew)
  refine wp_region_held_drew (S := (fun w' => w'.cell? ⟨R, 0, none⟩ = some (.int .i64 a) ∧ w'.cell? ⟨R, 1, none⟩ = some (.int .i64 b) ∧ w'.cell? ⟨R, 2, none⟩ = some (.slice (some ad) V.length c) ∧ w'.cell? ⟨R, 3, none⟩ = some (.int .i64 m))) (by kernel_rfl) ?hS0 (fun hHeld => ?_)
  case hS0 => exact ⟨(BR.out).cell 0, (BR.out).cell 1, (BR.out).cell 2, (BR.out).cell 3⟩
  refine wpAnyH_take (i := 0) (oi := ⟨some 6, _, _, _, _, _⟩) (v := ?v1) rfl (by kernel_rfl) (by kernel_rfl) (by kernel_rfl) (fun _ _ _ h => h) (Or.inl ⟨by rfl, ?h1⟩) (by assumption) ?r1
  case h1 => (intro w hSw; (try dsimp only at hSw); go_simp; try with_reducible rfl)
  try simp only [Act.put, List.setIfInBounds_toArray, List.set_cons_zero, List.set_cons_succ]
  refine wpAnyH_take (i := 1) (oi := ⟨some 7, _, _, _, _, _⟩) (v := ?v2) rfl (by kernel_rfl) (by kernel_rfl) (by kernel_rfl) (fun _ _ _ h => h) (Or.inl ⟨by rfl, ?h2⟩) (by assumption) ?r2
  case h2 => (intro w hSw; (try dsimp only at hSw); go_simp; try with_reducible rfl)
  try simp only [Act.put, List.setIfInBounds_toArray, List.set_cons_zero, List.set_cons_succ]
  refine wpAnyH_take (i := 2) (oi := ⟨some 8, _, _, _, _, _⟩) (v := ?v3) rfl (by kernel_rfl) (by kernel_rfl) (by kernel_rfl) (fun _ _ _ h => h) (Or.inl ⟨by rfl, ?h3⟩) (by assumption) ?r3
  case h3 => (intro w hSw; (try dsimp only at hSw); go_simp; try with_reducible rfl)
  try simp only [Act.put, List.setIfInBounds_toArray, List.set_cons_zero, List.set_cons_succ]
  refine wpAnyH_take (i := 3) (oi := ⟨some 9, _, _, _, _, _⟩) (v := ?v4) rfl (by kernel_rfl) (by kernel_rfl) (by kernel_rfl) (fun _ _ _ h => h) (Or.inl ⟨by rfl, ?h4⟩) (by assumption) ?r4
  case h4 => (intro w hSw; (try dsimp only at hSw); go_simp; try with_reducible rfl)
  try simp only [Act.put, List.setIfInBounds_toArray, List.set_cons_zero, List.set_cons_succ]
  refine wpAnyH_take (i := 4) (oi := ⟨some 10, _, _, _, _, _⟩) (v := ?v5) rfl (by kernel_rfl) (by kernel_rfl) (by kernel_rfl) (fun _ _ _ h => h) (Or.inl ⟨by rfl, ?h5⟩) (by assumption) ?r5
  case h5 => (intro w hSw; (try dsimp only at hSw); go_simp; try with_reducible rfl)
  try simp only [Act.put, List.setIfInBounds_toArray, List.set_cons_zero, List.set_cons_succ]
  refine wpAnyH_take (i := 5) (oi := ⟨some 11, _, _, _, _, _⟩) (v := ?v6) rfl (by kernel_rfl) (by kernel_rfl) (by kernel_rfl) (fun _ _ _ h => h) (Or.inl ⟨by rfl, ?h6⟩) (by assumption) ?r6
  case h6 => (intro w hSw; (try dsimp only at hSw); go_simp; try with_reducible rfl)
  try simp only [Act.put, List.setIfInBounds_toArray, List.set_cons_zero, List.set_cons_succ]
  refine wpAnyH_take (i := 6) (oi := ⟨some 12, _, _, _, _, _⟩) (v := ?v7) rfl (by kernel_rfl) (by kernel_rfl) (by kernel_rfl) (fun _ _ _ h => h) (Or.inl ⟨by rfl, ?h7⟩) (by assumption) ?r7
  case h7 => (intro w hSw; (try dsimp only at hSw); go_simp; try with_reducible rfl)
  try simp only [Act.put, List.setIfInBounds_toArray, List.set_cons_zero, List.set_cons_succ]
  refine wpAnyH_take (i := 7) (oi := ⟨some 13, _, _, _, _, _⟩) (v := ?v8) rfl (by kernel_rfl) (by kernel_rfl) (by kernel_rfl) (fun _ _ _ h => h) (Or.inl ⟨by rfl, ?h8⟩) (by assumption) ?r8
  case h8 => (intro w hSw; (try dsimp only at hSw); go_simp; try with_reducible rfl)
  try simp only [Act.put, List.setIfInBounds_toArray, List.set_cons_zero, List.set_cons_succ]
  refine wpAnyH_take (i := 8) (oi := ⟨some 14, _, _, _, _, _⟩) (v := ?v9) rfl (by kernel_rfl) (by kernel_rfl) (by kernel_rfl) (fun _ _ _ h => h) (Or.inl ⟨by rfl, ?h9⟩) (by assumption) ?r9
  case h9 => (intro w hSw; (try dsimp only at hSw); go_simp; try with_reducible rfl)
  try simp only [Act.put, List.setIfInBounds_toArray, List.set_cons_zero, List.set_cons_succ]
  refine wpAnyH_take (i := 9) (oi := ⟨some 15, _, _, _, _, _⟩) (v := ?v10) rfl (by kernel_rfl) (by kernel_rfl) (by kernel_rfl) (fun _ _ _ h => h) (Or.inl ⟨by rfl, ?h10⟩) (by assumption) ?r10
  case h10 => (intro w hSw; (try dsimp only at hSw); go_simp; try with_reducible rfl)
  try simp only [Act.put, List.setIfInBounds_toArray, List.set_cons_zero, List.set_cons_succ]
  refine wpAnyH_take (i := 10) (oi := ⟨some 16, _, _, _, _, _⟩) (v := ?v11) rfl (by kernel_rfl) (by kernel_rfl) (by kernel_rfl) (fun _ _ _ h => h) (Or.inl ⟨by rfl, ?h11⟩) (by assumption) ?r11
  case h11 => (intro w hSw; (try dsimp only at hSw); go_simp; try with_reducible rfl)
  try simp only [Act.put, List.setIfInBounds_toArray, List.set_cons_zero, List.set_cons_succ]
  refine wpAnyH_take (i := 11) (oi := ⟨some 17, _, _, _, _, _⟩) (v := ?v12) rfl (by kernel_rfl) (by kernel_rfl) (by kernel_rfl) (fun _ _ _ h => h) (Or.inl ⟨by rfl, ?h12⟩) (by assumption) ?r12
  case h12 => (intro w hSw; (try dsimp only at hSw); go_simp; try with_reducible rfl)
  try simp only [Act.put, List.setIfInBounds_toArray, List.set_cons_zero, List.set_cons_succ]
  refine wpAnyH_take (i := 12) (oi := ⟨some 18, _, _, _, _, _⟩) (v := ?v13) rfl (by kernel_rfl) (by kernel_rfl) (by kernel_rfl) (fun _ _ _ h => h) (Or.inl ⟨by rfl, ?h13⟩) (by assumption) ?r13
  case h13 => (intro w hSw; (try dsimp only at hSw); go_simp; try with_reducible rfl)
  try simp only [Act.put, List.setIfInBounds_toArray, List.set_cons_zero, List.set_cons_succ]
  refine wpAnyH_take (i := 13) (oi := ⟨some 19, _, _, _, _, _⟩) (v := ?v14) rfl (by kernel_rfl) (by kernel_rfl) (by kernel_rfl) (fun _ _ _ h => h) (Or.inl ⟨by rfl, ?h14⟩) (by assumption) ?r14
  case h14 => (intro w hSw; (try dsimp only at hSw); go_simp; try with_reducible rfl)
  try simp only [Act.put, List.setIfInBounds_toArray, List.set_cons_zero, List.set_cons_succ]
  refine wpAnyH_ready (rs := [14]) (by kernel_rfl) (by simp) ?_
  refine (AllReadyH.cons (o := ⟨some 20, _, _, _, _, _⟩) rfl (fun K hK => ?_) AllReadyH.nil)
  go_simp
  have HS1 := HB1
  refine (ppad_c a b V (some ad) c a b _ RP.out hn).mono ?_
  rintro e w2 ⟨v, rfl, ho, hb'⟩
  have RP := Lib.hid ((RP.out).kept hb')
  have BR := Lib.hid ((BR.out).below hb' (BR.out).lt)
  have HB1 := Lib.hid ((HB1.out).trans (hb'.mono (HB1.out).size))
  have B1 := Lib.hid ((B1.out).below hb' (B1.out).lt)
  clear hb'
  rw [HPS.out] at ho ⊢
  obtain ⟨A5, c5, rfl, hq⟩ := ho.slice
  have O5 := Lib.hid (ho.lower (B' := w.heap.size) HS1.out.size)
  clear ho hq
  refine hK.out _ _ ?hS15 (fun hHeld => ?_)
  case hS15 => exact ⟨(BR.out).cell 0, (BR.out).cell 1, (BR.out).cell 2, (BR.out).cell 3⟩
  clear hK K
  try simp only [Act.put, List.setIfInBounds_toArray, List.set_cons_zero, List.set_cons_succ]
  refine wpAnyH_ready (rs := [15]) (by kernel_rfl) (by simp) ?_
  refine (AllReadyH.cons (o := ⟨none, _, _, _, _, _⟩) rfl (fun K hK => ?_) AllReadyH.nil)
  obtain ⟨⟨q0, q1, q2⟩, f0, f1, f2⟩ := B1.out.three
  go_simp
  clear q0 q1 q2 f0 f1 f2
  obtain ⟨k1, k2, k3⟩ := ret_plane B1.out (.int .i64 a) (.int .i64 b) (.slice A5 V.length c5)
  have B1 := Lib.hid k1
  have O5 := Lib.hid (k2 _ _ _ O5.out)
  have HB1 := Lib.hid (k3 _ _ HB1.out (Nat.le_refl _))
  clear k1 k2 k3
  have BR := Lib.hid (((BR.out.far (p := ⟨w.heap.size, 0, none⟩) (Nat.ne_of_lt RL.out) (.int .i64 a)).far (p := ⟨w.heap.size, 1, none⟩) (Nat.ne_of_lt RL.out) (.int .i64 b)).far (p := ⟨w.heap.size, 2, none⟩) (Nat.ne_of_lt RL.out) (.slice A5 V.length c5))
  refine hK.out _ _ ?hS16 (fun hHeld => ?_)
  case hS16 => exact ⟨(BR.out).cell 0, (BR.out).cell 1, (BR.out).cell 2, (BR.out).cell 3⟩
  clear hK K
  try simp only [Act.put, List.setIfInBounds_toArray, List.set_cons_zero, List.set_cons_succ]
  refine wpAnyH_done (by kernel_rfl) ?_ _
  clear hHeld
  go_wp2_with fail
  refine bodyPost_ret (results_cell_row rfl _ _ w.heap.size 24 _ (0, 0) _ rfl B1.out Try.underlying24 rfl (by kernel_rfl)) rfl ?_
  exact ⟨_, rfl, O5.out, HB1.out⟩

end Go.Proofs.Ytfknikgfilfcmaa
