/- What first of the laws of layer 19 answers: true; what right answers. -/
import Derived.Test.YtfknikgfilfcmaaUp5
import Derived.Test.YtfknikgfilfcmaaPl7
import Derived.Test.YtfknikgfilfcmaaRef7b
import Derived.Test.YtfknikgfilfcmaaQuiet
import Derived.Deep.DeepCutAuto
import Derived.Deep.CutBlock
namespace Go.Proofs.Ytfknikgfilfcmaa
open Go.RowKit Go.Sort
set_option linter.unusedVariables false
set_option linter.unusedSimpArgs false

theorem readsLit (w : World) (xs : List Int) (hm : xs.length ≤ maxLen) : ReadsI (w.alloc (.cells (xs.map (Value.int .i64)).toArray 3)) (some ⟨w.heap.size, 0, none⟩) xs := (RowI.new w xs).reads hm
theorem f19v : clipV [0, 32] 255 = [0, 32] := by kernel_rfl
theorem f19a : betI 2 1 [0, 32] 255 (plI 1) (plI 0) = 16 := by kernel_rfl
theorem f19b : betI 2 1 [0, 32] 255 (plI 2) (plI 7) = 32 := by kernel_rfl
theorem f19c : atI 2 1 [0, 32] 255 1 0 2 = 8 := by kernel_rfl
theorem f19d : eqB 2 1 [0, 32] 2 1 [0, 32] = true := by kernel_rfl
set_option maxRecDepth 100000 in
set_option maxHeartbeats 16000000 in
theorem first_c (w : World) :
    Calls Try.prog 6 #[] w fun e w' => e = .returned (.bool true) ∧ Below w.heap.size w w' := by
  have RP := Lib.hid (show ReadsI (w.alloc (.cells #[.int .i64 0, .int .i64 32] 3)) _ _ from readsLit w [0, 32] (by decide))
  have HB := Lib.hid (below_alloc_ (Below.refl w.heap.size w) (.cells #[.int .i64 0, .int .i64 32] 3))
  have HZ := Lib.hid (World.size_alloc w (.cells #[.int .i64 0, .int .i64 32] 3))
  go_enter Try.func6, Try.ntmps6
  go_wp2_with fail
  have hz := HZ.out
  have RP := Lib.hid ((RP.out).alloc (.cells #[.int .i64 2, .int .i64 1, .slice (some ⟨w.heap.size, 0, none⟩) 2 2] 24))
  have HB := Lib.hid (below_alloc_ (HB.out) (.cells #[.int .i64 2, .int .i64 1, .slice (some ⟨w.heap.size, 0, none⟩) 2 2] 24))
  have hzw : (((w.alloc (.cells #[.int .i64 0, .int .i64 32] 3))).alloc (.cells #[.int .i64 2, .int .i64 1, .slice (some ⟨w.heap.size, 0, none⟩) 2 2] 24)).heap.size = (w.alloc (.cells #[.int .i64 0, .int .i64 32] 3)).heap.size + 1 := by simp only [World.size_alloc]
  have B1 := Blk.new ((w.alloc (.cells #[.int .i64 0, .int .i64 32] 3))) 24 #[.int .i64 2, .int .i64 1, .slice (some ⟨w.heap.size, 0, none⟩) 2 2]
  skip
  have B1 := Lib.hid B1
  generalize ((w.alloc (.cells #[.int .i64 0, .int .i64 32] 3))).alloc (.cells #[.int .i64 2, .int .i64 1, .slice (some ⟨w.heap.size, 0, none⟩) 2 2] 24) = w1 at *
  rw [hz] at B1 hzw
  clear hz hzw HZ
  refine (uNew_yes 2 1 [0, 32] (some ⟨w.heap.size, 0, none⟩) 2 255 _ RP.out (by decide) (by decide) (by decide) (by decide) rfl (by decide) (by decide)).mono ?_
  rintro e w2 ⟨R, rfl, hlt, hr, hb'⟩
  have RP := Lib.hid ((RP.out).kept hb')
  have HB := Lib.hid ((HB.out).trans (hb'.mono (HB.out).size))
  have B1 := Lib.hid ((B1.out).below hb' (B1.out).lt)
  clear hb'
  rw [f19v] at hr
  have FR := Lib.hid hr
  clear hr hlt
  have HB1 := Lib.hid (Below.refl w2.heap.size w2)
  obtain ⟨zB10, zB11, zB12⟩ := (B1.out.below HB1.out B1.out.lt).cells3
  go_upto_region 3 with fail
  clear zB10 zB11 zB12
  have HB1 := Lib.hid ((HB1.out).drew)
  refine wp_region_held_drew (S := (fun w' => w'.cell? ⟨w.heap.size + 1, 0, none⟩ = some (.int .i64 2) ∧ w'.cell? ⟨w.heap.size + 1, 1, none⟩ = some (.int .i64 1) ∧ w'.cell? ⟨w.heap.size + 1, 2, none⟩ = some (.slice (some ⟨w.heap.size, 0, none⟩) 2 2))) (by kernel_rfl) ?hS0 (fun hHeld => ?_)
  case hS0 => exact ⟨(B1.out.below HB1.out B1.out.lt).cell 0, (B1.out.below HB1.out B1.out.lt).cell 1, (B1.out.below HB1.out B1.out.lt).cell 2⟩
  refine wpAnyH_take (i := 0) (oi := ⟨some 7, _, _, _, _, _⟩) (v := ?v1) rfl (by kernel_rfl) (by kernel_rfl) (by kernel_rfl) (fun _ _ _ h => h) (Or.inl ⟨by rfl, ?h1⟩) (by assumption) ?r1
  case h1 => (intro w hSw; (try dsimp only at hSw); go_simp; try with_reducible rfl)
  try simp only [Act.put, List.setIfInBounds_toArray, List.set_cons_zero, List.set_cons_succ]
  refine wpAnyH_take (i := 1) (oi := ⟨some 8, _, _, _, _, _⟩) (v := ?v2) rfl (by kernel_rfl) (by kernel_rfl) (by kernel_rfl) (fun _ _ _ h => h) (Or.inl ⟨by rfl, ?h2⟩) (by assumption) ?r2
  case h2 => (intro w hSw; (try dsimp only at hSw); go_simp; try with_reducible rfl)
  try simp only [Act.put, List.setIfInBounds_toArray, List.set_cons_zero, List.set_cons_succ]
  refine wpAnyH_take (i := 2) (oi := ⟨some 9, _, _, _, _, _⟩) (v := ?v3) rfl (by kernel_rfl) (by kernel_rfl) (by kernel_rfl) (fun _ _ _ h => h) (Or.inl ⟨by rfl, ?h3⟩) (by assumption) ?r3
  case h3 => (intro w hSw; (try dsimp only at hSw); go_simp; try with_reducible rfl)
  try simp only [Act.put, List.setIfInBounds_toArray, List.set_cons_zero, List.set_cons_succ]
  refine wpAnyH_take (i := 3) (oi := ⟨some 10, _, _, _, _, _⟩) (v := ?v4) rfl (by kernel_rfl) (by kernel_rfl) (by kernel_rfl) (fun _ _ _ h => h) (Or.inl ⟨by rfl, ?h4⟩) (by assumption) ?r4
  case h4 => (intro w hSw; (try dsimp only at hSw); go_simp; try with_reducible rfl)
  try simp only [Act.put, List.setIfInBounds_toArray, List.set_cons_zero, List.set_cons_succ]
  refine wpAnyH_ready (rs := [4]) (by kernel_rfl) (by simp) ?_
  refine (AllReadyH.cons (o := ⟨some 11, _, _, _, _, _⟩) rfl (fun K hK => ?_) AllReadyH.nil)
  go_simp
  have HS1 := HB1
  refine (uNew_no 2 1 (some ⟨w.heap.size, 0, none⟩) 2 2 0 _ (by decide) (by decide)).mono ?_
  rintro e w3 ⟨rfl, hb'⟩
  have HB1 := Lib.hid ((HB1.out).trans (hb'.mono (HB1.out).size))
  clear hb'
  refine hK.out _ _ ?hS5 (fun hHeld => ?_)
  case hS5 => exact ⟨(B1.out.below HB1.out B1.out.lt).cell 0, (B1.out.below HB1.out B1.out.lt).cell 1, (B1.out.below HB1.out B1.out.lt).cell 2⟩
  clear hK K
  try simp only [Act.put, List.setIfInBounds_toArray, List.set_cons_zero, List.set_cons_succ]
  refine wpAnyH_take (i := 5) (oi := ⟨some 12, _, _, _, _, _⟩) (v := ?v6) rfl (by kernel_rfl) (by kernel_rfl) (by kernel_rfl) (fun _ _ _ h => h) (Or.inl ⟨by rfl, ?h6⟩) (by assumption) ?r6
  case h6 => (intro w hSw; (try dsimp only at hSw); go_simp; try with_reducible rfl)
  try simp only [Act.put, List.setIfInBounds_toArray, List.set_cons_zero, List.set_cons_succ]
  refine wpAnyH_take (i := 6) (oi := ⟨some 13, _, _, _, _, _⟩) (v := ?v7) rfl (by kernel_rfl) (by kernel_rfl) (by kernel_rfl) (fun _ _ _ h => h) (Or.inl ⟨by rfl, ?h7⟩) (by assumption) ?r7
  case h7 => (intro w hSw; (try dsimp only at hSw); go_simp; try with_reducible rfl)
  try simp only [Act.put, List.setIfInBounds_toArray, List.set_cons_zero, List.set_cons_succ]
  refine wpAnyH_take (i := 7) (oi := ⟨some 14, _, _, _, _, _⟩) (v := ?v8) rfl (by kernel_rfl) (by kernel_rfl) (by kernel_rfl) (fun _ _ _ h => h) (Or.inl ⟨by rfl, ?h8⟩) (by assumption) ?r8
  case h8 => (intro w hSw; (try dsimp only at hSw); go_simp; try with_reducible rfl)
  try simp only [Act.put, List.setIfInBounds_toArray, List.set_cons_zero, List.set_cons_succ]
  refine wpAnyH_take (i := 8) (oi := ⟨some 15, _, _, _, _, _⟩) (v := ?v9) rfl (by kernel_rfl) (by kernel_rfl) (by kernel_rfl) (fun _ _ _ h => h) (Or.inl ⟨by rfl, ?h9⟩) (by assumption) ?r9
  case h9 => (intro w hSw; (try dsimp only at hSw); go_simp; try with_reducible rfl)
  try simp only [Act.put, List.setIfInBounds_toArray, List.set_cons_zero, List.set_cons_succ]
  refine wpAnyH_ready (rs := [9]) (by kernel_rfl) (by simp) ?_
  refine (AllReadyH.cons (o := ⟨some 16, _, _, _, _, _⟩) rfl (fun K hK => ?_) AllReadyH.nil)
  go_simp
  have HS1 := HB1
  refine (uHalf_c R 2 1 [0, 32] 255 1 0 _ (FR.out.below HB1.out)).mono ?_
  rintro e w4 ⟨rfl, hb'⟩
  have HB1 := Lib.hid ((HB1.out).trans (hb'.mono (HB1.out).size))
  clear hb'
  rw [f19a]
  refine hK.out _ _ ?hS10 (fun hHeld => ?_)
  case hS10 => exact ⟨(B1.out.below HB1.out B1.out.lt).cell 0, (B1.out.below HB1.out B1.out.lt).cell 1, (B1.out.below HB1.out B1.out.lt).cell 2⟩
  clear hK K
  try simp only [Act.put, List.setIfInBounds_toArray, List.set_cons_zero, List.set_cons_succ]
  refine wpAnyH_take (i := 10) (oi := ⟨some 17, _, _, _, _, _⟩) (v := ?v11) rfl (by kernel_rfl) (by kernel_rfl) (by kernel_rfl) (fun _ _ _ h => h) (Or.inl ⟨by rfl, ?h11⟩) (by assumption) ?r11
  case h11 => (intro w hSw; (try dsimp only at hSw); go_simp; try with_reducible rfl)
  try simp only [Act.put, List.setIfInBounds_toArray, List.set_cons_zero, List.set_cons_succ]
  refine wpAnyH_take (i := 11) (oi := ⟨some 18, _, _, _, _, _⟩) (v := ?v12) rfl (by kernel_rfl) (by kernel_rfl) (by kernel_rfl) (fun _ _ _ h => h) (Or.inl ⟨by rfl, ?h12⟩) (by assumption) ?r12
  case h12 => (intro w hSw; (try dsimp only at hSw); go_simp; try with_reducible rfl)
  try simp only [Act.put, List.setIfInBounds_toArray, List.set_cons_zero, List.set_cons_succ]
  refine wpAnyH_take (i := 12) (oi := ⟨some 19, _, _, _, _, _⟩) (v := ?v13) rfl (by kernel_rfl) (by kernel_rfl) (by kernel_rfl) (fun _ _ _ h => h) (Or.inl ⟨by rfl, ?h13⟩) (by assumption) ?r13
  case h13 => (intro w hSw; (try dsimp only at hSw); go_simp; try with_reducible rfl)
  try simp only [Act.put, List.setIfInBounds_toArray, List.set_cons_zero, List.set_cons_succ]
  refine wpAnyH_take (i := 13) (oi := ⟨some 20, _, _, _, _, _⟩) (v := ?v14) rfl (by kernel_rfl) (by kernel_rfl) (by kernel_rfl) (fun _ _ _ h => h) (Or.inl ⟨by rfl, ?h14⟩) (by assumption) ?r14
  case h14 => (intro w hSw; (try dsimp only at hSw); go_simp; try with_reducible rfl)
  try simp only [Act.put, List.setIfInBounds_toArray, List.set_cons_zero, List.set_cons_succ]
  refine wpAnyH_ready (rs := [14]) (by kernel_rfl) (by simp) ?_
  refine (AllReadyH.cons (o := ⟨some 21, _, _, _, _, _⟩) rfl (fun K hK => ?_) AllReadyH.nil)
  go_simp
  have HS1 := HB1
  refine (uHalf_c R 2 1 [0, 32] 255 2 7 _ (FR.out.below HB1.out)).mono ?_
  rintro e w5 ⟨rfl, hb'⟩
  have HB1 := Lib.hid ((HB1.out).trans (hb'.mono (HB1.out).size))
  clear hb'
  rw [f19b]
  refine hK.out _ _ ?hS15 (fun hHeld => ?_)
  case hS15 => exact ⟨(B1.out.below HB1.out B1.out.lt).cell 0, (B1.out.below HB1.out B1.out.lt).cell 1, (B1.out.below HB1.out B1.out.lt).cell 2⟩
  clear hK K
  try simp only [Act.put, List.setIfInBounds_toArray, List.set_cons_zero, List.set_cons_succ]
  refine wpAnyH_take (i := 15) (oi := ⟨some 22, _, _, _, _, _⟩) (v := ?v16) rfl (by kernel_rfl) (by kernel_rfl) (by kernel_rfl) (fun _ _ _ h => h) (Or.inl ⟨by rfl, ?h16⟩) (by assumption) ?r16
  case h16 => (intro w hSw; (try dsimp only at hSw); go_simp; try with_reducible rfl)
  try simp only [Act.put, List.setIfInBounds_toArray, List.set_cons_zero, List.set_cons_succ]
  refine wpAnyH_take (i := 16) (oi := ⟨some 23, _, _, _, _, _⟩) (v := ?v17) rfl (by kernel_rfl) (by kernel_rfl) (by kernel_rfl) (fun _ _ _ h => h) (Or.inl ⟨by rfl, ?h17⟩) (by assumption) ?r17
  case h17 => (intro w hSw; (try dsimp only at hSw); go_simp; try with_reducible rfl)
  try simp only [Act.put, List.setIfInBounds_toArray, List.set_cons_zero, List.set_cons_succ]
  refine wpAnyH_take (i := 17) (oi := ⟨some 24, _, _, _, _, _⟩) (v := ?v18) rfl (by kernel_rfl) (by kernel_rfl) (by kernel_rfl) (fun _ _ _ h => h) (Or.inl ⟨by rfl, ?h18⟩) (by assumption) ?r18
  case h18 => (intro w hSw; (try dsimp only at hSw); go_simp; try with_reducible rfl)
  try simp only [Act.put, List.setIfInBounds_toArray, List.set_cons_zero, List.set_cons_succ]
  refine wpAnyH_take (i := 18) (oi := ⟨some 25, _, _, _, _, _⟩) (v := ?v19) rfl (by kernel_rfl) (by kernel_rfl) (by kernel_rfl) (fun _ _ _ h => h) (Or.inl ⟨by rfl, ?h19⟩) (by assumption) ?r19
  case h19 => (intro w hSw; (try dsimp only at hSw); go_simp; try with_reducible rfl)
  try simp only [Act.put, List.setIfInBounds_toArray, List.set_cons_zero, List.set_cons_succ]
  refine wpAnyH_ready (rs := [19]) (by kernel_rfl) (by simp) ?_
  refine (AllReadyH.cons (o := ⟨some 26, _, _, _, _, _⟩) rfl (fun K hK => ?_) AllReadyH.nil)
  go_simp
  have HS1 := HB1
  refine (uAt_c R 2 1 [0, 32] 255 1 0 2 _ (FR.out.below HB1.out)).mono ?_
  rintro e w6 ⟨rfl, hb'⟩
  have HB1 := Lib.hid ((HB1.out).trans (hb'.mono (HB1.out).size))
  clear hb'
  rw [f19c]
  refine hK.out _ _ ?hS20 (fun hHeld => ?_)
  case hS20 => exact ⟨(B1.out.below HB1.out B1.out.lt).cell 0, (B1.out.below HB1.out B1.out.lt).cell 1, (B1.out.below HB1.out B1.out.lt).cell 2⟩
  clear hK K
  try simp only [Act.put, List.setIfInBounds_toArray, List.set_cons_zero, List.set_cons_succ]
  refine wpAnyH_take (i := 20) (oi := ⟨some 27, _, _, _, _, _⟩) (v := ?v21) rfl (by kernel_rfl) (by kernel_rfl) (by kernel_rfl) (fun _ _ _ h => h) (Or.inl ⟨by rfl, ?h21⟩) (by assumption) ?r21
  case h21 => (intro w hSw; (try dsimp only at hSw); go_simp; try with_reducible rfl)
  try simp only [Act.put, List.setIfInBounds_toArray, List.set_cons_zero, List.set_cons_succ]
  refine wpAnyH_take (i := 21) (oi := ⟨some 28, _, _, _, _, _⟩) (v := ?v22) rfl (by kernel_rfl) (by kernel_rfl) (by kernel_rfl) (fun _ _ _ h => h) (Or.inl ⟨by rfl, ?h22⟩) (by assumption) ?r22
  case h22 => (intro w hSw; (try dsimp only at hSw); go_simp; try with_reducible rfl)
  try simp only [Act.put, List.setIfInBounds_toArray, List.set_cons_zero, List.set_cons_succ]
  refine wpAnyH_take (i := 22) (oi := ⟨some 29, _, _, _, _, _⟩) (v := ?v23) rfl (by kernel_rfl) (by kernel_rfl) (by kernel_rfl) (fun _ _ _ h => h) (Or.inl ⟨by rfl, ?h23⟩) (by assumption) ?r23
  case h23 => (intro w hSw; (try dsimp only at hSw); go_simp; try with_reducible rfl)
  try simp only [Act.put, List.setIfInBounds_toArray, List.set_cons_zero, List.set_cons_succ]
  refine wpAnyH_take (i := 23) (oi := ⟨some 30, _, _, _, _, _⟩) (v := ?v24) rfl (by kernel_rfl) (by kernel_rfl) (by kernel_rfl) (fun _ _ _ h => h) (Or.inl ⟨by rfl, ?h24⟩) (by assumption) ?r24
  case h24 => (intro w hSw; (try dsimp only at hSw); go_simp; try with_reducible rfl)
  try simp only [Act.put, List.setIfInBounds_toArray, List.set_cons_zero, List.set_cons_succ]
  refine wpAnyH_take (i := 25) (oi := ⟨some 32, _, _, _, _, _⟩) (v := ?v25) rfl (by kernel_rfl) (by kernel_rfl) (by kernel_rfl) (fun _ _ _ h => h) (Or.inl ⟨by rfl, ?h25⟩) (by assumption) ?r25
  case h25 => (intro w hSw; (try dsimp only at hSw); go_simp; try with_reducible rfl)
  try simp only [Act.put, List.setIfInBounds_toArray, List.set_cons_zero, List.set_cons_succ]
  refine wpAnyH_ready (rs := [24]) (by kernel_rfl) (by simp) ?_
  refine (AllReadyH.cons (o := ⟨some 31, _, _, _, _, _⟩) rfl (fun K hK => ?_) AllReadyH.nil)
  go_simp
  have HS1 := HB1
  refine (uPlane_c R 2 1 [0, 32] 255 _ (FR.out.below HB1.out)).mono ?_
  rintro e w7 ⟨v, rfl, ho, hb'⟩
  have HB1 := Lib.hid ((HB1.out).trans (hb'.mono (HB1.out).size))
  clear hb'
  obtain ⟨A1, c1, rfl, hq⟩ := ho.slice
  have O1 := Lib.hid hq
  clear ho hq
  simp only [List.length_cons, List.length_nil, Nat.zero_add, Nat.reduceAdd]
  refine hK.out _ _ ?hS26 (fun hHeld => ?_)
  case hS26 => exact ⟨(B1.out.below HB1.out B1.out.lt).cell 0, (B1.out.below HB1.out B1.out.lt).cell 1, (B1.out.below HB1.out B1.out.lt).cell 2⟩
  clear hK K
  try simp only [Act.put, List.setIfInBounds_toArray, List.set_cons_zero, List.set_cons_succ]
  refine wpAnyH_ready (rs := [26]) (by kernel_rfl) (by simp) ?_
  refine (AllReadyH.cons (o := ⟨some 33, _, _, _, _, _⟩) rfl (fun K hK => ?_) AllReadyH.nil)
  go_simp
  have HS1 := HB1
  refine (rsame_c 2 1 [0, 32] 2 1 [0, 32] A1 (some ⟨w.heap.size, 0, none⟩) c1 2 _ O1.out (RP.out.kept HB1.out) (by decide) (by decide)).mono ?_
  rintro e w8 ⟨rfl, hb'⟩
  have HB1 := Lib.hid ((HB1.out).trans (hb'.mono (HB1.out).size))
  have O1 := Lib.hid ((O1.out).kept hb')
  clear hb'
  rw [f19d]
  refine hK.out _ _ ?hS27 (fun hHeld => ?_)
  case hS27 => exact ⟨(B1.out.below HB1.out B1.out.lt).cell 0, (B1.out.below HB1.out B1.out.lt).cell 1, (B1.out.below HB1.out B1.out.lt).cell 2⟩
  clear hK K
  try simp only [Act.put, List.setIfInBounds_toArray, List.set_cons_zero, List.set_cons_succ]
  refine wpAnyH_take (i := 27) (oi := ⟨some 34, _, _, _, _, _⟩) (v := ?v28) rfl (by kernel_rfl) (by kernel_rfl) (by kernel_rfl) (fun _ _ _ h => h) (Or.inl ⟨by rfl, ?h28⟩) (by assumption) ?r28
  case h28 => (intro w hSw; (try dsimp only at hSw); go_simp; try with_reducible rfl)
  try simp only [Act.put, List.setIfInBounds_toArray, List.set_cons_zero, List.set_cons_succ]
  refine wpAnyH_take (i := 28) (oi := ⟨some 0, _, _, _, _, _⟩) (v := ?v29) rfl (by kernel_rfl) (by kernel_rfl) (by kernel_rfl) (fun _ _ _ h => h) (Or.inl ⟨by rfl, ?h29⟩) (by assumption) ?r29
  case h29 => (intro w hSw; (try dsimp only at hSw); go_simp; try with_reducible rfl)
  try simp only [Act.put, List.setIfInBounds_toArray, List.set_cons_zero, List.set_cons_succ]
  refine wpAnyH_done (by kernel_rfl) ?_ _
  clear hHeld
  go_wp2_with fail
  go_ret
  exact ⟨rfl, HB.out.trans (HB1.out.mono HB.out.size)⟩

def okR (W H : Int) (n : Nat) (m : Int) : Bool := okB W H n && decide (1 ≤ m) && decide (m ≤ 65535)
set_option maxRecDepth 100000 in
set_option maxHeartbeats 16000000 in
theorem right_c (W H : Int) (A : Option Addr) (n c : Nat) (m : Int) (w : World) (hn : n ≤ 9223372036854775807) :
    Calls Try.prog 8 #[plV W H (.slice A n c), .int .i64 m] w fun e w' => e = .returned (.bool (okR W H n m)) ∧ Below w.heap.size w w' := by
  have HB := Lib.hid (below_alloc_ (Below.refl w.heap.size w) (.cells #[.int .i64 W, .int .i64 H, .slice A n c] 24))
  have B1 := Lib.hid (Blk.new w 24 #[.int .i64 W, .int .i64 H, .slice A n c])
  cases hok : okB W H n with
  | false =>
    have Hok := Lib.hid hok
    clear hok
    go_enter Try.func8, Try.ntmps8
    go_wp2_with fail
    refine (rright_c W H A n c _ hn).mono ?_
    rintro e w1 ⟨rfl, hb1⟩
    rw [Hok.out]
    have HB := Lib.hid (HB.out.trans (hb1.mono HB.out.size))
    clear hb1
    go_wp2_with fail
    go_ret
    exact ⟨ret_bool (by simp [okR, Hok.out] ), HB.out⟩
  | true =>
    by_cases h1 : 1 ≤ m
    · by_cases h2 : m ≤ 65535
      · skip
        have Hok := Lib.hid hok
        clear hok
        go_enter Try.func8, Try.ntmps8
        go_wp2_with fail
        refine (rright_c W H A n c _ hn).mono ?_
        rintro e w1 ⟨rfl, hb1⟩
        rw [Hok.out]
        have HB := Lib.hid (HB.out.trans (hb1.mono HB.out.size))
        clear hb1
        go_wp2_with fail
        go_ret
        exact ⟨ret_bool (by simp [okR, Hok.out] <;> omega), HB.out⟩
      · skip
        have Hok := Lib.hid hok
        clear hok
        go_enter Try.func8, Try.ntmps8
        go_wp2_with fail
        refine (rright_c W H A n c _ hn).mono ?_
        rintro e w1 ⟨rfl, hb1⟩
        rw [Hok.out]
        have HB := Lib.hid (HB.out.trans (hb1.mono HB.out.size))
        clear hb1
        go_wp2_with fail
        go_ret
        exact ⟨ret_bool (by simp [okR, Hok.out] <;> omega), HB.out⟩
    · skip
      have Hok := Lib.hid hok
      clear hok
      go_enter Try.func8, Try.ntmps8
      go_wp2_with fail
      refine (rright_c W H A n c _ hn).mono ?_
      rintro e w1 ⟨rfl, hb1⟩
      rw [Hok.out]
      have HB := Lib.hid (HB.out.trans (hb1.mono HB.out.size))
      clear hb1
      go_wp2_with fail
      go_ret
      exact ⟨ret_bool (by simp [okR, Hok.out] <;> omega), HB.out⟩


end Go.Proofs.Ytfknikgfilfcmaa
