/- What first of the laws of layer 7 answers: true. -/
import Derived.Test.YtjcdjmgkfhnmgaaPl6
import Derived.Test.YtjcdjmgkfhnmgaaRef7b
import Derived.Test.YtjcdjmgkfhnmgaaWalk
namespace Go.Proofs.Ytjcdjmgkfhnmgaa
open Go.RowKit
set_option linter.unusedVariables false
set_option linter.unusedSimpArgs false

theorem fpad : padP 2 2 [1, 2, 3, 4] 3 2 = ⟨3, 2, [1, 2, 2, 3, 4, 4]⟩ := by kernel_rfl
theorem fcrop : cropP 3 2 [1, 2, 2, 3, 4, 4] 2 2 = ⟨2, 2, [1, 2, 3, 4]⟩ := by kernel_rfl
theorem fturn : turnP 2 2 [1, 2, 3, 4] = ⟨2, 2, [1, 3, 2, 4]⟩ := by kernel_rfl
theorem fat : atP 2 2 [1, 2, 3, 4] 5 (-1) = 2 := by kernel_rfl
theorem fok : okB 2 2 ([1, 2, 3, 4] : List Int).length = true := by kernel_rfl
theorem fok0 : okB 0 0 0 = false := by kernel_rfl
theorem fsame : sameB 2 2 [1, 2, 3, 4] 2 2 [1, 2, 3, 4] = true := by kernel_rfl
theorem feq : eqB 2 2 [1, 3, 2, 4] 2 2 [1, 3, 2, 4] = true := by kernel_rfl
theorem readsLit (w : World) (xs : List Int) (hm : xs.length ≤ maxLen) : ReadsI (w.alloc (.cells (xs.map (Value.int .i64)).toArray 3)) (some ⟨w.heap.size, 0, none⟩) xs := (RowI.new w xs).reads hm
set_option maxRecDepth 100000 in
set_option maxHeartbeats 16000000 in
theorem first_c (w : World) :
    Calls Try.prog 6 #[] w fun e w' => e = .returned (.bool true) ∧ Below w.heap.size w w' := by
  have hRP := readsLit w [1, 2, 3, 4] (by decide)
  have RP := Lib.hid (show ReadsI (w.alloc (.cells #[.int .i64 1, .int .i64 2, .int .i64 3, .int .i64 4] 3)) _ _ from hRP)
  have HB := Lib.hid (below_alloc_ (Below.refl w.heap.size w) (.cells #[.int .i64 1, .int .i64 2, .int .i64 3, .int .i64 4] 3))
  have hz := World.size_alloc w (.cells #[.int .i64 1, .int .i64 2, .int .i64 3, .int .i64 4] 3)
  have HZ := Lib.hid hz
  clear hRP hz
  go_enter Try.func6, Try.ntmps6
  go_wp2_with fail
  have hz := HZ.out
  have RP := Lib.hid ((RP.out).alloc (.cells #[.int .i64 2, .int .i64 2, .slice (some ⟨w.heap.size, 0, none⟩) 4 4] 24))
  have HB := Lib.hid (below_alloc_ (HB.out) (.cells #[.int .i64 2, .int .i64 2, .slice (some ⟨w.heap.size, 0, none⟩) 4 4] 24))
  have hzw : (((w.alloc (.cells #[.int .i64 1, .int .i64 2, .int .i64 3, .int .i64 4] 3))).alloc (.cells #[.int .i64 2, .int .i64 2, .slice (some ⟨w.heap.size, 0, none⟩) 4 4] 24)).heap.size = (w.alloc (.cells #[.int .i64 1, .int .i64 2, .int .i64 3, .int .i64 4] 3)).heap.size + 1 := by simp only [World.size_alloc]
  have B1 := Blk.new ((w.alloc (.cells #[.int .i64 1, .int .i64 2, .int .i64 3, .int .i64 4] 3))) 24 #[.int .i64 2, .int .i64 2, .slice (some ⟨w.heap.size, 0, none⟩) 4 4]
  skip
  have B1 := Lib.hid B1
  generalize ((w.alloc (.cells #[.int .i64 1, .int .i64 2, .int .i64 3, .int .i64 4] 3))).alloc (.cells #[.int .i64 2, .int .i64 2, .slice (some ⟨w.heap.size, 0, none⟩) 4 4] 24) = w1 at *
  rw [hz] at B1 hzw
  have HZW := Lib.hid hzw
  clear hz hzw
  refine (ppad_c 2 2 [1, 2, 3, 4] (some ⟨w.heap.size, 0, none⟩) 4 3 2 _ RP.out (by decide)).mono ?_
  rintro e w2 ⟨v, rfl, ho, hb'⟩
  have RP := Lib.hid ((RP.out).kept hb')
  have HB := Lib.hid ((HB.out).trans (hb'.mono (HB.out).size))
  have B1 := Lib.hid ((B1.out).below hb' (B1.out).lt)
  clear hb'
  rw [fpad] at ho ⊢
  obtain ⟨A1, c1, rfl, hq⟩ := ho.slice
  obtain ⟨ad, rfl, _, _⟩ := hq.rd_ (i := 5) (by decide)
  have RQ := Lib.hid hq
  clear ho hq
  simp only [List.length_cons, List.length_nil, Nat.zero_add, Nat.reduceAdd]
  go_wp2_with fail
  have RP := Lib.hid ((RP.out).alloc (.cells #[.int .i64 3, .int .i64 2, .slice (some ad) 6 c1] 24))
  have HB := Lib.hid (below_alloc_ (HB.out) (.cells #[.int .i64 3, .int .i64 2, .slice (some ad) 6 c1] 24))
  have B1 := Lib.hid ((B1.out).alloc (.cells #[.int .i64 3, .int .i64 2, .slice (some ad) 6 c1] 24))
  have RQ := Lib.hid ((RQ.out).alloc (.cells #[.int .i64 3, .int .i64 2, .slice (some ad) 6 c1] 24))
  have hzw : (w2.alloc (.cells #[.int .i64 3, .int .i64 2, .slice (some ad) 6 c1] 24)).heap.size = w2.heap.size + 1 := by simp only [World.size_alloc]
  have B2 := Blk.new (w2) 24 #[.int .i64 3, .int .i64 2, .slice (some ad) 6 c1]
  skip
  have B2 := Lib.hid B2
  generalize w2.alloc (.cells #[.int .i64 3, .int .i64 2, .slice (some ad) 6 c1] 24) = w3 at *
  clear hzw
  obtain ⟨zB10, zB11, zB12⟩ := (B1.out).cells3
  have z5 := RQ.out.cellv (i := 5) (by decide)
  clear z5 zB10 zB11 zB12
  have RP := Lib.hid ((RP.out).drew)
  have HB := Lib.hid ((HB.out).drew)
  have B1 := Lib.hid ((B1.out).drew)
  have RQ := Lib.hid ((RQ.out).drew)
  have B2 := Lib.hid ((B2.out).drew)
  refine wp_region_held_drew (S := (fun w' => w'.cell? ⟨w.heap.size + 1, 0, none⟩ = some (.int .i64 2) ∧ w'.cell? ⟨w.heap.size + 1, 1, none⟩ = some (.int .i64 2) ∧ w'.cell? ⟨w.heap.size + 1, 2, none⟩ = some (.slice (some ⟨w.heap.size, 0, none⟩) 4 4) ∧ w'.cell? ⟨w2.heap.size, 0, none⟩ = some (.int .i64 3) ∧ w'.cell? ⟨w2.heap.size, 1, none⟩ = some (.int .i64 2) ∧ w'.cell? ⟨w2.heap.size, 2, none⟩ = some (.slice (some ad) 6 c1) ∧ w'.cell? ⟨ad.block, ad.off + 5, none⟩ = some (.int .i64 4))) (by kernel_rfl) ?hS0 (fun hHeld => ?_)
  case hS0 => exact ⟨B1.out.cell 0, B1.out.cell 1, B1.out.cell 2, B2.out.cell 0, B2.out.cell 1, B2.out.cell 2, RQ.out.cellv (i := 5) (by decide)⟩
  refine wpAnyH_take (i := 0) (oi := ⟨some 7, _, _, _, _, _⟩) (v := ?v1) rfl (by kernel_rfl) (by kernel_rfl) (by kernel_rfl) (fun _ _ _ h => h) (Or.inl ⟨by rfl, ?h1⟩) (by assumption) ?r1
  case h1 => (intro w hSw; (try dsimp only at hSw); go_simp; try with_reducible rfl)
  try simp only [Act.put, List.setIfInBounds_toArray, List.set_cons_zero, List.set_cons_succ]
  refine wpAnyH_ready (rs := [1]) (by kernel_rfl) (by simp) ?_
  refine (AllReadyH.cons (o := ⟨some 8, _, _, _, _, _⟩) rfl (fun K hK => ?_) AllReadyH.nil)
  go_simp
  refine (pright_c 2 2 (some ⟨w.heap.size, 0, none⟩) 4 4 _ (by decide)).mono ?_
  rintro e w4 ⟨rfl, hb'⟩
  have RP := Lib.hid ((RP.out).kept hb')
  have HB := Lib.hid ((HB.out).trans (hb'.mono (HB.out).size))
  have B1 := Lib.hid ((B1.out).below hb' (B1.out).lt)
  have RQ := Lib.hid ((RQ.out).kept hb')
  have B2 := Lib.hid ((B2.out).below hb' (B2.out).lt)
  clear hb'
  rw [show okB 2 2 4 = true from fok]
  refine hK.out _ _ ?hS2 (fun hHeld => ?_)
  case hS2 => exact ⟨B1.out.cell 0, B1.out.cell 1, B1.out.cell 2, B2.out.cell 0, B2.out.cell 1, B2.out.cell 2, RQ.out.cellv (i := 5) (by decide)⟩
  clear hK K
  try simp only [Act.put, List.setIfInBounds_toArray, List.set_cons_zero, List.set_cons_succ]
  refine wpAnyH_take (i := 2) (oi := ⟨some 9, _, _, _, _, _⟩) (v := ?v3) rfl (by kernel_rfl) (by kernel_rfl) (by kernel_rfl) (fun _ _ _ h => h) (Or.inl ⟨by rfl, ?h3⟩) (by assumption) ?r3
  case h3 => (intro w hSw; (try dsimp only at hSw); go_simp; try with_reducible rfl)
  try simp only [Act.put, List.setIfInBounds_toArray, List.set_cons_zero, List.set_cons_succ]
  refine wpAnyH_take (i := 3) (oi := ⟨some 10, _, _, _, _, _⟩) (v := ?v4) rfl (by kernel_rfl) (by kernel_rfl) (by kernel_rfl) (fun _ _ _ h => h) (Or.inl ⟨by rfl, ?h4⟩) (by assumption) ?r4
  case h4 => (intro w hSw; (try dsimp only at hSw); go_simp; try with_reducible rfl)
  try simp only [Act.put, List.setIfInBounds_toArray, List.set_cons_zero, List.set_cons_succ]
  refine wpAnyH_ready (rs := [4]) (by kernel_rfl) (by simp) ?_
  refine (AllReadyH.cons (o := ⟨some 11, _, _, _, _, _⟩) rfl (fun K hK => ?_) AllReadyH.nil)
  go_simp
  refine (pat_c 2 2 [1, 2, 3, 4] (some ⟨w.heap.size, 0, none⟩) 4 5 (-1) _ RP.out (by decide)).mono ?_
  rintro e w5 ⟨rfl, hb'⟩
  have RP := Lib.hid ((RP.out).kept hb')
  have HB := Lib.hid ((HB.out).trans (hb'.mono (HB.out).size))
  have B1 := Lib.hid ((B1.out).below hb' (B1.out).lt)
  have RQ := Lib.hid ((RQ.out).kept hb')
  have B2 := Lib.hid ((B2.out).below hb' (B2.out).lt)
  clear hb'
  rw [fat]
  refine hK.out _ _ ?hS5 (fun hHeld => ?_)
  case hS5 => exact ⟨B1.out.cell 0, B1.out.cell 1, B1.out.cell 2, B2.out.cell 0, B2.out.cell 1, B2.out.cell 2, RQ.out.cellv (i := 5) (by decide)⟩
  clear hK K
  try simp only [Act.put, List.setIfInBounds_toArray, List.set_cons_zero, List.set_cons_succ]
  refine wpAnyH_take (i := 5) (oi := ⟨some 12, _, _, _, _, _⟩) (v := ?v6) rfl (by kernel_rfl) (by kernel_rfl) (by kernel_rfl) (fun _ _ _ h => h) (Or.inl ⟨by rfl, ?h6⟩) (by assumption) ?r6
  case h6 => (intro w hSw; (try dsimp only at hSw); go_simp; try with_reducible rfl)
  try simp only [Act.put, List.setIfInBounds_toArray, List.set_cons_zero, List.set_cons_succ]
  refine wpAnyH_take (i := 6) (oi := ⟨some 13, _, _, _, _, _⟩) (v := ?v7) rfl (by kernel_rfl) (by kernel_rfl) (by kernel_rfl) (fun _ _ _ h => h) (Or.inl ⟨by rfl, ?h7⟩) (by assumption) ?r7
  case h7 => (intro w hSw; (try dsimp only at hSw); go_simp; try with_reducible rfl)
  try simp only [Act.put, List.setIfInBounds_toArray, List.set_cons_zero, List.set_cons_succ]
  refine wpAnyH_take (i := 7) (oi := ⟨some 14, _, _, _, _, _⟩) (v := ?v8) rfl (by kernel_rfl) (by kernel_rfl) (by kernel_rfl) (fun _ _ _ h => h) (Or.inl ⟨by rfl, ?h8⟩) (by assumption) ?r8
  case h8 => (intro w hSw; (try dsimp only at hSw); go_simp; try with_reducible rfl)
  try simp only [Act.put, List.setIfInBounds_toArray, List.set_cons_zero, List.set_cons_succ]
  refine wpAnyH_take (i := 8) (oi := ⟨some 15, _, _, _, _, _⟩) (v := ?v9) rfl (by kernel_rfl) (by kernel_rfl) (by kernel_rfl) (fun _ _ _ h => h) (Or.inl ⟨by rfl, ?h9⟩) (by assumption) ?r9
  case h9 => (intro w hSw; (try dsimp only at hSw); go_simp; try with_reducible rfl)
  try simp only [Act.put, List.setIfInBounds_toArray, List.set_cons_zero, List.set_cons_succ]
  refine wpAnyH_take (i := 9) (oi := ⟨some 16, _, _, _, _, _⟩) (v := ?v10) rfl (by kernel_rfl) (by kernel_rfl) (by kernel_rfl) (fun _ _ _ h => h) (Or.inl ⟨by rfl, ?h10⟩) (by assumption) ?r10
  case h10 => (intro w hSw; (try dsimp only at hSw); go_simp; try with_reducible rfl)
  try simp only [Act.put, List.setIfInBounds_toArray, List.set_cons_zero, List.set_cons_succ]
  refine wpAnyH_take (i := 10) (oi := ⟨some 17, _, _, _, _, _⟩) (v := ?v11) rfl (by kernel_rfl) (by kernel_rfl) (by kernel_rfl) (fun _ _ _ h => h) (Or.inl ⟨by rfl, ?h11⟩) (by assumption) ?r11
  case h11 => (intro w hSw; (try dsimp only at hSw); go_simp; try with_reducible rfl)
  try simp only [Act.put, List.setIfInBounds_toArray, List.set_cons_zero, List.set_cons_succ]
  refine wpAnyH_take (i := 11) (oi := ⟨some 18, _, _, _, _, _⟩) (v := ?v12) rfl (by kernel_rfl) (by kernel_rfl) (by kernel_rfl) (fun _ _ _ h => h) (Or.inl ⟨by rfl, ?h12⟩) (by assumption) ?r12
  case h12 => (intro w hSw; (try dsimp only at hSw); go_simp; try with_reducible rfl)
  try simp only [Act.put, List.setIfInBounds_toArray, List.set_cons_zero, List.set_cons_succ]
  refine wpAnyH_take (i := 12) (oi := ⟨some 19, _, _, _, _, _⟩) (v := ?v13) rfl (by kernel_rfl) (by kernel_rfl) (by kernel_rfl) (fun _ _ _ h => h) (Or.inl ⟨by rfl, ?h13⟩) (by assumption) ?r13
  case h13 => (intro w hSw; (try dsimp only at hSw); go_simp; try with_reducible rfl)
  try simp only [Act.put, List.setIfInBounds_toArray, List.set_cons_zero, List.set_cons_succ]
  refine wpAnyH_take (i := 13) (oi := ⟨some 20, _, _, _, _, _⟩) (v := ?v14) rfl (by kernel_rfl) (by kernel_rfl) (by kernel_rfl) (fun _ _ _ h => h) (Or.inl ⟨by rfl, ?h14⟩) (by assumption) ?r14
  case h14 => (intro w hSw; (try dsimp only at hSw); go_simp; try with_reducible rfl)
  try simp only [Act.put, List.setIfInBounds_toArray, List.set_cons_zero, List.set_cons_succ]
  refine wpAnyH_take (i := 14) (oi := ⟨some 21, _, _, _, _, _⟩) (v := ?v15) rfl (by kernel_rfl) (by kernel_rfl) (by kernel_rfl) (fun _ _ _ h => h) (Or.inl ⟨by rfl, ?h15⟩) (by assumption) ?r15
  case h15 => (intro w hSw; (try dsimp only at hSw); go_simp; try with_reducible rfl)
  try simp only [Act.put, List.setIfInBounds_toArray, List.set_cons_zero, List.set_cons_succ]
  refine wpAnyH_take (i := 15) (oi := ⟨some 22, _, _, _, _, _⟩) (v := ?v16) rfl (by kernel_rfl) (by kernel_rfl) (by kernel_rfl) (fun _ _ _ h => h) (Or.inl ⟨by rfl, ?h16⟩) (by assumption) ?r16
  case h16 => (intro w hSw; (try dsimp only at hSw); go_simp; try with_reducible rfl)
  try simp only [Act.put, List.setIfInBounds_toArray, List.set_cons_zero, List.set_cons_succ]
  refine wpAnyH_take (i := 16) (oi := ⟨some 23, _, _, _, _, _⟩) (v := ?v17) rfl (by kernel_rfl) (by kernel_rfl) (by kernel_rfl) (fun _ _ _ h => h) (Or.inl ⟨by rfl, ?h17⟩) (by assumption) ?r17
  case h17 => (intro w hSw; (try dsimp only at hSw); go_simp; try with_reducible rfl)
  try simp only [Act.put, List.setIfInBounds_toArray, List.set_cons_zero, List.set_cons_succ]
  refine wpAnyH_take (i := 17) (oi := ⟨some 24, _, _, _, _, _⟩) (v := ?v18) rfl (by kernel_rfl) (by kernel_rfl) (by kernel_rfl) (fun _ _ _ h => h) (Or.inl ⟨by rfl, ?h18⟩) (by assumption) ?r18
  case h18 => (intro w hSw; (try dsimp only at hSw); go_simp; try with_reducible rfl)
  try simp only [Act.put, List.setIfInBounds_toArray, List.set_cons_zero, List.set_cons_succ]
  refine wpAnyH_take (i := 18) (oi := ⟨some 25, _, _, _, _, _⟩) (v := ?v19) rfl (by kernel_rfl) (by kernel_rfl) (by kernel_rfl) (fun _ _ _ h => h) (Or.inl ⟨by rfl, ?h19⟩) (by assumption) ?r19
  case h19 => (intro w hSw; (try dsimp only at hSw); go_simp; try with_reducible rfl)
  try simp only [Act.put, List.setIfInBounds_toArray, List.set_cons_zero, List.set_cons_succ]
  refine wpAnyH_take (i := 19) (oi := ⟨some 26, _, _, _, _, _⟩) (v := ?v20) rfl (by kernel_rfl) (by kernel_rfl) (by kernel_rfl) (fun _ _ _ h => h) (Or.inl ⟨by rfl, ?h20⟩) (by assumption) ?r20
  case h20 => (intro w hSw; (try dsimp only at hSw); go_simp; try with_reducible rfl)
  try simp only [Act.put, List.setIfInBounds_toArray, List.set_cons_zero, List.set_cons_succ]
  refine wpAnyH_take (i := 20) (oi := ⟨some 27, _, _, _, _, _⟩) (v := ?v21) rfl (by kernel_rfl) (by kernel_rfl) (by kernel_rfl) (fun _ _ _ h => h) (Or.inl ⟨by rfl, ?h21⟩) (by assumption) ?r21
  case h21 => (intro w hSw; (try dsimp only at hSw); go_simp; try with_reducible rfl)
  try simp only [Act.put, List.setIfInBounds_toArray, List.set_cons_zero, List.set_cons_succ]
  refine wpAnyH_take (i := 21) (oi := ⟨some 28, _, _, _, _, _⟩) (v := ?v22) rfl (by kernel_rfl) (by kernel_rfl) (by kernel_rfl) (fun _ _ _ h => h) (Or.inl ⟨by rfl, ?h22⟩) (by assumption) ?r22
  case h22 => (intro w hSw; (try dsimp only at hSw); go_simp; try with_reducible rfl)
  try simp only [Act.put, List.setIfInBounds_toArray, List.set_cons_zero, List.set_cons_succ]
  refine wpAnyH_take (i := 23) (oi := ⟨some 30, _, _, _, _, _⟩) (v := ?v23) rfl (by kernel_rfl) (by kernel_rfl) (by kernel_rfl) (fun _ _ _ h => h) (Or.inl ⟨by rfl, ?h23⟩) (by assumption) ?r23
  case h23 => (intro w hSw; (try dsimp only at hSw); go_simp; try with_reducible rfl)
  try simp only [Act.put, List.setIfInBounds_toArray, List.set_cons_zero, List.set_cons_succ]
  refine wpAnyH_ready (rs := [22]) (by kernel_rfl) (by simp) ?_
  refine (AllReadyH.cons (o := ⟨some 29, _, _, _, _, _⟩) rfl (fun K hK => ?_) AllReadyH.nil)
  go_simp
  refine (pcrop_c 3 2 [1, 2, 2, 3, 4, 4] (some ad) c1 2 2 _ RQ.out (by decide)).mono ?_
  rintro e w6 ⟨v, rfl, ho, hb'⟩
  have RP := Lib.hid ((RP.out).kept hb')
  have HB := Lib.hid ((HB.out).trans (hb'.mono (HB.out).size))
  have B1 := Lib.hid ((B1.out).below hb' (B1.out).lt)
  have RQ := Lib.hid ((RQ.out).kept hb')
  have B2 := Lib.hid ((B2.out).below hb' (B2.out).lt)
  clear hb'
  rw [fcrop] at ho ⊢
  obtain ⟨A3, c3, rfl, hq⟩ := ho.slice
  have RC := Lib.hid hq
  clear ho hq
  simp only [List.length_cons, List.length_nil, Nat.zero_add, Nat.reduceAdd]
  refine hK.out _ _ ?hS24 (fun hHeld => ?_)
  case hS24 => exact ⟨B1.out.cell 0, B1.out.cell 1, B1.out.cell 2, B2.out.cell 0, B2.out.cell 1, B2.out.cell 2, RQ.out.cellv (i := 5) (by decide)⟩
  clear hK K
  try simp only [Act.put, List.setIfInBounds_toArray, List.set_cons_zero, List.set_cons_succ]
  refine wpAnyH_ready (rs := [24]) (by kernel_rfl) (by simp) ?_
  refine (AllReadyH.cons (o := ⟨some 31, _, _, _, _, _⟩) rfl (fun K hK => ?_) AllReadyH.nil)
  go_simp
  refine (psame_c 2 2 [1, 2, 3, 4] 2 2 [1, 2, 3, 4] A3 (some ⟨w.heap.size, 0, none⟩) c3 4 _ RC.out RP.out (by decide) (by decide)).mono ?_
  rintro e w7 ⟨rfl, hb'⟩
  have RP := Lib.hid ((RP.out).kept hb')
  have HB := Lib.hid ((HB.out).trans (hb'.mono (HB.out).size))
  have B1 := Lib.hid ((B1.out).below hb' (B1.out).lt)
  have RQ := Lib.hid ((RQ.out).kept hb')
  have B2 := Lib.hid ((B2.out).below hb' (B2.out).lt)
  have RC := Lib.hid ((RC.out).kept hb')
  clear hb'
  rw [fsame]
  refine hK.out _ _ ?hS25 (fun hHeld => ?_)
  case hS25 => exact ⟨B1.out.cell 0, B1.out.cell 1, B1.out.cell 2, B2.out.cell 0, B2.out.cell 1, B2.out.cell 2, RQ.out.cellv (i := 5) (by decide)⟩
  clear hK K
  try simp only [Act.put, List.setIfInBounds_toArray, List.set_cons_zero, List.set_cons_succ]
  refine wpAnyH_take (i := 25) (oi := ⟨some 32, _, _, _, _, _⟩) (v := ?v26) rfl (by kernel_rfl) (by kernel_rfl) (by kernel_rfl) (fun _ _ _ h => h) (Or.inl ⟨by rfl, ?h26⟩) (by assumption) ?r26
  case h26 => (intro w hSw; (try dsimp only at hSw); go_simp; try with_reducible rfl)
  try simp only [Act.put, List.setIfInBounds_toArray, List.set_cons_zero, List.set_cons_succ]
  refine wpAnyH_take (i := 26) (oi := ⟨some 33, _, _, _, _, _⟩) (v := ?v27) rfl (by kernel_rfl) (by kernel_rfl) (by kernel_rfl) (fun _ _ _ h => h) (Or.inl ⟨by rfl, ?h27⟩) (by assumption) ?r27
  case h27 => (intro w hSw; (try dsimp only at hSw); go_simp; try with_reducible rfl)
  try simp only [Act.put, List.setIfInBounds_toArray, List.set_cons_zero, List.set_cons_succ]
  refine wpAnyH_take (i := 27) (oi := ⟨some 34, _, _, _, _, _⟩) (v := ?v28) rfl (by kernel_rfl) (by kernel_rfl) (by kernel_rfl) (fun _ _ _ h => h) (Or.inl ⟨by rfl, ?h28⟩) (by assumption) ?r28
  case h28 => (intro w hSw; (try dsimp only at hSw); go_simp; try with_reducible rfl)
  try simp only [Act.put, List.setIfInBounds_toArray, List.set_cons_zero, List.set_cons_succ]
  refine wpAnyH_ready (rs := [28, 29]) (by kernel_rfl) (by simp) ?_
  refine (AllReadyH.cons (o := ⟨some 35, _, _, _, _, _⟩) rfl (fun K hK => ?_) (AllReadyH.cons (o := ⟨some 36, _, _, _, _, _⟩) rfl (fun K hK => ?_) AllReadyH.nil))
  · skip
    go_simp
    refine (pturn_c 2 2 [1, 2, 3, 4] (some ⟨w.heap.size, 0, none⟩) 4 _ RP.out (by decide)).mono ?_
    rintro e w8 ⟨v, rfl, ho, hb'⟩
    have RP := Lib.hid ((RP.out).kept hb')
    have HB := Lib.hid ((HB.out).trans (hb'.mono (HB.out).size))
    have B1 := Lib.hid ((B1.out).below hb' (B1.out).lt)
    have RQ := Lib.hid ((RQ.out).kept hb')
    have B2 := Lib.hid ((B2.out).below hb' (B2.out).lt)
    have RC := Lib.hid ((RC.out).kept hb')
    clear hb'
    rw [fturn] at ho ⊢
    obtain ⟨A4, c4, rfl, hq⟩ := ho.slice
    have RT := Lib.hid hq
    clear ho hq
    simp only [List.length_cons, List.length_nil, Nat.zero_add, Nat.reduceAdd]
    refine hK.out _ _ ?hS29 (fun hHeld => ?_)
    case hS29 => exact ⟨B1.out.cell 0, B1.out.cell 1, B1.out.cell 2, B2.out.cell 0, B2.out.cell 1, B2.out.cell 2, RQ.out.cellv (i := 5) (by decide)⟩
    clear hK K
    try simp only [Act.put, List.setIfInBounds_toArray, List.set_cons_zero, List.set_cons_succ]
    refine wpAnyH_ready (rs := [29]) (by kernel_rfl) (by simp) ?_
    refine (AllReadyH.cons (o := ⟨some 36, _, _, _, _, _⟩) rfl (fun K hK => ?_) AllReadyH.nil)
    go_simp
    have hRL := readsLit w8 [1, 3, 2, 4] (by decide)
    have RL := Lib.hid (show ReadsI (w8.alloc (.cells #[.int .i64 1, .int .i64 3, .int .i64 2, .int .i64 4] 3)) _ _ from hRL)
    clear hRL
    have RP := Lib.hid ((RP.out).alloc (.cells #[.int .i64 1, .int .i64 3, .int .i64 2, .int .i64 4] 3))
    have HB := Lib.hid (below_alloc_ (HB.out) (.cells #[.int .i64 1, .int .i64 3, .int .i64 2, .int .i64 4] 3))
    have B1 := Lib.hid ((B1.out).alloc (.cells #[.int .i64 1, .int .i64 3, .int .i64 2, .int .i64 4] 3))
    have RQ := Lib.hid ((RQ.out).alloc (.cells #[.int .i64 1, .int .i64 3, .int .i64 2, .int .i64 4] 3))
    have B2 := Lib.hid ((B2.out).alloc (.cells #[.int .i64 1, .int .i64 3, .int .i64 2, .int .i64 4] 3))
    have RC := Lib.hid ((RC.out).alloc (.cells #[.int .i64 1, .int .i64 3, .int .i64 2, .int .i64 4] 3))
    have RT := Lib.hid ((RT.out).alloc (.cells #[.int .i64 1, .int .i64 3, .int .i64 2, .int .i64 4] 3))
    have hzw : (w8.alloc (.cells #[.int .i64 1, .int .i64 3, .int .i64 2, .int .i64 4] 3)).heap.size = w8.heap.size + 1 := by simp only [World.size_alloc]
    generalize w8.alloc (.cells #[.int .i64 1, .int .i64 3, .int .i64 2, .int .i64 4] 3) = w9 at *
    clear hzw
    refine hK.out _ _ ?hS30 (fun hHeld => ?_)
    case hS30 => exact ⟨B1.out.cell 0, B1.out.cell 1, B1.out.cell 2, B2.out.cell 0, B2.out.cell 1, B2.out.cell 2, RQ.out.cellv (i := 5) (by decide)⟩
    clear hK K
    try simp only [Act.put, List.setIfInBounds_toArray, List.set_cons_zero, List.set_cons_succ]
    refine wpAnyH_take (i := 30) (oi := ⟨some 37, _, _, _, _, _⟩) (v := ?v31) rfl (by kernel_rfl) (by kernel_rfl) (by kernel_rfl) (fun _ _ _ h => h) (Or.inl ⟨by rfl, ?h31⟩) (by assumption) ?r31
    case h31 => (intro w hSw; (try dsimp only at hSw); go_simp; try with_reducible rfl)
    try simp only [Act.put, List.setIfInBounds_toArray, List.set_cons_zero, List.set_cons_succ]
    refine wpAnyH_ready (rs := [31]) (by kernel_rfl) (by simp) ?_
    refine (AllReadyH.cons (o := ⟨some 38, _, _, _, _, _⟩) rfl (fun K hK => ?_) AllReadyH.nil)
    go_simp
    refine (rsame_c 2 2 [1, 3, 2, 4] 2 2 [1, 3, 2, 4] A4 _ c4 4 _ RT.out RL.out (by decide) (by decide)).mono ?_
    rintro e w10 ⟨rfl, hb'⟩
    have RP := Lib.hid ((RP.out).kept hb')
    have HB := Lib.hid ((HB.out).trans (hb'.mono (HB.out).size))
    have B1 := Lib.hid ((B1.out).below hb' (B1.out).lt)
    have RQ := Lib.hid ((RQ.out).kept hb')
    have B2 := Lib.hid ((B2.out).below hb' (B2.out).lt)
    have RC := Lib.hid ((RC.out).kept hb')
    have RT := Lib.hid ((RT.out).kept hb')
    have RL := Lib.hid ((RL.out).kept hb')
    clear hb'
    rw [feq]
    refine hK.out _ _ ?hS32 (fun hHeld => ?_)
    case hS32 => exact ⟨B1.out.cell 0, B1.out.cell 1, B1.out.cell 2, B2.out.cell 0, B2.out.cell 1, B2.out.cell 2, RQ.out.cellv (i := 5) (by decide)⟩
    clear hK K
    try simp only [Act.put, List.setIfInBounds_toArray, List.set_cons_zero, List.set_cons_succ]
    refine wpAnyH_take (i := 32) (oi := ⟨some 39, _, _, _, _, _⟩) (v := ?v33) rfl (by kernel_rfl) (by kernel_rfl) (by kernel_rfl) (fun _ _ _ h => h) (Or.inl ⟨by rfl, ?h33⟩) (by assumption) ?r33
    case h33 => (intro w hSw; (try dsimp only at hSw); go_simp; try with_reducible rfl)
    try simp only [Act.put, List.setIfInBounds_toArray, List.set_cons_zero, List.set_cons_succ]
    refine wpAnyH_take (i := 33) (oi := ⟨some 40, _, _, _, _, _⟩) (v := ?v34) rfl (by kernel_rfl) (by kernel_rfl) (by kernel_rfl) (fun _ _ _ h => h) (Or.inl ⟨by rfl, ?h34⟩) (by assumption) ?r34
    case h34 => (intro w hSw; (try dsimp only at hSw); go_simp; try with_reducible rfl)
    try simp only [Act.put, List.setIfInBounds_toArray, List.set_cons_zero, List.set_cons_succ]
    refine wpAnyH_take (i := 34) (oi := ⟨some 41, _, _, _, _, _⟩) (v := ?v35) rfl (by kernel_rfl) (by kernel_rfl) (by kernel_rfl) (fun _ _ _ h => h) (Or.inl ⟨by rfl, ?h35⟩) (by assumption) ?r35
    case h35 => (intro w hSw; (try dsimp only at hSw); go_simp; try with_reducible rfl)
    try simp only [Act.put, List.setIfInBounds_toArray, List.set_cons_zero, List.set_cons_succ]
    refine wpAnyH_ready (rs := [35]) (by kernel_rfl) (by simp) ?_
    refine (AllReadyH.cons (o := ⟨some 42, _, _, _, _, _⟩) rfl (fun K hK => ?_) AllReadyH.nil)
    go_simp
    refine (pright_c 0 0 none 0 0 _ (by decide)).mono ?_
    rintro e w11 ⟨rfl, hb'⟩
    have RP := Lib.hid ((RP.out).kept hb')
    have HB := Lib.hid ((HB.out).trans (hb'.mono (HB.out).size))
    have B1 := Lib.hid ((B1.out).below hb' (B1.out).lt)
    have RQ := Lib.hid ((RQ.out).kept hb')
    have B2 := Lib.hid ((B2.out).below hb' (B2.out).lt)
    have RC := Lib.hid ((RC.out).kept hb')
    have RT := Lib.hid ((RT.out).kept hb')
    have RL := Lib.hid ((RL.out).kept hb')
    clear hb'
    rw [fok0]
    refine hK.out _ _ ?hS36 (fun hHeld => ?_)
    case hS36 => exact ⟨B1.out.cell 0, B1.out.cell 1, B1.out.cell 2, B2.out.cell 0, B2.out.cell 1, B2.out.cell 2, RQ.out.cellv (i := 5) (by decide)⟩
    clear hK K
    try simp only [Act.put, List.setIfInBounds_toArray, List.set_cons_zero, List.set_cons_succ]
    refine wpAnyH_take (i := 36) (oi := ⟨some 43, _, _, _, _, _⟩) (v := ?v37) rfl (by kernel_rfl) (by kernel_rfl) (by kernel_rfl) (fun _ _ _ h => h) (Or.inl ⟨by rfl, ?h37⟩) (by assumption) ?r37
    case h37 => (intro w hSw; (try dsimp only at hSw); go_simp; try with_reducible rfl)
    try simp only [Act.put, List.setIfInBounds_toArray, List.set_cons_zero, List.set_cons_succ]
    refine wpAnyH_take (i := 37) (oi := ⟨some 44, _, _, _, _, _⟩) (v := ?v38) rfl (by kernel_rfl) (by kernel_rfl) (by kernel_rfl) (fun _ _ _ h => h) (Or.inl ⟨by rfl, ?h38⟩) (by assumption) ?r38
    case h38 => (intro w hSw; (try dsimp only at hSw); go_simp; try with_reducible rfl)
    try simp only [Act.put, List.setIfInBounds_toArray, List.set_cons_zero, List.set_cons_succ]
    refine wpAnyH_take (i := 38) (oi := ⟨some 0, _, _, _, _, _⟩) (v := ?v39) rfl (by kernel_rfl) (by kernel_rfl) (by kernel_rfl) (fun _ _ _ h => h) (Or.inl ⟨by rfl, ?h39⟩) (by assumption) ?r39
    case h39 => (intro w hSw; (try dsimp only at hSw); go_simp; try with_reducible rfl)
    try simp only [Act.put, List.setIfInBounds_toArray, List.set_cons_zero, List.set_cons_succ]
    refine wpAnyH_done (by kernel_rfl) ?_ _
    clear hHeld
    go_wp2_with fail
    go_ret
    exact ⟨rfl, HB.out⟩
  · skip
    go_simp
    have hRL := readsLit w7 [1, 3, 2, 4] (by decide)
    have RL := Lib.hid (show ReadsI (w7.alloc (.cells #[.int .i64 1, .int .i64 3, .int .i64 2, .int .i64 4] 3)) _ _ from hRL)
    clear hRL
    have RP := Lib.hid ((RP.out).alloc (.cells #[.int .i64 1, .int .i64 3, .int .i64 2, .int .i64 4] 3))
    have HB := Lib.hid (below_alloc_ (HB.out) (.cells #[.int .i64 1, .int .i64 3, .int .i64 2, .int .i64 4] 3))
    have B1 := Lib.hid ((B1.out).alloc (.cells #[.int .i64 1, .int .i64 3, .int .i64 2, .int .i64 4] 3))
    have RQ := Lib.hid ((RQ.out).alloc (.cells #[.int .i64 1, .int .i64 3, .int .i64 2, .int .i64 4] 3))
    have B2 := Lib.hid ((B2.out).alloc (.cells #[.int .i64 1, .int .i64 3, .int .i64 2, .int .i64 4] 3))
    have RC := Lib.hid ((RC.out).alloc (.cells #[.int .i64 1, .int .i64 3, .int .i64 2, .int .i64 4] 3))
    have hzw : (w7.alloc (.cells #[.int .i64 1, .int .i64 3, .int .i64 2, .int .i64 4] 3)).heap.size = w7.heap.size + 1 := by simp only [World.size_alloc]
    generalize w7.alloc (.cells #[.int .i64 1, .int .i64 3, .int .i64 2, .int .i64 4] 3) = w8 at *
    clear hzw
    refine hK.out _ _ ?hS40 (fun hHeld => ?_)
    case hS40 => exact ⟨B1.out.cell 0, B1.out.cell 1, B1.out.cell 2, B2.out.cell 0, B2.out.cell 1, B2.out.cell 2, RQ.out.cellv (i := 5) (by decide)⟩
    clear hK K
    try simp only [Act.put, List.setIfInBounds_toArray, List.set_cons_zero, List.set_cons_succ]
    refine wpAnyH_take (i := 30) (oi := ⟨some 37, _, _, _, _, _⟩) (v := ?v41) rfl (by kernel_rfl) (by kernel_rfl) (by kernel_rfl) (fun _ _ _ h => h) (Or.inl ⟨by rfl, ?h41⟩) (by assumption) ?r41
    case h41 => (intro w hSw; (try dsimp only at hSw); go_simp; try with_reducible rfl)
    try simp only [Act.put, List.setIfInBounds_toArray, List.set_cons_zero, List.set_cons_succ]
    refine wpAnyH_ready (rs := [28]) (by kernel_rfl) (by simp) ?_
    refine (AllReadyH.cons (o := ⟨some 35, _, _, _, _, _⟩) rfl (fun K hK => ?_) AllReadyH.nil)
    go_simp
    refine (pturn_c 2 2 [1, 2, 3, 4] (some ⟨w.heap.size, 0, none⟩) 4 _ RP.out (by decide)).mono ?_
    rintro e w9 ⟨v, rfl, ho, hb'⟩
    have RP := Lib.hid ((RP.out).kept hb')
    have HB := Lib.hid ((HB.out).trans (hb'.mono (HB.out).size))
    have B1 := Lib.hid ((B1.out).below hb' (B1.out).lt)
    have RQ := Lib.hid ((RQ.out).kept hb')
    have B2 := Lib.hid ((B2.out).below hb' (B2.out).lt)
    have RC := Lib.hid ((RC.out).kept hb')
    have RL := Lib.hid ((RL.out).kept hb')
    clear hb'
    rw [fturn] at ho ⊢
    obtain ⟨A4, c4, rfl, hq⟩ := ho.slice
    have RT := Lib.hid hq
    clear ho hq
    simp only [List.length_cons, List.length_nil, Nat.zero_add, Nat.reduceAdd]
    refine hK.out _ _ ?hS42 (fun hHeld => ?_)
    case hS42 => exact ⟨B1.out.cell 0, B1.out.cell 1, B1.out.cell 2, B2.out.cell 0, B2.out.cell 1, B2.out.cell 2, RQ.out.cellv (i := 5) (by decide)⟩
    clear hK K
    try simp only [Act.put, List.setIfInBounds_toArray, List.set_cons_zero, List.set_cons_succ]
    refine wpAnyH_ready (rs := [31]) (by kernel_rfl) (by simp) ?_
    refine (AllReadyH.cons (o := ⟨some 38, _, _, _, _, _⟩) rfl (fun K hK => ?_) AllReadyH.nil)
    go_simp
    refine (rsame_c 2 2 [1, 3, 2, 4] 2 2 [1, 3, 2, 4] A4 _ c4 4 _ RT.out RL.out (by decide) (by decide)).mono ?_
    rintro e w10 ⟨rfl, hb'⟩
    have RP := Lib.hid ((RP.out).kept hb')
    have HB := Lib.hid ((HB.out).trans (hb'.mono (HB.out).size))
    have B1 := Lib.hid ((B1.out).below hb' (B1.out).lt)
    have RQ := Lib.hid ((RQ.out).kept hb')
    have B2 := Lib.hid ((B2.out).below hb' (B2.out).lt)
    have RC := Lib.hid ((RC.out).kept hb')
    have RL := Lib.hid ((RL.out).kept hb')
    have RT := Lib.hid ((RT.out).kept hb')
    clear hb'
    rw [feq]
    refine hK.out _ _ ?hS43 (fun hHeld => ?_)
    case hS43 => exact ⟨B1.out.cell 0, B1.out.cell 1, B1.out.cell 2, B2.out.cell 0, B2.out.cell 1, B2.out.cell 2, RQ.out.cellv (i := 5) (by decide)⟩
    clear hK K
    try simp only [Act.put, List.setIfInBounds_toArray, List.set_cons_zero, List.set_cons_succ]
    refine wpAnyH_take (i := 32) (oi := ⟨some 39, _, _, _, _, _⟩) (v := ?v44) rfl (by kernel_rfl) (by kernel_rfl) (by kernel_rfl) (fun _ _ _ h => h) (Or.inl ⟨by rfl, ?h44⟩) (by assumption) ?r44
    case h44 => (intro w hSw; (try dsimp only at hSw); go_simp; try with_reducible rfl)
    try simp only [Act.put, List.setIfInBounds_toArray, List.set_cons_zero, List.set_cons_succ]
    refine wpAnyH_take (i := 33) (oi := ⟨some 40, _, _, _, _, _⟩) (v := ?v45) rfl (by kernel_rfl) (by kernel_rfl) (by kernel_rfl) (fun _ _ _ h => h) (Or.inl ⟨by rfl, ?h45⟩) (by assumption) ?r45
    case h45 => (intro w hSw; (try dsimp only at hSw); go_simp; try with_reducible rfl)
    try simp only [Act.put, List.setIfInBounds_toArray, List.set_cons_zero, List.set_cons_succ]
    refine wpAnyH_take (i := 34) (oi := ⟨some 41, _, _, _, _, _⟩) (v := ?v46) rfl (by kernel_rfl) (by kernel_rfl) (by kernel_rfl) (fun _ _ _ h => h) (Or.inl ⟨by rfl, ?h46⟩) (by assumption) ?r46
    case h46 => (intro w hSw; (try dsimp only at hSw); go_simp; try with_reducible rfl)
    try simp only [Act.put, List.setIfInBounds_toArray, List.set_cons_zero, List.set_cons_succ]
    refine wpAnyH_ready (rs := [35]) (by kernel_rfl) (by simp) ?_
    refine (AllReadyH.cons (o := ⟨some 42, _, _, _, _, _⟩) rfl (fun K hK => ?_) AllReadyH.nil)
    go_simp
    refine (pright_c 0 0 none 0 0 _ (by decide)).mono ?_
    rintro e w11 ⟨rfl, hb'⟩
    have RP := Lib.hid ((RP.out).kept hb')
    have HB := Lib.hid ((HB.out).trans (hb'.mono (HB.out).size))
    have B1 := Lib.hid ((B1.out).below hb' (B1.out).lt)
    have RQ := Lib.hid ((RQ.out).kept hb')
    have B2 := Lib.hid ((B2.out).below hb' (B2.out).lt)
    have RC := Lib.hid ((RC.out).kept hb')
    have RL := Lib.hid ((RL.out).kept hb')
    have RT := Lib.hid ((RT.out).kept hb')
    clear hb'
    rw [fok0]
    refine hK.out _ _ ?hS47 (fun hHeld => ?_)
    case hS47 => exact ⟨B1.out.cell 0, B1.out.cell 1, B1.out.cell 2, B2.out.cell 0, B2.out.cell 1, B2.out.cell 2, RQ.out.cellv (i := 5) (by decide)⟩
    clear hK K
    try simp only [Act.put, List.setIfInBounds_toArray, List.set_cons_zero, List.set_cons_succ]
    refine wpAnyH_take (i := 36) (oi := ⟨some 43, _, _, _, _, _⟩) (v := ?v48) rfl (by kernel_rfl) (by kernel_rfl) (by kernel_rfl) (fun _ _ _ h => h) (Or.inl ⟨by rfl, ?h48⟩) (by assumption) ?r48
    case h48 => (intro w hSw; (try dsimp only at hSw); go_simp; try with_reducible rfl)
    try simp only [Act.put, List.setIfInBounds_toArray, List.set_cons_zero, List.set_cons_succ]
    refine wpAnyH_take (i := 37) (oi := ⟨some 44, _, _, _, _, _⟩) (v := ?v49) rfl (by kernel_rfl) (by kernel_rfl) (by kernel_rfl) (fun _ _ _ h => h) (Or.inl ⟨by rfl, ?h49⟩) (by assumption) ?r49
    case h49 => (intro w hSw; (try dsimp only at hSw); go_simp; try with_reducible rfl)
    try simp only [Act.put, List.setIfInBounds_toArray, List.set_cons_zero, List.set_cons_succ]
    refine wpAnyH_take (i := 38) (oi := ⟨some 0, _, _, _, _, _⟩) (v := ?v50) rfl (by kernel_rfl) (by kernel_rfl) (by kernel_rfl) (fun _ _ _ h => h) (Or.inl ⟨by rfl, ?h50⟩) (by assumption) ?r50
    case h50 => (intro w hSw; (try dsimp only at hSw); go_simp; try with_reducible rfl)
    try simp only [Act.put, List.setIfInBounds_toArray, List.set_cons_zero, List.set_cons_succ]
    refine wpAnyH_done (by kernel_rfl) ?_ _
    clear hHeld
    go_wp2_with fail
    go_ret
    exact ⟨rfl, HB.out⟩

end Go.Proofs.Ytjcdjmgkfhnmgaa
