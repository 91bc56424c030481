/- What first of the laws of layer 10 answers: true; the lists of bands at any sides. -/
import Derived.Test.YtjlajggilcihoaaBd5
import Derived.Test.YtjlajggilcihoaaBd9
import Derived.Test.YtjlajggilcihoaaRef7
import Derived.Deep.DeepCutAuto
import Derived.Deep.CutBlock
namespace Go.Proofs.Ytjlajggilcihoaa
open Go.RowKit Go.Sort
set_option linter.unusedVariables false
set_option linter.unusedSimpArgs false


theorem Calls.bel {P : Program} {f : FuncId} {args : Array Value} {w : World} {v : Value} (h : Calls P f args w fun e w' => e = .returned v ∧ w = w') : Calls P f args w fun e w' => e = .returned v ∧ Below w.heap.size w w' :=
  h.mono (by rintro e w' ⟨rfl, rfl⟩; exact ⟨rfl, Below.refl _ _⟩)
theorem readsLit (w : World) (xs : List Int) (hm : xs.length ≤ maxLen) : ReadsI (w.alloc (.cells (xs.map (Value.int .i64)).toArray 3)) (some ⟨w.heap.size, 0, none⟩) xs := (RowI.new w xs).reads hm
theorem blist_c (w h d : Int) (W : World) : Calls Try.prog 10 #[.int .i64 w, .int .i64 h, .int .i64 d] W fun e W' => ∃ v, e = .returned v ∧ OwnB W' W.heap.size v (bandsI w h d) ∧ Below W.heap.size W W' := by
  cases hok : okF w h d with
  | true => exact blist_yes w h d W hok
  | false => exact blist_no w h d W hok
theorem r10list_c (w h d : Int) (W : World) : Calls Try.prog 8 #[.int .i64 w, .int .i64 h, .int .i64 d] W fun e W' => ∃ v, e = .returned v ∧ OwnB W' W.heap.size v (bandsI w h d) ∧ Below W.heap.size W W' := by
  cases hok : okF w h d with
  | true =>
    have hd := (okF_t hok).2.2.2.2.1
    obtain ⟨n, rfl⟩ := Int.eq_ofNat_of_zero_le hd
    refine (r10list_yes n w h W hok).mono ?_
    rintro e W' ⟨v, rfl, ho, hb⟩
    exact ⟨v, rfl, by unfold bandsI; rw [if_pos hok]; exact ho, hb⟩
  | false =>
    refine (r10list_no w h d W hok).mono ?_
    rintro e W' ⟨rfl, rfl⟩
    exact ⟨_, rfl, by unfold bandsI; rw [if_neg (by rw [hok]; decide)]; exact OwnB.nil _ _, Below.refl _ _⟩
theorem f10a : bandsI 4 2 1 = [⟨0, 0, 0, 0, 2, 1⟩, ⟨1, 1, 2, 0, 2, 1⟩, ⟨1, 2, 0, 1, 2, 1⟩, ⟨1, 3, 2, 1, 2, 1⟩] := by kernel_rfl
theorem f10b : cutL [1, 2, 3, 4, 5, 6, 7, 8] 4 2 1 2 (2 * 1) = [7, 8] := by kernel_rfl
theorem f10c : eqB 2 1 [7, 8] 2 1 [7, 8] = true := by kernel_rfl
theorem ReadsB.cl {w : World} {ad : Addr} {bs : List Bd} (h : ReadsB w (some ad) bs) (j : Nat) (u : Value) (hu : (flB bs)[j + 1]? = some u) : w.cell? ⟨ad.block, ad.off + (j + 1), none⟩ = some u := by
  have hn : 0 < bs.length := by
    cases bs with
    | nil => simp [flB] at hu
    | cons b bs => simp
  obtain ⟨ad', e, _, hc⟩ := h.2 hn
  injection e with e
  subst e
  exact hc (j + 1) u hu
set_option maxRecDepth 100000 in
set_option maxHeartbeats 16000000 in
theorem first_c (w : World) :
    Calls Try.prog 7 #[] w fun e w' => e = .returned (.bool true) ∧ Below w.heap.size w w' := by
  have HB := Lib.hid (Below.refl w.heap.size w)
  go_enter Try.func7, Try.ntmps7
  go_wp2_with fail
  refine (blist_c 4 2 1 w).mono ?_
  rintro e w1 ⟨v, rfl, ho, hb'⟩
  have HB := Lib.hid ((HB.out).trans (hb'.mono (HB.out).size))
  clear hb'
  rw [f10a] at ho
  obtain ⟨A1, c1, rfl, hq⟩ := ho.slice
  obtain ⟨ad, rfl, hlt, hc⟩ := hq.2 (by decide)
  have RL := Lib.hid hq
  clear ho hq hlt hc
  simp only [List.length_cons, List.length_nil, Nat.zero_add, Nat.reduceAdd]
  go_upto_region 3 with fail
  have RP := Lib.hid (show ReadsI (w1.alloc (.cells #[.int .i64 1, .int .i64 2, .int .i64 3, .int .i64 4, .int .i64 5, .int .i64 6, .int .i64 7, .int .i64 8] 3)) _ _ from readsLit w1 [1, 2, 3, 4, 5, 6, 7, 8] (by decide))
  have RP := Lib.hid (RP.out.alloc (.cells #[.int .i64 4, .int .i64 2, .slice (some ⟨w1.heap.size, 0, none⟩) 8 8] 39))
  have HB := Lib.hid (below_alloc_ (below_alloc_ (HB.out) (.cells #[.int .i64 1, .int .i64 2, .int .i64 3, .int .i64 4, .int .i64 5, .int .i64 6, .int .i64 7, .int .i64 8] 3)) (.cells #[.int .i64 4, .int .i64 2, .slice (some ⟨w1.heap.size, 0, none⟩) 8 8] 39))
  have RL := Lib.hid (((RL.out).alloc (.cells #[.int .i64 1, .int .i64 2, .int .i64 3, .int .i64 4, .int .i64 5, .int .i64 6, .int .i64 7, .int .i64 8] 3)).alloc (.cells #[.int .i64 4, .int .i64 2, .slice (some ⟨w1.heap.size, 0, none⟩) 8 8] 39))
  have hzw : ((w1.alloc (.cells #[.int .i64 1, .int .i64 2, .int .i64 3, .int .i64 4, .int .i64 5, .int .i64 6, .int .i64 7, .int .i64 8] 3)).alloc (.cells #[.int .i64 4, .int .i64 2, .slice (some ⟨w1.heap.size, 0, none⟩) 8 8] 39)).heap.size = w1.heap.size + 2 := by simp only [World.size_alloc]
  have B2 := Blk.new (w1.alloc (.cells #[.int .i64 1, .int .i64 2, .int .i64 3, .int .i64 4, .int .i64 5, .int .i64 6, .int .i64 7, .int .i64 8] 3)) 39 #[.int .i64 4, .int .i64 2, .slice (some ⟨w1.heap.size, 0, none⟩) 8 8]
  rw [show (w1.alloc (.cells #[.int .i64 1, .int .i64 2, .int .i64 3, .int .i64 4, .int .i64 5, .int .i64 6, .int .i64 7, .int .i64 8] 3)).heap.size = w1.heap.size + 1 by simp only [World.size_alloc]] at B2
  have B2 := Lib.hid B2
  generalize (w1.alloc (.cells #[.int .i64 1, .int .i64 2, .int .i64 3, .int .i64 4, .int .i64 5, .int .i64 6, .int .i64 7, .int .i64 8] 3)).alloc (.cells #[.int .i64 4, .int .i64 2, .slice (some ⟨w1.heap.size, 0, none⟩) 8 8] 39) = w2 at *
  clear hzw
  have HB1 := Lib.hid (Below.refl w2.heap.size w2)
  have qq := 0
  clear qq
  have HB1 := Lib.hid ((HB1.out).drew)
  refine wp_region_held_drew (S := (fun w' => w'.cell? ⟨w1.heap.size + 1, 0, none⟩ = some (.int .i64 4) ∧ w'.cell? ⟨w1.heap.size + 1, 1, none⟩ = some (.int .i64 2) ∧ w'.cell? ⟨w1.heap.size + 1, 2, none⟩ = some (.slice (some ⟨w1.heap.size, 0, none⟩) 8 8) ∧ w'.cell? ⟨ad.block, ad.off + 6, none⟩ = some (.int .i64 1) ∧ w'.cell? ⟨ad.block, ad.off + 7, none⟩ = some (.int .i64 1) ∧ w'.cell? ⟨ad.block, ad.off + 8, none⟩ = some (.int .i64 2) ∧ w'.cell? ⟨ad.block, ad.off + 9, none⟩ = some (.int .i64 0) ∧ w'.cell? ⟨ad.block, ad.off + 10, none⟩ = some (.int .i64 2) ∧ w'.cell? ⟨ad.block, ad.off + 11, none⟩ = some (.int .i64 1) ∧ w'.cell? ⟨ad.block, ad.off + 18, none⟩ = some (.int .i64 1) ∧ w'.cell? ⟨ad.block, ad.off + 19, none⟩ = some (.int .i64 3) ∧ w'.cell? ⟨ad.block, ad.off + 20, none⟩ = some (.int .i64 2) ∧ w'.cell? ⟨ad.block, ad.off + 21, none⟩ = some (.int .i64 1) ∧ w'.cell? ⟨ad.block, ad.off + 22, none⟩ = some (.int .i64 2) ∧ w'.cell? ⟨ad.block, ad.off + 23, none⟩ = some (.int .i64 1))) (by kernel_rfl) ?hS0 (fun hHeld => ?_)
  case hS0 => exact ⟨(B2.out.below HB1.out B2.out.lt).cell 0, (B2.out.below HB1.out B2.out.lt).cell 1, (B2.out.below HB1.out B2.out.lt).cell 2, (RL.out.kept HB1.out).cl 5 _ rfl, (RL.out.kept HB1.out).cl 6 _ rfl, (RL.out.kept HB1.out).cl 7 _ rfl, (RL.out.kept HB1.out).cl 8 _ rfl, (RL.out.kept HB1.out).cl 9 _ rfl, (RL.out.kept HB1.out).cl 10 _ rfl, (RL.out.kept HB1.out).cl 17 _ rfl, (RL.out.kept HB1.out).cl 18 _ rfl, (RL.out.kept HB1.out).cl 19 _ rfl, (RL.out.kept HB1.out).cl 20 _ rfl, (RL.out.kept HB1.out).cl 21 _ rfl, (RL.out.kept HB1.out).cl 22 _ rfl⟩
  refine wpAnyH_take (i := 0) (oi := ⟨some 6, _, _, _, _, _⟩) (v := ?v1) rfl (by kernel_rfl) (by kernel_rfl) (by kernel_rfl) (fun _ _ _ h => h) (Or.inl ⟨by rfl, ?h1⟩) (by assumption) ?r1
  case h1 => (intro w hSw; (try dsimp only at hSw); go_simp; try with_reducible rfl)
  try simp only [Act.put, List.setIfInBounds_toArray, List.set_cons_zero, List.set_cons_succ]
  refine wpAnyH_take (i := 1) (oi := ⟨some 7, _, _, _, _, _⟩) (v := ?v2) rfl (by kernel_rfl) (by kernel_rfl) (by kernel_rfl) (fun _ _ _ h => h) (Or.inl ⟨by rfl, ?h2⟩) (by assumption) ?r2
  case h2 => (intro w hSw; (try dsimp only at hSw); go_simp; try with_reducible rfl)
  try simp only [Act.put, List.setIfInBounds_toArray, List.set_cons_zero, List.set_cons_succ]
  refine wpAnyH_take (i := 2) (oi := ⟨some 8, _, _, _, _, _⟩) (v := ?v3) rfl (by kernel_rfl) (by kernel_rfl) (by kernel_rfl) (fun _ _ _ h => h) (Or.inl ⟨by rfl, ?h3⟩) (by assumption) ?r3
  case h3 => (intro w hSw; (try dsimp only at hSw); go_simp; try with_reducible rfl)
  try simp only [Act.put, List.setIfInBounds_toArray, List.set_cons_zero, List.set_cons_succ]
  refine wpAnyH_take (i := 3) (oi := ⟨some 9, _, _, _, _, _⟩) (v := ?v4) rfl (by kernel_rfl) (by kernel_rfl) (by kernel_rfl) (fun _ _ _ h => h) (Or.inl ⟨by rfl, ?h4⟩) (by assumption) ?r4
  case h4 => (intro w hSw; (try dsimp only at hSw); go_simp; try with_reducible rfl)
  try simp only [Act.put, List.setIfInBounds_toArray, List.set_cons_zero, List.set_cons_succ]
  refine wpAnyH_take (i := 4) (oi := ⟨some 10, _, _, _, _, _⟩) (v := ?v5) rfl (by kernel_rfl) (by kernel_rfl) (by kernel_rfl) (fun _ _ _ h => h) (Or.inl ⟨by rfl, ?h5⟩) (by assumption) ?r5
  case h5 => (intro w hSw; (try dsimp only at hSw); go_simp; try with_reducible rfl)
  try simp only [Act.put, List.setIfInBounds_toArray, List.set_cons_zero, List.set_cons_succ]
  refine wpAnyH_take (i := 5) (oi := ⟨some 11, _, _, _, _, _⟩) (v := ?v6) rfl (by kernel_rfl) (by kernel_rfl) (by kernel_rfl) (fun _ _ _ h => h) (Or.inl ⟨by rfl, ?h6⟩) (by assumption) ?r6
  case h6 => (intro w hSw; (try dsimp only at hSw); go_simp; try with_reducible rfl)
  try simp only [Act.put, List.setIfInBounds_toArray, List.set_cons_zero, List.set_cons_succ]
  refine wpAnyH_take (i := 6) (oi := ⟨some 12, _, _, _, _, _⟩) (v := ?v7) rfl (by kernel_rfl) (by kernel_rfl) (by kernel_rfl) (fun _ _ _ h => h) (Or.inl ⟨by rfl, ?h7⟩) (by assumption) ?r7
  case h7 => (intro w hSw; (try dsimp only at hSw); go_simp; try with_reducible rfl)
  try simp only [Act.put, List.setIfInBounds_toArray, List.set_cons_zero, List.set_cons_succ]
  refine wpAnyH_take (i := 7) (oi := ⟨some 13, _, _, _, _, _⟩) (v := ?v8) rfl (by kernel_rfl) (by kernel_rfl) (by kernel_rfl) (fun _ _ _ h => h) (Or.inl ⟨by rfl, ?h8⟩) (by assumption) ?r8
  case h8 => (intro w hSw; (try dsimp only at hSw); go_simp; try with_reducible rfl)
  try simp only [Act.put, List.setIfInBounds_toArray, List.set_cons_zero, List.set_cons_succ]
  refine wpAnyH_take (i := 8) (oi := ⟨some 14, _, _, _, _, _⟩) (v := ?v9) rfl (by kernel_rfl) (by kernel_rfl) (by kernel_rfl) (fun _ _ _ h => h) (Or.inl ⟨by rfl, ?h9⟩) (by assumption) ?r9
  case h9 => (intro w hSw; (try dsimp only at hSw); go_simp; try with_reducible rfl)
  try simp only [Act.put, List.setIfInBounds_toArray, List.set_cons_zero, List.set_cons_succ]
  refine wpAnyH_take (i := 9) (oi := ⟨some 15, _, _, _, _, _⟩) (v := ?v10) rfl (by kernel_rfl) (by kernel_rfl) (by kernel_rfl) (fun _ _ _ h => h) (Or.inl ⟨by rfl, ?h10⟩) (by assumption) ?r10
  case h10 => (intro w hSw; (try dsimp only at hSw); go_simp; try with_reducible rfl)
  try simp only [Act.put, List.setIfInBounds_toArray, List.set_cons_zero, List.set_cons_succ]
  refine wpAnyH_take (i := 10) (oi := ⟨some 16, _, _, _, _, _⟩) (v := ?v11) rfl (by kernel_rfl) (by kernel_rfl) (by kernel_rfl) (fun _ _ _ h => h) (Or.inl ⟨by rfl, ?h11⟩) (by assumption) ?r11
  case h11 => (intro w hSw; (try dsimp only at hSw); go_simp; try with_reducible rfl)
  try simp only [Act.put, List.setIfInBounds_toArray, List.set_cons_zero, List.set_cons_succ]
  refine wpAnyH_ready (rs := [11]) (by kernel_rfl) (by simp) ?_
  refine (AllReadyH.cons (o := ⟨some 17, _, _, _, _, _⟩) rfl (fun K hK => ?_) AllReadyH.nil)
  go_simp
  have HS1 := HB1
  refine (Calls.bel (bcount_c 2 _)).mono ?_
  rintro e w3 ⟨rfl, hb'⟩
  have HB1 := Lib.hid ((HB1.out).trans (hb'.mono (HB1.out).size))
  clear hb'
  rw [show cntI 2 = 7 from rfl]
  refine hK.out _ _ ?hS12 (fun hHeld => ?_)
  case hS12 => exact ⟨(B2.out.below HB1.out B2.out.lt).cell 0, (B2.out.below HB1.out B2.out.lt).cell 1, (B2.out.below HB1.out B2.out.lt).cell 2, (RL.out.kept HB1.out).cl 5 _ rfl, (RL.out.kept HB1.out).cl 6 _ rfl, (RL.out.kept HB1.out).cl 7 _ rfl, (RL.out.kept HB1.out).cl 8 _ rfl, (RL.out.kept HB1.out).cl 9 _ rfl, (RL.out.kept HB1.out).cl 10 _ rfl, (RL.out.kept HB1.out).cl 17 _ rfl, (RL.out.kept HB1.out).cl 18 _ rfl, (RL.out.kept HB1.out).cl 19 _ rfl, (RL.out.kept HB1.out).cl 20 _ rfl, (RL.out.kept HB1.out).cl 21 _ rfl, (RL.out.kept HB1.out).cl 22 _ rfl⟩
  clear hK K
  try simp only [Act.put, List.setIfInBounds_toArray, List.set_cons_zero, List.set_cons_succ]
  refine wpAnyH_take (i := 12) (oi := ⟨some 18, _, _, _, _, _⟩) (v := ?v13) rfl (by kernel_rfl) (by kernel_rfl) (by kernel_rfl) (fun _ _ _ h => h) (Or.inl ⟨by rfl, ?h13⟩) (by assumption) ?r13
  case h13 => (intro w hSw; (try dsimp only at hSw); go_simp; try with_reducible rfl)
  try simp only [Act.put, List.setIfInBounds_toArray, List.set_cons_zero, List.set_cons_succ]
  refine wpAnyH_take (i := 13) (oi := ⟨some 19, _, _, _, _, _⟩) (v := ?v14) rfl (by kernel_rfl) (by kernel_rfl) (by kernel_rfl) (fun _ _ _ h => h) (Or.inl ⟨by rfl, ?h14⟩) (by assumption) ?r14
  case h14 => (intro w hSw; (try dsimp only at hSw); go_simp; try with_reducible rfl)
  try simp only [Act.put, List.setIfInBounds_toArray, List.set_cons_zero, List.set_cons_succ]
  refine wpAnyH_take (i := 14) (oi := ⟨some 20, _, _, _, _, _⟩) (v := ?v15) rfl (by kernel_rfl) (by kernel_rfl) (by kernel_rfl) (fun _ _ _ h => h) (Or.inl ⟨by rfl, ?h15⟩) (by assumption) ?r15
  case h15 => (intro w hSw; (try dsimp only at hSw); go_simp; try with_reducible rfl)
  try simp only [Act.put, List.setIfInBounds_toArray, List.set_cons_zero, List.set_cons_succ]
  refine wpAnyH_ready (rs := [15]) (by kernel_rfl) (by simp) ?_
  refine (AllReadyH.cons (o := ⟨some 21, _, _, _, _, _⟩) rfl (fun K hK => ?_) AllReadyH.nil)
  go_simp
  have HS1 := HB1
  refine (Calls.bel (bparent_c 4 _)).mono ?_
  rintro e w4 ⟨rfl, hb'⟩
  have HB1 := Lib.hid ((HB1.out).trans (hb'.mono (HB1.out).size))
  clear hb'
  rw [show parI 4 = 1 from rfl]
  refine hK.out _ _ ?hS16 (fun hHeld => ?_)
  case hS16 => exact ⟨(B2.out.below HB1.out B2.out.lt).cell 0, (B2.out.below HB1.out B2.out.lt).cell 1, (B2.out.below HB1.out B2.out.lt).cell 2, (RL.out.kept HB1.out).cl 5 _ rfl, (RL.out.kept HB1.out).cl 6 _ rfl, (RL.out.kept HB1.out).cl 7 _ rfl, (RL.out.kept HB1.out).cl 8 _ rfl, (RL.out.kept HB1.out).cl 9 _ rfl, (RL.out.kept HB1.out).cl 10 _ rfl, (RL.out.kept HB1.out).cl 17 _ rfl, (RL.out.kept HB1.out).cl 18 _ rfl, (RL.out.kept HB1.out).cl 19 _ rfl, (RL.out.kept HB1.out).cl 20 _ rfl, (RL.out.kept HB1.out).cl 21 _ rfl, (RL.out.kept HB1.out).cl 22 _ rfl⟩
  clear hK K
  try simp only [Act.put, List.setIfInBounds_toArray, List.set_cons_zero, List.set_cons_succ]
  refine wpAnyH_take (i := 16) (oi := ⟨some 22, _, _, _, _, _⟩) (v := ?v17) rfl (by kernel_rfl) (by kernel_rfl) (by kernel_rfl) (fun _ _ _ h => h) (Or.inl ⟨by rfl, ?h17⟩) (by assumption) ?r17
  case h17 => (intro w hSw; (try dsimp only at hSw); go_simp; try with_reducible rfl)
  try simp only [Act.put, List.setIfInBounds_toArray, List.set_cons_zero, List.set_cons_succ]
  refine wpAnyH_take (i := 17) (oi := ⟨some 23, _, _, _, _, _⟩) (v := ?v18) rfl (by kernel_rfl) (by kernel_rfl) (by kernel_rfl) (fun _ _ _ h => h) (Or.inl ⟨by rfl, ?h18⟩) (by assumption) ?r18
  case h18 => (intro w hSw; (try dsimp only at hSw); go_simp; try with_reducible rfl)
  try simp only [Act.put, List.setIfInBounds_toArray, List.set_cons_zero, List.set_cons_succ]
  refine wpAnyH_take (i := 18) (oi := ⟨some 24, _, _, _, _, _⟩) (v := ?v19) rfl (by kernel_rfl) (by kernel_rfl) (by kernel_rfl) (fun _ _ _ h => h) (Or.inl ⟨by rfl, ?h19⟩) (by assumption) ?r19
  case h19 => (intro w hSw; (try dsimp only at hSw); go_simp; try with_reducible rfl)
  try simp only [Act.put, List.setIfInBounds_toArray, List.set_cons_zero, List.set_cons_succ]
  refine wpAnyH_ready (rs := [19]) (by kernel_rfl) (by simp) ?_
  refine (AllReadyH.cons (o := ⟨some 25, _, _, _, _, _⟩) rfl (fun K hK => ?_) AllReadyH.nil)
  go_simp
  have HS1 := HB1
  refine (Calls.bel (bparent_c 3 _)).mono ?_
  rintro e w5 ⟨rfl, hb'⟩
  have HB1 := Lib.hid ((HB1.out).trans (hb'.mono (HB1.out).size))
  clear hb'
  rw [show parI 3 = -1 from rfl]
  refine hK.out _ _ ?hS20 (fun hHeld => ?_)
  case hS20 => exact ⟨(B2.out.below HB1.out B2.out.lt).cell 0, (B2.out.below HB1.out B2.out.lt).cell 1, (B2.out.below HB1.out B2.out.lt).cell 2, (RL.out.kept HB1.out).cl 5 _ rfl, (RL.out.kept HB1.out).cl 6 _ rfl, (RL.out.kept HB1.out).cl 7 _ rfl, (RL.out.kept HB1.out).cl 8 _ rfl, (RL.out.kept HB1.out).cl 9 _ rfl, (RL.out.kept HB1.out).cl 10 _ rfl, (RL.out.kept HB1.out).cl 17 _ rfl, (RL.out.kept HB1.out).cl 18 _ rfl, (RL.out.kept HB1.out).cl 19 _ rfl, (RL.out.kept HB1.out).cl 20 _ rfl, (RL.out.kept HB1.out).cl 21 _ rfl, (RL.out.kept HB1.out).cl 22 _ rfl⟩
  clear hK K
  try simp only [Act.put, List.setIfInBounds_toArray, List.set_cons_zero, List.set_cons_succ]
  refine wpAnyH_take (i := 20) (oi := ⟨some 26, _, _, _, _, _⟩) (v := ?v21) rfl (by kernel_rfl) (by kernel_rfl) (by kernel_rfl) (fun _ _ _ h => h) (Or.inl ⟨by rfl, ?h21⟩) (by assumption) ?r21
  case h21 => (intro w hSw; (try dsimp only at hSw); go_simp; try with_reducible rfl)
  try simp only [Act.put, List.setIfInBounds_toArray, List.set_cons_zero, List.set_cons_succ]
  refine wpAnyH_take (i := 21) (oi := ⟨some 27, _, _, _, _, _⟩) (v := ?v22) rfl (by kernel_rfl) (by kernel_rfl) (by kernel_rfl) (fun _ _ _ h => h) (Or.inl ⟨by rfl, ?h22⟩) (by assumption) ?r22
  case h22 => (intro w hSw; (try dsimp only at hSw); go_simp; try with_reducible rfl)
  try simp only [Act.put, List.setIfInBounds_toArray, List.set_cons_zero, List.set_cons_succ]
  refine wpAnyH_take (i := 22) (oi := ⟨some 28, _, _, _, _, _⟩) (v := ?v23) rfl (by kernel_rfl) (by kernel_rfl) (by kernel_rfl) (fun _ _ _ h => h) (Or.inl ⟨by rfl, ?h23⟩) (by assumption) ?r23
  case h23 => (intro w hSw; (try dsimp only at hSw); go_simp; try with_reducible rfl)
  try simp only [Act.put, List.setIfInBounds_toArray, List.set_cons_zero, List.set_cons_succ]
  refine wpAnyH_take (i := 23) (oi := ⟨some 29, _, _, _, _, _⟩) (v := ?v24) rfl (by kernel_rfl) (by kernel_rfl) (by kernel_rfl) (fun _ _ _ h => h) (Or.inl ⟨by rfl, ?h24⟩) (by assumption) ?r24
  case h24 => (intro w hSw; (try dsimp only at hSw); go_simp; try with_reducible rfl)
  try simp only [Act.put, List.setIfInBounds_toArray, List.set_cons_zero, List.set_cons_succ]
  refine wpAnyH_take (i := 24) (oi := ⟨some 30, _, _, _, _, _⟩) (v := ?v25) rfl (by kernel_rfl) (by kernel_rfl) (by kernel_rfl) (fun _ _ _ h => h) (Or.inl ⟨by rfl, ?h25⟩) (by assumption) ?r25
  case h25 => (intro w hSw; (try dsimp only at hSw); go_simp; try with_reducible rfl)
  try simp only [Act.put, List.setIfInBounds_toArray, List.set_cons_zero, List.set_cons_succ]
  refine wpAnyH_take (i := 25) (oi := ⟨some 31, _, _, _, _, _⟩) (v := ?v26) rfl (by kernel_rfl) (by kernel_rfl) (by kernel_rfl) (fun _ _ _ h => h) (Or.inl ⟨by rfl, ?h26⟩) (by assumption) ?r26
  case h26 => (intro w hSw; (try dsimp only at hSw); go_simp; try with_reducible rfl)
  try simp only [Act.put, List.setIfInBounds_toArray, List.set_cons_zero, List.set_cons_succ]
  refine wpAnyH_take (i := 26) (oi := ⟨some 32, _, _, _, _, _⟩) (v := ?v27) rfl (by kernel_rfl) (by kernel_rfl) (by kernel_rfl) (fun _ _ _ h => h) (Or.inl ⟨by rfl, ?h27⟩) (by assumption) ?r27
  case h27 => (intro w hSw; (try dsimp only at hSw); go_simp; try with_reducible rfl)
  try simp only [Act.put, List.setIfInBounds_toArray, List.set_cons_zero, List.set_cons_succ]
  refine wpAnyH_ready (rs := [27, 28]) (by kernel_rfl) (by simp) ?_
  refine (AllReadyH.cons (o := ⟨some 33, _, _, _, _, _⟩) rfl (fun K hK => ?_) (AllReadyH.cons (o := ⟨some 34, _, _, _, _, _⟩) rfl (fun K hK => ?_) AllReadyH.nil))
  · skip
    go_simp
    have HS1 := HB1
    refine (bcut_yes 4 2 [1, 2, 3, 4, 5, 6, 7, 8] ⟨w1.heap.size, 0, none⟩ 8 1 3 2 1 2 1 _ (RP.out.kept HB1.out) (by decide) (by decide) (by decide) (by decide) rfl (by decide) (by decide) (by decide) (by decide) (by decide) (by decide)).mono ?_
    rintro e w6 ⟨v, rfl, ho, hb'⟩
    have HB1 := Lib.hid ((HB1.out).trans (hb'.mono (HB1.out).size))
    clear hb'
    simp only [f10b] at ho ⊢
    obtain ⟨A3, c3, rfl, hq⟩ := ho.slice
    have RC := Lib.hid hq
    clear ho hq
    simp only [List.length_cons, List.length_nil, Nat.zero_add, Nat.reduceAdd]
    refine hK.out _ _ ?hS28 (fun hHeld => ?_)
    case hS28 => exact ⟨(B2.out.below HB1.out B2.out.lt).cell 0, (B2.out.below HB1.out B2.out.lt).cell 1, (B2.out.below HB1.out B2.out.lt).cell 2, (RL.out.kept HB1.out).cl 5 _ rfl, (RL.out.kept HB1.out).cl 6 _ rfl, (RL.out.kept HB1.out).cl 7 _ rfl, (RL.out.kept HB1.out).cl 8 _ rfl, (RL.out.kept HB1.out).cl 9 _ rfl, (RL.out.kept HB1.out).cl 10 _ rfl, (RL.out.kept HB1.out).cl 17 _ rfl, (RL.out.kept HB1.out).cl 18 _ rfl, (RL.out.kept HB1.out).cl 19 _ rfl, (RL.out.kept HB1.out).cl 20 _ rfl, (RL.out.kept HB1.out).cl 21 _ rfl, (RL.out.kept HB1.out).cl 22 _ rfl⟩
    clear hK K
    try simp only [Act.put, List.setIfInBounds_toArray, List.set_cons_zero, List.set_cons_succ]
    refine wpAnyH_ready (rs := [28]) (by kernel_rfl) (by simp) ?_
    refine (AllReadyH.cons (o := ⟨some 34, _, _, _, _, _⟩) rfl (fun K hK => ?_) AllReadyH.nil)
    go_simp
    have RQ := Lib.hid (show ReadsI (w6.alloc (.cells #[.int .i64 7, .int .i64 8] 3)) _ _ from readsLit w6 [7, 8] (by decide))
    have HB1 := Lib.hid (below_alloc_ (HB1.out) (.cells #[.int .i64 7, .int .i64 8] 3))
    have RC := Lib.hid ((RC.out).alloc (.cells #[.int .i64 7, .int .i64 8] 3))
    have hzw : (w6.alloc (.cells #[.int .i64 7, .int .i64 8] 3)).heap.size = w6.heap.size + 1 := by simp only [World.size_alloc]
    generalize w6.alloc (.cells #[.int .i64 7, .int .i64 8] 3) = w7 at *
    clear hzw
    refine hK.out _ _ ?hS29 (fun hHeld => ?_)
    case hS29 => exact ⟨(B2.out.below HB1.out B2.out.lt).cell 0, (B2.out.below HB1.out B2.out.lt).cell 1, (B2.out.below HB1.out B2.out.lt).cell 2, (RL.out.kept HB1.out).cl 5 _ rfl, (RL.out.kept HB1.out).cl 6 _ rfl, (RL.out.kept HB1.out).cl 7 _ rfl, (RL.out.kept HB1.out).cl 8 _ rfl, (RL.out.kept HB1.out).cl 9 _ rfl, (RL.out.kept HB1.out).cl 10 _ rfl, (RL.out.kept HB1.out).cl 17 _ rfl, (RL.out.kept HB1.out).cl 18 _ rfl, (RL.out.kept HB1.out).cl 19 _ rfl, (RL.out.kept HB1.out).cl 20 _ rfl, (RL.out.kept HB1.out).cl 21 _ rfl, (RL.out.kept HB1.out).cl 22 _ rfl⟩
    clear hK K
    try simp only [Act.put, List.setIfInBounds_toArray, List.set_cons_zero, List.set_cons_succ]
    refine wpAnyH_take (i := 29) (oi := ⟨some 35, _, _, _, _, _⟩) (v := ?v30) rfl (by kernel_rfl) (by kernel_rfl) (by kernel_rfl) (fun _ _ _ h => h) (Or.inl ⟨by rfl, ?h30⟩) (by assumption) ?r30
    case h30 => (intro w hSw; (try dsimp only at hSw); go_simp; try with_reducible rfl)
    try simp only [Act.put, List.setIfInBounds_toArray, List.set_cons_zero, List.set_cons_succ]
    refine wpAnyH_ready (rs := [30]) (by kernel_rfl) (by simp) ?_
    refine (AllReadyH.cons (o := ⟨some 36, _, _, _, _, _⟩) rfl (fun K hK => ?_) AllReadyH.nil)
    go_simp
    have HS1 := HB1
    refine (rsame_c 2 1 [7, 8] 2 1 [7, 8] A3 _ c3 2 _ RC.out RQ.out (by decide) (by decide)).mono ?_
    rintro e w8 ⟨rfl, hb'⟩
    have HB1 := Lib.hid ((HB1.out).trans (hb'.mono (HB1.out).size))
    have RC := Lib.hid ((RC.out).kept hb')
    have RQ := Lib.hid ((RQ.out).kept hb')
    clear hb'
    rw [f10c]
    refine hK.out _ _ ?hS31 (fun hHeld => ?_)
    case hS31 => exact ⟨(B2.out.below HB1.out B2.out.lt).cell 0, (B2.out.below HB1.out B2.out.lt).cell 1, (B2.out.below HB1.out B2.out.lt).cell 2, (RL.out.kept HB1.out).cl 5 _ rfl, (RL.out.kept HB1.out).cl 6 _ rfl, (RL.out.kept HB1.out).cl 7 _ rfl, (RL.out.kept HB1.out).cl 8 _ rfl, (RL.out.kept HB1.out).cl 9 _ rfl, (RL.out.kept HB1.out).cl 10 _ rfl, (RL.out.kept HB1.out).cl 17 _ rfl, (RL.out.kept HB1.out).cl 18 _ rfl, (RL.out.kept HB1.out).cl 19 _ rfl, (RL.out.kept HB1.out).cl 20 _ rfl, (RL.out.kept HB1.out).cl 21 _ rfl, (RL.out.kept HB1.out).cl 22 _ rfl⟩
    clear hK K
    try simp only [Act.put, List.setIfInBounds_toArray, List.set_cons_zero, List.set_cons_succ]
    refine wpAnyH_take (i := 31) (oi := ⟨some 37, _, _, _, _, _⟩) (v := ?v32) rfl (by kernel_rfl) (by kernel_rfl) (by kernel_rfl) (fun _ _ _ h => h) (Or.inl ⟨by rfl, ?h32⟩) (by assumption) ?r32
    case h32 => (intro w hSw; (try dsimp only at hSw); go_simp; try with_reducible rfl)
    try simp only [Act.put, List.setIfInBounds_toArray, List.set_cons_zero, List.set_cons_succ]
    refine wpAnyH_take (i := 32) (oi := ⟨some 0, _, _, _, _, _⟩) (v := ?v33) rfl (by kernel_rfl) (by kernel_rfl) (by kernel_rfl) (fun _ _ _ h => h) (Or.inl ⟨by rfl, ?h33⟩) (by assumption) ?r33
    case h33 => (intro w hSw; (try dsimp only at hSw); go_simp; try with_reducible rfl)
    try simp only [Act.put, List.setIfInBounds_toArray, List.set_cons_zero, List.set_cons_succ]
    refine wpAnyH_done (by kernel_rfl) ?_ _
    clear hHeld
    go_wp2_with fail
    go_ret
    exact ⟨rfl, HB.out.trans (HB1.out.mono HB.out.size)⟩
  · skip
    go_simp
    have RQ := Lib.hid (show ReadsI (w5.alloc (.cells #[.int .i64 7, .int .i64 8] 3)) _ _ from readsLit w5 [7, 8] (by decide))
    have HB1 := Lib.hid (below_alloc_ (HB1.out) (.cells #[.int .i64 7, .int .i64 8] 3))
    have hzw : (w5.alloc (.cells #[.int .i64 7, .int .i64 8] 3)).heap.size = w5.heap.size + 1 := by simp only [World.size_alloc]
    generalize w5.alloc (.cells #[.int .i64 7, .int .i64 8] 3) = w6 at *
    clear hzw
    refine hK.out _ _ ?hS34 (fun hHeld => ?_)
    case hS34 => exact ⟨(B2.out.below HB1.out B2.out.lt).cell 0, (B2.out.below HB1.out B2.out.lt).cell 1, (B2.out.below HB1.out B2.out.lt).cell 2, (RL.out.kept HB1.out).cl 5 _ rfl, (RL.out.kept HB1.out).cl 6 _ rfl, (RL.out.kept HB1.out).cl 7 _ rfl, (RL.out.kept HB1.out).cl 8 _ rfl, (RL.out.kept HB1.out).cl 9 _ rfl, (RL.out.kept HB1.out).cl 10 _ rfl, (RL.out.kept HB1.out).cl 17 _ rfl, (RL.out.kept HB1.out).cl 18 _ rfl, (RL.out.kept HB1.out).cl 19 _ rfl, (RL.out.kept HB1.out).cl 20 _ rfl, (RL.out.kept HB1.out).cl 21 _ rfl, (RL.out.kept HB1.out).cl 22 _ rfl⟩
    clear hK K
    try simp only [Act.put, List.setIfInBounds_toArray, List.set_cons_zero, List.set_cons_succ]
    refine wpAnyH_take (i := 29) (oi := ⟨some 35, _, _, _, _, _⟩) (v := ?v35) rfl (by kernel_rfl) (by kernel_rfl) (by kernel_rfl) (fun _ _ _ h => h) (Or.inl ⟨by rfl, ?h35⟩) (by assumption) ?r35
    case h35 => (intro w hSw; (try dsimp only at hSw); go_simp; try with_reducible rfl)
    try simp only [Act.put, List.setIfInBounds_toArray, List.set_cons_zero, List.set_cons_succ]
    refine wpAnyH_ready (rs := [27]) (by kernel_rfl) (by simp) ?_
    refine (AllReadyH.cons (o := ⟨some 33, _, _, _, _, _⟩) rfl (fun K hK => ?_) AllReadyH.nil)
    go_simp
    have HS1 := HB1
    refine (bcut_yes 4 2 [1, 2, 3, 4, 5, 6, 7, 8] ⟨w1.heap.size, 0, none⟩ 8 1 3 2 1 2 1 _ (RP.out.kept HB1.out) (by decide) (by decide) (by decide) (by decide) rfl (by decide) (by decide) (by decide) (by decide) (by decide) (by decide)).mono ?_
    rintro e w7 ⟨v, rfl, ho, hb'⟩
    have HB1 := Lib.hid ((HB1.out).trans (hb'.mono (HB1.out).size))
    have RQ := Lib.hid ((RQ.out).kept hb')
    clear hb'
    simp only [f10b] at ho ⊢
    obtain ⟨A3, c3, rfl, hq⟩ := ho.slice
    have RC := Lib.hid hq
    clear ho hq
    simp only [List.length_cons, List.length_nil, Nat.zero_add, Nat.reduceAdd]
    refine hK.out _ _ ?hS36 (fun hHeld => ?_)
    case hS36 => exact ⟨(B2.out.below HB1.out B2.out.lt).cell 0, (B2.out.below HB1.out B2.out.lt).cell 1, (B2.out.below HB1.out B2.out.lt).cell 2, (RL.out.kept HB1.out).cl 5 _ rfl, (RL.out.kept HB1.out).cl 6 _ rfl, (RL.out.kept HB1.out).cl 7 _ rfl, (RL.out.kept HB1.out).cl 8 _ rfl, (RL.out.kept HB1.out).cl 9 _ rfl, (RL.out.kept HB1.out).cl 10 _ rfl, (RL.out.kept HB1.out).cl 17 _ rfl, (RL.out.kept HB1.out).cl 18 _ rfl, (RL.out.kept HB1.out).cl 19 _ rfl, (RL.out.kept HB1.out).cl 20 _ rfl, (RL.out.kept HB1.out).cl 21 _ rfl, (RL.out.kept HB1.out).cl 22 _ rfl⟩
    clear hK K
    try simp only [Act.put, List.setIfInBounds_toArray, List.set_cons_zero, List.set_cons_succ]
    refine wpAnyH_ready (rs := [30]) (by kernel_rfl) (by simp) ?_
    refine (AllReadyH.cons (o := ⟨some 36, _, _, _, _, _⟩) rfl (fun K hK => ?_) AllReadyH.nil)
    go_simp
    have HS1 := HB1
    refine (rsame_c 2 1 [7, 8] 2 1 [7, 8] A3 _ c3 2 _ RC.out RQ.out (by decide) (by decide)).mono ?_
    rintro e w8 ⟨rfl, hb'⟩
    have HB1 := Lib.hid ((HB1.out).trans (hb'.mono (HB1.out).size))
    have RQ := Lib.hid ((RQ.out).kept hb')
    have RC := Lib.hid ((RC.out).kept hb')
    clear hb'
    rw [f10c]
    refine hK.out _ _ ?hS37 (fun hHeld => ?_)
    case hS37 => exact ⟨(B2.out.below HB1.out B2.out.lt).cell 0, (B2.out.below HB1.out B2.out.lt).cell 1, (B2.out.below HB1.out B2.out.lt).cell 2, (RL.out.kept HB1.out).cl 5 _ rfl, (RL.out.kept HB1.out).cl 6 _ rfl, (RL.out.kept HB1.out).cl 7 _ rfl, (RL.out.kept HB1.out).cl 8 _ rfl, (RL.out.kept HB1.out).cl 9 _ rfl, (RL.out.kept HB1.out).cl 10 _ rfl, (RL.out.kept HB1.out).cl 17 _ rfl, (RL.out.kept HB1.out).cl 18 _ rfl, (RL.out.kept HB1.out).cl 19 _ rfl, (RL.out.kept HB1.out).cl 20 _ rfl, (RL.out.kept HB1.out).cl 21 _ rfl, (RL.out.kept HB1.out).cl 22 _ rfl⟩
    clear hK K
    try simp only [Act.put, List.setIfInBounds_toArray, List.set_cons_zero, List.set_cons_succ]
    refine wpAnyH_take (i := 31) (oi := ⟨some 37, _, _, _, _, _⟩) (v := ?v38) rfl (by kernel_rfl) (by kernel_rfl) (by kernel_rfl) (fun _ _ _ h => h) (Or.inl ⟨by rfl, ?h38⟩) (by assumption) ?r38
    case h38 => (intro w hSw; (try dsimp only at hSw); go_simp; try with_reducible rfl)
    try simp only [Act.put, List.setIfInBounds_toArray, List.set_cons_zero, List.set_cons_succ]
    refine wpAnyH_take (i := 32) (oi := ⟨some 0, _, _, _, _, _⟩) (v := ?v39) rfl (by kernel_rfl) (by kernel_rfl) (by kernel_rfl) (fun _ _ _ h => h) (Or.inl ⟨by rfl, ?h39⟩) (by assumption) ?r39
    case h39 => (intro w hSw; (try dsimp only at hSw); go_simp; try with_reducible rfl)
    try simp only [Act.put, List.setIfInBounds_toArray, List.set_cons_zero, List.set_cons_succ]
    refine wpAnyH_done (by kernel_rfl) ?_ _
    clear hHeld
    go_wp2_with fail
    go_ret
    exact ⟨rfl, HB.out.trans (HB1.out.mono HB.out.size)⟩


end Go.Proofs.Ytjlajggilcihoaa
