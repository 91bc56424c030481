/- What the law BandsLie of layer 10 answers: true. -/
import Derived.Test.YtjlajggilcihoaaBdL1
import Derived.Test.YtjlajggilcihoaaOpen
import Derived.Deep.DeepCutAuto
import Derived.Deep.CutBlock
namespace Go.Proofs.Ytjlajggilcihoaa
open Go.RowKit Go.Sort Go.Shelf
set_option linter.unusedVariables false
set_option linter.unusedSimpArgs false


theorem all_levels : ((bandsI 64 64 6).all fun b => decide (-1000 ≤ b.l) && decide (b.l ≤ 1000)) = true := by kernel_rfl
theorem all_len : (bandsI 64 64 6).length = 19 := by kernel_rfl
theorem all_l (k : Nat) : -1000 ≤ ((bandsI 64 64 6).getD k ⟨0, 0, 0, 0, 0, 0⟩).l ∧ ((bandsI 64 64 6).getD k ⟨0, 0, 0, 0, 0, 0⟩).l ≤ 1000 := by
  rw [List.getD_eq_getElem?_getD]
  by_cases hk : k < (bandsI 64 64 6).length
  · rw [List.getElem?_eq_getElem hk]
    have h := (List.all_eq_true.1 all_levels) _ (List.getElem_mem hk)
    simpa using h
  · rw [List.getElem?_eq_none (by omega)]
    decide
theorem all_par_tab : ((List.range 19).all fun i => decide (parL (bandsI 64 64 6) (i : Int) = parI (i : Int))) = true := by kernel_rfl
theorem all_par (i : Int) : parL (bandsI 64 64 6) i = parI i := by
  by_cases h : 0 ≤ i ∧ i < 19
  · obtain ⟨n, rfl⟩ := Int.eq_ofNat_of_zero_le h.1
    have := (List.all_eq_true.1 all_par_tab) n (List.mem_range.2 (by omega))
    simpa using this
  · rw [parL_none (fun j hj => by simp [isPar, all_len]; omega)]
    unfold parI
    rw [if_pos (by omega)]
theorem r10same_n (bs : List Bd) (N : Nat) (hN : N = bs.length) (A A' : Option Addr) (c c' : Nat) (w : World) (hA : ReadsB w A bs) (hB : ReadsB w A' bs) (hn : bs.length ≤ 1000000) :
    Calls Try.prog 9 #[.slice A N c, .slice A' N c'] w fun e w' => e = .returned (.bool true) ∧ Below w.heap.size w w' := by
  subst hN
  exact r10same_c bs A A' c c' w hA hB hn
theorem rparent_c (A : Option Addr) (c : Nat) (i : Int) (w : World) (hA : ReadsB w A (bandsI 64 64 6)) :
    Calls Try.prog 14 #[.slice A 19 c, .int .i64 i] w fun e w' => e = .returned (.int .i64 (parI i)) ∧ Below w.heap.size w w' := by
  have h := r10parent_c (bandsI 64 64 6) A c i w hA (by rw [all_len]; decide) all_l
  rw [all_par, all_len] at h
  exact h
theorem getKI {w h d : Int} {n k : Nat} {l : List Bd} (e : l = bandsK w h d n) (hk : k < l.length) : l[k] = bandK w h d k := by subst e; simp [bandsK]
set_option maxRecDepth 100000 in
set_option maxHeartbeats 16000000 in
theorem lie_y (w h d stop : Int) (W : World) (hok : okF w h d = true) :
    Calls Try.prog 3 #[.int .i64 w, .int .i64 h, .agg #[.int .i64 d, .int .i64 stop]] W fun e w' => e = .returned (.bool true) ∧ Below W.heap.size W w' := by
  have HK := Lib.hid hok
  have HBI := Lib.hid (show bandsI w h d = bandsK w h d (3 * d.toNat + 1) by unfold bandsI; rw [if_pos hok])
  have HBL := Lib.hid (bandsI_len w h d)
  have HB := Lib.hid (Below.refl W.heap.size W)
  obtain ⟨N, hN⟩ : ∃ N, N = (bandsI w h d).length := ⟨_, rfl⟩
  have HNN := Lib.hid hN
  have hN19 : N ≤ 19 := by rw [hN]; exact HBL.out
  have HN := Lib.hid (show N = (3 * d.toNat + 1) by rw [hN, HBI.out]; exact bandsK_length _ _ _ _)
  clear hok hN
  go_enter Try.func3, Try.ntmps3
  go_wp2_with fail
  have HB := Lib.hid (below_alloc_ (HB.out) (.cells #[.int .i64 d, .int .i64 stop] 22))
  have hzw : (W.alloc (.cells #[.int .i64 d, .int .i64 stop] 22)).heap.size = W.heap.size + 1 := by simp only [World.size_alloc]
  have B5 := Blk.new (W) 22 #[.int .i64 d, .int .i64 stop]
  skip
  have B5 := Lib.hid B5
  generalize W.alloc (.cells #[.int .i64 d, .int .i64 stop] 22) = w1 at *
  clear hzw
  have HB1 := Lib.hid (Below.refl w1.heap.size w1)
  refine (first_c _).mono ?_
  rintro e w2 ⟨rfl, hb'⟩
  have HB1 := Lib.hid ((HB1.out).trans (hb'.mono (HB1.out).size))
  clear hb'
  obtain ⟨zB50, zB51⟩ := (B5.out.below HB1.out B5.out.lt).cells2
  go_upto_region 3 with fail
  clear zB50 zB51
  have HB1 := Lib.hid ((HB1.out).drew)
  refine wp_region_held_drew (S := (fun w' => w'.cell? ⟨W.heap.size, 0, none⟩ = some (.int .i64 d) ∧ w'.cell? ⟨W.heap.size, 1, none⟩ = some (.int .i64 stop))) (by kernel_rfl) ?hS0 (fun hHeld => ?_)
  case hS0 => exact ⟨(B5.out.below HB1.out B5.out.lt).cell 0, (B5.out.below HB1.out B5.out.lt).cell 1⟩
  refine wpAnyH_take (i := 0) (oi := ⟨some 17, _, _, _, _, _⟩) (v := ?v22) rfl (by kernel_rfl) (by kernel_rfl) (by kernel_rfl) (fun _ _ _ h => h) (Or.inl ⟨by rfl, ?h22⟩) (by assumption) ?r22
  case h22 => (intro w hSw; (try dsimp only at hSw); go_simp; try with_reducible rfl)
  try simp only [Act.put, List.setIfInBounds_toArray, List.set_cons_zero, List.set_cons_succ]
  refine wpAnyH_take (i := 1) (oi := ⟨some 18, _, _, _, _, _⟩) (v := ?v23) rfl (by kernel_rfl) (by kernel_rfl) (by kernel_rfl) (fun _ _ _ h => h) (Or.inl ⟨by rfl, ?h23⟩) (by assumption) ?r23
  case h23 => (intro w hSw; (try dsimp only at hSw); go_simp; try with_reducible rfl)
  try simp only [Act.put, List.setIfInBounds_toArray, List.set_cons_zero, List.set_cons_succ]
  refine wpAnyH_take (i := 2) (oi := ⟨some 19, _, _, _, _, _⟩) (v := ?v24) rfl (by kernel_rfl) (by kernel_rfl) (by kernel_rfl) (fun _ _ _ h => h) (Or.inl ⟨by rfl, ?h24⟩) (by assumption) ?r24
  case h24 => (intro w hSw; (try dsimp only at hSw); go_simp; try with_reducible rfl)
  try simp only [Act.put, List.setIfInBounds_toArray, List.set_cons_zero, List.set_cons_succ]
  refine wpAnyH_take (i := 3) (oi := ⟨some 20, _, _, _, _, _⟩) (v := ?v25) rfl (by kernel_rfl) (by kernel_rfl) (by kernel_rfl) (fun _ _ _ h => h) (Or.inl ⟨by rfl, ?h25⟩) (by assumption) ?r25
  case h25 => (intro w hSw; (try dsimp only at hSw); go_simp; try with_reducible rfl)
  try simp only [Act.put, List.setIfInBounds_toArray, List.set_cons_zero, List.set_cons_succ]
  refine wpAnyH_ready (rs := [4]) (by kernel_rfl) (by simp) ?_
  refine (AllReadyH.cons (o := ⟨some 8, _, _, _, _, _⟩) rfl (fun K hK => ?_) AllReadyH.nil)
  go_simp
  have hlt := HB1.out.size
  have HB1 := Lib.hid (below_alloc_ (HB1.out) (.cells #[.int .i64 0] 3))
  have hzw : (w2.drew.alloc (.cells #[.int .i64 0] 3)).heap.size = w2.drew.heap.size + 1 := by simp only [World.size_alloc]
  have B8 := Blk.new (w2.drew) 3 #[.int .i64 0]
  skip
  have B8 := Lib.hid B8
  have B8 := Lib.hid (show Blk _ (w2.heap.size) _ _ from B8.out)
  try rw [show (w2.alloc (.cells #[.int .i64 0] 3)).drew = w2.drew.alloc (.cells #[.int .i64 0] 3) from rfl]
  generalize w2.drew.alloc (.cells #[.int .i64 0] 3) = w3 at *
  have hge8 : w1.heap.size ≤ w2.heap.size := hlt
  clear hzw hlt
  refine hK.out _ _ ?hS26 (fun hHeld => ?_)
  case hS26 => exact ⟨(B5.out.below HB1.out B5.out.lt).cell 0, (B5.out.below HB1.out B5.out.lt).cell 1⟩
  clear hK K
  try simp only [Act.put, List.setIfInBounds_toArray, List.set_cons_zero, List.set_cons_succ]
  refine wpAnyH_take (i := 5) (oi := ⟨some 7, _, _, _, _, _⟩) (v := ?v27) rfl (by kernel_rfl) (by kernel_rfl) (by kernel_rfl) (fun _ _ _ h => h) (Or.inl ⟨by rfl, ?h27⟩) (by assumption) ?r27
  case h27 => (intro w hSw; (try dsimp only at hSw); go_simp; try with_reducible rfl)
  try simp only [Act.put, List.setIfInBounds_toArray, List.set_cons_zero, List.set_cons_succ]
  refine wpAnyH_ready (rs := [6]) (by kernel_rfl) (by simp) ?_
  refine (AllReadyH.cons (o := ⟨none, _, _, _, _, _⟩) rfl (fun K hK => ?_) AllReadyH.nil)
  have zo := B8.out.cells1
  have zf := B8.out.frozen 0
  go_simp
  clear zo zf
  have h8 := B8.out.set_ 0 (.int .i64 stop)
  simp at h8
  have B8 := Lib.hid h8
  have HB1 := Lib.hid (HB1.out.setCell (p := ⟨w2.heap.size, 0, none⟩) hge8 (.int .i64 stop))
  clear h8
  generalize w3.setCell ⟨w2.heap.size, 0, none⟩ (.int .i64 stop) = w4 at *
  refine hK.out _ _ ?hS28 (fun hHeld => ?_)
  case hS28 => exact ⟨(B5.out.below HB1.out B5.out.lt).cell 0, (B5.out.below HB1.out B5.out.lt).cell 1⟩
  clear hK K
  try simp only [Act.put, List.setIfInBounds_toArray, List.set_cons_zero, List.set_cons_succ]
  refine wpAnyH_done (by kernel_rfl) ?_ _
  clear hHeld
  obtain ⟨b8, hb8⟩ : ∃ n, n = w2.heap.size := ⟨_, rfl⟩
  rw [← hb8] at B8 hge8 ⊢
  clear hb8
  have B5 := Lib.hid (B5.out.below HB1.out B5.out.lt)
  have HB := Lib.hid (HB.out.trans (HB1.out.mono HB.out.size))
  have HB1 := Lib.hid (Below.refl w4.heap.size w4)
  clear hge8
  go_wp2_with fail
  refine (r10list_c w h d _).mono ?_
  rintro e w5 ⟨v, rfl, ho, hb'⟩
  have HB1 := Lib.hid ((HB1.out).trans (hb'.mono (HB1.out).size))
  clear hb'
  obtain ⟨A1, c1, rfl, hq⟩ := ho.slice
  rw [← HNN.out]
  have RL := Lib.hid hq
  clear ho hq
  go_upto_region 5 with fail
  obtain ⟨ad, ead, hadl, _⟩ := RL.out.2 (by have := HNN.out; have := HN.out; omega)
  subst ead
  have hlt := HB1.out.size
  have l8 := (B8.out.below HB1.out B8.out.lt).lt
  have HB1 := Lib.hid (below_alloc_ (HB1.out) (.cells #[.slice (some ad) N c1] 24))
  have RL := Lib.hid ((RL.out).alloc (.cells #[.slice (some ad) N c1] 24))
  have hzw : (w5.alloc (.cells #[.slice (some ad) N c1] 24)).heap.size = w5.heap.size + 1 := by simp only [World.size_alloc]
  have B9 := Blk.new (w5) 24 #[.slice (some ad) N c1]
  skip
  have B9 := Lib.hid B9
  generalize w5.alloc (.cells #[.slice (some ad) N c1] 24) = w6 at *
  obtain ⟨b9, hb9⟩ : ∃ n, n = w5.heap.size := ⟨_, rfl⟩
  rw [← hb9] at B9 hzw l8 hadl ⊢
  have L8 := Lib.hid l8
  have LA := Lib.hid hadl
  clear hadl
  clear hzw hlt hb9 l8
  have B5 := Lib.hid (B5.out.below HB1.out B5.out.lt)
  have B8 := Lib.hid (B8.out.below HB1.out B8.out.lt)
  have HB := Lib.hid (HB.out.trans (HB1.out.mono HB.out.size))
  have HB1 := Lib.hid (Below.refl w6.heap.size w6)
  have HB1 := Lib.hid ((HB1.out).drew)
  refine wp_region_held_drew (S := (fun w' => w'.cell? ⟨b9, 0, none⟩ = some (.slice (some ad) N c1))) (by kernel_rfl) ?hS0 (fun hHeld => ?_)
  case hS0 => exact (B9.out.below HB1.out B9.out.lt).cell 0
  refine wpAnyH_take (i := 0) (oi := ⟨some 25, _, _, _, _, _⟩) (v := ?v29) rfl (by kernel_rfl) (by kernel_rfl) (by kernel_rfl) (fun _ _ _ h => h) (Or.inl ⟨by rfl, ?h29⟩) (by assumption) ?r29
  case h29 => (intro w hSw; (try dsimp only at hSw); go_simp; try with_reducible rfl)
  try simp only [Act.put, List.setIfInBounds_toArray, List.set_cons_zero, List.set_cons_succ]
  refine wpAnyH_take (i := 1) (oi := ⟨some 26, _, _, _, _, _⟩) (v := ?v30) rfl (by kernel_rfl) (by kernel_rfl) (by kernel_rfl) (fun _ _ _ h => h) (Or.inl ⟨by rfl, ?h30⟩) (by assumption) ?r30
  case h30 => (intro w hSw; (try dsimp only at hSw); go_simp; try with_reducible rfl)
  try simp only [Act.put, List.setIfInBounds_toArray, List.set_cons_zero, List.set_cons_succ]
  refine wpAnyH_take (i := 2) (oi := ⟨some 27, _, _, _, _, _⟩) (v := ?v31) rfl (by kernel_rfl) (by kernel_rfl) (by kernel_rfl) (fun _ _ _ h => h) (Or.inl ⟨by rfl, ?h31⟩) (by assumption) ?r31
  case h31 => (intro w hSw; (try dsimp only at hSw); go_simp; try with_reducible rfl)
  try simp only [Act.put, List.setIfInBounds_toArray, List.set_cons_zero, List.set_cons_succ]
  refine wpAnyH_take (i := 4) (oi := ⟨some 29, _, _, _, _, _⟩) (v := ?v32) rfl (by kernel_rfl) (by kernel_rfl) (by kernel_rfl) (fun _ _ _ h => h) (Or.inl ⟨by rfl, ?h32⟩) (by assumption) ?r32
  case h32 => (intro w hSw; (try dsimp only at hSw); go_simp; try with_reducible rfl)
  try simp only [Act.put, List.setIfInBounds_toArray, List.set_cons_zero, List.set_cons_succ]
  refine wpAnyH_ready (rs := [3]) (by kernel_rfl) (by simp) ?_
  refine (AllReadyH.cons (o := ⟨some 28, _, _, _, _, _⟩) rfl (fun K hK => ?_) AllReadyH.nil)
  go_simp
  have HS1 := HB1
  refine (blist_c w h d _).mono ?_
  rintro e w7 ⟨v, rfl, ho, hb'⟩
  have HB1 := Lib.hid ((HB1.out).trans (hb'.mono (HB1.out).size))
  clear hb'
  obtain ⟨A2, c2, rfl, hq⟩ := ho.slice
  rw [← HNN.out]
  have RQ := Lib.hid hq
  clear ho hq
  refine hK.out _ _ ?hS33 (fun hHeld => ?_)
  case hS33 => exact (B9.out.below HB1.out B9.out.lt).cell 0
  clear hK K
  try simp only [Act.put, List.setIfInBounds_toArray, List.set_cons_zero, List.set_cons_succ]
  refine wpAnyH_ready (rs := [5]) (by kernel_rfl) (by simp) ?_
  refine (AllReadyH.cons (o := ⟨some 30, _, _, _, _, _⟩) rfl (fun K hK => ?_) AllReadyH.nil)
  go_simp
  have HS1 := HB1
  refine (r10same_n (bandsI w h d) N HNN.out A2 (some ad) c2 c1 _ RQ.out (RL.out.kept HB1.out) (by have := HBL.out; omega)).mono ?_
  rintro e w8 ⟨rfl, hb'⟩
  have HB1 := Lib.hid ((HB1.out).trans (hb'.mono (HB1.out).size))
  have RQ := Lib.hid ((RQ.out).kept hb')
  clear hb'
  refine hK.out _ _ ?hS34 (fun hHeld => ?_)
  case hS34 => exact (B9.out.below HB1.out B9.out.lt).cell 0
  clear hK K
  try simp only [Act.put, List.setIfInBounds_toArray, List.set_cons_zero, List.set_cons_succ]
  refine wpAnyH_take (i := 6) (oi := ⟨some 31, _, _, _, _, _⟩) (v := ?v35) rfl (by kernel_rfl) (by kernel_rfl) (by kernel_rfl) (fun _ _ _ h => h) (Or.inl ⟨by rfl, ?h35⟩) (by assumption) ?r35
  case h35 => (intro w hSw; (try dsimp only at hSw); go_simp; try with_reducible rfl)
  try simp only [Act.put, List.setIfInBounds_toArray, List.set_cons_zero, List.set_cons_succ]
  refine wpAnyH_done (by kernel_rfl) ?_ _
  clear hHeld
  go_upto_region 8 with fail
  have hlt := HB1.out.size
  have l9 := (B9.out.below HB1.out B9.out.lt).lt
  have HB1 := Lib.hid (below_alloc_ (below_alloc_ (HB1.out) (.cells #[.int .i64 0] 3)) (.cells #[.bool true] 4))
  have hzw : ((w8.alloc (.cells #[.int .i64 0] 3)).alloc (.cells #[.bool true] 4)).heap.size = w8.heap.size + 2 := by simp only [World.size_alloc]
  have BN := (Blk.new (w8) 3 #[.int .i64 0]).alloc (.cells #[.bool true] 4)
  skip
  have BN := Lib.hid BN
  have BO := Blk.new (w8.alloc (.cells #[.int .i64 0] 3)) 4 #[.bool true]
  rw [show (w8.alloc (.cells #[.int .i64 0] 3)).heap.size = w8.heap.size + 1 by simp only [World.size_alloc]] at BO
  have BO := Lib.hid BO
  generalize (w8.alloc (.cells #[.int .i64 0] 3)).alloc (.cells #[.bool true] 4) = w9 at *
  obtain ⟨bn, hbn⟩ : ∃ n, n = w8.heap.size := ⟨_, rfl⟩
  rw [← hbn] at BN BO hzw l9 hlt ⊢
  have L9 := Lib.hid l9
  have HLB := Lib.hid hlt
  have HBo := HB
  clear hlt hbn l9
  have HZ7 := Lib.hid hzw
  clear hzw
  have B5 := Lib.hid (B5.out.below HB1.out B5.out.lt)
  have B8 := Lib.hid (B8.out.below HB1.out B8.out.lt)
  have B9 := Lib.hid (B9.out.below HB1.out B9.out.lt)
  have RL := Lib.hid (RL.out.kept HB1.out)
  have HB := Lib.hid (HB.out.trans (HB1.out.mono HB.out.size))
  have HB1 := Lib.hid (Below.refl w9.heap.size w9)
  go_wp2_with fail
  refine (ball_c w h d _).mono ?_
  rintro e wq ⟨rfl, rfl⟩
  have l10 := BO.out.lt
  have HB1 := Lib.hid (below_alloc_ (below_alloc_ (below_alloc_ (HB1.out) (.cells #[.int .i64 w] 3)) (.cells #[.int .i64 h] 3)) (.cells #[.int .i64 d] 3))
  have BN := Lib.hid ((((BN.out).alloc (.cells #[.int .i64 w] 3)).alloc (.cells #[.int .i64 h] 3)).alloc (.cells #[.int .i64 d] 3))
  have BO := Lib.hid ((((BO.out).alloc (.cells #[.int .i64 w] 3)).alloc (.cells #[.int .i64 h] 3)).alloc (.cells #[.int .i64 d] 3))
  have hzw : (((w9.alloc (.cells #[.int .i64 w] 3)).alloc (.cells #[.int .i64 h] 3)).alloc (.cells #[.int .i64 d] 3)).heap.size = w9.heap.size + 3 := by simp only [World.size_alloc]
  have G1 := ((Blk.new (w9) 3 #[.int .i64 w]).alloc (.cells #[.int .i64 h] 3)).alloc (.cells #[.int .i64 d] 3)
  skip
  have G1 := Lib.hid G1
  have G2 := (Blk.new (w9.alloc (.cells #[.int .i64 w] 3)) 3 #[.int .i64 h]).alloc (.cells #[.int .i64 d] 3)
  rw [show (w9.alloc (.cells #[.int .i64 w] 3)).heap.size = w9.heap.size + 1 by simp only [World.size_alloc]] at G2
  have G2 := Lib.hid G2
  have G3 := Blk.new ((w9.alloc (.cells #[.int .i64 w] 3)).alloc (.cells #[.int .i64 h] 3)) 3 #[.int .i64 d]
  rw [show ((w9.alloc (.cells #[.int .i64 w] 3)).alloc (.cells #[.int .i64 h] 3)).heap.size = w9.heap.size + 1 + 1 by simp only [World.size_alloc]] at G3
  have G3 := Lib.hid G3
  generalize ((w9.alloc (.cells #[.int .i64 w] 3)).alloc (.cells #[.int .i64 h] 3)).alloc (.cells #[.int .i64 d] 3) = w10 at *
  simp only [World.size_alloc]
  obtain ⟨g1, hg1⟩ : ∃ n, n = w9.heap.size := ⟨_, rfl⟩
  rw [← hg1] at G1 G2 G3 hzw l10 ⊢
  clear hg1
  have B8s := Lib.hid (B8.out.below HB1.out B8.out.lt)
  have B9s := Lib.hid (B9.out.below HB1.out B9.out.lt)
  have RLs := Lib.hid (RL.out.kept HB1.out)
  go_wp2_with fail
  refine ((ballF_yes w h d _ _ _ 12 #[.pointer (some ⟨bn + 1, 0, none⟩), .pointer (some ⟨bn, 0, none⟩), .pointer (some ⟨b9, 0, none⟩), .pointer (some ⟨b8, 0, none⟩)] (fun _ _ => rfl) w10 HK.out G1.out G2.out G3.out) (fun (k : Nat) (X : World) => Blk X (bn + 1) 4 #[.bool true] ∧ Blk X bn 3 #[.int .i64 k] ∧ ButTwo w10.heap.size (bn + 1) bn w10 X) (fun X => ∃ k : Nat, 1 ≤ k ∧ k ≤ N ∧ (k : Int) = stop ∧ Blk X (bn + 1) 4 #[.bool true] ∧ Blk X bn 3 #[.int .i64 k] ∧ ButTwo w10.heap.size (bn + 1) bn w10 X) w10 (Below.refl _ _) ?hY ?hR ⟨BO.out, BN.out, ButTwo.refl _ _ _ _⟩).mono ?_
  case hY => exact fun k A B ⟨a1, a2, a3⟩ hb => ⟨a1.below hb a1.lt, a2.below hb a2.lt, a3.trans_ hb a3.size⟩
  case hR =>
    intro k args X1 hk hJ hK hz hE
    obtain ⟨j1, j2, j3⟩ := hJ
    obtain rfl : args = _ := hE
    have hz7 := HZ7.out
    have l8 := L8.out
    have l9 := L9.out
    have la := LA.out
    have hkN : k < N := by rw [HN.out]; exact hk
    have hkl : k < (bandsI w h d).length := by rw [← HNN.out]; exact hkN
    obtain ⟨ad2, e7, _, g0⟩ := ReadsB.at_ RLs.out hkl
    injection e7 with e7
    subst e7
    have hgk : (bandsI w h d)[k] = bandK w h d k := getKI HBI.out hkl
    rw [hgk] at g0
    have hs6 : Six X1 (ad.add (k * 6)) (bandK w h d k) := by
      have hq : ∀ p : Addr, p.block = ad.block → X1.cell? p = w10.cell? p := fun p hp => j3.cell (by omega) (by omega) (by omega)
      obtain ⟨g0, g1, g2, g3, g4, g5⟩ := g0
      exact ⟨(hq _ (block_of_add _ _)).trans g0, (hq ⟨(ad.add (k * 6)).block, (ad.add (k * 6)).off + 1, none⟩ (block_of_add _ _)).trans g1, (hq ⟨(ad.add (k * 6)).block, (ad.add (k * 6)).off + 2, none⟩ (block_of_add _ _)).trans g2, (hq ⟨(ad.add (k * 6)).block, (ad.add (k * 6)).off + 3, none⟩ (block_of_add _ _)).trans g3, (hq ⟨(ad.add (k * 6)).block, (ad.add (k * 6)).off + 4, none⟩ (block_of_add _ _)).trans g4, (hq ⟨(ad.add (k * 6)).block, (ad.add (k * 6)).off + 5, none⟩ (block_of_add _ _)).trans g5⟩
    refine (lie1_c (bn + 1) bn b9 b8 k N (bandK w h d k) ad c1 stop w10.heap.size X1 hkN (by omega) j1 j2 (j3.blk B9s.out (by omega) (by omega) (by omega)) (j3.blk B8s.out (by omega) (by omega) (by omega)) (by omega) hs6 (by omega) (by omega) hz).mono ?_
    rintro e X2 ⟨rfl, m1, m2, m3⟩
    have hKK : KeepB (fun k => k = g1 ∨ k = g1 + 1 ∨ k = g1 + 1 + 1) X1 X2 := ⟨m3.size, fun i hi => m3.block i (by rcases hi with hi | hi | hi <;> omega) (by rcases hi with hi | hi | hi <;> omega) (by rcases hi with hi | hi | hi <;> omega)⟩
    by_cases hs : ((k : Int) + 1) = stop
    · exact .inr ⟨by simp [hs], k + 1, by omega, by omega, by omega, m1, m2, j3.trans m3⟩
    · exact .inl ⟨by simp [hs], ⟨m1, m2, j3.trans m3⟩, hKK⟩
  rintro e w11 ⟨⟨v, rfl⟩, hj⟩
  obtain ⟨k, hk0, hk1, j1, j2, j3⟩ : ∃ k : Nat, k ≤ N ∧ (k = N ∨ (1 ≤ k ∧ (k : Int) = stop)) ∧ Blk w11 (bn + 1) 4 #[.bool true] ∧ Blk w11 bn 3 #[.int .i64 k] ∧ ButTwo w10.heap.size (bn + 1) bn w10 w11 := by
    rcases hj with hj | ⟨k, a1, a2, a3, a4⟩
    · exact ⟨_, Nat.le_of_eq HN.out.symm, .inl HN.out.symm, hj⟩
    · exact ⟨k, a2, .inr ⟨a1, a3⟩, a4⟩
  have hz7 := HZ7.out
  have l8 := L8.out
  have l9 := L9.out
  have B8 := Lib.hid (j3.blk B8s.out (by omega) (by omega) (by omega))
  have B9 := Lib.hid (j3.blk B9s.out (by omega) (by omega) (by omega))
  have BO := Lib.hid j1
  have BN := Lib.hid j2
  skip
  have HBs := Lib.hid (HB.out.trans (HB1.out.mono HB.out.size))
  have hws := HBs.out.size
  have HLW := Lib.hid (show W.heap.size ≤ bn from Nat.le_trans HBo.out.size HLB.out)
  have hlw := HLW.out
  have HB := Lib.hid (HBs.out.trans (j3.below (B := W.heap.size) (by omega) (by omega) (by omega)))
  clear hj j1 j2 j3 hz7 l8 l9 l10 hzw hws hlw
  have HB1 := Lib.hid (Below.refl w11.heap.size w11)
  by_cases hkN : k = N
  · skip
    subst hkN
    have n1 : ((k : Int) != (k : Int)) = false := by simp
    have zB80 := (B8.out.below HB1.out B8.out.lt).cells1
    have zB90 := (B9.out.below HB1.out B9.out.lt).cells1
    have zBO0 := (BO.out.below HB1.out BO.out.lt).cells1
    have zBN0 := (BN.out.below HB1.out BN.out.lt).cells1
    go_wp2_with fail
    clear zB80
    clear zB90
    clear zBO0
    clear zBN0
    refine (r10list_c 64 64 6 _).mono ?_
    rintro e w12 ⟨v, rfl, ho, hb'⟩
    have HB1 := Lib.hid ((HB1.out).trans (hb'.mono (HB1.out).size))
    clear hb'
    obtain ⟨A3, c3, rfl, hq⟩ := ho.slice
    rw [all_len]
    have RA := Lib.hid hq
    clear ho hq
    have B8 := Lib.hid (B8.out.below HB1.out B8.out.lt)
    have B9 := Lib.hid (B9.out.below HB1.out B9.out.lt)
    have BN := Lib.hid (BN.out.below HB1.out BN.out.lt)
    have BO := Lib.hid (BO.out.below HB1.out BO.out.lt)
    have HB := Lib.hid (HB.out.trans (HB1.out.mono HB.out.size))
    have HB1 := Lib.hid (Below.refl w12.heap.size w12)
    go_wp2_with fail
    go_loopw [13] (fun v wr => ∃ i : Int, -1 ≤ i ∧ i ≤ 20 ∧ v = .int .i64 i ∧ Below w12.heap.size w12 wr) (fun v _ => (20 - intOf v).toNat)
    case atStart => exact ⟨-1, by omega, by omega, by go_num, HB1.out⟩
    case round =>
      obtain ⟨i, hi0, hi1, rfl, hb⟩ := hrel
      have HB1 := Lib.hid hb
      obtain ⟨wo, ewo⟩ : ∃ wo, wo = wr := ⟨_, rfl⟩
      subst ewo
      clear hb
      by_cases hi : i ≤ 19
      · skip
        go_wp2_with fail
        refine (bparent_c i _).mono ?_
        rintro e wz ⟨rfl, rfl⟩
        go_wp2_with fail
        refine (rparent_c A3 c3 i _ (RA.out.kept HB1.out)).mono ?_
        rintro e w13 ⟨rfl, hb'⟩
        have HB1 := Lib.hid ((HB1.out).trans (hb'.mono (HB1.out).size))
        clear hb'
        go_wp2_with fail
        go_roundw
        case rel => exact ⟨i + 1, by omega, by omega, by go_num, HB1.out⟩
        case measure => simp [intOf]; omega
      · skip
        by_cases hd : 0 ≤ d ∧ d ≤ 6
        · skip
          obtain ⟨d0, d1⟩ := hd
          have HC := Lib.hid (show cntI d = 3 * d + 1 by unfold cntI; rw [if_pos ⟨d0, d1⟩])
          have W1 : IntKind.i64.wrap (3 * d) = 3 * d := IntWalk.i64_in _ (by omega)
          have W2 : IntKind.i64.wrap (3 * d + 1) = 3 * d + 1 := IntWalk.i64_in _ (by omega)
          have zB80 := (B8.out.below HB1.out B8.out.lt).cells1
          go_upto_region 20 with fail
          have HCC := Lib.hid (fun (X : World) => (show Calls Try.prog 15 #[.int .i64 d] X fun e w' => e = .returned (.int .i64 (3 * d + 1)) ∧ Below X.heap.size X w' from by have h9 := Calls.bel (bcount_c d X); rw [HC.out] at h9; exact h9))
          have kq0 := cell_regrown zB80
          have qc0 := fun (d : Nat) (os : Array Obj) => Calls.regrown_of (HCC.out (grow (redrawn wo d) os))
          have qc1 := fun (d : Nat) (os : Array Obj) => Calls.regrown_of (Calls.bel (bparent_c stop (grow (redrawn wo d) os)))
          have qc2 := fun (d : Nat) (os : Array Obj) => Calls.regrown_of (rparent_c A3 c3 stop (grow (redrawn wo d) os) ((RA.out.kept HB1.out).kept (below_regrown wo d os)))
          clear zB80
          refine wp_region_quiet_below (by kernel_rfl) (by kernel_rfl) ?_
          repeat (go_big_quiet_step (first | with_reducible exact qc0 _ _ | with_reducible exact qc1 _ _ | with_reducible exact qc2 _ _))
          refine wpQuiet_nil ?_
          intro _ hw'
          obtain ⟨⟨dq, osq⟩, hw''⟩ := hw'
          subst hw''
          have hb' := below_regrown wo dq osq
          clear kq0 qc0 qc1 qc2
          have HB1 := Lib.hid ((HB1.out).trans (hb'.mono (HB1.out).size))
          clear hb'
          generalize grow (redrawn wo dq) osq = w13 at *
          go_wp2_with fail
          go_ret
          exact ⟨rfl, HB.out.trans (HB1.out.mono HB.out.size)⟩
        · skip
          have HC := Lib.hid (show cntI d = 0 by unfold cntI; rw [if_neg hd])
          have hd2 : d < 0 ∨ 6 < d := by omega
          clear hd
          rcases hd2 with hd2 | hd2
          · skip
            have zB80 := (B8.out.below HB1.out B8.out.lt).cells1
            go_upto_region 20 with fail
            have HCC := Lib.hid (fun (X : World) => (show Calls Try.prog 15 #[.int .i64 d] X fun e w' => e = .returned (.int .i64 (0)) ∧ Below X.heap.size X w' from by have h9 := Calls.bel (bcount_c d X); rw [HC.out] at h9; exact h9))
            have kq0 := cell_regrown zB80
            have qc0 := fun (d : Nat) (os : Array Obj) => Calls.regrown_of (HCC.out (grow (redrawn wo d) os))
            have qc1 := fun (d : Nat) (os : Array Obj) => Calls.regrown_of (Calls.bel (bparent_c stop (grow (redrawn wo d) os)))
            have qc2 := fun (d : Nat) (os : Array Obj) => Calls.regrown_of (rparent_c A3 c3 stop (grow (redrawn wo d) os) ((RA.out.kept HB1.out).kept (below_regrown wo d os)))
            clear zB80
            refine wp_region_quiet_below (by kernel_rfl) (by kernel_rfl) ?_
            repeat (go_big_quiet_step (first | with_reducible exact qc0 _ _ | with_reducible exact qc1 _ _ | with_reducible exact qc2 _ _))
            refine wpQuiet_nil ?_
            intro _ hw'
            obtain ⟨⟨dq, osq⟩, hw''⟩ := hw'
            subst hw''
            have hb' := below_regrown wo dq osq
            clear kq0 qc0 qc1 qc2
            have HB1 := Lib.hid ((HB1.out).trans (hb'.mono (HB1.out).size))
            clear hb'
            generalize grow (redrawn wo dq) osq = w13 at *
            go_wp2_with fail
            go_ret
            exact ⟨rfl, HB.out.trans (HB1.out.mono HB.out.size)⟩
          · skip
            have zB80 := (B8.out.below HB1.out B8.out.lt).cells1
            go_upto_region 20 with fail
            have HCC := Lib.hid (fun (X : World) => (show Calls Try.prog 15 #[.int .i64 d] X fun e w' => e = .returned (.int .i64 (0)) ∧ Below X.heap.size X w' from by have h9 := Calls.bel (bcount_c d X); rw [HC.out] at h9; exact h9))
            have kq0 := cell_regrown zB80
            have qc0 := fun (d : Nat) (os : Array Obj) => Calls.regrown_of (HCC.out (grow (redrawn wo d) os))
            have qc1 := fun (d : Nat) (os : Array Obj) => Calls.regrown_of (Calls.bel (bparent_c stop (grow (redrawn wo d) os)))
            have qc2 := fun (d : Nat) (os : Array Obj) => Calls.regrown_of (rparent_c A3 c3 stop (grow (redrawn wo d) os) ((RA.out.kept HB1.out).kept (below_regrown wo d os)))
            clear zB80
            refine wp_region_quiet_below (by kernel_rfl) (by kernel_rfl) ?_
            repeat (go_big_quiet_step (first | with_reducible exact qc0 _ _ | with_reducible exact qc1 _ _ | with_reducible exact qc2 _ _))
            refine wpQuiet_nil ?_
            intro _ hw'
            obtain ⟨⟨dq, osq⟩, hw''⟩ := hw'
            subst hw''
            have hb' := below_regrown wo dq osq
            clear kq0 qc0 qc1 qc2
            have HB1 := Lib.hid ((HB1.out).trans (hb'.mono (HB1.out).size))
            clear hb'
            generalize grow (redrawn wo dq) osq = w13 at *
            go_wp2_with fail
            go_ret
            exact ⟨rfl, HB.out.trans (HB1.out.mono HB.out.size)⟩
  · skip
    have hks : (k : Int) = stop := by rcases hk1 with h | h <;> omega
    have n1 : ((k : Int) != (N : Int)) = true := by simp; omega
    have n2 : ((k : Int) != stop) = false := by simp [hks]
    have n3 : ¬ (N : Int) < (k : Int) := by omega
    clear hks
    have zB80 := (B8.out.below HB1.out B8.out.lt).cells1
    have zB90 := (B9.out.below HB1.out B9.out.lt).cells1
    have zBO0 := (BO.out.below HB1.out BO.out.lt).cells1
    have zBN0 := (BN.out.below HB1.out BN.out.lt).cells1
    go_wp2_with fail
    clear zB80
    clear zB90
    clear zBO0
    clear zBN0
    refine (r10list_c 64 64 6 _).mono ?_
    rintro e w12 ⟨v, rfl, ho, hb'⟩
    have HB1 := Lib.hid ((HB1.out).trans (hb'.mono (HB1.out).size))
    clear hb'
    obtain ⟨A3, c3, rfl, hq⟩ := ho.slice
    rw [all_len]
    have RA := Lib.hid hq
    clear ho hq
    have B8 := Lib.hid (B8.out.below HB1.out B8.out.lt)
    have B9 := Lib.hid (B9.out.below HB1.out B9.out.lt)
    have BN := Lib.hid (BN.out.below HB1.out BN.out.lt)
    have BO := Lib.hid (BO.out.below HB1.out BO.out.lt)
    have HB := Lib.hid (HB.out.trans (HB1.out.mono HB.out.size))
    have HB1 := Lib.hid (Below.refl w12.heap.size w12)
    go_wp2_with fail
    go_loopw [13] (fun v wr => ∃ i : Int, -1 ≤ i ∧ i ≤ 20 ∧ v = .int .i64 i ∧ Below w12.heap.size w12 wr) (fun v _ => (20 - intOf v).toNat)
    case atStart => exact ⟨-1, by omega, by omega, by go_num, HB1.out⟩
    case round =>
      obtain ⟨i, hi0, hi1, rfl, hb⟩ := hrel
      have HB1 := Lib.hid hb
      obtain ⟨wo, ewo⟩ : ∃ wo, wo = wr := ⟨_, rfl⟩
      subst ewo
      clear hb
      by_cases hi : i ≤ 19
      · skip
        go_wp2_with fail
        refine (bparent_c i _).mono ?_
        rintro e wz ⟨rfl, rfl⟩
        go_wp2_with fail
        refine (rparent_c A3 c3 i _ (RA.out.kept HB1.out)).mono ?_
        rintro e w13 ⟨rfl, hb'⟩
        have HB1 := Lib.hid ((HB1.out).trans (hb'.mono (HB1.out).size))
        clear hb'
        go_wp2_with fail
        go_roundw
        case rel => exact ⟨i + 1, by omega, by omega, by go_num, HB1.out⟩
        case measure => simp [intOf]; omega
      · skip
        by_cases hd : 0 ≤ d ∧ d ≤ 6
        · skip
          obtain ⟨d0, d1⟩ := hd
          have HC := Lib.hid (show cntI d = 3 * d + 1 by unfold cntI; rw [if_pos ⟨d0, d1⟩])
          have W1 : IntKind.i64.wrap (3 * d) = 3 * d := IntWalk.i64_in _ (by omega)
          have W2 : IntKind.i64.wrap (3 * d + 1) = 3 * d + 1 := IntWalk.i64_in _ (by omega)
          have zB80 := (B8.out.below HB1.out B8.out.lt).cells1
          go_upto_region 20 with fail
          have HCC := Lib.hid (fun (X : World) => (show Calls Try.prog 15 #[.int .i64 d] X fun e w' => e = .returned (.int .i64 (3 * d + 1)) ∧ Below X.heap.size X w' from by have h9 := Calls.bel (bcount_c d X); rw [HC.out] at h9; exact h9))
          have kq0 := cell_regrown zB80
          have qc0 := fun (d : Nat) (os : Array Obj) => Calls.regrown_of (HCC.out (grow (redrawn wo d) os))
          have qc1 := fun (d : Nat) (os : Array Obj) => Calls.regrown_of (Calls.bel (bparent_c stop (grow (redrawn wo d) os)))
          have qc2 := fun (d : Nat) (os : Array Obj) => Calls.regrown_of (rparent_c A3 c3 stop (grow (redrawn wo d) os) ((RA.out.kept HB1.out).kept (below_regrown wo d os)))
          clear zB80
          refine wp_region_quiet_below (by kernel_rfl) (by kernel_rfl) ?_
          repeat (go_big_quiet_step (first | with_reducible exact qc0 _ _ | with_reducible exact qc1 _ _ | with_reducible exact qc2 _ _))
          refine wpQuiet_nil ?_
          intro _ hw'
          obtain ⟨⟨dq, osq⟩, hw''⟩ := hw'
          subst hw''
          have hb' := below_regrown wo dq osq
          clear kq0 qc0 qc1 qc2
          have HB1 := Lib.hid ((HB1.out).trans (hb'.mono (HB1.out).size))
          clear hb'
          generalize grow (redrawn wo dq) osq = w13 at *
          go_wp2_with fail
          go_ret
          exact ⟨rfl, HB.out.trans (HB1.out.mono HB.out.size)⟩
        · skip
          have HC := Lib.hid (show cntI d = 0 by unfold cntI; rw [if_neg hd])
          have hd2 : d < 0 ∨ 6 < d := by omega
          clear hd
          rcases hd2 with hd2 | hd2
          · skip
            have zB80 := (B8.out.below HB1.out B8.out.lt).cells1
            go_upto_region 20 with fail
            have HCC := Lib.hid (fun (X : World) => (show Calls Try.prog 15 #[.int .i64 d] X fun e w' => e = .returned (.int .i64 (0)) ∧ Below X.heap.size X w' from by have h9 := Calls.bel (bcount_c d X); rw [HC.out] at h9; exact h9))
            have kq0 := cell_regrown zB80
            have qc0 := fun (d : Nat) (os : Array Obj) => Calls.regrown_of (HCC.out (grow (redrawn wo d) os))
            have qc1 := fun (d : Nat) (os : Array Obj) => Calls.regrown_of (Calls.bel (bparent_c stop (grow (redrawn wo d) os)))
            have qc2 := fun (d : Nat) (os : Array Obj) => Calls.regrown_of (rparent_c A3 c3 stop (grow (redrawn wo d) os) ((RA.out.kept HB1.out).kept (below_regrown wo d os)))
            clear zB80
            refine wp_region_quiet_below (by kernel_rfl) (by kernel_rfl) ?_
            repeat (go_big_quiet_step (first | with_reducible exact qc0 _ _ | with_reducible exact qc1 _ _ | with_reducible exact qc2 _ _))
            refine wpQuiet_nil ?_
            intro _ hw'
            obtain ⟨⟨dq, osq⟩, hw''⟩ := hw'
            subst hw''
            have hb' := below_regrown wo dq osq
            clear kq0 qc0 qc1 qc2
            have HB1 := Lib.hid ((HB1.out).trans (hb'.mono (HB1.out).size))
            clear hb'
            generalize grow (redrawn wo dq) osq = w13 at *
            go_wp2_with fail
            go_ret
            exact ⟨rfl, HB.out.trans (HB1.out.mono HB.out.size)⟩
          · skip
            have zB80 := (B8.out.below HB1.out B8.out.lt).cells1
            go_upto_region 20 with fail
            have HCC := Lib.hid (fun (X : World) => (show Calls Try.prog 15 #[.int .i64 d] X fun e w' => e = .returned (.int .i64 (0)) ∧ Below X.heap.size X w' from by have h9 := Calls.bel (bcount_c d X); rw [HC.out] at h9; exact h9))
            have kq0 := cell_regrown zB80
            have qc0 := fun (d : Nat) (os : Array Obj) => Calls.regrown_of (HCC.out (grow (redrawn wo d) os))
            have qc1 := fun (d : Nat) (os : Array Obj) => Calls.regrown_of (Calls.bel (bparent_c stop (grow (redrawn wo d) os)))
            have qc2 := fun (d : Nat) (os : Array Obj) => Calls.regrown_of (rparent_c A3 c3 stop (grow (redrawn wo d) os) ((RA.out.kept HB1.out).kept (below_regrown wo d os)))
            clear zB80
            refine wp_region_quiet_below (by kernel_rfl) (by kernel_rfl) ?_
            repeat (go_big_quiet_step (first | with_reducible exact qc0 _ _ | with_reducible exact qc1 _ _ | with_reducible exact qc2 _ _))
            refine wpQuiet_nil ?_
            intro _ hw'
            obtain ⟨⟨dq, osq⟩, hw''⟩ := hw'
            subst hw''
            have hb' := below_regrown wo dq osq
            clear kq0 qc0 qc1 qc2
            have HB1 := Lib.hid ((HB1.out).trans (hb'.mono (HB1.out).size))
            clear hb'
            generalize grow (redrawn wo dq) osq = w13 at *
            go_wp2_with fail
            go_ret
            exact ⟨rfl, HB.out.trans (HB1.out.mono HB.out.size)⟩

set_option maxRecDepth 100000 in
set_option maxHeartbeats 16000000 in
theorem lie_n (w h d stop : Int) (W : World) (hok : okF w h d = false) :
    Calls Try.prog 3 #[.int .i64 w, .int .i64 h, .agg #[.int .i64 d, .int .i64 stop]] W fun e w' => e = .returned (.bool true) ∧ Below W.heap.size W w' := by
  have HK := Lib.hid hok
  have HBI := Lib.hid (show bandsI w h d = [] by unfold bandsI; rw [if_neg (by rw [hok]; decide)])
  have HBL := Lib.hid (bandsI_len w h d)
  have HB := Lib.hid (Below.refl W.heap.size W)
  obtain ⟨N, hN⟩ : ∃ N, N = (bandsI w h d).length := ⟨_, rfl⟩
  have HNN := Lib.hid hN
  have hN19 : N ≤ 19 := by rw [hN]; exact HBL.out
  have HN := Lib.hid (show N = 0 by rw [hN, HBI.out]; rfl)
  clear hok hN
  go_enter Try.func3, Try.ntmps3
  go_wp2_with fail
  have HB := Lib.hid (below_alloc_ (HB.out) (.cells #[.int .i64 d, .int .i64 stop] 22))
  have hzw : (W.alloc (.cells #[.int .i64 d, .int .i64 stop] 22)).heap.size = W.heap.size + 1 := by simp only [World.size_alloc]
  have B5 := Blk.new (W) 22 #[.int .i64 d, .int .i64 stop]
  skip
  have B5 := Lib.hid B5
  generalize W.alloc (.cells #[.int .i64 d, .int .i64 stop] 22) = w1 at *
  clear hzw
  have HB1 := Lib.hid (Below.refl w1.heap.size w1)
  refine (first_c _).mono ?_
  rintro e w2 ⟨rfl, hb'⟩
  have HB1 := Lib.hid ((HB1.out).trans (hb'.mono (HB1.out).size))
  clear hb'
  obtain ⟨zB50, zB51⟩ := (B5.out.below HB1.out B5.out.lt).cells2
  go_upto_region 3 with fail
  clear zB50 zB51
  have HB1 := Lib.hid ((HB1.out).drew)
  refine wp_region_held_drew (S := (fun w' => w'.cell? ⟨W.heap.size, 0, none⟩ = some (.int .i64 d) ∧ w'.cell? ⟨W.heap.size, 1, none⟩ = some (.int .i64 stop))) (by kernel_rfl) ?hS0 (fun hHeld => ?_)
  case hS0 => exact ⟨(B5.out.below HB1.out B5.out.lt).cell 0, (B5.out.below HB1.out B5.out.lt).cell 1⟩
  refine wpAnyH_take (i := 0) (oi := ⟨some 17, _, _, _, _, _⟩) (v := ?v36) rfl (by kernel_rfl) (by kernel_rfl) (by kernel_rfl) (fun _ _ _ h => h) (Or.inl ⟨by rfl, ?h36⟩) (by assumption) ?r36
  case h36 => (intro w hSw; (try dsimp only at hSw); go_simp; try with_reducible rfl)
  try simp only [Act.put, List.setIfInBounds_toArray, List.set_cons_zero, List.set_cons_succ]
  refine wpAnyH_take (i := 1) (oi := ⟨some 18, _, _, _, _, _⟩) (v := ?v37) rfl (by kernel_rfl) (by kernel_rfl) (by kernel_rfl) (fun _ _ _ h => h) (Or.inl ⟨by rfl, ?h37⟩) (by assumption) ?r37
  case h37 => (intro w hSw; (try dsimp only at hSw); go_simp; try with_reducible rfl)
  try simp only [Act.put, List.setIfInBounds_toArray, List.set_cons_zero, List.set_cons_succ]
  refine wpAnyH_take (i := 2) (oi := ⟨some 19, _, _, _, _, _⟩) (v := ?v38) rfl (by kernel_rfl) (by kernel_rfl) (by kernel_rfl) (fun _ _ _ h => h) (Or.inl ⟨by rfl, ?h38⟩) (by assumption) ?r38
  case h38 => (intro w hSw; (try dsimp only at hSw); go_simp; try with_reducible rfl)
  try simp only [Act.put, List.setIfInBounds_toArray, List.set_cons_zero, List.set_cons_succ]
  refine wpAnyH_take (i := 3) (oi := ⟨some 20, _, _, _, _, _⟩) (v := ?v39) rfl (by kernel_rfl) (by kernel_rfl) (by kernel_rfl) (fun _ _ _ h => h) (Or.inl ⟨by rfl, ?h39⟩) (by assumption) ?r39
  case h39 => (intro w hSw; (try dsimp only at hSw); go_simp; try with_reducible rfl)
  try simp only [Act.put, List.setIfInBounds_toArray, List.set_cons_zero, List.set_cons_succ]
  refine wpAnyH_ready (rs := [4]) (by kernel_rfl) (by simp) ?_
  refine (AllReadyH.cons (o := ⟨some 8, _, _, _, _, _⟩) rfl (fun K hK => ?_) AllReadyH.nil)
  go_simp
  have hlt := HB1.out.size
  have HB1 := Lib.hid (below_alloc_ (HB1.out) (.cells #[.int .i64 0] 3))
  have hzw : (w2.drew.alloc (.cells #[.int .i64 0] 3)).heap.size = w2.drew.heap.size + 1 := by simp only [World.size_alloc]
  have B8 := Blk.new (w2.drew) 3 #[.int .i64 0]
  skip
  have B8 := Lib.hid B8
  have B8 := Lib.hid (show Blk _ (w2.heap.size) _ _ from B8.out)
  try rw [show (w2.alloc (.cells #[.int .i64 0] 3)).drew = w2.drew.alloc (.cells #[.int .i64 0] 3) from rfl]
  generalize w2.drew.alloc (.cells #[.int .i64 0] 3) = w3 at *
  have hge8 : w1.heap.size ≤ w2.heap.size := hlt
  clear hzw hlt
  refine hK.out _ _ ?hS40 (fun hHeld => ?_)
  case hS40 => exact ⟨(B5.out.below HB1.out B5.out.lt).cell 0, (B5.out.below HB1.out B5.out.lt).cell 1⟩
  clear hK K
  try simp only [Act.put, List.setIfInBounds_toArray, List.set_cons_zero, List.set_cons_succ]
  refine wpAnyH_take (i := 5) (oi := ⟨some 7, _, _, _, _, _⟩) (v := ?v41) rfl (by kernel_rfl) (by kernel_rfl) (by kernel_rfl) (fun _ _ _ h => h) (Or.inl ⟨by rfl, ?h41⟩) (by assumption) ?r41
  case h41 => (intro w hSw; (try dsimp only at hSw); go_simp; try with_reducible rfl)
  try simp only [Act.put, List.setIfInBounds_toArray, List.set_cons_zero, List.set_cons_succ]
  refine wpAnyH_ready (rs := [6]) (by kernel_rfl) (by simp) ?_
  refine (AllReadyH.cons (o := ⟨none, _, _, _, _, _⟩) rfl (fun K hK => ?_) AllReadyH.nil)
  have zo := B8.out.cells1
  have zf := B8.out.frozen 0
  go_simp
  clear zo zf
  have h8 := B8.out.set_ 0 (.int .i64 stop)
  simp at h8
  have B8 := Lib.hid h8
  have HB1 := Lib.hid (HB1.out.setCell (p := ⟨w2.heap.size, 0, none⟩) hge8 (.int .i64 stop))
  clear h8
  generalize w3.setCell ⟨w2.heap.size, 0, none⟩ (.int .i64 stop) = w4 at *
  refine hK.out _ _ ?hS42 (fun hHeld => ?_)
  case hS42 => exact ⟨(B5.out.below HB1.out B5.out.lt).cell 0, (B5.out.below HB1.out B5.out.lt).cell 1⟩
  clear hK K
  try simp only [Act.put, List.setIfInBounds_toArray, List.set_cons_zero, List.set_cons_succ]
  refine wpAnyH_done (by kernel_rfl) ?_ _
  clear hHeld
  obtain ⟨b8, hb8⟩ : ∃ n, n = w2.heap.size := ⟨_, rfl⟩
  rw [← hb8] at B8 hge8 ⊢
  clear hb8
  have B5 := Lib.hid (B5.out.below HB1.out B5.out.lt)
  have HB := Lib.hid (HB.out.trans (HB1.out.mono HB.out.size))
  have HB1 := Lib.hid (Below.refl w4.heap.size w4)
  clear hge8
  go_wp2_with fail
  refine (r10list_c w h d _).mono ?_
  rintro e w5 ⟨v, rfl, ho, hb'⟩
  have HB1 := Lib.hid ((HB1.out).trans (hb'.mono (HB1.out).size))
  clear hb'
  obtain ⟨A1, c1, rfl, hq⟩ := ho.slice
  rw [← HNN.out]
  have RL := Lib.hid hq
  clear ho hq
  go_upto_region 5 with fail
  have hlt := HB1.out.size
  have l8 := (B8.out.below HB1.out B8.out.lt).lt
  have HB1 := Lib.hid (below_alloc_ (HB1.out) (.cells #[.slice A1 N c1] 24))
  have RL := Lib.hid ((RL.out).alloc (.cells #[.slice A1 N c1] 24))
  have hzw : (w5.alloc (.cells #[.slice A1 N c1] 24)).heap.size = w5.heap.size + 1 := by simp only [World.size_alloc]
  have B9 := Blk.new (w5) 24 #[.slice A1 N c1]
  skip
  have B9 := Lib.hid B9
  generalize w5.alloc (.cells #[.slice A1 N c1] 24) = w6 at *
  obtain ⟨b9, hb9⟩ : ∃ n, n = w5.heap.size := ⟨_, rfl⟩
  rw [← hb9] at B9 hzw l8 ⊢
  have L8 := Lib.hid l8
  clear hzw hlt hb9 l8
  have B5 := Lib.hid (B5.out.below HB1.out B5.out.lt)
  have B8 := Lib.hid (B8.out.below HB1.out B8.out.lt)
  have HB := Lib.hid (HB.out.trans (HB1.out.mono HB.out.size))
  have HB1 := Lib.hid (Below.refl w6.heap.size w6)
  have HB1 := Lib.hid ((HB1.out).drew)
  refine wp_region_held_drew (S := (fun w' => w'.cell? ⟨b9, 0, none⟩ = some (.slice A1 N c1))) (by kernel_rfl) ?hS0 (fun hHeld => ?_)
  case hS0 => exact (B9.out.below HB1.out B9.out.lt).cell 0
  refine wpAnyH_take (i := 0) (oi := ⟨some 25, _, _, _, _, _⟩) (v := ?v43) rfl (by kernel_rfl) (by kernel_rfl) (by kernel_rfl) (fun _ _ _ h => h) (Or.inl ⟨by rfl, ?h43⟩) (by assumption) ?r43
  case h43 => (intro w hSw; (try dsimp only at hSw); go_simp; try with_reducible rfl)
  try simp only [Act.put, List.setIfInBounds_toArray, List.set_cons_zero, List.set_cons_succ]
  refine wpAnyH_take (i := 1) (oi := ⟨some 26, _, _, _, _, _⟩) (v := ?v44) rfl (by kernel_rfl) (by kernel_rfl) (by kernel_rfl) (fun _ _ _ h => h) (Or.inl ⟨by rfl, ?h44⟩) (by assumption) ?r44
  case h44 => (intro w hSw; (try dsimp only at hSw); go_simp; try with_reducible rfl)
  try simp only [Act.put, List.setIfInBounds_toArray, List.set_cons_zero, List.set_cons_succ]
  refine wpAnyH_take (i := 2) (oi := ⟨some 27, _, _, _, _, _⟩) (v := ?v45) rfl (by kernel_rfl) (by kernel_rfl) (by kernel_rfl) (fun _ _ _ h => h) (Or.inl ⟨by rfl, ?h45⟩) (by assumption) ?r45
  case h45 => (intro w hSw; (try dsimp only at hSw); go_simp; try with_reducible rfl)
  try simp only [Act.put, List.setIfInBounds_toArray, List.set_cons_zero, List.set_cons_succ]
  refine wpAnyH_take (i := 4) (oi := ⟨some 29, _, _, _, _, _⟩) (v := ?v46) rfl (by kernel_rfl) (by kernel_rfl) (by kernel_rfl) (fun _ _ _ h => h) (Or.inl ⟨by rfl, ?h46⟩) (by assumption) ?r46
  case h46 => (intro w hSw; (try dsimp only at hSw); go_simp; try with_reducible rfl)
  try simp only [Act.put, List.setIfInBounds_toArray, List.set_cons_zero, List.set_cons_succ]
  refine wpAnyH_ready (rs := [3]) (by kernel_rfl) (by simp) ?_
  refine (AllReadyH.cons (o := ⟨some 28, _, _, _, _, _⟩) rfl (fun K hK => ?_) AllReadyH.nil)
  go_simp
  have HS1 := HB1
  refine (blist_c w h d _).mono ?_
  rintro e w7 ⟨v, rfl, ho, hb'⟩
  have HB1 := Lib.hid ((HB1.out).trans (hb'.mono (HB1.out).size))
  clear hb'
  obtain ⟨A2, c2, rfl, hq⟩ := ho.slice
  rw [← HNN.out]
  have RQ := Lib.hid hq
  clear ho hq
  refine hK.out _ _ ?hS47 (fun hHeld => ?_)
  case hS47 => exact (B9.out.below HB1.out B9.out.lt).cell 0
  clear hK K
  try simp only [Act.put, List.setIfInBounds_toArray, List.set_cons_zero, List.set_cons_succ]
  refine wpAnyH_ready (rs := [5]) (by kernel_rfl) (by simp) ?_
  refine (AllReadyH.cons (o := ⟨some 30, _, _, _, _, _⟩) rfl (fun K hK => ?_) AllReadyH.nil)
  go_simp
  have HS1 := HB1
  refine (r10same_n (bandsI w h d) N HNN.out A2 A1 c2 c1 _ RQ.out (RL.out.kept HB1.out) (by have := HBL.out; omega)).mono ?_
  rintro e w8 ⟨rfl, hb'⟩
  have HB1 := Lib.hid ((HB1.out).trans (hb'.mono (HB1.out).size))
  have RQ := Lib.hid ((RQ.out).kept hb')
  clear hb'
  refine hK.out _ _ ?hS48 (fun hHeld => ?_)
  case hS48 => exact (B9.out.below HB1.out B9.out.lt).cell 0
  clear hK K
  try simp only [Act.put, List.setIfInBounds_toArray, List.set_cons_zero, List.set_cons_succ]
  refine wpAnyH_take (i := 6) (oi := ⟨some 31, _, _, _, _, _⟩) (v := ?v49) rfl (by kernel_rfl) (by kernel_rfl) (by kernel_rfl) (fun _ _ _ h => h) (Or.inl ⟨by rfl, ?h49⟩) (by assumption) ?r49
  case h49 => (intro w hSw; (try dsimp only at hSw); go_simp; try with_reducible rfl)
  try simp only [Act.put, List.setIfInBounds_toArray, List.set_cons_zero, List.set_cons_succ]
  refine wpAnyH_done (by kernel_rfl) ?_ _
  clear hHeld
  go_upto_region 8 with fail
  have hlt := HB1.out.size
  have l9 := (B9.out.below HB1.out B9.out.lt).lt
  have HB1 := Lib.hid (below_alloc_ (below_alloc_ (HB1.out) (.cells #[.int .i64 0] 3)) (.cells #[.bool true] 4))
  have hzw : ((w8.alloc (.cells #[.int .i64 0] 3)).alloc (.cells #[.bool true] 4)).heap.size = w8.heap.size + 2 := by simp only [World.size_alloc]
  have BN := (Blk.new (w8) 3 #[.int .i64 0]).alloc (.cells #[.bool true] 4)
  skip
  have BN := Lib.hid BN
  have BO := Blk.new (w8.alloc (.cells #[.int .i64 0] 3)) 4 #[.bool true]
  rw [show (w8.alloc (.cells #[.int .i64 0] 3)).heap.size = w8.heap.size + 1 by simp only [World.size_alloc]] at BO
  have BO := Lib.hid BO
  generalize (w8.alloc (.cells #[.int .i64 0] 3)).alloc (.cells #[.bool true] 4) = w9 at *
  obtain ⟨bn, hbn⟩ : ∃ n, n = w8.heap.size := ⟨_, rfl⟩
  rw [← hbn] at BN BO hzw l9 hlt ⊢
  have L9 := Lib.hid l9
  have HLB := Lib.hid hlt
  have HBo := HB
  clear hlt hbn l9
  have HZ7 := Lib.hid hzw
  clear hzw
  have B5 := Lib.hid (B5.out.below HB1.out B5.out.lt)
  have B8 := Lib.hid (B8.out.below HB1.out B8.out.lt)
  have B9 := Lib.hid (B9.out.below HB1.out B9.out.lt)
  have RL := Lib.hid (RL.out.kept HB1.out)
  have HB := Lib.hid (HB.out.trans (HB1.out.mono HB.out.size))
  have HB1 := Lib.hid (Below.refl w9.heap.size w9)
  go_wp2_with fail
  refine (ball_c w h d _).mono ?_
  rintro e wq ⟨rfl, rfl⟩
  have l10 := BO.out.lt
  have HB1 := Lib.hid (below_alloc_ (below_alloc_ (below_alloc_ (HB1.out) (.cells #[.int .i64 w] 3)) (.cells #[.int .i64 h] 3)) (.cells #[.int .i64 d] 3))
  have BN := Lib.hid ((((BN.out).alloc (.cells #[.int .i64 w] 3)).alloc (.cells #[.int .i64 h] 3)).alloc (.cells #[.int .i64 d] 3))
  have BO := Lib.hid ((((BO.out).alloc (.cells #[.int .i64 w] 3)).alloc (.cells #[.int .i64 h] 3)).alloc (.cells #[.int .i64 d] 3))
  have hzw : (((w9.alloc (.cells #[.int .i64 w] 3)).alloc (.cells #[.int .i64 h] 3)).alloc (.cells #[.int .i64 d] 3)).heap.size = w9.heap.size + 3 := by simp only [World.size_alloc]
  have G1 := ((Blk.new (w9) 3 #[.int .i64 w]).alloc (.cells #[.int .i64 h] 3)).alloc (.cells #[.int .i64 d] 3)
  skip
  have G1 := Lib.hid G1
  have G2 := (Blk.new (w9.alloc (.cells #[.int .i64 w] 3)) 3 #[.int .i64 h]).alloc (.cells #[.int .i64 d] 3)
  rw [show (w9.alloc (.cells #[.int .i64 w] 3)).heap.size = w9.heap.size + 1 by simp only [World.size_alloc]] at G2
  have G2 := Lib.hid G2
  have G3 := Blk.new ((w9.alloc (.cells #[.int .i64 w] 3)).alloc (.cells #[.int .i64 h] 3)) 3 #[.int .i64 d]
  rw [show ((w9.alloc (.cells #[.int .i64 w] 3)).alloc (.cells #[.int .i64 h] 3)).heap.size = w9.heap.size + 1 + 1 by simp only [World.size_alloc]] at G3
  have G3 := Lib.hid G3
  generalize ((w9.alloc (.cells #[.int .i64 w] 3)).alloc (.cells #[.int .i64 h] 3)).alloc (.cells #[.int .i64 d] 3) = w10 at *
  simp only [World.size_alloc]
  obtain ⟨g1, hg1⟩ : ∃ n, n = w9.heap.size := ⟨_, rfl⟩
  rw [← hg1] at G1 G2 G3 hzw l10 ⊢
  clear hg1
  have B8s := Lib.hid (B8.out.below HB1.out B8.out.lt)
  have B9s := Lib.hid (B9.out.below HB1.out B9.out.lt)
  have RLs := Lib.hid (RL.out.kept HB1.out)
  go_wp2_with fail
  refine ((ballF_no w h d _ _ _ 12 #[.pointer (some ⟨bn + 1, 0, none⟩), .pointer (some ⟨bn, 0, none⟩), .pointer (some ⟨b9, 0, none⟩), .pointer (some ⟨b8, 0, none⟩)] (fun _ _ _ => True) w10 HK.out G1.out G2.out G3.out) (fun (k : Nat) (X : World) => Blk X (bn + 1) 4 #[.bool true] ∧ Blk X bn 3 #[.int .i64 k] ∧ ButTwo w10.heap.size (bn + 1) bn w10 X) (fun X => ∃ k : Nat, 1 ≤ k ∧ k ≤ N ∧ (k : Int) = stop ∧ Blk X (bn + 1) 4 #[.bool true] ∧ Blk X bn 3 #[.int .i64 k] ∧ ButTwo w10.heap.size (bn + 1) bn w10 X) w10 (Below.refl _ _) ?hY ?hR ⟨BO.out, BN.out, ButTwo.refl _ _ _ _⟩).mono ?_
  case hY => exact fun k A B ⟨a1, a2, a3⟩ hb => ⟨a1.below hb a1.lt, a2.below hb a2.lt, a3.trans_ hb a3.size⟩
  case hR =>
    intro k args X1 hk hJ hK hz hE
    obtain ⟨j1, j2, j3⟩ := hJ
    exact absurd hk (Nat.not_lt_zero _)
  rintro e w11 ⟨⟨v, rfl⟩, hj⟩
  obtain ⟨k, hk0, hk1, j1, j2, j3⟩ : ∃ k : Nat, k ≤ N ∧ (k = N ∨ (1 ≤ k ∧ (k : Int) = stop)) ∧ Blk w11 (bn + 1) 4 #[.bool true] ∧ Blk w11 bn 3 #[.int .i64 k] ∧ ButTwo w10.heap.size (bn + 1) bn w10 w11 := by
    rcases hj with hj | ⟨k, a1, a2, a3, a4⟩
    · exact ⟨_, Nat.le_of_eq HN.out.symm, .inl HN.out.symm, hj⟩
    · exact ⟨k, a2, .inr ⟨a1, a3⟩, a4⟩
  have hz7 := HZ7.out
  have l8 := L8.out
  have l9 := L9.out
  have B8 := Lib.hid (j3.blk B8s.out (by omega) (by omega) (by omega))
  have B9 := Lib.hid (j3.blk B9s.out (by omega) (by omega) (by omega))
  have BO := Lib.hid j1
  have BN := Lib.hid j2
  skip
  have HBs := Lib.hid (HB.out.trans (HB1.out.mono HB.out.size))
  have hws := HBs.out.size
  have HLW := Lib.hid (show W.heap.size ≤ bn from Nat.le_trans HBo.out.size HLB.out)
  have hlw := HLW.out
  have HB := Lib.hid (HBs.out.trans (j3.below (B := W.heap.size) (by omega) (by omega) (by omega)))
  clear hj j1 j2 j3 hz7 l8 l9 l10 hzw hws hlw
  have HB1 := Lib.hid (Below.refl w11.heap.size w11)
  by_cases hkN : k = N
  · skip
    subst hkN
    have n1 : ((k : Int) != (k : Int)) = false := by simp
    have zB80 := (B8.out.below HB1.out B8.out.lt).cells1
    have zB90 := (B9.out.below HB1.out B9.out.lt).cells1
    have zBO0 := (BO.out.below HB1.out BO.out.lt).cells1
    have zBN0 := (BN.out.below HB1.out BN.out.lt).cells1
    go_wp2_with fail
    clear zB80
    clear zB90
    clear zBO0
    clear zBN0
    refine (r10list_c 64 64 6 _).mono ?_
    rintro e w12 ⟨v, rfl, ho, hb'⟩
    have HB1 := Lib.hid ((HB1.out).trans (hb'.mono (HB1.out).size))
    clear hb'
    obtain ⟨A3, c3, rfl, hq⟩ := ho.slice
    rw [all_len]
    have RA := Lib.hid hq
    clear ho hq
    have B8 := Lib.hid (B8.out.below HB1.out B8.out.lt)
    have B9 := Lib.hid (B9.out.below HB1.out B9.out.lt)
    have BN := Lib.hid (BN.out.below HB1.out BN.out.lt)
    have BO := Lib.hid (BO.out.below HB1.out BO.out.lt)
    have HB := Lib.hid (HB.out.trans (HB1.out.mono HB.out.size))
    have HB1 := Lib.hid (Below.refl w12.heap.size w12)
    go_wp2_with fail
    go_loopw [13] (fun v wr => ∃ i : Int, -1 ≤ i ∧ i ≤ 20 ∧ v = .int .i64 i ∧ Below w12.heap.size w12 wr) (fun v _ => (20 - intOf v).toNat)
    case atStart => exact ⟨-1, by omega, by omega, by go_num, HB1.out⟩
    case round =>
      obtain ⟨i, hi0, hi1, rfl, hb⟩ := hrel
      have HB1 := Lib.hid hb
      obtain ⟨wo, ewo⟩ : ∃ wo, wo = wr := ⟨_, rfl⟩
      subst ewo
      clear hb
      by_cases hi : i ≤ 19
      · skip
        go_wp2_with fail
        refine (bparent_c i _).mono ?_
        rintro e wz ⟨rfl, rfl⟩
        go_wp2_with fail
        refine (rparent_c A3 c3 i _ (RA.out.kept HB1.out)).mono ?_
        rintro e w13 ⟨rfl, hb'⟩
        have HB1 := Lib.hid ((HB1.out).trans (hb'.mono (HB1.out).size))
        clear hb'
        go_wp2_with fail
        go_roundw
        case rel => exact ⟨i + 1, by omega, by omega, by go_num, HB1.out⟩
        case measure => simp [intOf]; omega
      · skip
        by_cases hd : 0 ≤ d ∧ d ≤ 6
        · skip
          obtain ⟨d0, d1⟩ := hd
          have HC := Lib.hid (show cntI d = 3 * d + 1 by unfold cntI; rw [if_pos ⟨d0, d1⟩])
          have W1 : IntKind.i64.wrap (3 * d) = 3 * d := IntWalk.i64_in _ (by omega)
          have W2 : IntKind.i64.wrap (3 * d + 1) = 3 * d + 1 := IntWalk.i64_in _ (by omega)
          have zB80 := (B8.out.below HB1.out B8.out.lt).cells1
          go_upto_region 20 with fail
          have HCC := Lib.hid (fun (X : World) => (show Calls Try.prog 15 #[.int .i64 d] X fun e w' => e = .returned (.int .i64 (3 * d + 1)) ∧ Below X.heap.size X w' from by have h9 := Calls.bel (bcount_c d X); rw [HC.out] at h9; exact h9))
          have kq0 := cell_regrown zB80
          have qc0 := fun (d : Nat) (os : Array Obj) => Calls.regrown_of (HCC.out (grow (redrawn wo d) os))
          have qc1 := fun (d : Nat) (os : Array Obj) => Calls.regrown_of (Calls.bel (bparent_c stop (grow (redrawn wo d) os)))
          have qc2 := fun (d : Nat) (os : Array Obj) => Calls.regrown_of (rparent_c A3 c3 stop (grow (redrawn wo d) os) ((RA.out.kept HB1.out).kept (below_regrown wo d os)))
          clear zB80
          refine wp_region_quiet_below (by kernel_rfl) (by kernel_rfl) ?_
          repeat (go_big_quiet_step (first | with_reducible exact qc0 _ _ | with_reducible exact qc1 _ _ | with_reducible exact qc2 _ _))
          refine wpQuiet_nil ?_
          intro _ hw'
          obtain ⟨⟨dq, osq⟩, hw''⟩ := hw'
          subst hw''
          have hb' := below_regrown wo dq osq
          clear kq0 qc0 qc1 qc2
          have HB1 := Lib.hid ((HB1.out).trans (hb'.mono (HB1.out).size))
          clear hb'
          generalize grow (redrawn wo dq) osq = w13 at *
          go_wp2_with fail
          go_ret
          exact ⟨rfl, HB.out.trans (HB1.out.mono HB.out.size)⟩
        · skip
          have HC := Lib.hid (show cntI d = 0 by unfold cntI; rw [if_neg hd])
          have hd2 : d < 0 ∨ 6 < d := by omega
          clear hd
          rcases hd2 with hd2 | hd2
          · skip
            have zB80 := (B8.out.below HB1.out B8.out.lt).cells1
            go_upto_region 20 with fail
            have HCC := Lib.hid (fun (X : World) => (show Calls Try.prog 15 #[.int .i64 d] X fun e w' => e = .returned (.int .i64 (0)) ∧ Below X.heap.size X w' from by have h9 := Calls.bel (bcount_c d X); rw [HC.out] at h9; exact h9))
            have kq0 := cell_regrown zB80
            have qc0 := fun (d : Nat) (os : Array Obj) => Calls.regrown_of (HCC.out (grow (redrawn wo d) os))
            have qc1 := fun (d : Nat) (os : Array Obj) => Calls.regrown_of (Calls.bel (bparent_c stop (grow (redrawn wo d) os)))
            have qc2 := fun (d : Nat) (os : Array Obj) => Calls.regrown_of (rparent_c A3 c3 stop (grow (redrawn wo d) os) ((RA.out.kept HB1.out).kept (below_regrown wo d os)))
            clear zB80
            refine wp_region_quiet_below (by kernel_rfl) (by kernel_rfl) ?_
            repeat (go_big_quiet_step (first | with_reducible exact qc0 _ _ | with_reducible exact qc1 _ _ | with_reducible exact qc2 _ _))
            refine wpQuiet_nil ?_
            intro _ hw'
            obtain ⟨⟨dq, osq⟩, hw''⟩ := hw'
            subst hw''
            have hb' := below_regrown wo dq osq
            clear kq0 qc0 qc1 qc2
            have HB1 := Lib.hid ((HB1.out).trans (hb'.mono (HB1.out).size))
            clear hb'
            generalize grow (redrawn wo dq) osq = w13 at *
            go_wp2_with fail
            go_ret
            exact ⟨rfl, HB.out.trans (HB1.out.mono HB.out.size)⟩
          · skip
            have zB80 := (B8.out.below HB1.out B8.out.lt).cells1
            go_upto_region 20 with fail
            have HCC := Lib.hid (fun (X : World) => (show Calls Try.prog 15 #[.int .i64 d] X fun e w' => e = .returned (.int .i64 (0)) ∧ Below X.heap.size X w' from by have h9 := Calls.bel (bcount_c d X); rw [HC.out] at h9; exact h9))
            have kq0 := cell_regrown zB80
            have qc0 := fun (d : Nat) (os : Array Obj) => Calls.regrown_of (HCC.out (grow (redrawn wo d) os))
            have qc1 := fun (d : Nat) (os : Array Obj) => Calls.regrown_of (Calls.bel (bparent_c stop (grow (redrawn wo d) os)))
            have qc2 := fun (d : Nat) (os : Array Obj) => Calls.regrown_of (rparent_c A3 c3 stop (grow (redrawn wo d) os) ((RA.out.kept HB1.out).kept (below_regrown wo d os)))
            clear zB80
            refine wp_region_quiet_below (by kernel_rfl) (by kernel_rfl) ?_
            repeat (go_big_quiet_step (first | with_reducible exact qc0 _ _ | with_reducible exact qc1 _ _ | with_reducible exact qc2 _ _))
            refine wpQuiet_nil ?_
            intro _ hw'
            obtain ⟨⟨dq, osq⟩, hw''⟩ := hw'
            subst hw''
            have hb' := below_regrown wo dq osq
            clear kq0 qc0 qc1 qc2
            have HB1 := Lib.hid ((HB1.out).trans (hb'.mono (HB1.out).size))
            clear hb'
            generalize grow (redrawn wo dq) osq = w13 at *
            go_wp2_with fail
            go_ret
            exact ⟨rfl, HB.out.trans (HB1.out.mono HB.out.size)⟩
  · skip
    have hks : (k : Int) = stop := by rcases hk1 with h | h <;> omega
    have n1 : ((k : Int) != (N : Int)) = true := by simp; omega
    have n2 : ((k : Int) != stop) = false := by simp [hks]
    have n3 : ¬ (N : Int) < (k : Int) := by omega
    clear hks
    have zB80 := (B8.out.below HB1.out B8.out.lt).cells1
    have zB90 := (B9.out.below HB1.out B9.out.lt).cells1
    have zBO0 := (BO.out.below HB1.out BO.out.lt).cells1
    have zBN0 := (BN.out.below HB1.out BN.out.lt).cells1
    go_wp2_with fail
    clear zB80
    clear zB90
    clear zBO0
    clear zBN0
    refine (r10list_c 64 64 6 _).mono ?_
    rintro e w12 ⟨v, rfl, ho, hb'⟩
    have HB1 := Lib.hid ((HB1.out).trans (hb'.mono (HB1.out).size))
    clear hb'
    obtain ⟨A3, c3, rfl, hq⟩ := ho.slice
    rw [all_len]
    have RA := Lib.hid hq
    clear ho hq
    have B8 := Lib.hid (B8.out.below HB1.out B8.out.lt)
    have B9 := Lib.hid (B9.out.below HB1.out B9.out.lt)
    have BN := Lib.hid (BN.out.below HB1.out BN.out.lt)
    have BO := Lib.hid (BO.out.below HB1.out BO.out.lt)
    have HB := Lib.hid (HB.out.trans (HB1.out.mono HB.out.size))
    have HB1 := Lib.hid (Below.refl w12.heap.size w12)
    go_wp2_with fail
    go_loopw [13] (fun v wr => ∃ i : Int, -1 ≤ i ∧ i ≤ 20 ∧ v = .int .i64 i ∧ Below w12.heap.size w12 wr) (fun v _ => (20 - intOf v).toNat)
    case atStart => exact ⟨-1, by omega, by omega, by go_num, HB1.out⟩
    case round =>
      obtain ⟨i, hi0, hi1, rfl, hb⟩ := hrel
      have HB1 := Lib.hid hb
      obtain ⟨wo, ewo⟩ : ∃ wo, wo = wr := ⟨_, rfl⟩
      subst ewo
      clear hb
      by_cases hi : i ≤ 19
      · skip
        go_wp2_with fail
        refine (bparent_c i _).mono ?_
        rintro e wz ⟨rfl, rfl⟩
        go_wp2_with fail
        refine (rparent_c A3 c3 i _ (RA.out.kept HB1.out)).mono ?_
        rintro e w13 ⟨rfl, hb'⟩
        have HB1 := Lib.hid ((HB1.out).trans (hb'.mono (HB1.out).size))
        clear hb'
        go_wp2_with fail
        go_roundw
        case rel => exact ⟨i + 1, by omega, by omega, by go_num, HB1.out⟩
        case measure => simp [intOf]; omega
      · skip
        by_cases hd : 0 ≤ d ∧ d ≤ 6
        · skip
          obtain ⟨d0, d1⟩ := hd
          have HC := Lib.hid (show cntI d = 3 * d + 1 by unfold cntI; rw [if_pos ⟨d0, d1⟩])
          have W1 : IntKind.i64.wrap (3 * d) = 3 * d := IntWalk.i64_in _ (by omega)
          have W2 : IntKind.i64.wrap (3 * d + 1) = 3 * d + 1 := IntWalk.i64_in _ (by omega)
          have zB80 := (B8.out.below HB1.out B8.out.lt).cells1
          go_upto_region 20 with fail
          have HCC := Lib.hid (fun (X : World) => (show Calls Try.prog 15 #[.int .i64 d] X fun e w' => e = .returned (.int .i64 (3 * d + 1)) ∧ Below X.heap.size X w' from by have h9 := Calls.bel (bcount_c d X); rw [HC.out] at h9; exact h9))
          have kq0 := cell_regrown zB80
          have qc0 := fun (d : Nat) (os : Array Obj) => Calls.regrown_of (HCC.out (grow (redrawn wo d) os))
          have qc1 := fun (d : Nat) (os : Array Obj) => Calls.regrown_of (Calls.bel (bparent_c stop (grow (redrawn wo d) os)))
          have qc2 := fun (d : Nat) (os : Array Obj) => Calls.regrown_of (rparent_c A3 c3 stop (grow (redrawn wo d) os) ((RA.out.kept HB1.out).kept (below_regrown wo d os)))
          clear zB80
          refine wp_region_quiet_below (by kernel_rfl) (by kernel_rfl) ?_
          repeat (go_big_quiet_step (first | with_reducible exact qc0 _ _ | with_reducible exact qc1 _ _ | with_reducible exact qc2 _ _))
          refine wpQuiet_nil ?_
          intro _ hw'
          obtain ⟨⟨dq, osq⟩, hw''⟩ := hw'
          subst hw''
          have hb' := below_regrown wo dq osq
          clear kq0 qc0 qc1 qc2
          have HB1 := Lib.hid ((HB1.out).trans (hb'.mono (HB1.out).size))
          clear hb'
          generalize grow (redrawn wo dq) osq = w13 at *
          go_wp2_with fail
          go_ret
          exact ⟨rfl, HB.out.trans (HB1.out.mono HB.out.size)⟩
        · skip
          have HC := Lib.hid (show cntI d = 0 by unfold cntI; rw [if_neg hd])
          have hd2 : d < 0 ∨ 6 < d := by omega
          clear hd
          rcases hd2 with hd2 | hd2
          · skip
            have zB80 := (B8.out.below HB1.out B8.out.lt).cells1
            go_upto_region 20 with fail
            have HCC := Lib.hid (fun (X : World) => (show Calls Try.prog 15 #[.int .i64 d] X fun e w' => e = .returned (.int .i64 (0)) ∧ Below X.heap.size X w' from by have h9 := Calls.bel (bcount_c d X); rw [HC.out] at h9; exact h9))
            have kq0 := cell_regrown zB80
            have qc0 := fun (d : Nat) (os : Array Obj) => Calls.regrown_of (HCC.out (grow (redrawn wo d) os))
            have qc1 := fun (d : Nat) (os : Array Obj) => Calls.regrown_of (Calls.bel (bparent_c stop (grow (redrawn wo d) os)))
            have qc2 := fun (d : Nat) (os : Array Obj) => Calls.regrown_of (rparent_c A3 c3 stop (grow (redrawn wo d) os) ((RA.out.kept HB1.out).kept (below_regrown wo d os)))
            clear zB80
            refine wp_region_quiet_below (by kernel_rfl) (by kernel_rfl) ?_
            repeat (go_big_quiet_step (first | with_reducible exact qc0 _ _ | with_reducible exact qc1 _ _ | with_reducible exact qc2 _ _))
            refine wpQuiet_nil ?_
            intro _ hw'
            obtain ⟨⟨dq, osq⟩, hw''⟩ := hw'
            subst hw''
            have hb' := below_regrown wo dq osq
            clear kq0 qc0 qc1 qc2
            have HB1 := Lib.hid ((HB1.out).trans (hb'.mono (HB1.out).size))
            clear hb'
            generalize grow (redrawn wo dq) osq = w13 at *
            go_wp2_with fail
            go_ret
            exact ⟨rfl, HB.out.trans (HB1.out.mono HB.out.size)⟩
          · skip
            have zB80 := (B8.out.below HB1.out B8.out.lt).cells1
            go_upto_region 20 with fail
            have HCC := Lib.hid (fun (X : World) => (show Calls Try.prog 15 #[.int .i64 d] X fun e w' => e = .returned (.int .i64 (0)) ∧ Below X.heap.size X w' from by have h9 := Calls.bel (bcount_c d X); rw [HC.out] at h9; exact h9))
            have kq0 := cell_regrown zB80
            have qc0 := fun (d : Nat) (os : Array Obj) => Calls.regrown_of (HCC.out (grow (redrawn wo d) os))
            have qc1 := fun (d : Nat) (os : Array Obj) => Calls.regrown_of (Calls.bel (bparent_c stop (grow (redrawn wo d) os)))
            have qc2 := fun (d : Nat) (os : Array Obj) => Calls.regrown_of (rparent_c A3 c3 stop (grow (redrawn wo d) os) ((RA.out.kept HB1.out).kept (below_regrown wo d os)))
            clear zB80
            refine wp_region_quiet_below (by kernel_rfl) (by kernel_rfl) ?_
            repeat (go_big_quiet_step (first | with_reducible exact qc0 _ _ | with_reducible exact qc1 _ _ | with_reducible exact qc2 _ _))
            refine wpQuiet_nil ?_
            intro _ hw'
            obtain ⟨⟨dq, osq⟩, hw''⟩ := hw'
            subst hw''
            have hb' := below_regrown wo dq osq
            clear kq0 qc0 qc1 qc2
            have HB1 := Lib.hid ((HB1.out).trans (hb'.mono (HB1.out).size))
            clear hb'
            generalize grow (redrawn wo dq) osq = w13 at *
            go_wp2_with fail
            go_ret
            exact ⟨rfl, HB.out.trans (HB1.out.mono HB.out.size)⟩

theorem bandsLie_walk (x0 x1 : Int) (x2 : Int × Int) (v0 v1 v2 : Value) (w : World) (k0 : IsInt .i64 v0 x0) (k1 : IsInt .i64 v1 x1) (k2 : IsArr2 .i64 v2 x2) :
    Calls Try.prog 3 #[v0, v1, v2] w fun e w' => e = .returned (.bool true) ∧ Below w.heap.size w w' := by
  obtain ⟨rfl, _⟩ := k0
  obtain ⟨rfl, _⟩ := k1
  obtain ⟨d, stop⟩ := x2
  obtain ⟨u0, u1, rfl, ⟨rfl, _⟩, ⟨rfl, _⟩⟩ := k2
  cases hok : okF x0 x1 d with
  | true => exact lie_y x0 x1 d stop w hok
  | false => exact lie_n x0 x1 d stop w hok

end Go.Proofs.Ytjlajggilcihoaa
