/- Fields: levelled, by the reference. -/
import Derived.Test.YtiedjeholmoccaaFdT1
import Derived.Test.YtiedjeholmoccaaFdT2
import Derived.Test.YtiedjeholmoccaaFdS2
import Derived.Test.YtiedjeholmoccaaFdS3
namespace Go.Proofs.Ytiedjeholmoccaa
open Go.RowKit Go.Sort
set_option linter.unusedVariables false
set_option linter.unusedSimpArgs false
theorem bk_small {b : Bk} (h : okBk b = true) : -9223372036854775808 ≤ b.m ∧ b.m ≤ 9223372036854775807 := by
  have := okBk_m h
  omega
theorem cntU_pos1 {S : List Int} (h : 0 < S.length) : 0 < cntU S S.length := by
  have := cntU_lt (S := S) (n := S.length) (i := 0) (k := 0) h (Nat.mul_pos (Nat.two_pow_pos _) (Nat.two_pow_pos _))
  omega
theorem kat_ok {K : List Bk} (h : okK K = true) {p : Nat} (hp : p < K.length) : okBk (kat K p) = true := by
  rw [kat_lt hp]
  unfold okK at h
  exact List.all_eq_true.1 h _ (List.getElem_mem hp)
theorem levK_next {W : Nat} {K : List Bk} {us : List Un} {k : Nat} (hk : k < us.length) : levK W K us (k + 1) = layL W (levK W K us k) us[k] (plainBk (kat K (frst W us[k]))) := by
  rw [levK]
  have e := unG_lt hk
  unfold unG at e
  rw [e]
theorem at_unit {a d ux uy s : Nat} {S : List Int} {K : List Bk} (ho : okFl (a : Int) (d : Int) S K = true) (s1 : 1 ≤ s) (hux : ux + s ≤ 4 * a) (huy : uy + s ≤ 4 * d) : atK a d S K (ux : Int) (uy : Int) = kat K (frst (4 * a) ⟨ux, uy, s⟩) := by
  unfold atK atB
  rw [ho, if_pos]
  · unfold frst
    simp only [Int.toNat_natCast]
  · simp only [inFu, Bool.true_and, decide_eq_true_eq]
    omega
set_option maxRecDepth 100000 in
set_option maxHeartbeats 6400000 in
theorem r16level_n (a d : Int) (S : List Int) (As : Option Addr) (cs : Nat) (K : List Bk) (Ak : Option Addr) (ck : Nat) (w : World) (hS : ReadsI w As S) (hK : ReadsE EK w Ak K) (hn : S.length ≤ 9223372036854775807) (hm : K.length ≤ 9223372036854775807) (h1 : okFl a d S K = false) :
    Calls Try.prog 16 #[flV a d (.slice As S.length cs) (.slice Ak K.length ck)] w (FlRes 0 0 [] [] w) := by
  have RS := Lib.hid hS
  have RK := Lib.hid hK
  have H1 := Lib.hid h1
  clear hS hK h1
  have HB1 := Lib.hid (Below.refl w.heap.size w)
  have HB1 := Lib.hid (Below.refl w.heap.size w)
  go_enter Try.func16, Try.ntmps16
  go_wp2_with fail
  have HB1 := Lib.hid (below_alloc_ (below_alloc_ (HB1.out) (.cells #[.int .i64 a, .int .i64 d, .slice As S.length cs, .slice Ak K.length ck] 25)) (.cells #[.int .i64 0, .int .i64 0, .slice none 0 0, .slice none 0 0] 25))
  have hzw : ((w.alloc (.cells #[.int .i64 a, .int .i64 d, .slice As S.length cs, .slice Ak K.length ck] 25)).alloc (.cells #[.int .i64 0, .int .i64 0, .slice none 0 0, .slice none 0 0] 25)).heap.size = w.heap.size + 2 := by simp only [World.size_alloc]
  have B1 := (Blk.new (w) 25 #[.int .i64 a, .int .i64 d, .slice As S.length cs, .slice Ak K.length ck]).alloc (.cells #[.int .i64 0, .int .i64 0, .slice none 0 0, .slice none 0 0] 25)
  skip
  have B1 := Lib.hid B1
  have B2 := Blk.new (w.alloc (.cells #[.int .i64 a, .int .i64 d, .slice As S.length cs, .slice Ak K.length ck] 25)) 25 #[.int .i64 0, .int .i64 0, .slice none 0 0, .slice none 0 0]
  rw [show (w.alloc (.cells #[.int .i64 a, .int .i64 d, .slice As S.length cs, .slice Ak K.length ck] 25)).heap.size = w.heap.size + 1 by simp only [World.size_alloc]] at B2
  have B2 := Lib.hid B2
  generalize (w.alloc (.cells #[.int .i64 a, .int .i64 d, .slice As S.length cs, .slice Ak K.length ck] 25)).alloc (.cells #[.int .i64 0, .int .i64 0, .slice none 0 0, .slice none 0 0] 25) = w1 at *
  clear hzw
  refine (r16right_c a d S As cs K Ak ck _ (RS.out.kept HB1.out) (RK.out.kept HB1.out) hn hm).mono ?_
  rintro e w2 ⟨rfl, hb'⟩
  have HB1 := Lib.hid ((HB1.out).trans (hb'.mono (HB1.out).size))
  have B1 := Lib.hid ((B1.out).below hb' (B1.out).lt)
  have B2 := Lib.hid ((B2.out).below hb' (B2.out).lt)
  clear hb'
  rw [H1.out]
  obtain ⟨f0, f1, f2, f3⟩ := B2.out.frozens
  obtain ⟨zB10, zB11, zB12, zB13⟩ := (B1.out).cells4
  obtain ⟨zB20, zB21, zB22, zB23⟩ := (B2.out).cells4
  go_wp2_with fail
  clear zB10 zB11 zB12 zB13
  clear zB20 zB21 zB22 zB23
  have hrow := ret_four' B2.out (.int .i64 0) (.int .i64 0) (.slice none 0 0) (.slice none 0 0)
  refine bodyPost_ret (results_cell_row rfl _ _ (w.heap.size + 1) 25 _ (0, 0) _ rfl hrow Try.underlying25 rfl (by kernel_rfl)) rfl ?_
  have hb2 : w.heap.size ≤ w.heap.size + 1 := by omega
  exact ⟨_, _, rfl, OwnI.nil _ _, OwnE.nil _ _, Below.setCell (Below.setCell (Below.setCell (Below.setCell HB1.out hb2 _) hb2 _) hb2 _) hb2 _⟩
set_option maxRecDepth 100000 in
set_option maxHeartbeats 6400000 in
theorem r16level_y (a d : Nat) (S : List Int) (As : Option Addr) (cs : Nat) (K : List Bk) (Ak : Option Addr) (ck : Nat) (w : World) (hS : ReadsI w As S) (hK : ReadsE EK w Ak K) (hn : S.length ≤ 9223372036854775807) (hm : K.length ≤ 9223372036854775807) (ho : okFl a d S K = true) :
    Calls Try.prog 16 #[flV a d (.slice As S.length cs) (.slice Ak K.length ck)] w (FlRes a d S (levelK a S K) w) := by
  obtain ⟨A_, D_, ea, ed, a1, a2, d1, d2, hl, hkl, hS1, hK1⟩ := okFl_nat ho
  have ea := Int.ofNat.inj ea
  have ed := Int.ofNat.inj ed
  subst ea
  subst ed
  have RS := Lib.hid hS
  have RK := Lib.hid hK
  have HO := Lib.hid ho
  have HL := Lib.hid hl
  have HKL := Lib.hid hkl
  have HS1 := Lib.hid hS1
  have HK1 := Lib.hid hK1
  have HB := Lib.hid (Below.refl w.heap.size w)
  obtain ⟨us, hus⟩ : ∃ us, us = unsL a S := ⟨_, rfl⟩
  have HUS := Lib.hid hus
  have HUF := Lib.hid (show unsF (a : Int) (d : Int) S K = us by unfold unsF; rw [if_pos ho, hus]; rfl)
  obtain ⟨N, hN⟩ : ∃ N, N = us.length := ⟨_, rfl⟩
  have HN := Lib.hid hN
  have HN2 := Lib.hid (show N ≤ 65536 by rw [hN, hus]; exact uns_len a2 d2 hl hS1)
  have HN0 := Lib.hid (show 0 < N by rw [hN, hus, unsL_length]; exact cntU_pos1 (by rw [hl]; exact Nat.mul_pos a1 d1))
  have HLV := Lib.hid (show levelK a S K = levK (4 * a) K us N by rw [hN, hus]; rfl)
  clear hS hK ho hl hkl hS1 hK1 hus hN
  have HB1 := Lib.hid (Below.refl w.heap.size w)
  go_enter Try.func16, Try.ntmps16
  go_wp2_with fail
  have HB1 := Lib.hid (below_alloc_ (below_alloc_ (HB1.out) (.cells #[.int .i64 a, .int .i64 d, .slice As S.length cs, .slice Ak K.length ck] 25)) (.cells #[.int .i64 0, .int .i64 0, .slice none 0 0, .slice none 0 0] 25))
  have hzw : ((w.alloc (.cells #[.int .i64 a, .int .i64 d, .slice As S.length cs, .slice Ak K.length ck] 25)).alloc (.cells #[.int .i64 0, .int .i64 0, .slice none 0 0, .slice none 0 0] 25)).heap.size = w.heap.size + 2 := by simp only [World.size_alloc]
  have B1 := (Blk.new (w) 25 #[.int .i64 a, .int .i64 d, .slice As S.length cs, .slice Ak K.length ck]).alloc (.cells #[.int .i64 0, .int .i64 0, .slice none 0 0, .slice none 0 0] 25)
  skip
  have B1 := Lib.hid B1
  have B2 := Blk.new (w.alloc (.cells #[.int .i64 a, .int .i64 d, .slice As S.length cs, .slice Ak K.length ck] 25)) 25 #[.int .i64 0, .int .i64 0, .slice none 0 0, .slice none 0 0]
  rw [show (w.alloc (.cells #[.int .i64 a, .int .i64 d, .slice As S.length cs, .slice Ak K.length ck] 25)).heap.size = w.heap.size + 1 by simp only [World.size_alloc]] at B2
  have B2 := Lib.hid B2
  generalize (w.alloc (.cells #[.int .i64 a, .int .i64 d, .slice As S.length cs, .slice Ak K.length ck] 25)).alloc (.cells #[.int .i64 0, .int .i64 0, .slice none 0 0, .slice none 0 0] 25) = w1 at *
  clear hzw
  refine (r16right_c a d S As cs K Ak ck _ (RS.out.kept HB1.out) (RK.out.kept HB1.out) hn hm).mono ?_
  rintro e w2 ⟨rfl, hb'⟩
  have HB1 := Lib.hid ((HB1.out).trans (hb'.mono (HB1.out).size))
  have B1 := Lib.hid ((B1.out).below hb' (B1.out).lt)
  have B2 := Lib.hid ((B2.out).below hb' (B2.out).lt)
  clear hb'
  rw [HO.out]
  have RK := Lib.hid (RK.out.kept HB1.out)
  have RS := Lib.hid (RS.out.kept HB1.out)
  have HB := Lib.hid (HB.out.trans (HB1.out.mono HB.out.size))
  have HB1 := Lib.hid (Below.refl w2.heap.size w2)
  obtain ⟨zB10, zB11, zB12, zB13⟩ := (B1.out.below HB1.out B1.out.lt).cells4
  go_upto_region 4 with fail
  clear zB10 zB11 zB12 zB13
  have HB1 := Lib.hid (below_alloc_ (HB1.out) (.cells #[.int .i64 a, .int .i64 d, .slice As S.length cs, .slice Ak K.length ck] 25))
  have hzw : (w2.alloc (.cells #[.int .i64 a, .int .i64 d, .slice As S.length cs, .slice Ak K.length ck] 25)).heap.size = w2.heap.size + 1 := by simp only [World.size_alloc]
  have B3 := Blk.new (w2) 25 #[.int .i64 a, .int .i64 d, .slice As S.length cs, .slice Ak K.length ck]
  skip
  have B3 := Lib.hid B3
  generalize w2.alloc (.cells #[.int .i64 a, .int .i64 d, .slice As S.length cs, .slice Ak K.length ck] 25) = w3 at *
  have HZ3 := Lib.hid hzw
  clear hzw
  obtain ⟨b3, hb3⟩ : ∃ b, b = w2.heap.size := ⟨_, rfl⟩
  rw [← hb3] at B3 ⊢
  have HE3 := Lib.hid hb3
  clear hb3
  obtain ⟨zB10, zB11, zB12, zB13⟩ := (B1.out.below HB1.out B1.out.lt).cells4
  go_wp2_with fail
  clear zB10 zB11 zB12 zB13
  have h9 := r16units_c a d S As cs K Ak ck w3 (RS.out.kept HB1.out) (RK.out.kept HB1.out) hn hm
  rw [HUF.out] at h9
  refine (h9).mono ?_
  rintro e w4 ⟨v, rfl, ho, hb'⟩
  have HB1 := Lib.hid ((HB1.out).trans (hb'.mono (HB1.out).size))
  have B3 := Lib.hid ((B3.out).below hb' (B3.out).lt)
  have OU := Lib.hid (ho)
  clear hb'
  clear h9
  obtain ⟨A4, c4, rfl, _⟩ := ho.slice
  clear ho
  rw [← HN.out] at OU ⊢
  have HU4 := Lib.hid (show ∀ j, (Value.slice A4 N c4).ownBlock = some j → b3 < j from fun j hj => by have := (OU.out.blk_lt j hj).1; have := HZ3.out; have := HE3.out; omega)
  have HG := Lib.hid (World.grownBy.refl w4 (some b3))
  have HW4 := Lib.hid (Nat.le_trans HB.out.size HB1.out.size)
  go_wp2_with fail
  go_loopw [16] (fun v wr => ∃ (k : Nat) (A : Option Addr) (c : Nat), k ≤ N ∧ v = .int .i64 k ∧ w4.grownBy wr (some b3) ∧ Blk wr b3 25 #[.int .i64 a, .int .i64 d, .slice As S.length cs, .slice A K.length c] ∧ ReadsE EK wr A (levK (4 * a) K us k) ∧ (0 < k → OwnE EK wr w4.heap.size (.slice A K.length c) (levK (4 * a) K us k))) (fun v _ => N - (intOf v).toNat)
  case atStart => exact ⟨0, Ak, ck, Nat.zero_le _, rfl, HG.out, B3.out, (RK.out.kept HB1.out), fun h => absurd h (by decide)⟩
  case round =>
    obtain ⟨k, A3, c3, hk, rfl, hg, hb3, hr3, ho3⟩ := hrel
    clear HG
    have HG := Lib.hid hg
    have HB1 := Lib.hid (HB1.out.grown hg HB1.out.size (fun g hg' => by injection hg' with hg'; rw [← hg', HE3.out]; exact Nat.le_refl _))
    have OU := Lib.hid (OU.out.grown hg (.inr (fun e => by have := HU4.out _ e; omega)))
    have B3 := Lib.hid hb3
    have RL := Lib.hid hr3
    have HO3 := Lib.hid ho3
    clear hg hb3 hr3 ho3
    obtain ⟨wo, ewo⟩ : ∃ wo, wo = wr := ⟨_, rfl⟩
    subst ewo
    have HBR := Lib.hid (Below.refl wo.heap.size wo)
    by_cases hlt : k < N
    · skip
      have hkl : k < us.length := by rw [← HN.out]; exact hlt
      have OU' := OU.out
      rw [HN.out] at OU'
      obtain ⟨ad, eA, l1, y0, y1, y2⟩ := OU'.reads.un hkl
      clear OU'
      obtain rfl := eA
      have hmem : us[k]'hkl ∈ unsL a S := by rw [← HUS.out]; exact List.getElem_mem _
      obtain ⟨ux, uy, s, eu, s1, s4, hux, huy⟩ := unsL_in (a := a) (d := d) a1 HL.out HS1.out hmem
      rw [eu] at y0 y1 y2
      dsimp only at y0 y1 y2
      have hnx := levK_next (W := 4 * a) (K := K) hkl
      rw [eu] at hnx
      have HLL := Lib.hid (levK_length (4 * a) K us k)
      obtain ⟨L, hL⟩ : ∃ L, L = levK (4 * a) K us k := ⟨_, rfl⟩
      rw [← hL] at hnx RL HLL
      obtain ⟨L', hL'⟩ : ∃ L', L' = levK (4 * a) K us (k + 1) := ⟨_, rfl⟩
      rw [← hL'] at hnx
      have hat := at_unit HO.out s1 hux huy
      have hpl : frst (4 * a) ⟨ux, uy, s⟩ < K.length := by have := lay_lt (x := 0) (y := 0) HKL.out hux huy (by omega) (by omega); simp only [Nat.add_zero] at this; unfold frst; simp only [Int.toNat_natCast]; exact this
      obtain ⟨bk, hbk⟩ : ∃ bk, bk = kat K (frst (4 * a) ⟨ux, uy, s⟩) := ⟨_, rfl⟩
      have hbm := bk_small (kat_ok HK1.out hpl)
      rw [← hbk] at hnx hat hbm
      have HNX := Lib.hid hnx
      have HAT := Lib.hid hat
      have HLP := Lib.hid hL'
      have HBM := Lib.hid hbm
      have hn2 : N ≤ 65536 := HN2.out
      have i1 : (0 : Int) ≤ (k : Int) := by omega
      have i2 : (k : Int) < (N : Int) := by omega
      clear l1 hmem eu hnx hat hpl hL hL' hbk hkl hbm
      go_upto_region 7 with fail
      clear y0 y1 y2 i1 i2
      have HB1 := Lib.hid (below_alloc_ (HB1.out) (.cells #[.int .i64 (ux : Int), .int .i64 (uy : Int), .int .i64 (s : Int)] 34))
      have B3 := Lib.hid ((B3.out).alloc (.cells #[.int .i64 (ux : Int), .int .i64 (uy : Int), .int .i64 (s : Int)] 34))
      have RL := Lib.hid ((RL.out).alloc (.cells #[.int .i64 (ux : Int), .int .i64 (uy : Int), .int .i64 (s : Int)] 34))
      have OU := Lib.hid ((OU.out).alloc (.cells #[.int .i64 (ux : Int), .int .i64 (uy : Int), .int .i64 (s : Int)] 34))
      have HBR := Lib.hid (below_alloc_ (HBR.out) (.cells #[.int .i64 (ux : Int), .int .i64 (uy : Int), .int .i64 (s : Int)] 34))
      have hzw : (wo.alloc (.cells #[.int .i64 (ux : Int), .int .i64 (uy : Int), .int .i64 (s : Int)] 34)).heap.size = wo.heap.size + 1 := by simp only [World.size_alloc]
      have B4 := Blk.new (wo) 34 #[.int .i64 (ux : Int), .int .i64 (uy : Int), .int .i64 (s : Int)]
      skip
      have B4 := Lib.hid B4
      generalize wo.alloc (.cells #[.int .i64 (ux : Int), .int .i64 (uy : Int), .int .i64 (s : Int)] 34) = w5 at *
      clear hzw
      obtain ⟨zB10, zB11, zB12, zB13⟩ := (B1.out.below HB1.out B1.out.lt).cells4
      obtain ⟨zB40, zB41, zB42⟩ := (B4.out).cells3
      go_wp2_with fail
      clear zB10 zB11 zB12 zB13
      clear zB40 zB41 zB42
      have h9 := r16at_c a d S As cs K Ak ck (ux : Int) (uy : Int) w5 (RS.out.kept HB1.out) (RK.out.kept HB1.out) hn hm
      rw [HAT.out] at h9
      obtain ⟨tb, htb⟩ : ∃ b, b = atB (a : Int) (d : Int) S K (ux : Int) (uy : Int) := ⟨_, rfl⟩
      rw [← htb] at h9
      clear htb
      refine (h9).mono ?_
      rintro e w6 ⟨rfl, hb'⟩
      have HB1 := Lib.hid ((HB1.out).trans (hb'.mono (HB1.out).size))
      have B3 := Lib.hid ((B3.out).below hb' (B3.out).lt)
      have RL := Lib.hid ((RL.out).kept hb')
      have OU := Lib.hid ((OU.out).kept hb')
      have HBR := Lib.hid ((HBR.out).trans (hb'.mono (HBR.out).size))
      have B4 := Lib.hid ((B4.out).below hb' (B4.out).lt)
      clear hb'
      clear h9
      go_upto_region 8 with fail
      have HB1 := Lib.hid (below_alloc_ (HB1.out) (.cells #[.int .i64 bk.m, .bool bk.g, .int .i64 bk.x0, .int .i64 bk.y0, .int .i64 bk.x1, .int .i64 bk.y1, .int .i64 bk.d0, .int .i64 bk.d1, .int .i64 bk.d2] 40))
      have B3 := Lib.hid ((B3.out).alloc (.cells #[.int .i64 bk.m, .bool bk.g, .int .i64 bk.x0, .int .i64 bk.y0, .int .i64 bk.x1, .int .i64 bk.y1, .int .i64 bk.d0, .int .i64 bk.d1, .int .i64 bk.d2] 40))
      have RL := Lib.hid ((RL.out).alloc (.cells #[.int .i64 bk.m, .bool bk.g, .int .i64 bk.x0, .int .i64 bk.y0, .int .i64 bk.x1, .int .i64 bk.y1, .int .i64 bk.d0, .int .i64 bk.d1, .int .i64 bk.d2] 40))
      have OU := Lib.hid ((OU.out).alloc (.cells #[.int .i64 bk.m, .bool bk.g, .int .i64 bk.x0, .int .i64 bk.y0, .int .i64 bk.x1, .int .i64 bk.y1, .int .i64 bk.d0, .int .i64 bk.d1, .int .i64 bk.d2] 40))
      have HBR := Lib.hid (below_alloc_ (HBR.out) (.cells #[.int .i64 bk.m, .bool bk.g, .int .i64 bk.x0, .int .i64 bk.y0, .int .i64 bk.x1, .int .i64 bk.y1, .int .i64 bk.d0, .int .i64 bk.d1, .int .i64 bk.d2] 40))
      have B4 := Lib.hid ((B4.out).alloc (.cells #[.int .i64 bk.m, .bool bk.g, .int .i64 bk.x0, .int .i64 bk.y0, .int .i64 bk.x1, .int .i64 bk.y1, .int .i64 bk.d0, .int .i64 bk.d1, .int .i64 bk.d2] 40))
      have hzw : (w6.alloc (.cells #[.int .i64 bk.m, .bool bk.g, .int .i64 bk.x0, .int .i64 bk.y0, .int .i64 bk.x1, .int .i64 bk.y1, .int .i64 bk.d0, .int .i64 bk.d1, .int .i64 bk.d2] 40)).heap.size = w6.heap.size + 1 := by simp only [World.size_alloc]
      have B5 := Blk.new (w6) 40 #[.int .i64 bk.m, .bool bk.g, .int .i64 bk.x0, .int .i64 bk.y0, .int .i64 bk.x1, .int .i64 bk.y1, .int .i64 bk.d0, .int .i64 bk.d1, .int .i64 bk.d2]
      skip
      have B5 := Lib.hid B5
      generalize w6.alloc (.cells #[.int .i64 bk.m, .bool bk.g, .int .i64 bk.x0, .int .i64 bk.y0, .int .i64 bk.x1, .int .i64 bk.y1, .int .i64 bk.d0, .int .i64 bk.d1, .int .i64 bk.d2] 40) = w7 at *
      clear hzw
      have HCL := Lib.hid (show ∀ W : World, ReadsE EK W A3 L → Calls Try.prog 29 #[flV a d (.slice As S.length cs) (.slice A3 K.length c3), .agg #[.int .i64 (ux : Int), .int .i64 (uy : Int), .int .i64 (s : Int)], bkV (plainBk bk)] W fun e w' => ∃ vk, e = .returned (flV a d (.slice As S.length cs) vk) ∧ OwnE EK w' W.heap.size vk L' ∧ Below W.heap.size W w' from fun W q => by have h := r16laid_c a d As S.length cs L A3 c3 ux uy s (plainBk bk) W q a1 a2 d1 d2 (by rw [HLL.out]; exact HKL.out) hux huy; rw [← HNX.out, HLL.out] at h; exact h)
      have HLL2 := Lib.hid (show L'.length = K.length by rw [HLP.out]; exact levK_length _ _ _ _)
      have HSZ := Lib.hid (Nat.le_trans HG.out.size HBR.out.size)
      obtain ⟨zB30, zB31, zB32, zB33⟩ := (B3.out).cells4
      obtain ⟨zB40, zB41, zB42⟩ := (B4.out).cells3
      obtain ⟨zB50, zB51, zB52, zB53, zB54, zB55, zB56, zB57, zB58⟩ := (B5.out).cells9
      have kq0 := cell_regrown zB30
      have kq1 := cell_regrown zB31
      have kq2 := cell_regrown zB32
      have kq3 := cell_regrown zB33
      have kq4 := cell_regrown zB40
      have kq5 := cell_regrown zB41
      have kq6 := cell_regrown zB42
      have kq7 := cell_regrown zB50
      have kq8 := cell_regrown zB51
      have kq9 := cell_regrown zB52
      have kq10 := cell_regrown zB53
      have kq11 := cell_regrown zB54
      have kq12 := cell_regrown zB55
      have kq13 := cell_regrown zB56
      have kq14 := cell_regrown zB57
      have kq15 := cell_regrown zB58
      clear zB30 zB31 zB32 zB33 zB40 zB41 zB42 zB50 zB51 zB52 zB53 zB54 zB55 zB56 zB57 zB58
      refine wp_mono_tail 5 [Brings.one ?b1_0, Brings.one ?b2_1, Brings.one ?b3_2, Brings.one ?b4_3, Brings.ownE EK w7.heap.size (fun v => flV a d (.slice As S.length cs) v) (L')] (by kernel_rfl) (by kernel_rfl) ?_
      rotate_left 4
      simp only [List.take_succ_cons, List.take_zero, List.drop_succ_cons, List.drop_zero]
      refine wpL_take (k' := 1) rfl (by kernel_rfl) (fun d os => ?t5) ?_
      case t5 => (unfold bringsAt; go_simp; first | with_reducible exact take_one | exact take_one)
      try simp only [Act.put, List.setIfInBounds_toArray, List.set_cons_zero, List.set_cons_succ]
      refine wpL_take (k' := 2) rfl (by kernel_rfl) (fun d os => ?t6) ?_
      case t6 => (unfold bringsAt; go_simp; first | with_reducible exact take_one | exact take_one)
      try simp only [Act.put, List.setIfInBounds_toArray, List.set_cons_zero, List.set_cons_succ]
      refine wpL_take (k' := 3) rfl (by kernel_rfl) (fun d os => ?t7) ?_
      case t7 => (unfold bringsAt; go_simp; first | with_reducible exact take_one | exact take_one)
      try simp only [Act.put, List.setIfInBounds_toArray, List.set_cons_zero, List.set_cons_succ]
      refine wpL_call (k' := 4) rfl (by kernel_rfl) (fun wz hz hd => ?t8) ?_
      case t8 =>
        have HZ := Lib.hid (HB1.out.trans (hz.mono HB1.out.size))
        unfold bringsAt
        go_simp
        have h9 := r16plain_c bk wz HBM.out
        refine call_one_as h9 ?_
        rfl
      try simp only [Act.put, List.setIfInBounds_toArray, List.set_cons_zero, List.set_cons_succ]
      refine wpL_ownE (k' := 5) rfl (by kernel_rfl) (fun wz hz hd => ?t9) (fun A5 c5 => ?_)
      case t9 =>
        have HZ := Lib.hid (HB1.out.trans (hz.mono HB1.out.size))
        unfold bringsAt
        go_simp
        have h9 := HCL.out wz (RL.out.kept hz)
        exact call_ownE hz.size h9
      try simp only [Act.put, List.setIfInBounds_toArray, List.set_cons_zero, List.set_cons_succ]
      refine wpL_nil ?_
      intro w8 hH
      have hb' := hH.below
      clear kq0 kq1 kq2 kq3 kq4 kq5 kq6 kq7 kq8 kq9 kq10 kq11 kq12 kq13 kq14 kq15
      have HB1 := Lib.hid ((HB1.out).trans (hb'.mono (HB1.out).size))
      have B3 := Lib.hid ((B3.out).below hb' (B3.out).lt)
      have RL := Lib.hid ((RL.out).kept hb')
      have OU := Lib.hid ((OU.out).kept hb')
      have HBR := Lib.hid ((HBR.out).trans (hb'.mono (HBR.out).size))
      have B4 := Lib.hid ((B4.out).below hb' (B4.out).lt)
      have B5 := Lib.hid ((B5.out).below hb' (B5.out).lt)
      have O4 := Lib.hid (show OwnE EK w8 w7.heap.size (.slice A5 (L').length c5) (L') from hH.facts 4)
      clear hH hb'
      rw [HLL2.out] at O4 ⊢
      obtain ⟨f0, f1, f2, f3⟩ := B3.out.frozens
      obtain ⟨q0, q1, q2, q3⟩ := B3.out.cells4
      go_upto_region 9 with fail
      clear f0 f1 f2 f3 q0 q1 q2 q3
      have O4 := Lib.hid ((((O4.out.set_ (i := 0) B3.out (by decide) (.int .i64 (a : Int))).set_ (i := 1) (B3.out.set_ 0 (.int .i64 (a : Int))) (by decide) (.int .i64 (d : Int))).set_ (i := 2) ((B3.out.set_ 0 (.int .i64 (a : Int))).set_ 1 (.int .i64 (d : Int))) (by decide) (.slice As S.length cs)).set_ (i := 3) (((B3.out.set_ 0 (.int .i64 (a : Int))).set_ 1 (.int .i64 (d : Int))).set_ 2 (.slice As S.length cs)) (by decide) (.slice A5 K.length c5))
      have HG := Lib.hid (only_setCell (p := ⟨b3, 3, none⟩) (only_setCell (p := ⟨b3, 2, none⟩) (only_setCell (p := ⟨b3, 1, none⟩) (only_setCell (p := ⟨b3, 0, none⟩) (HG.out.trans (only_of_below HBR.out _)) (.inl rfl) (.int .i64 (a : Int))) (.inl rfl) (.int .i64 (d : Int))) (.inl rfl) (.slice As S.length cs)) (.inl rfl) (.slice A5 K.length c5))
      have B3 := Lib.hid (ret_four' B3.out (.int .i64 (a : Int)) (.int .i64 (d : Int)) (.slice As S.length cs) (.slice A5 K.length c5))
      skip
      generalize (((w8.setCell ⟨b3, 0, none⟩ (.int .i64 (a : Int))).setCell ⟨b3, 1, none⟩ (.int .i64 (d : Int))).setCell ⟨b3, 2, none⟩ (.slice As S.length cs)).setCell ⟨b3, 3, none⟩ (.slice A5 K.length c5) = w9 at *
      have O4 := Lib.hid (O4.out.lower (B' := w4.heap.size) HSZ.out)
      rw [HLP.out] at O4
      go_wp2_with fail
      go_roundw
      case rel => exact ⟨k + 1, A5, c5, by omega, by go_num, HG.out, B3.out, O4.out.reads, fun _ => O4.out⟩
      case measure => simp [intOf]; omega
    · skip
      obtain rfl : k = N := by omega
      have O3 := Lib.hid (HO3.out HN0.out)
      rw [← HLV.out] at O3
      clear HO3 RL
      have HOL := Lib.hid (show OwnI (wo.alloc (.cells #[] 3)) wo.heap.size (.slice (some ⟨wo.heap.size, 0, none⟩) 0 0) [] from RowI.own (RowI.new wo []) (Nat.le_refl _) (by decide))
      have HB1x := Lib.hid (below_alloc_ HB1.out (.cells #[] 3))
      have B3x := Lib.hid (B3.out.alloc (.cells #[] 3))
      have OUx := Lib.hid (OU.out.alloc (.cells #[] 3))
      have HBRx := Lib.hid (below_alloc_ HBR.out (.cells #[] 3))
      have O3x := Lib.hid (O3.out.alloc (.cells #[] 3))
      have hs1 := Lib.hid (World.size_alloc wo (.cells #[] 3))
      have RSx := Lib.hid ((RS.out.kept HB1.out).alloc (.cells #[] 3))
      obtain ⟨z0, z1, z2, z3⟩ := ((B1.out.below HB1.out B1.out.lt).alloc (.cells #[] 3)).cells4
      have HSL := Lib.hid (show S.length ≤ 4096 by rw [HL.out]; exact Nat.le_trans (Nat.mul_le_mul a2 d2) (by decide))
      have HW0 := Lib.hid (Nat.le_trans HB.out.size HB1.out.size)
      go_upto_region 11 with (
        at_builtin
        refine wpList_appR (by rfl) (.tmp 35) (.tmp 37) 22 (by rfl) Try.underlying22 (.slice (some ⟨wo.heap.size, 0, none⟩) 0 0) [] (by rfl) wo.heap.size HOL.out As S.length cs S rfl (by rfl) RSx.out (by have := HSL.out; simp; omega) (by have := hs1.out; omega) ?_
        intro v2 w9 ho2 hg2 hat
        rw [List.nil_append] at ho2
        obtain ⟨A6, c6, rfl, _⟩ := ho2.slice
        have O6 := Lib.hid ho2
        have B3n := Lib.hid (B3x.out.grown hg2 (by simp only [Value.ownBlock]; intro h; injection h with h; have := B3.out.lt; omega))
        have O3n := Lib.hid (O3x.out.grown hg2 (.inr (fun e => by simp only [Value.ownBlock] at e; have := (O3.out.blk_lt _ e).2; omega)))
        have HBn := Lib.hid (HB1x.out.grown hg2 (by have := hs1.out; have := HB1.out.size; omega) (fun k hk => by simp only [Value.ownBlock] at hk; injection hk with hk; have := HB1.out.size; omega))
        have B2n := Lib.hid (B2.out.below HBn.out B2.out.lt)
        clear ho2 hg2 hat z0 z1 z2 z3 OUx B3x O3x HB1x HBRx RSx hs1 HOL
        obtain ⟨q0, q1, q2, q3⟩ := B3n.out.cells4
        obtain ⟨f0, f1, f2, f3⟩ := B3n.out.frozens)
      clear q0 q1 q2 q3 f0 f1 f2 f3
      have h3 : Blk (w9.setCell ⟨b3, 2, none⟩ (.slice A6 S.length c6)) b3 25 #[.int .i64 (a : Int), .int .i64 (d : Int), .slice A6 S.length c6, .slice A3 K.length c3] := B3n.out.set_ 2 (.slice A6 S.length c6)
      have B2n := Lib.hid (B2n.out.far (p := ⟨b3, 2, none⟩) (by have := HE3.out; have := B2.out.lt; dsimp only; omega) (.slice A6 S.length c6))
      have O6 := Lib.hid (O6.out.set_ (i := 2) B3n.out (by decide) (.slice A6 S.length c6))
      have O3n := Lib.hid (O3n.out.set_ (i := 2) B3n.out (by decide) (.slice A6 S.length c6))
      have HBn := Lib.hid (HBn.out.setCell (p := ⟨b3, 2, none⟩) (by rw [HE3.out]; exact Nat.le_refl _) (.slice A6 S.length c6))
      have B3n := Lib.hid h3
      clear h3
      generalize w9.setCell ⟨b3, 2, none⟩ (.slice A6 S.length c6) = w10 at *
      have HBW := Lib.hid (HB.out.trans (HBn.out.mono HB.out.size))
      obtain ⟨z0, z1, z2, z3⟩ := B3n.out.cells4
      obtain ⟨q0, q1, q2, q3⟩ := B2n.out.cells4
      obtain ⟨f0, f1, f2, f3⟩ := B2n.out.frozens
      go_wp2_with fail
      clear z0 z1 z2 z3 f0 f1 f2 f3 q0 q1 q2 q3
      have lb : w.heap.size ≤ w.heap.size + 1 := by omega
      have hrow := ret_four' B2n.out (.int .i64 (a : Int)) (.int .i64 (d : Int)) (.slice A6 S.length c6) (.slice A3 K.length c3)
      have hO6 := ((((O6.out.set_ (i := 0) B2n.out (by decide) (.int .i64 (a : Int))).set_ (i := 1) (B2n.out.set_ 0 (.int .i64 (a : Int))) (by decide) (.int .i64 (d : Int))).set_ (i := 2) ((B2n.out.set_ 0 (.int .i64 (a : Int))).set_ 1 (.int .i64 (d : Int))) (by decide) (.slice A6 S.length c6)).set_ (i := 3) (((B2n.out.set_ 0 (.int .i64 (a : Int))).set_ 1 (.int .i64 (d : Int))).set_ 2 (.slice A6 S.length c6)) (by decide) (.slice A3 K.length c3))
      have hO3 := ((((O3n.out.set_ (i := 0) B2n.out (by decide) (.int .i64 (a : Int))).set_ (i := 1) (B2n.out.set_ 0 (.int .i64 (a : Int))) (by decide) (.int .i64 (d : Int))).set_ (i := 2) ((B2n.out.set_ 0 (.int .i64 (a : Int))).set_ 1 (.int .i64 (d : Int))) (by decide) (.slice A6 S.length c6)).set_ (i := 3) (((B2n.out.set_ 0 (.int .i64 (a : Int))).set_ 1 (.int .i64 (d : Int))).set_ 2 (.slice A6 S.length c6)) (by decide) (.slice A3 K.length c3))
      have hBB := ((((HBW.out.setCell (p := ⟨w.heap.size + 1, 0, none⟩) lb (.int .i64 (a : Int))).setCell (p := ⟨w.heap.size + 1, 1, none⟩) lb (.int .i64 (d : Int))).setCell (p := ⟨w.heap.size + 1, 2, none⟩) lb (.slice A6 S.length c6)).setCell (p := ⟨w.heap.size + 1, 3, none⟩) lb (.slice A3 K.length c3))
      refine bodyPost_ret (results_cell_row rfl _ _ (w.heap.size + 1) 25 _ (0, 0) _ rfl hrow Try.underlying25 rfl (by kernel_rfl)) rfl ?_
      exact ⟨_, _, rfl, hO6.lower HW0.out, hO3.lower HW4.out, hBB⟩
theorem r16level_c (a d : Int) (S : List Int) (As : Option Addr) (cs : Nat) (K : List Bk) (Ak : Option Addr) (ck : Nat) (w : World) (hS : ReadsI w As S) (hK : ReadsE EK w Ak K) (hn : S.length ≤ 9223372036854775807) (hm : K.length ≤ 9223372036854775807) :
    Calls Try.prog 16 #[flV a d (.slice As S.length cs) (.slice Ak K.length ck)] w (FlRes (levF a d S K).a (levF a d S K).d (levF a d S K).S (levF a d S K).K w) := by
  unfold levF
  cases h1 : okFl a d S K with
  | false => exact r16level_n a d S As cs K Ak ck w hS hK hn hm h1
  | true =>
    obtain ⟨A, D, rfl, rfl, _⟩ := okFl_nat h1
    exact r16level_y A D S As cs K Ak ck w hS hK hn hm h1

end Go.Proofs.Ytiedjeholmoccaa
