/- Levelled fields are even, and the units cover a field: the law's walk. -/
import Derived.Test.YtiedjeholmoccaaFdLw
import Derived.Test.YtiedjeholmoccaaFdS1
import Derived.Test.YtiedjeholmoccaaFdC1
import Derived.Test.YtiedjeholmoccaaOpenFd
namespace Go.Proofs.Ytiedjeholmoccaa
open Go.RowKit Go.Sort
set_option linter.unusedVariables false
set_option linter.unusedSimpArgs false
theorem World.grownBy_alloc_ (w : World) (o : Obj) (row : Option Nat) : w.grownBy (w.alloc o) row := only_of_below (below_alloc_ (Below.refl w.heap.size w) o) row
theorem okFl_of_ {A D : Nat} {S : List Int} {K K' : List Bk} (h : okFl A D S K = true) (hl : K'.length = K.length) (hk : okK K' = true) : okFl A D S K' = true := by
  obtain ⟨h1, h2, h3, h4, h5, h6⟩ := okFl_t h
  unfold okFl
  rw [h1, h2, h5, hk, hl]
  simp [h3, h4]
set_option maxRecDepth 100000 in
set_option maxHeartbeats 6400000 in
theorem lvs_big (a d : Int) (S : List Int) (As : Option Addr) (cs : Nat) (K : List Bk) (Ak : Option Addr) (ck : Nat) (w : World) (hS : ReadsI w As S) (hK : ReadsE EK w Ak K) (hn : S.length ≤ 9223372036854775807) (hm : K.length ≤ 9223372036854775807) (hg : bigB S.length K.length = true) :
    Calls Try.prog 6 #[flV a d (.slice As S.length cs) (.slice Ak K.length ck)] w fun e w' => e = .returned (.bool true) ∧ Below w.heap.size w w' := by
  have RS := Lib.hid hS
  have RK := Lib.hid hK
  have HB := Lib.hid (Below.refl w.heap.size w)
  have HG := Lib.hid hg
  clear hS hK hg
  have HB1 := Lib.hid (Below.refl w.heap.size w)
  go_enter Try.func6, Try.ntmps6
  go_wp2_with fail
  have HB1 := Lib.hid (below_alloc_ (HB1.out) (.cells #[.int .i64 a, .int .i64 d, .slice As S.length cs, .slice Ak K.length ck] 25))
  have hzw : (w.alloc (.cells #[.int .i64 a, .int .i64 d, .slice As S.length cs, .slice Ak K.length ck] 25)).heap.size = w.heap.size + 1 := by simp only [World.size_alloc]
  have B1 := Blk.new (w) 25 #[.int .i64 a, .int .i64 d, .slice As S.length cs, .slice Ak K.length ck]
  skip
  have B1 := Lib.hid B1
  generalize w.alloc (.cells #[.int .i64 a, .int .i64 d, .slice As S.length cs, .slice Ak K.length ck] 25) = w1 at *
  clear hzw
  refine (first_c w1).mono ?_
  rintro e w2 ⟨rfl, hb'⟩
  have HB1 := Lib.hid ((HB1.out).trans (hb'.mono (HB1.out).size))
  have B1 := Lib.hid ((B1.out).below hb' (B1.out).lt)
  clear hb'
  obtain ⟨zB10, zB11, zB12, zB13⟩ := (B1.out).cells4
  go_wp2_with fail
  clear zB10 zB11 zB12 zB13
  refine (big_c a d S As cs K Ak ck _ (RS.out.kept HB1.out) (RK.out.kept HB1.out) hn hm).mono ?_
  rintro e w3 ⟨rfl, hb'⟩
  have HB1 := Lib.hid ((HB1.out).trans (hb'.mono (HB1.out).size))
  have B1 := Lib.hid ((B1.out).below hb' (B1.out).lt)
  clear hb'
  rw [HG.out]
  obtain ⟨zB10, zB11, zB12, zB13⟩ := (B1.out).cells4
  go_wp2_with fail
  clear zB10 zB11 zB12 zB13
  go_ret
  exact ⟨rfl, HB1.out⟩
set_option maxRecDepth 100000 in
set_option maxHeartbeats 6400000 in
theorem lvs_not (a d : Int) (S : List Int) (As : Option Addr) (cs : Nat) (K : List Bk) (Ak : Option Addr) (ck : Nat) (w : World) (hS : ReadsI w As S) (hK : ReadsE EK w Ak K) (hn : S.length ≤ 9223372036854775807) (hm : K.length ≤ 9223372036854775807) (hg : bigB S.length K.length = false) (ho : okFl a d S K = false) :
    Calls Try.prog 6 #[flV a d (.slice As S.length cs) (.slice Ak K.length ck)] w fun e w' => e = .returned (.bool true) ∧ Below w.heap.size w w' := by
  have RS := Lib.hid hS
  have RK := Lib.hid hK
  have HB := Lib.hid (Below.refl w.heap.size w)
  have HG := Lib.hid hg
  have HO := Lib.hid ho
  clear hS hK hg ho
  have HB1 := Lib.hid (Below.refl w.heap.size w)
  go_enter Try.func6, Try.ntmps6
  go_wp2_with fail
  have HB1 := Lib.hid (below_alloc_ (HB1.out) (.cells #[.int .i64 a, .int .i64 d, .slice As S.length cs, .slice Ak K.length ck] 25))
  have hzw : (w.alloc (.cells #[.int .i64 a, .int .i64 d, .slice As S.length cs, .slice Ak K.length ck] 25)).heap.size = w.heap.size + 1 := by simp only [World.size_alloc]
  have B1 := Blk.new (w) 25 #[.int .i64 a, .int .i64 d, .slice As S.length cs, .slice Ak K.length ck]
  skip
  have B1 := Lib.hid B1
  generalize w.alloc (.cells #[.int .i64 a, .int .i64 d, .slice As S.length cs, .slice Ak K.length ck] 25) = w1 at *
  clear hzw
  refine (first_c w1).mono ?_
  rintro e w2 ⟨rfl, hb'⟩
  have HB1 := Lib.hid ((HB1.out).trans (hb'.mono (HB1.out).size))
  have B1 := Lib.hid ((B1.out).below hb' (B1.out).lt)
  clear hb'
  obtain ⟨zB10, zB11, zB12, zB13⟩ := (B1.out).cells4
  go_wp2_with fail
  clear zB10 zB11 zB12 zB13
  refine (big_c a d S As cs K Ak ck _ (RS.out.kept HB1.out) (RK.out.kept HB1.out) hn hm).mono ?_
  rintro e w3 ⟨rfl, hb'⟩
  have HB1 := Lib.hid ((HB1.out).trans (hb'.mono (HB1.out).size))
  have B1 := Lib.hid ((B1.out).below hb' (B1.out).lt)
  clear hb'
  rw [HG.out]
  obtain ⟨zB10, zB11, zB12, zB13⟩ := (B1.out).cells4
  go_wp2_with fail
  clear zB10 zB11 zB12 zB13
  refine (fright_c a d S As cs K Ak ck _ (RS.out.kept HB1.out) (RK.out.kept HB1.out) hn hm).mono ?_
  rintro e w4 ⟨rfl, hb'⟩
  have HB1 := Lib.hid ((HB1.out).trans (hb'.mono (HB1.out).size))
  have B1 := Lib.hid ((B1.out).below hb' (B1.out).lt)
  clear hb'
  rw [HO.out]
  obtain ⟨zB10, zB11, zB12, zB13⟩ := (B1.out).cells4
  go_wp2_with fail
  clear zB10 zB11 zB12 zB13
  go_ret
  exact ⟨rfl, HB1.out⟩
set_option maxRecDepth 100000 in
set_option maxHeartbeats 6400000 in
theorem lvs_yes (a d : Nat) (S : List Int) (As : Option Addr) (cs : Nat) (K : List Bk) (Ak : Option Addr) (ck : Nat) (w : World) (hS : ReadsI w As S) (hK : ReadsE EK w Ak K) (hn : S.length ≤ 9223372036854775807) (hm : K.length ≤ 9223372036854775807) (hg : bigB S.length K.length = false) (ho : okFl a d S K = true) :
    Calls Try.prog 6 #[flV a d (.slice As S.length cs) (.slice Ak K.length ck)] w fun e w' => e = .returned (.bool true) ∧ Below w.heap.size w w' := by
  have RS := Lib.hid hS
  have RK := Lib.hid hK
  have HB := Lib.hid (Below.refl w.heap.size w)
  have HG := Lib.hid hg
  have HO := Lib.hid ho
  have hg1 := bigB_f hg
  obtain ⟨A, D, ea, ed, a1, a2, d1, d2, hl, hkl, hS1, hK1⟩ := okFl_nat ho
  have HL := Lib.hid hl
  have HKL := Lib.hid hkl
  have HS1 := Lib.hid hS1
  have ea := Int.ofNat.inj ea
  have ed := Int.ofNat.inj ed
  subst ea
  subst ed
  obtain ⟨LK, hLK⟩ : ∃ LK, LK = levelK a S K := ⟨_, rfl⟩
  have hll : LK.length = K.length := by rw [hLK]; exact levelK_length _ _ _
  have HLL := Lib.hid hll
  have HLV := Lib.hid (show levF a d S K = ⟨a, d, S, LK⟩ by unfold levF; rw [if_pos ho, hLK]; rfl)
  have okL : okFl a d S LK = true := by rw [hLK]; exact okFl_of_ ho (levelK_length _ _ _) (level_ok a1 hl hS1 hkl hK1)
  have hLL : levelK a S LK = LK := by rw [hLK]; exact level_level a1 hl hS1 hkl
  have HLV2 := Lib.hid (show levF a d S LK = ⟨a, d, S, LK⟩ by unfold levF; rw [if_pos okL]; simp only [Int.toNat_natCast]; rw [hLL])
  have HEV := Lib.hid (show evenB a d S LK = true by unfold evenB; rw [okL, Bool.true_and]; exact decide_eq_true hLL)
  obtain ⟨us, hus⟩ : ∃ us, us = unsL a S := ⟨_, rfl⟩
  have HUF := Lib.hid (show unsF (a : Int) (d : Int) S K = us by unfold unsF; rw [if_pos ho, hus]; rfl)
  have HUI := Lib.hid (show ∀ k, (h : k < us.length) → ∃ x y s : Nat, us[k] = ⟨x, y, s⟩ ∧ 1 ≤ s ∧ s ≤ 4 ∧ x + s ≤ 4 * a ∧ y + s ≤ 4 * d from fun k h => unsL_in (a := a) (d := d) a1 hl hS1 (by rw [← hus]; exact List.getElem_mem h))
  have HCA := Lib.hid (show ∀ p, p < K.length → covU (4 * a) us us.length p = 1 from fun p hp => by rw [hus]; exact covU_all a1 hl hS1 hkl hp)
  have hul : us.length ≤ 65536 := by have h := unsF_len (a : Int) (d : Int) S K; rw [HUF.out] at h; exact h
  have hm2 : LK.length ≤ 9223372036854775807 := by rw [hll]; exact hm
  clear hl hkl hS1 hK1 hLK hll okL hLL hus ea ed
  clear hS hK hg ho
  have HB1 := Lib.hid (Below.refl w.heap.size w)
  go_enter Try.func6, Try.ntmps6
  go_wp2_with fail
  have HB1 := Lib.hid (below_alloc_ (HB1.out) (.cells #[.int .i64 a, .int .i64 d, .slice As S.length cs, .slice Ak K.length ck] 25))
  have hzw : (w.alloc (.cells #[.int .i64 a, .int .i64 d, .slice As S.length cs, .slice Ak K.length ck] 25)).heap.size = w.heap.size + 1 := by simp only [World.size_alloc]
  have B1 := Blk.new (w) 25 #[.int .i64 a, .int .i64 d, .slice As S.length cs, .slice Ak K.length ck]
  skip
  have B1 := Lib.hid B1
  generalize w.alloc (.cells #[.int .i64 a, .int .i64 d, .slice As S.length cs, .slice Ak K.length ck] 25) = w1 at *
  clear hzw
  refine (first_c w1).mono ?_
  rintro e w2 ⟨rfl, hb'⟩
  have HB1 := Lib.hid ((HB1.out).trans (hb'.mono (HB1.out).size))
  have B1 := Lib.hid ((B1.out).below hb' (B1.out).lt)
  clear hb'
  obtain ⟨zB10, zB11, zB12, zB13⟩ := (B1.out).cells4
  go_wp2_with fail
  clear zB10 zB11 zB12 zB13
  refine (big_c a d S As cs K Ak ck _ (RS.out.kept HB1.out) (RK.out.kept HB1.out) hn hm).mono ?_
  rintro e w3 ⟨rfl, hb'⟩
  have HB1 := Lib.hid ((HB1.out).trans (hb'.mono (HB1.out).size))
  have B1 := Lib.hid ((B1.out).below hb' (B1.out).lt)
  clear hb'
  rw [HG.out]
  obtain ⟨zB10, zB11, zB12, zB13⟩ := (B1.out).cells4
  go_wp2_with fail
  clear zB10 zB11 zB12 zB13
  refine (fright_c a d S As cs K Ak ck _ (RS.out.kept HB1.out) (RK.out.kept HB1.out) hn hm).mono ?_
  rintro e w4 ⟨rfl, hb'⟩
  have HB1 := Lib.hid ((HB1.out).trans (hb'.mono (HB1.out).size))
  have B1 := Lib.hid ((B1.out).below hb' (B1.out).lt)
  clear hb'
  rw [HO.out]
  obtain ⟨zB10, zB11, zB12, zB13⟩ := (B1.out).cells4
  go_wp2_with fail
  clear zB10 zB11 zB12 zB13
  have h9 := flevel_c a d S As cs K Ak ck w4 (RS.out.kept HB1.out) (RK.out.kept HB1.out) hn hm
  rw [HLV.out] at h9
  refine h9.mono ?_
  rintro e w5 ⟨vs, vk, rfl, hs, hk, hb'⟩
  clear h9
  have HB1 := Lib.hid ((HB1.out).trans (hb'.mono (HB1.out).size))
  have B1 := Lib.hid ((B1.out).below hb' (B1.out).lt)
  obtain ⟨A1, c1, rfl, _⟩ := hs.slice
  obtain ⟨A2, c2, rfl, _⟩ := hk.slice
  have OS := Lib.hid hs
  have OK := Lib.hid hk
  clear hs hk hb'
  dsimp only
  skip
  go_upto_region 6 with fail
  have HB1 := Lib.hid (below_alloc_ (HB1.out) (.cells #[.int .i64 (a : Int), .int .i64 (d : Int), .slice A1 S.length c1, .slice A2 LK.length c2] 25))
  have B1 := Lib.hid ((B1.out).alloc (.cells #[.int .i64 (a : Int), .int .i64 (d : Int), .slice A1 S.length c1, .slice A2 LK.length c2] 25))
  have OS := Lib.hid ((OS.out).alloc (.cells #[.int .i64 (a : Int), .int .i64 (d : Int), .slice A1 S.length c1, .slice A2 LK.length c2] 25))
  have OK := Lib.hid ((OK.out).alloc (.cells #[.int .i64 (a : Int), .int .i64 (d : Int), .slice A1 S.length c1, .slice A2 LK.length c2] 25))
  have hzw : (w5.alloc (.cells #[.int .i64 (a : Int), .int .i64 (d : Int), .slice A1 S.length c1, .slice A2 LK.length c2] 25)).heap.size = w5.heap.size + 1 := by simp only [World.size_alloc]
  have B3 := Blk.new (w5) 25 #[.int .i64 (a : Int), .int .i64 (d : Int), .slice A1 S.length c1, .slice A2 LK.length c2]
  skip
  have B3 := Lib.hid B3
  generalize w5.alloc (.cells #[.int .i64 (a : Int), .int .i64 (d : Int), .slice A1 S.length c1, .slice A2 LK.length c2] 25) = w6 at *
  clear hzw
  have RK := Lib.hid (RK.out.kept HB1.out)
  have RS := Lib.hid (RS.out.kept HB1.out)
  have HB := Lib.hid (HB.out.trans (HB1.out.mono HB.out.size))
  have HB1 := Lib.hid (Below.refl w6.heap.size w6)
  obtain ⟨zB10, zB11, zB12, zB13⟩ := (B1.out.below HB1.out B1.out.lt).cells4
  obtain ⟨zB30, zB31, zB32, zB33⟩ := (B3.out.below HB1.out B3.out.lt).cells4
  have kq0 := cell_regrown zB10
  have kq1 := cell_regrown zB11
  have kq2 := cell_regrown zB12
  have kq3 := cell_regrown zB13
  have kq4 := cell_regrown zB30
  have kq5 := cell_regrown zB31
  have kq6 := cell_regrown zB32
  have kq7 := cell_regrown zB33
  clear zB10 zB11 zB12 zB13 zB30 zB31 zB32 zB33
  refine wp_mono [Brings.one ?b1_0, Brings.one ?b2_1, Brings.one ?b3_2, Brings.one ?b4_3, Brings.one ?b5_4, Brings.fl w6.heap.size (a) (d) (S) (LK), Brings.one ?b6_6, Brings.one ?b7_7, Brings.one ?b8_8, Brings.one ?b9_9, Brings.one ?b10_10, Brings.one ?b11_11, Brings.fl w6.heap.size (a) (d) (S) (LK), Brings.one ?b12_13, Brings.one ?b13_14, Brings.one ?b14_15, Brings.one ?b15_16] (by kernel_rfl) (by kernel_rfl) ?_
  rotate_left 15
  refine wpL_take (k' := 1) rfl (by kernel_rfl) (fun d os => ?t16) ?_
  case t16 => (unfold bringsAt; go_simp; first | with_reducible exact take_one | exact take_one)
  try simp only [Act.put, List.setIfInBounds_toArray, List.set_cons_zero, List.set_cons_succ]
  refine wpL_call (k' := 2) rfl (by kernel_rfl) (fun wz hz hd => ?t17) ?_
  case t17 =>
    have HZ := Lib.hid (HB1.out.trans (hz.mono HB1.out.size))
    unfold bringsAt
    go_simp
    have h9 := feven_c a d S A1 c1 LK A2 c2 wz (OS.out.kept HZ.out).reads (OK.out.kept HZ.out).reads hn hm2
    rw [HEV.out] at h9
    refine call_one_as h9 ?_
    rfl
  try simp only [Act.put, List.setIfInBounds_toArray, List.set_cons_zero, List.set_cons_succ]
  refine wpL_take (k' := 3) rfl (by kernel_rfl) (fun d os => ?t18) ?_
  case t18 => (unfold bringsAt; go_simp; first | with_reducible exact take_one | exact take_one)
  try simp only [Act.put, List.setIfInBounds_toArray, List.set_cons_zero, List.set_cons_succ]
  refine wpL_take (k' := 4) rfl (by kernel_rfl) (fun d os => ?t19) ?_
  case t19 => (unfold bringsAt; go_simp; first | with_reducible exact take_one | exact take_one)
  try simp only [Act.put, List.setIfInBounds_toArray, List.set_cons_zero, List.set_cons_succ]
  refine wpL_take (k' := 5) rfl (by kernel_rfl) (fun d os => ?t20) ?_
  case t20 => (unfold bringsAt; go_simp; first | with_reducible exact take_one | exact take_one)
  try simp only [Act.put, List.setIfInBounds_toArray, List.set_cons_zero, List.set_cons_succ]
  refine wpL_fl (k' := 6) rfl (by kernel_rfl) (fun wz hz hd => ?t21) (fun A4 c4 A5 c5 => ?_)
  case t21 =>
    have HZ := Lib.hid (HB1.out.trans (hz.mono HB1.out.size))
    unfold bringsAt
    go_simp
    have h9 := flevel_c a d S A1 c1 LK A2 c2 wz (OS.out.kept HZ.out).reads (OK.out.kept HZ.out).reads hn hm2
    rw [HLV2.out] at h9
    exact call_fl hz.size h9
  try simp only [Act.put, List.setIfInBounds_toArray, List.set_cons_zero, List.set_cons_succ]
  refine wpL_take (k' := 7) rfl (by kernel_rfl) (fun d os => ?t22) ?_
  case t22 => (unfold bringsAt; go_simp; first | with_reducible exact take_one | exact take_one)
  try simp only [Act.put, List.setIfInBounds_toArray, List.set_cons_zero, List.set_cons_succ]
  refine wpL_call (k' := 8) rfl (by kernel_rfl) (fun wz hz hd => ?t23) ?_
  case t23 =>
    have HZ := Lib.hid (HB1.out.trans (hz.mono HB1.out.size))
    have G5 := Lib.hid (show OwnI wz w6.heap.size (.slice A4 (S).length c4) (S) ∧ OwnE EK wz w6.heap.size (.slice A5 (LK).length c5) (LK) from hd.get 5 (by kernel_rfl))
    unfold bringsAt
    go_simp
    have h9 := r16same_y a d S A4 A1 c4 c1 LK LK A5 A2 c5 c2 wz G5.out.1.reads (OS.out.kept HZ.out).reads G5.out.2.reads (OK.out.kept HZ.out).reads hn hm2 rfl rfl
    refine call_one_as h9 ?_
    rfl
  try simp only [Act.put, List.setIfInBounds_toArray, List.set_cons_zero, List.set_cons_succ]
  refine wpL_take (k' := 9) rfl (by kernel_rfl) (fun d os => ?t24) ?_
  case t24 => (unfold bringsAt; go_simp; first | with_reducible exact take_one | exact take_one)
  try simp only [Act.put, List.setIfInBounds_toArray, List.set_cons_zero, List.set_cons_succ]
  refine wpL_take (k' := 10) rfl (by kernel_rfl) (fun d os => ?t25) ?_
  case t25 => (unfold bringsAt; go_simp; first | with_reducible exact take_one | exact take_one)
  try simp only [Act.put, List.setIfInBounds_toArray, List.set_cons_zero, List.set_cons_succ]
  refine wpL_take (k' := 11) rfl (by kernel_rfl) (fun d os => ?t26) ?_
  case t26 => (unfold bringsAt; go_simp; first | with_reducible exact take_one | exact take_one)
  try simp only [Act.put, List.setIfInBounds_toArray, List.set_cons_zero, List.set_cons_succ]
  refine wpL_take (k' := 12) rfl (by kernel_rfl) (fun d os => ?t27) ?_
  case t27 => (unfold bringsAt; go_simp; first | with_reducible exact take_one | exact take_one)
  try simp only [Act.put, List.setIfInBounds_toArray, List.set_cons_zero, List.set_cons_succ]
  refine wpL_fl (k' := 13) rfl (by kernel_rfl) (fun wz hz hd => ?t28) (fun A6 c6 A7 c7 => ?_)
  case t28 =>
    have HZ := Lib.hid (HB1.out.trans (hz.mono HB1.out.size))
    unfold bringsAt
    go_simp
    have h9 := flevel_c a d S As cs K Ak ck wz (RS.out.kept HZ.out) (RK.out.kept HZ.out) hn hm
    rw [HLV.out] at h9
    exact call_fl hz.size h9
  try simp only [Act.put, List.setIfInBounds_toArray, List.set_cons_zero, List.set_cons_succ]
  refine wpL_take (k' := 14) rfl (by kernel_rfl) (fun d os => ?t29) ?_
  case t29 => (unfold bringsAt; go_simp; first | with_reducible exact take_one | exact take_one)
  try simp only [Act.put, List.setIfInBounds_toArray, List.set_cons_zero, List.set_cons_succ]
  refine wpL_call (k' := 15) rfl (by kernel_rfl) (fun wz hz hd => ?t30) ?_
  case t30 =>
    have HZ := Lib.hid (HB1.out.trans (hz.mono HB1.out.size))
    have G12 := Lib.hid (show OwnI wz w6.heap.size (.slice A6 (S).length c6) (S) ∧ OwnE EK wz w6.heap.size (.slice A7 (LK).length c7) (LK) from hd.get 12 (by kernel_rfl))
    unfold bringsAt
    go_simp
    have h9 := r16same_y a d S A6 A1 c6 c1 LK LK A7 A2 c7 c2 wz G12.out.1.reads (OS.out.kept HZ.out).reads G12.out.2.reads (OK.out.kept HZ.out).reads hn hm2 rfl rfl
    refine call_one_as h9 ?_
    rfl
  try simp only [Act.put, List.setIfInBounds_toArray, List.set_cons_zero, List.set_cons_succ]
  refine wpL_take (k' := 16) rfl (by kernel_rfl) (fun d os => ?t31) ?_
  case t31 => (unfold bringsAt; go_simp; first | with_reducible exact take_one | exact take_one)
  try simp only [Act.put, List.setIfInBounds_toArray, List.set_cons_zero, List.set_cons_succ]
  refine wpL_take (k' := 17) rfl (by kernel_rfl) (fun d os => ?t32) ?_
  case t32 => (unfold bringsAt; go_simp; first | with_reducible exact take_one | exact take_one)
  try simp only [Act.put, List.setIfInBounds_toArray, List.set_cons_zero, List.set_cons_succ]
  refine wpL_nil ?_
  intro w7 hH
  have hb' := hH.below
  clear kq0 kq1 kq2 kq3 kq4 kq5 kq6 kq7
  have HB1 := Lib.hid ((HB1.out).trans (hb'.mono (HB1.out).size))
  have G5 := Lib.hid (show OwnI w7 w6.heap.size (.slice A4 (S).length c4) (S) ∧ OwnE EK w7 w6.heap.size (.slice A5 (LK).length c5) (LK) from hH.facts 5)
  have G5S := Lib.hid G5.out.1
  have G5K := Lib.hid G5.out.2
  clear G5
  have G12 := Lib.hid (show OwnI w7 w6.heap.size (.slice A6 (S).length c6) (S) ∧ OwnE EK w7 w6.heap.size (.slice A7 (LK).length c7) (LK) from hH.facts 12)
  have G12S := Lib.hid G12.out.1
  have G12K := Lib.hid G12.out.2
  clear G12
  clear hH hb'
  clear G5S G5K G12S G12K
  obtain ⟨zB10, zB11, zB12, zB13⟩ := (B1.out.below HB1.out B1.out.lt).cells4
  go_upto_region 8 with fail
  clear zB10 zB11 zB12 zB13
  have M1 := make_int 22 Try.underlying22 K.length (by omega)
  obtain ⟨zB10, zB11, zB12, zB13⟩ := (B1.out.below HB1.out B1.out.lt).cells4
  go_upto_region 9 with fail
  clear zB10 zB11 zB12 zB13
  clear M1
  have Rn := RowI.new w7 (List.replicate K.length (0 : Int))
  rw [rep_ints, ← seenL_zero (4 * a) us] at Rn
  have Rn := Lib.hid Rn
  have GN := HB1.out.size
  obtain ⟨gn, hgn⟩ : ∃ n, n = w7.heap.size := ⟨_, rfl⟩
  rw [← hgn] at Rn GN ⊢
  have HB1 := Lib.hid (below_alloc_ (HB1.out) (.cells (Array.replicate K.length (.int .i64 0)) 3))
  have hzw : (w7.alloc (.cells (Array.replicate K.length (.int .i64 0)) 3)).heap.size = w7.heap.size + 1 := by simp only [World.size_alloc]
  generalize w7.alloc (.cells (Array.replicate K.length (.int .i64 0)) 3) = w8 at *
  clear hzw hgn
  clear OS OK B3
  obtain ⟨zB10, zB11, zB12, zB13⟩ := (B1.out.below HB1.out B1.out.lt).cells4
  go_wp2_with fail
  clear zB10 zB11 zB12 zB13
  have h9 := flist_c a d S As cs K Ak ck w8 (RS.out.kept HB1.out) (RK.out.kept HB1.out) hn hm
  rw [HUF.out] at h9
  refine h9.mono ?_
  rintro e w9 ⟨v, rfl, hu, hb'⟩
  clear h9
  have HB1 := Lib.hid ((HB1.out).trans (hb'.mono (HB1.out).size))
  have Rn := Lib.hid ((Rn.out).below hb' (Rn.out).lt)
  obtain ⟨A8, c8, rfl, _⟩ := hu.slice
  have OU := Lib.hid hu
  clear hu hb'
  go_upto_region 10 with fail
  have B1L := Lib.hid (B1.out.below HB1.out B1.out.lt)
  have HBl := Lib.hid HB1.out
  have nb1 : gn ≠ w.heap.size := by have := GN; have := B1.out.lt; omega
  have gnl := Rn.out.lt
  have nOU := own_blk_ne OU.out Rn.out (by decide)
  clear HB1
  go_loopw [46] (fun v wr => ∃ k : Nat, k ≤ us.length ∧ v = .int .i64 k ∧ w9.grownBy wr (some gn) ∧ RowI wr gn (seenL (4 * a) us K.length k)) (fun v _ => us.length - (intOf v).toNat)
  case atStart => exact ⟨0, Nat.zero_le _, rfl, World.grownBy.refl _ _, Rn.out⟩
  case round =>
    clear Rn
    obtain ⟨k, hk, rfl, hg, hr⟩ := hrel
    have HG0 := Lib.hid hg
    have Rn := Lib.hid hr
    obtain ⟨wk, ewk⟩ : ∃ q, q = wr := ⟨_, rfl⟩
    subst ewk
    clear hg hr
    have B1k := Lib.hid (B1L.out.grown HG0.out (by intro h; injection h with h; exact nb1 h.symm))
    have OUk := Lib.hid (OU.out.grown HG0.out (.inr nOU))
    by_cases hkl : k < us.length
    · skip
      obtain ⟨ux, uy, s, eu, s1, s4, hux, huy⟩ := HUI.out k hkl
      obtain ⟨ad, hA8, l1, y0, y1, y2⟩ := OUk.out.reads.un hkl
      subst hA8
      rw [eu] at y0 y1 y2
      dsimp only at y0 y1 y2
      have HUG := Lib.hid (show unG us k = ⟨ux, uy, s⟩ by rw [unG_lt hkl]; exact eu)
      have i1 : (0 : Int) ≤ (k : Int) := by omega
      have i2 : (k : Int) < (us.length : Int) := by omega
      clear l1 eu
      go_upto_region 12 with fail
      clear y0 y1 y2 i1 i2
      have HGa := Lib.hid (HG0.out.trans (World.grownBy_alloc_ wk (.cells #[.int .i64 (ux : Int), .int .i64 (uy : Int), .int .i64 (s : Int)] 34) (some gn)))
      have B1k := Lib.hid ((B1k.out).alloc (.cells #[.int .i64 (ux : Int), .int .i64 (uy : Int), .int .i64 (s : Int)] 34))
      have Rn := Lib.hid ((Rn.out).alloc (.cells #[.int .i64 (ux : Int), .int .i64 (uy : Int), .int .i64 (s : Int)] 34))
      have hzw : (wk.alloc (.cells #[.int .i64 (ux : Int), .int .i64 (uy : Int), .int .i64 (s : Int)] 34)).heap.size = wk.heap.size + 1 := by simp only [World.size_alloc]
      have B6 := Blk.new (wk) 34 #[.int .i64 (ux : Int), .int .i64 (uy : Int), .int .i64 (s : Int)]
      skip
      have B6 := Lib.hid B6
      generalize wk.alloc (.cells #[.int .i64 (ux : Int), .int .i64 (uy : Int), .int .i64 (s : Int)] 34) = w10 at *
      clear hzw
      obtain ⟨b6, hb6⟩ : ∃ n, n = wk.heap.size := ⟨_, rfl⟩
      rw [← hb6] at B6 ⊢
      clear hb6
      have nb6 : gn ≠ b6 := Blk.ne_ Rn.out B6.out (by decide)
      rw [← midS_zero (4 * a) us K.length k ux uy s] at Rn
      obtain ⟨zB1k0, zB1k1, zB1k2, zB1k3⟩ := (B1k.out).cells4
      obtain ⟨zB60, zB61, zB62⟩ := (B6.out).cells3
      go_upto_region 13 with fail
      clear zB1k0 zB1k1 zB1k2 zB1k3
      clear zB60 zB61 zB62
      go_loopw [52] (fun v wr => ∃ y : Nat, y ≤ s ∧ v = .int .i64 y ∧ w10.grownBy wr (some gn) ∧ RowI wr gn (midS (4 * a) us K.length k ux uy s y 0)) (fun v _ => s - (intOf v).toNat)
      case atStart => exact ⟨0, Nat.zero_le _, rfl, World.grownBy.refl _ _, Rn.out⟩
      case round =>
        clear Rn
        obtain ⟨y, hy, rfl, hg, hn'⟩ := hrel
        have HG := Lib.hid hg
        have Rn := Lib.hid hn'
        obtain ⟨wy, ewy⟩ : ∃ wy, wy = wr := ⟨_, rfl⟩
        subst ewy
        clear hg hn'
        by_cases hyl : y < s
        · skip
          have B1kx := B1k.out.grown HG.out (by intro h; injection h with h; exact nb1 h.symm)
          obtain ⟨zB1k0, zB1k1, zB1k2, zB1k3⟩ := B1kx.cells4
          clear B1kx
          have B6x := B6.out.grown HG.out (by intro h; injection h with h; exact nb6 h.symm)
          obtain ⟨zB60, zB61, zB62⟩ := B6x.cells3
          clear B6x
          go_upto_region 16 with fail
          clear zB1k0 zB1k1 zB1k2 zB1k3
          clear zB60 zB61 zB62
          go_loopw [57] (fun v wr => ∃ x : Nat, x ≤ s ∧ v = .int .i64 x ∧ w10.grownBy wr (some gn) ∧ RowI wr gn (midS (4 * a) us K.length k ux uy s y x)) (fun v _ => s - (intOf v).toNat)
          case atStart => exact ⟨0, Nat.zero_le _, rfl, HG.out, Rn.out⟩
          case round =>
            clear Rn HG
            obtain ⟨x, hx, rfl, hg, hn'⟩ := hrel
            have HG := Lib.hid hg
            have Rn := Lib.hid hn'
            obtain ⟨wx, ewx⟩ : ∃ wx, wx = wr := ⟨_, rfl⟩
            subst ewx
            clear hg hn'
            by_cases hxl : x < s
            · skip
              obtain ⟨pl, hpl⟩ : ∃ pl : Nat, pl = (uy + y) * (4 * a) + ux + x := ⟨_, rfl⟩
              have hin : pl < K.length := by rw [hpl]; exact fl_place HKL.out hux huy hxl hyl
              have hin0 := hin
              rw [hpl] at hin0
              obtain ⟨m1, m2⟩ := midS_at us k (y := y) (uy := uy) hxl hux hin0
              rw [← hpl] at m1 m2
              obtain ⟨cv, hcv⟩ : ∃ cv, cv = covU (4 * a) us k pl := ⟨_, rfl⟩
              have hcb := covU_bd (4 * a) us k pl
              rw [← hcv] at m1 m2 hcb
              have M2 := Lib.hid m2
              have zn := Rn.out.cell (i := pl) (by rw [midS_length]; exact hin)
              have fn := Rn.out.frozen pl
              rw [show (midS (4 * a) us K.length k ux uy s y x).getD pl 0 = cv from m1] at zn
              have W3 : IntKind.i64.wrap (cv + 1) = cv + 1 := IntWalk.i64_in _ (by omega)
              obtain ⟨r, hr⟩ : ∃ r : Nat, r = (uy + y) * (4 * a) := ⟨_, rfl⟩
              have er : ((uy : Int) + (y : Int)) * 4 * (a : Int) = (r : Int) := by rw [hr, Int.mul_assoc]; push_cast; rfl
              have r1 : r ≤ pl := by rw [hpl, ← hr]; omega
              have e1 : (r : Int) + (ux : Int) + (x : Int) = (pl : Int) := by rw [hpl, ← hr]; push_cast; rfl
              have p1 : (pl : Int) < (K.length : Int) := by omega
              have p0 : (0 : Int) ≤ (pl : Int) := by omega
              have W4 : IntKind.i64.wrap ((uy : Int) + (y : Int)) = (uy : Int) + (y : Int) := IntWalk.i64_in _ (by omega)
              have W5 : IntKind.i64.wrap (((uy : Int) + (y : Int)) * 4) = ((uy : Int) + (y : Int)) * 4 := IntWalk.i64_in _ (by omega)
              have W6 : IntKind.i64.wrap (((uy : Int) + (y : Int)) * 4 * (a : Int)) = (r : Int) := by rw [er]; exact IntWalk.i64_in _ (by omega)
              have W7 : IntKind.i64.wrap ((r : Int) + (ux : Int)) = (r : Int) + (ux : Int) := IntWalk.i64_in _ (by omega)
              have W8 : IntKind.i64.wrap ((r : Int) + (ux : Int) + (x : Int)) = (pl : Int) := by rw [e1]; exact IntWalk.i64_in _ (by omega)
              clear m1 m2 hcb hpl hin0 hcv e1 er hr r1
              have B1kx := B1k.out.grown HG.out (by intro h; injection h with h; exact nb1 h.symm)
              obtain ⟨zB1k0, zB1k1, zB1k2, zB1k3⟩ := B1kx.cells4
              clear B1kx
              have B6x := B6.out.grown HG.out (by intro h; injection h with h; exact nb6 h.symm)
              obtain ⟨zB60, zB61, zB62⟩ := B6x.cells3
              clear B6x
              go_wp2_with fail
              clear zB1k0 zB1k1 zB1k2 zB1k3
              clear zB60 zB61 zB62
              have hrs := RowI.set_ Rn.out pl (cv + 1)
              rw [M2.out] at hrs
              go_roundw
              case rel => exact ⟨x + 1, by omega, by go_num, only_setCell HG.out (.inl rfl) _, hrs⟩
              case measure => simp [intOf]; omega
            · skip
              obtain rfl : x = s := by omega
              have B1kx := B1k.out.grown HG.out (by intro h; injection h with h; exact nb1 h.symm)
              obtain ⟨zB1k0, zB1k1, zB1k2, zB1k3⟩ := B1kx.cells4
              clear B1kx
              have B6x := B6.out.grown HG.out (by intro h; injection h with h; exact nb6 h.symm)
              obtain ⟨zB60, zB61, zB62⟩ := B6x.cells3
              clear B6x
              go_wp2_with fail
              clear zB1k0 zB1k1 zB1k2 zB1k3
              clear zB60 zB61 zB62
              rw [midS_row] at Rn
              go_roundw
              case rel => exact ⟨y + 1, by omega, by go_num, HG.out, Rn.out⟩
              case measure => simp [intOf]; omega
        · skip
          obtain rfl : y = s := by omega
          have B1kx := B1k.out.grown HG.out (by intro h; injection h with h; exact nb1 h.symm)
          obtain ⟨zB1k0, zB1k1, zB1k2, zB1k3⟩ := B1kx.cells4
          clear B1kx
          have B6x := B6.out.grown HG.out (by intro h; injection h with h; exact nb6 h.symm)
          obtain ⟨zB60, zB61, zB62⟩ := B6x.cells3
          clear B6x
          go_wp2_with fail
          clear zB1k0 zB1k1 zB1k2 zB1k3
          clear zB60 zB61 zB62
          rw [midS_end (4 * a) us K.length HUG.out] at Rn
          go_roundw
          case rel => exact ⟨k + 1, by omega, by go_num, HGa.out.trans HG.out, Rn.out⟩
          case measure => simp [intOf]; omega
    · skip
      obtain rfl : k = us.length := by omega
      clear hk hkl
      obtain ⟨zB1k0, zB1k1, zB1k2, zB1k3⟩ := (B1k.out).cells4
      go_upto_region 23 with fail
      clear zB1k0 zB1k1 zB1k2 zB1k3
      go_loop [83] (fun v => ∃ j : Nat, j ≤ K.length ∧ v = .int .i64 j) (fun v => K.length - (intOf v).toNat)
      case atStart => exact ⟨0, Nat.zero_le _, rfl⟩
      case round =>
        obtain ⟨j, hj, rfl⟩ := hrel
        by_cases hjl : j < K.length
        · skip
          have j1 : (0 : Int) ≤ (j : Int) := by omega
          have j2 : (j : Int) < (K.length : Int) := by omega
          have zn := Rn.out.cell (i := j) (by rw [seenL_length]; exact hjl)
          have e1 : (seenL (4 * a) us K.length us.length).getD j 0 = 1 := by unfold seenL; rw [tab_at _ _ hjl]; exact HCA.out j hjl
          rw [e1] at zn
          clear e1
          go_wp2_with fail
          go_round
          case rel => exact ⟨j + 1, by omega, by go_num⟩
          case measure => simp [intOf]; omega
        · skip
          go_wp2_with fail
          go_ret
          exact ⟨rfl, HB.out.trans ((HBl.out.grown HG0.out HBl.out.size (fun g hg => by injection hg with hg; rw [← hg]; exact GN)).mono HB.out.size)⟩
theorem fieldLevels_walk (x0 : Flx) (v0 : Value) (w : World) (k0 : IsFl w v0 x0) :
    Calls Try.prog 6 #[v0] w fun e w' => e = .returned (.bool true) ∧ Below w.heap.size w w' := by
  obtain ⟨As, cs, Ak, ck, rfl, hS, hK, hn, hm, _⟩ := k0
  obtain ⟨a, d, S, K⟩ := x0
  dsimp only at hS hK hn hm ⊢
  cases hg : bigB S.length K.length with
  | true => exact lvs_big a d S As cs K Ak ck w hS hK hn hm hg
  | false =>
    cases ho : okFl a d S K with
    | false => exact lvs_not a d S As cs K Ak ck w hS hK hn hm hg ho
    | true =>
      obtain ⟨A, D, rfl, rfl, _⟩ := okFl_nat ho
      exact lvs_yes A D S As cs K Ak ck w hS hK hn hm hg ho

end Go.Proofs.Ytiedjeholmoccaa
