/- What is laid over any unit: the law's walk. -/
import Derived.Test.YtiedjeholmoccaaFdS1
import Derived.Test.YtiedjeholmoccaaFdS2
import Derived.Test.YtiedjeholmoccaaFdS3
import Derived.Test.YtiedjeholmoccaaOpenFd
namespace Go.Proofs.Ytiedjeholmoccaa
open Go.RowKit Go.Sort
set_option linter.unusedVariables false
set_option linter.unusedSimpArgs false
set_option maxRecDepth 100000 in
set_option maxHeartbeats 6400000 in
theorem sts_big (a d : Int) (S : List Int) (As : Option Addr) (cs : Nat) (K : List Bk) (Ak : Option Addr) (ck : Nat) (u : Un) (b : Bk) (w : World) (hS : ReadsI w As S) (hK : ReadsE EK w Ak K) (hn : S.length ≤ 9223372036854775807) (hm : K.length ≤ 9223372036854775807) (hb : -9223372036854775808 ≤ b.m ∧ b.m ≤ 9223372036854775807) (hg : bigB S.length K.length = true) :
    Calls Try.prog 4 #[flV a d (.slice As S.length cs) (.slice Ak K.length ck), unV u, bkV b] w fun e w' => e = .returned (.bool true) ∧ Below w.heap.size w w' := by
  have RS := Lib.hid hS
  have RK := Lib.hid hK
  have HB := Lib.hid (Below.refl w.heap.size w)
  have HG := Lib.hid hg
  clear hS hK hg
  have HB1 := Lib.hid (Below.refl w.heap.size w)
  go_enter Try.func4, Try.ntmps4
  go_wp2_with fail
  have HB1 := Lib.hid (below_alloc_ (below_alloc_ (below_alloc_ (HB1.out) (.cells #[.int .i64 a, .int .i64 d, .slice As S.length cs, .slice Ak K.length ck] 25)) (.cells #[.int .i64 u.x, .int .i64 u.y, .int .i64 u.s] 34)) (.cells #[.int .i64 b.m, .bool b.g, .int .i64 b.x0, .int .i64 b.y0, .int .i64 b.x1, .int .i64 b.y1, .int .i64 b.d0, .int .i64 b.d1, .int .i64 b.d2] 40))
  have hzw : (((w.alloc (.cells #[.int .i64 a, .int .i64 d, .slice As S.length cs, .slice Ak K.length ck] 25)).alloc (.cells #[.int .i64 u.x, .int .i64 u.y, .int .i64 u.s] 34)).alloc (.cells #[.int .i64 b.m, .bool b.g, .int .i64 b.x0, .int .i64 b.y0, .int .i64 b.x1, .int .i64 b.y1, .int .i64 b.d0, .int .i64 b.d1, .int .i64 b.d2] 40)).heap.size = w.heap.size + 3 := by simp only [World.size_alloc]
  have B1 := ((Blk.new (w) 25 #[.int .i64 a, .int .i64 d, .slice As S.length cs, .slice Ak K.length ck]).alloc (.cells #[.int .i64 u.x, .int .i64 u.y, .int .i64 u.s] 34)).alloc (.cells #[.int .i64 b.m, .bool b.g, .int .i64 b.x0, .int .i64 b.y0, .int .i64 b.x1, .int .i64 b.y1, .int .i64 b.d0, .int .i64 b.d1, .int .i64 b.d2] 40)
  skip
  have B1 := Lib.hid B1
  have B2 := (Blk.new (w.alloc (.cells #[.int .i64 a, .int .i64 d, .slice As S.length cs, .slice Ak K.length ck] 25)) 34 #[.int .i64 u.x, .int .i64 u.y, .int .i64 u.s]).alloc (.cells #[.int .i64 b.m, .bool b.g, .int .i64 b.x0, .int .i64 b.y0, .int .i64 b.x1, .int .i64 b.y1, .int .i64 b.d0, .int .i64 b.d1, .int .i64 b.d2] 40)
  rw [show (w.alloc (.cells #[.int .i64 a, .int .i64 d, .slice As S.length cs, .slice Ak K.length ck] 25)).heap.size = w.heap.size + 1 by simp only [World.size_alloc]] at B2
  have B2 := Lib.hid B2
  have B3 := Blk.new ((w.alloc (.cells #[.int .i64 a, .int .i64 d, .slice As S.length cs, .slice Ak K.length ck] 25)).alloc (.cells #[.int .i64 u.x, .int .i64 u.y, .int .i64 u.s] 34)) 40 #[.int .i64 b.m, .bool b.g, .int .i64 b.x0, .int .i64 b.y0, .int .i64 b.x1, .int .i64 b.y1, .int .i64 b.d0, .int .i64 b.d1, .int .i64 b.d2]
  rw [show ((w.alloc (.cells #[.int .i64 a, .int .i64 d, .slice As S.length cs, .slice Ak K.length ck] 25)).alloc (.cells #[.int .i64 u.x, .int .i64 u.y, .int .i64 u.s] 34)).heap.size = w.heap.size + 1 + 1 by simp only [World.size_alloc]] at B3
  have B3 := Lib.hid B3
  generalize ((w.alloc (.cells #[.int .i64 a, .int .i64 d, .slice As S.length cs, .slice Ak K.length ck] 25)).alloc (.cells #[.int .i64 u.x, .int .i64 u.y, .int .i64 u.s] 34)).alloc (.cells #[.int .i64 b.m, .bool b.g, .int .i64 b.x0, .int .i64 b.y0, .int .i64 b.x1, .int .i64 b.y1, .int .i64 b.d0, .int .i64 b.d1, .int .i64 b.d2] 40) = w1 at *
  clear hzw
  refine (first_c w1).mono ?_
  rintro e w2 ⟨rfl, hb'⟩
  have HB1 := Lib.hid ((HB1.out).trans (hb'.mono (HB1.out).size))
  have B1 := Lib.hid ((B1.out).below hb' (B1.out).lt)
  have B2 := Lib.hid ((B2.out).below hb' (B2.out).lt)
  have B3 := Lib.hid ((B3.out).below hb' (B3.out).lt)
  clear hb'
  obtain ⟨zB10, zB11, zB12, zB13⟩ := (B1.out).cells4
  obtain ⟨zB20, zB21, zB22⟩ := (B2.out).cells3
  obtain ⟨zB30, zB31, zB32, zB33, zB34, zB35, zB36, zB37, zB38⟩ := (B3.out).cells9
  go_wp2_with fail
  clear zB10 zB11 zB12 zB13
  clear zB20 zB21 zB22
  clear zB30 zB31 zB32 zB33 zB34 zB35 zB36 zB37 zB38
  refine (big_c a d S As cs K Ak ck _ (RS.out.kept HB1.out) (RK.out.kept HB1.out) hn hm).mono ?_
  rintro e w3 ⟨rfl, hb'⟩
  have HB1 := Lib.hid ((HB1.out).trans (hb'.mono (HB1.out).size))
  have B1 := Lib.hid ((B1.out).below hb' (B1.out).lt)
  have B2 := Lib.hid ((B2.out).below hb' (B2.out).lt)
  have B3 := Lib.hid ((B3.out).below hb' (B3.out).lt)
  clear hb'
  rw [HG.out]
  obtain ⟨zB10, zB11, zB12, zB13⟩ := (B1.out).cells4
  obtain ⟨zB20, zB21, zB22⟩ := (B2.out).cells3
  obtain ⟨zB30, zB31, zB32, zB33, zB34, zB35, zB36, zB37, zB38⟩ := (B3.out).cells9
  go_wp2_with fail
  clear zB10 zB11 zB12 zB13
  clear zB20 zB21 zB22
  clear zB30 zB31 zB32 zB33 zB34 zB35 zB36 zB37 zB38
  go_ret
  exact ⟨rfl, HB.out.trans (HB1.out.mono HB.out.size)⟩
set_option maxRecDepth 100000 in
set_option maxHeartbeats 6400000 in
theorem sts_not (a d : Int) (S : List Int) (As : Option Addr) (cs : Nat) (K : List Bk) (Ak : Option Addr) (ck : Nat) (u : Un) (b : Bk) (w : World) (hS : ReadsI w As S) (hK : ReadsE EK w Ak K) (hn : S.length ≤ 9223372036854775807) (hm : K.length ≤ 9223372036854775807) (hb : -9223372036854775808 ≤ b.m ∧ b.m ≤ 9223372036854775807) (hg : bigB S.length K.length = false) (ho : okFl a d S K = false) :
    Calls Try.prog 4 #[flV a d (.slice As S.length cs) (.slice Ak K.length ck), unV u, bkV b] w fun e w' => e = .returned (.bool true) ∧ Below w.heap.size w w' := by
  have RS := Lib.hid hS
  have RK := Lib.hid hK
  have HB := Lib.hid (Below.refl w.heap.size w)
  have HG := Lib.hid hg
  obtain ⟨K', hK'⟩ : ∃ K', K' = setK a d S K u b := ⟨_, rfl⟩
  have HSK := Lib.hid hK'.symm
  have hlk : K'.length = K.length := by rw [hK']; exact setK_length a d S K u b
  have HLK := Lib.hid hlk
  have hsb : setB a d S K u b = false := by unfold setB; rw [ho]; rfl
  have HKK := Lib.hid (show K' = K by rw [hK']; unfold setK; rw [if_neg (by rw [hsb]; decide)])
  have HSB := Lib.hid hsb
  have hm' : K'.length ≤ 9223372036854775807 := by rw [hlk]; exact hm
  clear hK' hlk hsb
  have hg1 := bigB_f hg
  have HO := Lib.hid ho
  clear hS hK hg ho
  have HB1 := Lib.hid (Below.refl w.heap.size w)
  go_enter Try.func4, Try.ntmps4
  go_wp2_with fail
  have HB1 := Lib.hid (below_alloc_ (below_alloc_ (below_alloc_ (HB1.out) (.cells #[.int .i64 a, .int .i64 d, .slice As S.length cs, .slice Ak K.length ck] 25)) (.cells #[.int .i64 u.x, .int .i64 u.y, .int .i64 u.s] 34)) (.cells #[.int .i64 b.m, .bool b.g, .int .i64 b.x0, .int .i64 b.y0, .int .i64 b.x1, .int .i64 b.y1, .int .i64 b.d0, .int .i64 b.d1, .int .i64 b.d2] 40))
  have hzw : (((w.alloc (.cells #[.int .i64 a, .int .i64 d, .slice As S.length cs, .slice Ak K.length ck] 25)).alloc (.cells #[.int .i64 u.x, .int .i64 u.y, .int .i64 u.s] 34)).alloc (.cells #[.int .i64 b.m, .bool b.g, .int .i64 b.x0, .int .i64 b.y0, .int .i64 b.x1, .int .i64 b.y1, .int .i64 b.d0, .int .i64 b.d1, .int .i64 b.d2] 40)).heap.size = w.heap.size + 3 := by simp only [World.size_alloc]
  have B1 := ((Blk.new (w) 25 #[.int .i64 a, .int .i64 d, .slice As S.length cs, .slice Ak K.length ck]).alloc (.cells #[.int .i64 u.x, .int .i64 u.y, .int .i64 u.s] 34)).alloc (.cells #[.int .i64 b.m, .bool b.g, .int .i64 b.x0, .int .i64 b.y0, .int .i64 b.x1, .int .i64 b.y1, .int .i64 b.d0, .int .i64 b.d1, .int .i64 b.d2] 40)
  skip
  have B1 := Lib.hid B1
  have B2 := (Blk.new (w.alloc (.cells #[.int .i64 a, .int .i64 d, .slice As S.length cs, .slice Ak K.length ck] 25)) 34 #[.int .i64 u.x, .int .i64 u.y, .int .i64 u.s]).alloc (.cells #[.int .i64 b.m, .bool b.g, .int .i64 b.x0, .int .i64 b.y0, .int .i64 b.x1, .int .i64 b.y1, .int .i64 b.d0, .int .i64 b.d1, .int .i64 b.d2] 40)
  rw [show (w.alloc (.cells #[.int .i64 a, .int .i64 d, .slice As S.length cs, .slice Ak K.length ck] 25)).heap.size = w.heap.size + 1 by simp only [World.size_alloc]] at B2
  have B2 := Lib.hid B2
  have B3 := Blk.new ((w.alloc (.cells #[.int .i64 a, .int .i64 d, .slice As S.length cs, .slice Ak K.length ck] 25)).alloc (.cells #[.int .i64 u.x, .int .i64 u.y, .int .i64 u.s] 34)) 40 #[.int .i64 b.m, .bool b.g, .int .i64 b.x0, .int .i64 b.y0, .int .i64 b.x1, .int .i64 b.y1, .int .i64 b.d0, .int .i64 b.d1, .int .i64 b.d2]
  rw [show ((w.alloc (.cells #[.int .i64 a, .int .i64 d, .slice As S.length cs, .slice Ak K.length ck] 25)).alloc (.cells #[.int .i64 u.x, .int .i64 u.y, .int .i64 u.s] 34)).heap.size = w.heap.size + 1 + 1 by simp only [World.size_alloc]] at B3
  have B3 := Lib.hid B3
  generalize ((w.alloc (.cells #[.int .i64 a, .int .i64 d, .slice As S.length cs, .slice Ak K.length ck] 25)).alloc (.cells #[.int .i64 u.x, .int .i64 u.y, .int .i64 u.s] 34)).alloc (.cells #[.int .i64 b.m, .bool b.g, .int .i64 b.x0, .int .i64 b.y0, .int .i64 b.x1, .int .i64 b.y1, .int .i64 b.d0, .int .i64 b.d1, .int .i64 b.d2] 40) = w1 at *
  clear hzw
  refine (first_c w1).mono ?_
  rintro e w2 ⟨rfl, hb'⟩
  have HB1 := Lib.hid ((HB1.out).trans (hb'.mono (HB1.out).size))
  have B1 := Lib.hid ((B1.out).below hb' (B1.out).lt)
  have B2 := Lib.hid ((B2.out).below hb' (B2.out).lt)
  have B3 := Lib.hid ((B3.out).below hb' (B3.out).lt)
  clear hb'
  obtain ⟨zB10, zB11, zB12, zB13⟩ := (B1.out).cells4
  obtain ⟨zB20, zB21, zB22⟩ := (B2.out).cells3
  obtain ⟨zB30, zB31, zB32, zB33, zB34, zB35, zB36, zB37, zB38⟩ := (B3.out).cells9
  go_wp2_with fail
  clear zB10 zB11 zB12 zB13
  clear zB20 zB21 zB22
  clear zB30 zB31 zB32 zB33 zB34 zB35 zB36 zB37 zB38
  refine (big_c a d S As cs K Ak ck _ (RS.out.kept HB1.out) (RK.out.kept HB1.out) hn hm).mono ?_
  rintro e w3 ⟨rfl, hb'⟩
  have HB1 := Lib.hid ((HB1.out).trans (hb'.mono (HB1.out).size))
  have B1 := Lib.hid ((B1.out).below hb' (B1.out).lt)
  have B2 := Lib.hid ((B2.out).below hb' (B2.out).lt)
  have B3 := Lib.hid ((B3.out).below hb' (B3.out).lt)
  clear hb'
  rw [HG.out]
  obtain ⟨zB10, zB11, zB12, zB13⟩ := (B1.out).cells4
  obtain ⟨zB20, zB21, zB22⟩ := (B2.out).cells3
  obtain ⟨zB30, zB31, zB32, zB33, zB34, zB35, zB36, zB37, zB38⟩ := (B3.out).cells9
  go_upto_region 5 with fail
  clear zB10 zB11 zB12 zB13
  clear zB20 zB21 zB22
  clear zB30 zB31 zB32 zB33 zB34 zB35 zB36 zB37 zB38
  have RK := Lib.hid (RK.out.kept HB1.out)
  have RS := Lib.hid (RS.out.kept HB1.out)
  have HB := Lib.hid (HB.out.trans (HB1.out.mono HB.out.size))
  have HB1 := Lib.hid (Below.refl w3.heap.size w3)
  obtain ⟨zB10, zB11, zB12, zB13⟩ := (B1.out.below HB1.out B1.out.lt).cells4
  obtain ⟨zB20, zB21, zB22⟩ := (B2.out.below HB1.out B2.out.lt).cells3
  obtain ⟨zB30, zB31, zB32, zB33, zB34, zB35, zB36, zB37, zB38⟩ := (B3.out.below HB1.out B3.out.lt).cells9
  have kq0 := cell_regrown zB10
  have kq1 := cell_regrown zB11
  have kq2 := cell_regrown zB12
  have kq3 := cell_regrown zB13
  have kq4 := cell_regrown zB20
  have kq5 := cell_regrown zB21
  have kq6 := cell_regrown zB22
  have kq7 := cell_regrown zB30
  have kq8 := cell_regrown zB31
  have kq9 := cell_regrown zB32
  have kq10 := cell_regrown zB33
  have kq11 := cell_regrown zB34
  have kq12 := cell_regrown zB35
  have kq13 := cell_regrown zB36
  have kq14 := cell_regrown zB37
  have kq15 := cell_regrown zB38
  clear zB10 zB11 zB12 zB13 zB20 zB21 zB22 zB30 zB31 zB32 zB33 zB34 zB35 zB36 zB37 zB38
  refine wp_mono_tail 12 [Brings.one ?b1_0, Brings.one ?b2_1, Brings.one ?b3_2, Brings.one ?b4_3, Brings.one ?b5_4, Brings.one ?b6_5, Brings.litE EK w3.heap.size, Brings.one ?b7_7, Brings.one ?b8_8, Brings.ownE EK w3.heap.size (fun v => v) (K), Brings.ownE EK w3.heap.size (fun v => flV a d (.slice As S.length cs) v) (K), Brings.box 25 #[.int .i64 0, .int .i64 0, .slice none 0 0, .slice none 0 0]] (by kernel_rfl) (by kernel_rfl) ?_
  rotate_left 8
  simp only [List.take_succ_cons, List.take_zero, List.drop_succ_cons, List.drop_zero]
  refine wpL_take (k' := 1) rfl (by kernel_rfl) (fun d os => ?t9) ?_
  case t9 => (unfold bringsAt; go_simp; first | with_reducible exact take_one | exact take_one)
  try simp only [Act.put, List.setIfInBounds_toArray, List.set_cons_zero, List.set_cons_succ]
  refine wpL_take (k' := 2) rfl (by kernel_rfl) (fun d os => ?t10) ?_
  case t10 => (unfold bringsAt; go_simp; first | with_reducible exact take_one | exact take_one)
  try simp only [Act.put, List.setIfInBounds_toArray, List.set_cons_zero, List.set_cons_succ]
  refine wpL_take (k' := 3) rfl (by kernel_rfl) (fun d os => ?t11) ?_
  case t11 => (unfold bringsAt; go_simp; first | with_reducible exact take_one | exact take_one)
  try simp only [Act.put, List.setIfInBounds_toArray, List.set_cons_zero, List.set_cons_succ]
  refine wpL_take (k' := 4) rfl (by kernel_rfl) (fun d os => ?t12) ?_
  case t12 => (unfold bringsAt; go_simp; first | with_reducible exact take_one | exact take_one)
  try simp only [Act.put, List.setIfInBounds_toArray, List.set_cons_zero, List.set_cons_succ]
  refine wpL_take (k' := 5) rfl (by kernel_rfl) (fun d os => ?t13) ?_
  case t13 => (unfold bringsAt; go_simp; first | with_reducible exact take_one | exact take_one)
  try simp only [Act.put, List.setIfInBounds_toArray, List.set_cons_zero, List.set_cons_succ]
  refine wpL_take (k' := 6) rfl (by kernel_rfl) (fun d os => ?t14) ?_
  case t14 => (unfold bringsAt; go_simp; first | with_reducible exact take_one | exact take_one)
  try simp only [Act.put, List.setIfInBounds_toArray, List.set_cons_zero, List.set_cons_succ]
  refine wpL_litE (k' := 7) rfl (by kernel_rfl) (fun wz hz hd => ?t15) (fun g6 => ?_)
  case t15 =>
    unfold bringsAt
    go_simp
    exact lit_bringsE hz.size
  try simp only [Act.put, List.setIfInBounds_toArray, List.set_cons_zero, List.set_cons_succ]
  refine wpL_take (k' := 8) rfl (by kernel_rfl) (fun d os => ?t16) ?_
  case t16 => (unfold bringsAt; go_simp; first | with_reducible exact take_one | exact take_one)
  try simp only [Act.put, List.setIfInBounds_toArray, List.set_cons_zero, List.set_cons_succ]
  refine wpL_take (k' := 9) rfl (by kernel_rfl) (fun d os => ?t17) ?_
  case t17 => (unfold bringsAt; go_simp; first | with_reducible exact take_one | exact take_one)
  try simp only [Act.put, List.setIfInBounds_toArray, List.set_cons_zero, List.set_cons_succ]
  refine wpL_ownE (k' := 10) rfl (by kernel_rfl) (fun wz hz hd => ?t18) (fun A2 c2 => ?_)
  case t18 =>
    have HZ := Lib.hid (HB1.out.trans (hz.mono HB1.out.size))
    have L6 := Lib.hid (show OwnE EK wz w3.heap.size (.slice (some ⟨g6, 0, none⟩) 0 0) [] from hd.get 6 (by kernel_rfl))
    exact at_append_litE (.tmp 19) (.tmp 21) 23 rfl Try.underlying23 rfl rfl L6.out (RK.out.kept HZ.out) (by omega) hz.size
  try simp only [Act.put, List.setIfInBounds_toArray, List.set_cons_zero, List.set_cons_succ]
  refine wpL_ownE (k' := 11) rfl (by kernel_rfl) (fun wz hz hd => ?t19) (fun A3 c3 => ?_)
  case t19 =>
    have HZ := Lib.hid (HB1.out.trans (hz.mono HB1.out.size))
    have O9 := Lib.hid (show OwnE EK wz w3.heap.size (.slice A2 (K).length c2) (K) from hd.get 9 (by kernel_rfl))
    unfold bringsAt
    go_simp
    exact take_brings (A2, c2) rfl O9.out rfl
  try simp only [Act.put, List.setIfInBounds_toArray, List.set_cons_zero, List.set_cons_succ]
  refine wpL_box (k' := 12) rfl (by kernel_rfl) (fun wz hz hd => ?t20) (fun b7 => ?_)
  case t20 =>
    unfold bringsAt
    go_simp
    exact alloc_box
  try simp only [Act.put, List.setIfInBounds_toArray, List.set_cons_zero, List.set_cons_succ]
  refine wpL_nil ?_
  intro w4 hH
  have hb' := hH.below
  clear kq0 kq1 kq2 kq3 kq4 kq5 kq6 kq7 kq8 kq9 kq10 kq11 kq12 kq13 kq14 kq15
  have HB1 := Lib.hid ((HB1.out).trans (hb'.mono (HB1.out).size))
  have L6 := Lib.hid (show OwnE EK w4 w3.heap.size (.slice (some ⟨g6, 0, none⟩) 0 0) [] from hH.facts 6)
  have O9 := Lib.hid (show OwnE EK w4 w3.heap.size (.slice A2 (K).length c2) (K) from hH.facts 9)
  have O10 := Lib.hid (show OwnE EK w4 w3.heap.size (.slice A3 (K).length c3) (K) from hH.facts 10)
  have B7 := Lib.hid (show Blk w4 b7 25 #[.int .i64 0, .int .i64 0, .slice none 0 0, .slice none 0 0] from hH.facts 11)
  have HGB7 := Lib.hid (show w3.heap.size ≤ b7 from (hH.lt 11 _ rfl).1)
  clear hH hb'
  obtain ⟨f0, f1, f2, f3⟩ := B7.out.frozens
  obtain ⟨q0, q1, q2, q3⟩ := B7.out.cells4
  go_upto_region 6 with fail
  clear f0 f1 f2 f3 q0 q1 q2 q3
  have lb := HGB7
  have O10 := Lib.hid ((((O10.out.set_ (i := 0) B7.out (by decide) (.int .i64 a)).set_ (i := 1) (B7.out.set_ 0 (.int .i64 a)) (by decide) (.int .i64 d)).set_ (i := 2) ((B7.out.set_ 0 (.int .i64 a)).set_ 1 (.int .i64 d)) (by decide) (.slice As S.length cs)).set_ (i := 3) (((B7.out.set_ 0 (.int .i64 a)).set_ 1 (.int .i64 d)).set_ 2 (.slice As S.length cs)) (by decide) (.slice A3 K.length c3))
  have HB1 := Lib.hid ((((HB1.out.setCell (p := ⟨b7, 0, none⟩) lb (.int .i64 a)).setCell (p := ⟨b7, 1, none⟩) lb (.int .i64 d)).setCell (p := ⟨b7, 2, none⟩) lb (.slice As S.length cs)).setCell (p := ⟨b7, 3, none⟩) lb (.slice A3 K.length c3))
  have B7 := Lib.hid (ret_four' B7.out (.int .i64 a) (.int .i64 d) (.slice As S.length cs) (.slice A3 K.length c3))
  clear lb HGB7 O9 L6
  generalize (((w4.setCell ⟨b7, 0, none⟩ (.int .i64 a)).setCell ⟨b7, 1, none⟩ (.int .i64 d)).setCell ⟨b7, 2, none⟩ (.slice As S.length cs)).setCell ⟨b7, 3, none⟩ (.slice A3 K.length c3) = w5 at *
  obtain ⟨zB10, zB11, zB12, zB13⟩ := (B1.out.below HB1.out B1.out.lt).cells4
  obtain ⟨zB20, zB21, zB22⟩ := (B2.out.below HB1.out B2.out.lt).cells3
  obtain ⟨zB30, zB31, zB32, zB33, zB34, zB35, zB36, zB37, zB38⟩ := (B3.out.below HB1.out B3.out.lt).cells9
  go_wp2_with fail
  clear zB10 zB11 zB12 zB13
  clear zB20 zB21 zB22
  clear zB30 zB31 zB32 zB33 zB34 zB35 zB36 zB37 zB38
  refine (r16right_c a d S As cs K Ak ck _ (RS.out.kept HB1.out) (RK.out.kept HB1.out) hn hm).mono ?_
  rintro e w6 ⟨rfl, hb'⟩
  have HB1 := Lib.hid ((HB1.out).trans (hb'.mono (HB1.out).size))
  have O10 := Lib.hid ((O10.out).kept hb')
  have B7 := Lib.hid ((B7.out).below hb' (B7.out).lt)
  clear hb'
  rw [HO.out]
  obtain ⟨zB10, zB11, zB12, zB13⟩ := (B1.out.below HB1.out B1.out.lt).cells4
  obtain ⟨zB20, zB21, zB22⟩ := (B2.out.below HB1.out B2.out.lt).cells3
  obtain ⟨zB30, zB31, zB32, zB33, zB34, zB35, zB36, zB37, zB38⟩ := (B3.out.below HB1.out B3.out.lt).cells9
  go_wp2_with fail
  clear zB10 zB11 zB12 zB13
  clear zB20 zB21 zB22
  clear zB30 zB31 zB32 zB33 zB34 zB35 zB36 zB37 zB38
  have HPE := Lib.hid (show ∀ w, (binOp .neq 40 (bkV (plainBk b)) (bkV (plainBk b))).run Try.prog w = .ok (.bool false) w from fun w => by have h := ne_bk (plainBk b) (plainBk b) w; rw [show decide (plainBk b = plainBk b) = true by simp] at h; exact h)
  have HCS := Lib.hid (show ∀ (W : World) (B : Nat), ReadsI W As S → OwnE EK W B (.slice A3 K.length c3) K → Calls Try.prog 26 #[flV a d (.slice As S.length cs) (.slice A3 K.length c3), unV u, bkV b] W fun e w' => e = .returned (.bool false) ∧ OwnE EK w' B (.slice A3 K.length c3) K' ∧ W.grownBy w' (Value.slice A3 K.length c3).ownBlock from fun W B q1 q2 => by have h := fset_c a d S As cs K (.slice A3 K.length c3) B u b W q1 q2 hn; rw [HSB.out, HSK.out] at h; exact h)
  have hpe := HPE.out
  have HB1 := Lib.hid ((HB1.out).drew)
  have O10 := Lib.hid ((O10.out).drew)
  have B7 := Lib.hid ((B7.out).drew)
  refine wp_region_held_drew (S := (fun w' => w'.cell? ⟨w.heap.size + 1, 0, none⟩ = some (.int .i64 u.x) ∧ w'.cell? ⟨w.heap.size + 1, 1, none⟩ = some (.int .i64 u.y) ∧ w'.cell? ⟨w.heap.size + 1, 2, none⟩ = some (.int .i64 u.s) ∧ w'.cell? ⟨w.heap.size + 1 + 1, 0, none⟩ = some (.int .i64 b.m) ∧ w'.cell? ⟨w.heap.size + 1 + 1, 1, none⟩ = some (.bool b.g) ∧ w'.cell? ⟨w.heap.size + 1 + 1, 2, none⟩ = some (.int .i64 b.x0) ∧ w'.cell? ⟨w.heap.size + 1 + 1, 3, none⟩ = some (.int .i64 b.y0) ∧ w'.cell? ⟨w.heap.size + 1 + 1, 4, none⟩ = some (.int .i64 b.x1) ∧ w'.cell? ⟨w.heap.size + 1 + 1, 5, none⟩ = some (.int .i64 b.y1) ∧ w'.cell? ⟨w.heap.size + 1 + 1, 6, none⟩ = some (.int .i64 b.d0) ∧ w'.cell? ⟨w.heap.size + 1 + 1, 7, none⟩ = some (.int .i64 b.d1) ∧ w'.cell? ⟨w.heap.size + 1 + 1, 8, none⟩ = some (.int .i64 b.d2) ∧ w'.cell? ⟨b7, 0, none⟩ = some (.int .i64 a) ∧ w'.cell? ⟨b7, 1, none⟩ = some (.int .i64 d) ∧ w'.cell? ⟨b7, 2, none⟩ = some (.slice As S.length cs) ∧ w'.cell? ⟨b7, 3, none⟩ = some (.slice A3 K.length c3))) (by kernel_rfl) ?hS0 (fun hHeld => ?_)
  case hS0 => exact ⟨(B2.out.below HB1.out B2.out.lt).cell 0, (B2.out.below HB1.out B2.out.lt).cell 1, (B2.out.below HB1.out B2.out.lt).cell 2, (B3.out.below HB1.out B3.out.lt).cell 0, (B3.out.below HB1.out B3.out.lt).cell 1, (B3.out.below HB1.out B3.out.lt).cell 2, (B3.out.below HB1.out B3.out.lt).cell 3, (B3.out.below HB1.out B3.out.lt).cell 4, (B3.out.below HB1.out B3.out.lt).cell 5, (B3.out.below HB1.out B3.out.lt).cell 6, (B3.out.below HB1.out B3.out.lt).cell 7, (B3.out.below HB1.out B3.out.lt).cell 8, (B7.out).cell 0, (B7.out).cell 1, (B7.out).cell 2, (B7.out).cell 3⟩
  refine wpAnyH_take (i := 0) (oi := ⟨some 35, _, _, _, _, _⟩) (v := ?v21) rfl (by kernel_rfl) (by kernel_rfl) (by kernel_rfl) (fun _ _ _ h => h) (Or.inl ⟨by rfl, ?h21⟩) (by assumption) ?r21
  case h21 => (intro w hSw; (try dsimp only at hSw); go_simp; try with_reducible rfl)
  try simp only [Act.put, List.setIfInBounds_toArray, List.set_cons_zero, List.set_cons_succ]
  refine wpAnyH_take (i := 1) (oi := ⟨some 36, _, _, _, _, _⟩) (v := ?v22) rfl (by kernel_rfl) (by kernel_rfl) (by kernel_rfl) (fun _ _ _ h => h) (Or.inl ⟨by rfl, ?h22⟩) (by assumption) ?r22
  case h22 => (intro w hSw; (try dsimp only at hSw); go_simp; try with_reducible rfl)
  try simp only [Act.put, List.setIfInBounds_toArray, List.set_cons_zero, List.set_cons_succ]
  refine wpAnyH_take (i := 2) (oi := ⟨some 37, _, _, _, _, _⟩) (v := ?v23) rfl (by kernel_rfl) (by kernel_rfl) (by kernel_rfl) (fun _ _ _ h => h) (Or.inl ⟨by rfl, ?h23⟩) (by assumption) ?r23
  case h23 => (intro w hSw; (try dsimp only at hSw); go_simp; try with_reducible rfl)
  try simp only [Act.put, List.setIfInBounds_toArray, List.set_cons_zero, List.set_cons_succ]
  refine wpAnyH_take (i := 4) (oi := ⟨some 39, _, _, _, _, _⟩) (v := ?v24) rfl (by kernel_rfl) (by kernel_rfl) (by kernel_rfl) (fun _ _ _ h => h) (Or.inl ⟨by rfl, ?h24⟩) (by assumption) ?r24
  case h24 => (intro w hSw; (try dsimp only at hSw); go_simp; try with_reducible rfl)
  try simp only [Act.put, List.setIfInBounds_toArray, List.set_cons_zero, List.set_cons_succ]
  refine wpAnyH_ready (rs := [3]) (by kernel_rfl) (by simp) ?_
  refine (AllReadyH.cons (o := ⟨some 38, _, _, _, _, _⟩) rfl (fun K hK => ?_) AllReadyH.nil)
  go_simp
  refine (HCS.out _ _ (RS.out.kept HB1.out) O10.out).mono ?_
  rintro e w7 ⟨rfl, ho, hg⟩
  have HB1 := Lib.hid (O10.out.belowB HB1.out (Nat.le_refl _) hg)
  have B7 := Lib.hid (B7.out.appE O10.out (by decide) hg)
  have O10 := Lib.hid ho
  clear ho hg
  refine hK.out _ _ ?hS25 (fun hHeld => ?_)
  case hS25 => exact ⟨(B2.out.below HB1.out B2.out.lt).cell 0, (B2.out.below HB1.out B2.out.lt).cell 1, (B2.out.below HB1.out B2.out.lt).cell 2, (B3.out.below HB1.out B3.out.lt).cell 0, (B3.out.below HB1.out B3.out.lt).cell 1, (B3.out.below HB1.out B3.out.lt).cell 2, (B3.out.below HB1.out B3.out.lt).cell 3, (B3.out.below HB1.out B3.out.lt).cell 4, (B3.out.below HB1.out B3.out.lt).cell 5, (B3.out.below HB1.out B3.out.lt).cell 6, (B3.out.below HB1.out B3.out.lt).cell 7, (B3.out.below HB1.out B3.out.lt).cell 8, (B7.out).cell 0, (B7.out).cell 1, (B7.out).cell 2, (B7.out).cell 3⟩
  clear hK K
  try simp only [Act.put, List.setIfInBounds_toArray, List.set_cons_zero, List.set_cons_succ]
  refine wpAnyH_take (i := 5) (oi := ⟨some 40, _, _, _, _, _⟩) (v := ?v26) rfl (by kernel_rfl) (by kernel_rfl) (by kernel_rfl) (fun _ _ _ h => h) (Or.inl ⟨by rfl, ?h26⟩) (by assumption) ?r26
  case h26 => (intro w hSw; (try dsimp only at hSw); go_simp; try with_reducible rfl)
  try simp only [Act.put, List.setIfInBounds_toArray, List.set_cons_zero, List.set_cons_succ]
  refine wpAnyH_take (i := 6) (oi := ⟨some 41, _, _, _, _, _⟩) (v := ?v27) rfl (by kernel_rfl) (by kernel_rfl) (by kernel_rfl) (fun _ _ _ h => h) (Or.inl ⟨by rfl, ?h27⟩) (by assumption) ?r27
  case h27 => (intro w hSw; (try dsimp only at hSw); go_simp; try with_reducible rfl)
  try simp only [Act.put, List.setIfInBounds_toArray, List.set_cons_zero, List.set_cons_succ]
  refine wpAnyH_take (i := 7) (oi := ⟨some 42, _, _, _, _, _⟩) (v := ?v28) rfl (by kernel_rfl) (by kernel_rfl) (by kernel_rfl) (fun _ _ _ h => h) (Or.inl ⟨by rfl, ?h28⟩) (by assumption) ?r28
  case h28 => (intro w hSw; (try dsimp only at hSw); go_simp; try with_reducible rfl)
  try simp only [Act.put, List.setIfInBounds_toArray, List.set_cons_zero, List.set_cons_succ]
  refine wpAnyH_take (i := 9) (oi := ⟨some 44, _, _, _, _, _⟩) (v := ?v29) rfl (by kernel_rfl) (by kernel_rfl) (by kernel_rfl) (fun _ _ _ h => h) (Or.inl ⟨by rfl, ?h29⟩) (by assumption) ?r29
  case h29 => (intro w hSw; (try dsimp only at hSw); go_simp; try with_reducible rfl)
  try simp only [Act.put, List.setIfInBounds_toArray, List.set_cons_zero, List.set_cons_succ]
  refine wpAnyH_ready (rs := [8]) (by kernel_rfl) (by simp) ?_
  refine (AllReadyH.cons (o := ⟨some 43, _, _, _, _, _⟩) rfl (fun K hK => ?_) AllReadyH.nil)
  go_simp
  have HS1 := HB1
  refine (fplain_c b _).mono ?_
  rintro e w8 ⟨rfl, hb'⟩
  have HB1 := Lib.hid ((HB1.out).trans (hb'.mono (HB1.out).size))
  have O10 := Lib.hid ((O10.out).kept hb')
  have B7 := Lib.hid ((B7.out).below hb' (B7.out).lt)
  clear hb'
  refine hK.out _ _ ?hS30 (fun hHeld => ?_)
  case hS30 => exact ⟨(B2.out.below HB1.out B2.out.lt).cell 0, (B2.out.below HB1.out B2.out.lt).cell 1, (B2.out.below HB1.out B2.out.lt).cell 2, (B3.out.below HB1.out B3.out.lt).cell 0, (B3.out.below HB1.out B3.out.lt).cell 1, (B3.out.below HB1.out B3.out.lt).cell 2, (B3.out.below HB1.out B3.out.lt).cell 3, (B3.out.below HB1.out B3.out.lt).cell 4, (B3.out.below HB1.out B3.out.lt).cell 5, (B3.out.below HB1.out B3.out.lt).cell 6, (B3.out.below HB1.out B3.out.lt).cell 7, (B3.out.below HB1.out B3.out.lt).cell 8, (B7.out).cell 0, (B7.out).cell 1, (B7.out).cell 2, (B7.out).cell 3⟩
  clear hK K
  try simp only [Act.put, List.setIfInBounds_toArray, List.set_cons_zero, List.set_cons_succ]
  refine wpAnyH_ready (rs := [10]) (by kernel_rfl) (by simp) ?_
  refine (AllReadyH.cons (o := ⟨some 45, _, _, _, _, _⟩) rfl (fun K hK => ?_) AllReadyH.nil)
  go_simp
  have HS1 := HB1
  refine (r16plain_c b _ hb).mono ?_
  rintro e w9 ⟨rfl, hb'⟩
  have HB1 := Lib.hid ((HB1.out).trans (hb'.mono (HB1.out).size))
  have O10 := Lib.hid ((O10.out).kept hb')
  have B7 := Lib.hid ((B7.out).below hb' (B7.out).lt)
  clear hb'
  refine hK.out _ _ ?hS31 (fun hHeld => ?_)
  case hS31 => exact ⟨(B2.out.below HB1.out B2.out.lt).cell 0, (B2.out.below HB1.out B2.out.lt).cell 1, (B2.out.below HB1.out B2.out.lt).cell 2, (B3.out.below HB1.out B3.out.lt).cell 0, (B3.out.below HB1.out B3.out.lt).cell 1, (B3.out.below HB1.out B3.out.lt).cell 2, (B3.out.below HB1.out B3.out.lt).cell 3, (B3.out.below HB1.out B3.out.lt).cell 4, (B3.out.below HB1.out B3.out.lt).cell 5, (B3.out.below HB1.out B3.out.lt).cell 6, (B3.out.below HB1.out B3.out.lt).cell 7, (B3.out.below HB1.out B3.out.lt).cell 8, (B7.out).cell 0, (B7.out).cell 1, (B7.out).cell 2, (B7.out).cell 3⟩
  clear hK K
  try simp only [Act.put, List.setIfInBounds_toArray, List.set_cons_zero, List.set_cons_succ]
  refine wpAnyH_take (i := 11) (oi := ⟨some 46, _, _, _, _, _⟩) (v := ?v32) rfl (by kernel_rfl) (by kernel_rfl) (by kernel_rfl) (fun _ _ _ h => h) (Or.inl ⟨by rfl, ?h32⟩) (by assumption) ?r32
  case h32 => (intro w hSw; (try dsimp only at hSw); go_simp; try with_reducible rfl)
  try simp only [Act.put, List.setIfInBounds_toArray, List.set_cons_zero, List.set_cons_succ]
  refine wpAnyH_take (i := 12) (oi := ⟨some 47, _, _, _, _, _⟩) (v := ?v33) rfl (by kernel_rfl) (by kernel_rfl) (by kernel_rfl) (fun _ _ _ h => h) (Or.inl ⟨by rfl, ?h33⟩) (by assumption) ?r33
  case h33 => (intro w hSw; (try dsimp only at hSw); go_simp; try with_reducible rfl)
  try simp only [Act.put, List.setIfInBounds_toArray, List.set_cons_zero, List.set_cons_succ]
  refine wpAnyH_done (by kernel_rfl) ?_ _
  clear hHeld
  obtain ⟨zB10, zB11, zB12, zB13⟩ := (B1.out.below HB1.out B1.out.lt).cells4
  obtain ⟨zB70, zB71, zB72, zB73⟩ := (B7.out).cells4
  go_wp2_with fail
  have h9 := r16same_y a d S As As cs cs K' K A3 Ak c3 ck w9 (RS.out.kept HB1.out) (RS.out.kept HB1.out) O10.out.reads (RK.out.kept HB1.out) hn hm' HLK.out HKK.out
  rw [HLK.out] at h9
  refine (h9).mono ?_
  rintro e w10 ⟨rfl, hb'⟩
  have HB1 := Lib.hid ((HB1.out).trans (hb'.mono (HB1.out).size))
  have O10 := Lib.hid ((O10.out).kept hb')
  have B7 := Lib.hid ((B7.out).below hb' (B7.out).lt)
  clear hb'
  clear h9
  go_wp2_with fail
  go_ret
  exact ⟨rfl, HB.out.trans (HB1.out.mono HB.out.size)⟩
set_option maxRecDepth 100000 in
set_option maxHeartbeats 6400000 in
theorem sts_out (a d : Int) (S : List Int) (As : Option Addr) (cs : Nat) (K : List Bk) (Ak : Option Addr) (ck : Nat) (u : Un) (b : Bk) (w : World) (hS : ReadsI w As S) (hK : ReadsE EK w Ak K) (hn : S.length ≤ 9223372036854775807) (hm : K.length ≤ 9223372036854775807) (hb : -9223372036854775808 ≤ b.m ∧ b.m ≤ 9223372036854775807) (hg : bigB S.length K.length = false) (ho : okFl a d S K = true) (hi : inFu a d u = false) :
    Calls Try.prog 4 #[flV a d (.slice As S.length cs) (.slice Ak K.length ck), unV u, bkV b] w fun e w' => e = .returned (.bool true) ∧ Below w.heap.size w w' := by
  have RS := Lib.hid hS
  have RK := Lib.hid hK
  have HB := Lib.hid (Below.refl w.heap.size w)
  have HG := Lib.hid hg
  obtain ⟨K', hK'⟩ : ∃ K', K' = setK a d S K u b := ⟨_, rfl⟩
  have HSK := Lib.hid hK'.symm
  have hlk : K'.length = K.length := by rw [hK']; exact setK_length a d S K u b
  have HLK := Lib.hid hlk
  have hsb : setB a d S K u b = false := by unfold setB; rw [ho, hi]; rfl
  have HKK := Lib.hid (show K' = K by rw [hK']; unfold setK; rw [if_neg (by rw [hsb]; decide)])
  have HSB := Lib.hid hsb
  have hm' : K'.length ≤ 9223372036854775807 := by rw [hlk]; exact hm
  clear hK' hlk hsb
  have hg1 := bigB_f hg
  have HO := Lib.hid ho
  have HI := Lib.hid hi
  obtain ⟨A, D, ea, ed, a1, a2, d1, d2, hl, hkl, hS1, hK1⟩ := okFl_nat ho
  have HKL := Lib.hid hkl
  have a1 : 1 ≤ a := by omega
  have a2 : a ≤ 64 := by omega
  have d1 : 1 ≤ d := by omega
  have d2 : d ≤ 64 := by omega
  clear ea ed hl hkl hS1 hK1
  clear hS hK hg ho hi
  have HB1 := Lib.hid (Below.refl w.heap.size w)
  go_enter Try.func4, Try.ntmps4
  go_wp2_with fail
  have HB1 := Lib.hid (below_alloc_ (below_alloc_ (below_alloc_ (HB1.out) (.cells #[.int .i64 a, .int .i64 d, .slice As S.length cs, .slice Ak K.length ck] 25)) (.cells #[.int .i64 u.x, .int .i64 u.y, .int .i64 u.s] 34)) (.cells #[.int .i64 b.m, .bool b.g, .int .i64 b.x0, .int .i64 b.y0, .int .i64 b.x1, .int .i64 b.y1, .int .i64 b.d0, .int .i64 b.d1, .int .i64 b.d2] 40))
  have hzw : (((w.alloc (.cells #[.int .i64 a, .int .i64 d, .slice As S.length cs, .slice Ak K.length ck] 25)).alloc (.cells #[.int .i64 u.x, .int .i64 u.y, .int .i64 u.s] 34)).alloc (.cells #[.int .i64 b.m, .bool b.g, .int .i64 b.x0, .int .i64 b.y0, .int .i64 b.x1, .int .i64 b.y1, .int .i64 b.d0, .int .i64 b.d1, .int .i64 b.d2] 40)).heap.size = w.heap.size + 3 := by simp only [World.size_alloc]
  have B1 := ((Blk.new (w) 25 #[.int .i64 a, .int .i64 d, .slice As S.length cs, .slice Ak K.length ck]).alloc (.cells #[.int .i64 u.x, .int .i64 u.y, .int .i64 u.s] 34)).alloc (.cells #[.int .i64 b.m, .bool b.g, .int .i64 b.x0, .int .i64 b.y0, .int .i64 b.x1, .int .i64 b.y1, .int .i64 b.d0, .int .i64 b.d1, .int .i64 b.d2] 40)
  skip
  have B1 := Lib.hid B1
  have B2 := (Blk.new (w.alloc (.cells #[.int .i64 a, .int .i64 d, .slice As S.length cs, .slice Ak K.length ck] 25)) 34 #[.int .i64 u.x, .int .i64 u.y, .int .i64 u.s]).alloc (.cells #[.int .i64 b.m, .bool b.g, .int .i64 b.x0, .int .i64 b.y0, .int .i64 b.x1, .int .i64 b.y1, .int .i64 b.d0, .int .i64 b.d1, .int .i64 b.d2] 40)
  rw [show (w.alloc (.cells #[.int .i64 a, .int .i64 d, .slice As S.length cs, .slice Ak K.length ck] 25)).heap.size = w.heap.size + 1 by simp only [World.size_alloc]] at B2
  have B2 := Lib.hid B2
  have B3 := Blk.new ((w.alloc (.cells #[.int .i64 a, .int .i64 d, .slice As S.length cs, .slice Ak K.length ck] 25)).alloc (.cells #[.int .i64 u.x, .int .i64 u.y, .int .i64 u.s] 34)) 40 #[.int .i64 b.m, .bool b.g, .int .i64 b.x0, .int .i64 b.y0, .int .i64 b.x1, .int .i64 b.y1, .int .i64 b.d0, .int .i64 b.d1, .int .i64 b.d2]
  rw [show ((w.alloc (.cells #[.int .i64 a, .int .i64 d, .slice As S.length cs, .slice Ak K.length ck] 25)).alloc (.cells #[.int .i64 u.x, .int .i64 u.y, .int .i64 u.s] 34)).heap.size = w.heap.size + 1 + 1 by simp only [World.size_alloc]] at B3
  have B3 := Lib.hid B3
  generalize ((w.alloc (.cells #[.int .i64 a, .int .i64 d, .slice As S.length cs, .slice Ak K.length ck] 25)).alloc (.cells #[.int .i64 u.x, .int .i64 u.y, .int .i64 u.s] 34)).alloc (.cells #[.int .i64 b.m, .bool b.g, .int .i64 b.x0, .int .i64 b.y0, .int .i64 b.x1, .int .i64 b.y1, .int .i64 b.d0, .int .i64 b.d1, .int .i64 b.d2] 40) = w1 at *
  clear hzw
  refine (first_c w1).mono ?_
  rintro e w2 ⟨rfl, hb'⟩
  have HB1 := Lib.hid ((HB1.out).trans (hb'.mono (HB1.out).size))
  have B1 := Lib.hid ((B1.out).below hb' (B1.out).lt)
  have B2 := Lib.hid ((B2.out).below hb' (B2.out).lt)
  have B3 := Lib.hid ((B3.out).below hb' (B3.out).lt)
  clear hb'
  obtain ⟨zB10, zB11, zB12, zB13⟩ := (B1.out).cells4
  obtain ⟨zB20, zB21, zB22⟩ := (B2.out).cells3
  obtain ⟨zB30, zB31, zB32, zB33, zB34, zB35, zB36, zB37, zB38⟩ := (B3.out).cells9
  go_wp2_with fail
  clear zB10 zB11 zB12 zB13
  clear zB20 zB21 zB22
  clear zB30 zB31 zB32 zB33 zB34 zB35 zB36 zB37 zB38
  refine (big_c a d S As cs K Ak ck _ (RS.out.kept HB1.out) (RK.out.kept HB1.out) hn hm).mono ?_
  rintro e w3 ⟨rfl, hb'⟩
  have HB1 := Lib.hid ((HB1.out).trans (hb'.mono (HB1.out).size))
  have B1 := Lib.hid ((B1.out).below hb' (B1.out).lt)
  have B2 := Lib.hid ((B2.out).below hb' (B2.out).lt)
  have B3 := Lib.hid ((B3.out).below hb' (B3.out).lt)
  clear hb'
  rw [HG.out]
  obtain ⟨zB10, zB11, zB12, zB13⟩ := (B1.out).cells4
  obtain ⟨zB20, zB21, zB22⟩ := (B2.out).cells3
  obtain ⟨zB30, zB31, zB32, zB33, zB34, zB35, zB36, zB37, zB38⟩ := (B3.out).cells9
  go_upto_region 5 with fail
  clear zB10 zB11 zB12 zB13
  clear zB20 zB21 zB22
  clear zB30 zB31 zB32 zB33 zB34 zB35 zB36 zB37 zB38
  have RK := Lib.hid (RK.out.kept HB1.out)
  have RS := Lib.hid (RS.out.kept HB1.out)
  have HB := Lib.hid (HB.out.trans (HB1.out.mono HB.out.size))
  have HB1 := Lib.hid (Below.refl w3.heap.size w3)
  obtain ⟨zB10, zB11, zB12, zB13⟩ := (B1.out.below HB1.out B1.out.lt).cells4
  obtain ⟨zB20, zB21, zB22⟩ := (B2.out.below HB1.out B2.out.lt).cells3
  obtain ⟨zB30, zB31, zB32, zB33, zB34, zB35, zB36, zB37, zB38⟩ := (B3.out.below HB1.out B3.out.lt).cells9
  have kq0 := cell_regrown zB10
  have kq1 := cell_regrown zB11
  have kq2 := cell_regrown zB12
  have kq3 := cell_regrown zB13
  have kq4 := cell_regrown zB20
  have kq5 := cell_regrown zB21
  have kq6 := cell_regrown zB22
  have kq7 := cell_regrown zB30
  have kq8 := cell_regrown zB31
  have kq9 := cell_regrown zB32
  have kq10 := cell_regrown zB33
  have kq11 := cell_regrown zB34
  have kq12 := cell_regrown zB35
  have kq13 := cell_regrown zB36
  have kq14 := cell_regrown zB37
  have kq15 := cell_regrown zB38
  clear zB10 zB11 zB12 zB13 zB20 zB21 zB22 zB30 zB31 zB32 zB33 zB34 zB35 zB36 zB37 zB38
  refine wp_mono_tail 12 [Brings.one ?b34_0, Brings.one ?b35_1, Brings.one ?b36_2, Brings.one ?b37_3, Brings.one ?b38_4, Brings.one ?b39_5, Brings.litE EK w3.heap.size, Brings.one ?b40_7, Brings.one ?b41_8, Brings.ownE EK w3.heap.size (fun v => v) (K), Brings.ownE EK w3.heap.size (fun v => flV a d (.slice As S.length cs) v) (K), Brings.box 25 #[.int .i64 0, .int .i64 0, .slice none 0 0, .slice none 0 0]] (by kernel_rfl) (by kernel_rfl) ?_
  rotate_left 8
  simp only [List.take_succ_cons, List.take_zero, List.drop_succ_cons, List.drop_zero]
  refine wpL_take (k' := 1) rfl (by kernel_rfl) (fun d os => ?t42) ?_
  case t42 => (unfold bringsAt; go_simp; first | with_reducible exact take_one | exact take_one)
  try simp only [Act.put, List.setIfInBounds_toArray, List.set_cons_zero, List.set_cons_succ]
  refine wpL_take (k' := 2) rfl (by kernel_rfl) (fun d os => ?t43) ?_
  case t43 => (unfold bringsAt; go_simp; first | with_reducible exact take_one | exact take_one)
  try simp only [Act.put, List.setIfInBounds_toArray, List.set_cons_zero, List.set_cons_succ]
  refine wpL_take (k' := 3) rfl (by kernel_rfl) (fun d os => ?t44) ?_
  case t44 => (unfold bringsAt; go_simp; first | with_reducible exact take_one | exact take_one)
  try simp only [Act.put, List.setIfInBounds_toArray, List.set_cons_zero, List.set_cons_succ]
  refine wpL_take (k' := 4) rfl (by kernel_rfl) (fun d os => ?t45) ?_
  case t45 => (unfold bringsAt; go_simp; first | with_reducible exact take_one | exact take_one)
  try simp only [Act.put, List.setIfInBounds_toArray, List.set_cons_zero, List.set_cons_succ]
  refine wpL_take (k' := 5) rfl (by kernel_rfl) (fun d os => ?t46) ?_
  case t46 => (unfold bringsAt; go_simp; first | with_reducible exact take_one | exact take_one)
  try simp only [Act.put, List.setIfInBounds_toArray, List.set_cons_zero, List.set_cons_succ]
  refine wpL_take (k' := 6) rfl (by kernel_rfl) (fun d os => ?t47) ?_
  case t47 => (unfold bringsAt; go_simp; first | with_reducible exact take_one | exact take_one)
  try simp only [Act.put, List.setIfInBounds_toArray, List.set_cons_zero, List.set_cons_succ]
  refine wpL_litE (k' := 7) rfl (by kernel_rfl) (fun wz hz hd => ?t48) (fun g6 => ?_)
  case t48 =>
    unfold bringsAt
    go_simp
    exact lit_bringsE hz.size
  try simp only [Act.put, List.setIfInBounds_toArray, List.set_cons_zero, List.set_cons_succ]
  refine wpL_take (k' := 8) rfl (by kernel_rfl) (fun d os => ?t49) ?_
  case t49 => (unfold bringsAt; go_simp; first | with_reducible exact take_one | exact take_one)
  try simp only [Act.put, List.setIfInBounds_toArray, List.set_cons_zero, List.set_cons_succ]
  refine wpL_take (k' := 9) rfl (by kernel_rfl) (fun d os => ?t50) ?_
  case t50 => (unfold bringsAt; go_simp; first | with_reducible exact take_one | exact take_one)
  try simp only [Act.put, List.setIfInBounds_toArray, List.set_cons_zero, List.set_cons_succ]
  refine wpL_ownE (k' := 10) rfl (by kernel_rfl) (fun wz hz hd => ?t51) (fun A2 c2 => ?_)
  case t51 =>
    have HZ := Lib.hid (HB1.out.trans (hz.mono HB1.out.size))
    have L6 := Lib.hid (show OwnE EK wz w3.heap.size (.slice (some ⟨g6, 0, none⟩) 0 0) [] from hd.get 6 (by kernel_rfl))
    exact at_append_litE (.tmp 19) (.tmp 21) 23 rfl Try.underlying23 rfl rfl L6.out (RK.out.kept HZ.out) (by omega) hz.size
  try simp only [Act.put, List.setIfInBounds_toArray, List.set_cons_zero, List.set_cons_succ]
  refine wpL_ownE (k' := 11) rfl (by kernel_rfl) (fun wz hz hd => ?t52) (fun A3 c3 => ?_)
  case t52 =>
    have HZ := Lib.hid (HB1.out.trans (hz.mono HB1.out.size))
    have O9 := Lib.hid (show OwnE EK wz w3.heap.size (.slice A2 (K).length c2) (K) from hd.get 9 (by kernel_rfl))
    unfold bringsAt
    go_simp
    exact take_brings (A2, c2) rfl O9.out rfl
  try simp only [Act.put, List.setIfInBounds_toArray, List.set_cons_zero, List.set_cons_succ]
  refine wpL_box (k' := 12) rfl (by kernel_rfl) (fun wz hz hd => ?t53) (fun b7 => ?_)
  case t53 =>
    unfold bringsAt
    go_simp
    exact alloc_box
  try simp only [Act.put, List.setIfInBounds_toArray, List.set_cons_zero, List.set_cons_succ]
  refine wpL_nil ?_
  intro w4 hH
  have hb' := hH.below
  clear kq0 kq1 kq2 kq3 kq4 kq5 kq6 kq7 kq8 kq9 kq10 kq11 kq12 kq13 kq14 kq15
  have HB1 := Lib.hid ((HB1.out).trans (hb'.mono (HB1.out).size))
  have L6 := Lib.hid (show OwnE EK w4 w3.heap.size (.slice (some ⟨g6, 0, none⟩) 0 0) [] from hH.facts 6)
  have O9 := Lib.hid (show OwnE EK w4 w3.heap.size (.slice A2 (K).length c2) (K) from hH.facts 9)
  have O10 := Lib.hid (show OwnE EK w4 w3.heap.size (.slice A3 (K).length c3) (K) from hH.facts 10)
  have B7 := Lib.hid (show Blk w4 b7 25 #[.int .i64 0, .int .i64 0, .slice none 0 0, .slice none 0 0] from hH.facts 11)
  have HGB7 := Lib.hid (show w3.heap.size ≤ b7 from (hH.lt 11 _ rfl).1)
  clear hH hb'
  obtain ⟨f0, f1, f2, f3⟩ := B7.out.frozens
  obtain ⟨q0, q1, q2, q3⟩ := B7.out.cells4
  go_upto_region 6 with fail
  clear f0 f1 f2 f3 q0 q1 q2 q3
  have lb := HGB7
  have O10 := Lib.hid ((((O10.out.set_ (i := 0) B7.out (by decide) (.int .i64 a)).set_ (i := 1) (B7.out.set_ 0 (.int .i64 a)) (by decide) (.int .i64 d)).set_ (i := 2) ((B7.out.set_ 0 (.int .i64 a)).set_ 1 (.int .i64 d)) (by decide) (.slice As S.length cs)).set_ (i := 3) (((B7.out.set_ 0 (.int .i64 a)).set_ 1 (.int .i64 d)).set_ 2 (.slice As S.length cs)) (by decide) (.slice A3 K.length c3))
  have HB1 := Lib.hid ((((HB1.out.setCell (p := ⟨b7, 0, none⟩) lb (.int .i64 a)).setCell (p := ⟨b7, 1, none⟩) lb (.int .i64 d)).setCell (p := ⟨b7, 2, none⟩) lb (.slice As S.length cs)).setCell (p := ⟨b7, 3, none⟩) lb (.slice A3 K.length c3))
  have B7 := Lib.hid (ret_four' B7.out (.int .i64 a) (.int .i64 d) (.slice As S.length cs) (.slice A3 K.length c3))
  clear lb HGB7 O9 L6
  generalize (((w4.setCell ⟨b7, 0, none⟩ (.int .i64 a)).setCell ⟨b7, 1, none⟩ (.int .i64 d)).setCell ⟨b7, 2, none⟩ (.slice As S.length cs)).setCell ⟨b7, 3, none⟩ (.slice A3 K.length c3) = w5 at *
  obtain ⟨zB10, zB11, zB12, zB13⟩ := (B1.out.below HB1.out B1.out.lt).cells4
  obtain ⟨zB20, zB21, zB22⟩ := (B2.out.below HB1.out B2.out.lt).cells3
  obtain ⟨zB30, zB31, zB32, zB33, zB34, zB35, zB36, zB37, zB38⟩ := (B3.out.below HB1.out B3.out.lt).cells9
  go_wp2_with fail
  clear zB10 zB11 zB12 zB13
  clear zB20 zB21 zB22
  clear zB30 zB31 zB32 zB33 zB34 zB35 zB36 zB37 zB38
  refine (r16right_c a d S As cs K Ak ck _ (RS.out.kept HB1.out) (RK.out.kept HB1.out) hn hm).mono ?_
  rintro e w6 ⟨rfl, hb'⟩
  have HB1 := Lib.hid ((HB1.out).trans (hb'.mono (HB1.out).size))
  have O10 := Lib.hid ((O10.out).kept hb')
  have B7 := Lib.hid ((B7.out).below hb' (B7.out).lt)
  clear hb'
  rw [HO.out]
  obtain ⟨zB10, zB11, zB12, zB13⟩ := (B1.out.below HB1.out B1.out.lt).cells4
  obtain ⟨zB20, zB21, zB22⟩ := (B2.out.below HB1.out B2.out.lt).cells3
  obtain ⟨zB30, zB31, zB32, zB33, zB34, zB35, zB36, zB37, zB38⟩ := (B3.out.below HB1.out B3.out.lt).cells9
  go_wp2_with fail
  clear zB10 zB11 zB12 zB13
  clear zB20 zB21 zB22
  clear zB30 zB31 zB32 zB33 zB34 zB35 zB36 zB37 zB38
  refine (r16within_c a d _ _ u _ a1 a2 d1 d2).mono ?_
  rintro e w7 ⟨rfl, hb'⟩
  have HB1 := Lib.hid ((HB1.out).trans (hb'.mono (HB1.out).size))
  have O10 := Lib.hid ((O10.out).kept hb')
  have B7 := Lib.hid ((B7.out).below hb' (B7.out).lt)
  clear hb'
  rw [HI.out]
  obtain ⟨zB10, zB11, zB12, zB13⟩ := (B1.out.below HB1.out B1.out.lt).cells4
  obtain ⟨zB20, zB21, zB22⟩ := (B2.out.below HB1.out B2.out.lt).cells3
  obtain ⟨zB30, zB31, zB32, zB33, zB34, zB35, zB36, zB37, zB38⟩ := (B3.out.below HB1.out B3.out.lt).cells9
  go_wp2_with fail
  clear zB10 zB11 zB12 zB13
  clear zB20 zB21 zB22
  clear zB30 zB31 zB32 zB33 zB34 zB35 zB36 zB37 zB38
  have HPE := Lib.hid (show ∀ w, (binOp .neq 40 (bkV (plainBk b)) (bkV (plainBk b))).run Try.prog w = .ok (.bool false) w from fun w => by have h := ne_bk (plainBk b) (plainBk b) w; rw [show decide (plainBk b = plainBk b) = true by simp] at h; exact h)
  have HCS := Lib.hid (show ∀ (W : World) (B : Nat), ReadsI W As S → OwnE EK W B (.slice A3 K.length c3) K → Calls Try.prog 26 #[flV a d (.slice As S.length cs) (.slice A3 K.length c3), unV u, bkV b] W fun e w' => e = .returned (.bool false) ∧ OwnE EK w' B (.slice A3 K.length c3) K' ∧ W.grownBy w' (Value.slice A3 K.length c3).ownBlock from fun W B q1 q2 => by have h := fset_c a d S As cs K (.slice A3 K.length c3) B u b W q1 q2 hn; rw [HSB.out, HSK.out] at h; exact h)
  have hpe := HPE.out
  have HB1 := Lib.hid ((HB1.out).drew)
  have O10 := Lib.hid ((O10.out).drew)
  have B7 := Lib.hid ((B7.out).drew)
  refine wp_region_held_drew (S := (fun w' => w'.cell? ⟨w.heap.size + 1, 0, none⟩ = some (.int .i64 u.x) ∧ w'.cell? ⟨w.heap.size + 1, 1, none⟩ = some (.int .i64 u.y) ∧ w'.cell? ⟨w.heap.size + 1, 2, none⟩ = some (.int .i64 u.s) ∧ w'.cell? ⟨w.heap.size + 1 + 1, 0, none⟩ = some (.int .i64 b.m) ∧ w'.cell? ⟨w.heap.size + 1 + 1, 1, none⟩ = some (.bool b.g) ∧ w'.cell? ⟨w.heap.size + 1 + 1, 2, none⟩ = some (.int .i64 b.x0) ∧ w'.cell? ⟨w.heap.size + 1 + 1, 3, none⟩ = some (.int .i64 b.y0) ∧ w'.cell? ⟨w.heap.size + 1 + 1, 4, none⟩ = some (.int .i64 b.x1) ∧ w'.cell? ⟨w.heap.size + 1 + 1, 5, none⟩ = some (.int .i64 b.y1) ∧ w'.cell? ⟨w.heap.size + 1 + 1, 6, none⟩ = some (.int .i64 b.d0) ∧ w'.cell? ⟨w.heap.size + 1 + 1, 7, none⟩ = some (.int .i64 b.d1) ∧ w'.cell? ⟨w.heap.size + 1 + 1, 8, none⟩ = some (.int .i64 b.d2) ∧ w'.cell? ⟨b7, 0, none⟩ = some (.int .i64 a) ∧ w'.cell? ⟨b7, 1, none⟩ = some (.int .i64 d) ∧ w'.cell? ⟨b7, 2, none⟩ = some (.slice As S.length cs) ∧ w'.cell? ⟨b7, 3, none⟩ = some (.slice A3 K.length c3))) (by kernel_rfl) ?hS0 (fun hHeld => ?_)
  case hS0 => exact ⟨(B2.out.below HB1.out B2.out.lt).cell 0, (B2.out.below HB1.out B2.out.lt).cell 1, (B2.out.below HB1.out B2.out.lt).cell 2, (B3.out.below HB1.out B3.out.lt).cell 0, (B3.out.below HB1.out B3.out.lt).cell 1, (B3.out.below HB1.out B3.out.lt).cell 2, (B3.out.below HB1.out B3.out.lt).cell 3, (B3.out.below HB1.out B3.out.lt).cell 4, (B3.out.below HB1.out B3.out.lt).cell 5, (B3.out.below HB1.out B3.out.lt).cell 6, (B3.out.below HB1.out B3.out.lt).cell 7, (B3.out.below HB1.out B3.out.lt).cell 8, (B7.out).cell 0, (B7.out).cell 1, (B7.out).cell 2, (B7.out).cell 3⟩
  refine wpAnyH_take (i := 0) (oi := ⟨some 35, _, _, _, _, _⟩) (v := ?v54) rfl (by kernel_rfl) (by kernel_rfl) (by kernel_rfl) (fun _ _ _ h => h) (Or.inl ⟨by rfl, ?h54⟩) (by assumption) ?r54
  case h54 => (intro w hSw; (try dsimp only at hSw); go_simp; try with_reducible rfl)
  try simp only [Act.put, List.setIfInBounds_toArray, List.set_cons_zero, List.set_cons_succ]
  refine wpAnyH_take (i := 1) (oi := ⟨some 36, _, _, _, _, _⟩) (v := ?v55) rfl (by kernel_rfl) (by kernel_rfl) (by kernel_rfl) (fun _ _ _ h => h) (Or.inl ⟨by rfl, ?h55⟩) (by assumption) ?r55
  case h55 => (intro w hSw; (try dsimp only at hSw); go_simp; try with_reducible rfl)
  try simp only [Act.put, List.setIfInBounds_toArray, List.set_cons_zero, List.set_cons_succ]
  refine wpAnyH_take (i := 2) (oi := ⟨some 37, _, _, _, _, _⟩) (v := ?v56) rfl (by kernel_rfl) (by kernel_rfl) (by kernel_rfl) (fun _ _ _ h => h) (Or.inl ⟨by rfl, ?h56⟩) (by assumption) ?r56
  case h56 => (intro w hSw; (try dsimp only at hSw); go_simp; try with_reducible rfl)
  try simp only [Act.put, List.setIfInBounds_toArray, List.set_cons_zero, List.set_cons_succ]
  refine wpAnyH_take (i := 4) (oi := ⟨some 39, _, _, _, _, _⟩) (v := ?v57) rfl (by kernel_rfl) (by kernel_rfl) (by kernel_rfl) (fun _ _ _ h => h) (Or.inl ⟨by rfl, ?h57⟩) (by assumption) ?r57
  case h57 => (intro w hSw; (try dsimp only at hSw); go_simp; try with_reducible rfl)
  try simp only [Act.put, List.setIfInBounds_toArray, List.set_cons_zero, List.set_cons_succ]
  refine wpAnyH_ready (rs := [3]) (by kernel_rfl) (by simp) ?_
  refine (AllReadyH.cons (o := ⟨some 38, _, _, _, _, _⟩) rfl (fun K hK => ?_) AllReadyH.nil)
  go_simp
  refine (HCS.out _ _ (RS.out.kept HB1.out) O10.out).mono ?_
  rintro e w8 ⟨rfl, ho, hg⟩
  have HB1 := Lib.hid (O10.out.belowB HB1.out (Nat.le_refl _) hg)
  have B7 := Lib.hid (B7.out.appE O10.out (by decide) hg)
  have O10 := Lib.hid ho
  clear ho hg
  refine hK.out _ _ ?hS58 (fun hHeld => ?_)
  case hS58 => exact ⟨(B2.out.below HB1.out B2.out.lt).cell 0, (B2.out.below HB1.out B2.out.lt).cell 1, (B2.out.below HB1.out B2.out.lt).cell 2, (B3.out.below HB1.out B3.out.lt).cell 0, (B3.out.below HB1.out B3.out.lt).cell 1, (B3.out.below HB1.out B3.out.lt).cell 2, (B3.out.below HB1.out B3.out.lt).cell 3, (B3.out.below HB1.out B3.out.lt).cell 4, (B3.out.below HB1.out B3.out.lt).cell 5, (B3.out.below HB1.out B3.out.lt).cell 6, (B3.out.below HB1.out B3.out.lt).cell 7, (B3.out.below HB1.out B3.out.lt).cell 8, (B7.out).cell 0, (B7.out).cell 1, (B7.out).cell 2, (B7.out).cell 3⟩
  clear hK K
  try simp only [Act.put, List.setIfInBounds_toArray, List.set_cons_zero, List.set_cons_succ]
  refine wpAnyH_take (i := 5) (oi := ⟨some 40, _, _, _, _, _⟩) (v := ?v59) rfl (by kernel_rfl) (by kernel_rfl) (by kernel_rfl) (fun _ _ _ h => h) (Or.inl ⟨by rfl, ?h59⟩) (by assumption) ?r59
  case h59 => (intro w hSw; (try dsimp only at hSw); go_simp; try with_reducible rfl)
  try simp only [Act.put, List.setIfInBounds_toArray, List.set_cons_zero, List.set_cons_succ]
  refine wpAnyH_take (i := 6) (oi := ⟨some 41, _, _, _, _, _⟩) (v := ?v60) rfl (by kernel_rfl) (by kernel_rfl) (by kernel_rfl) (fun _ _ _ h => h) (Or.inl ⟨by rfl, ?h60⟩) (by assumption) ?r60
  case h60 => (intro w hSw; (try dsimp only at hSw); go_simp; try with_reducible rfl)
  try simp only [Act.put, List.setIfInBounds_toArray, List.set_cons_zero, List.set_cons_succ]
  refine wpAnyH_take (i := 7) (oi := ⟨some 42, _, _, _, _, _⟩) (v := ?v61) rfl (by kernel_rfl) (by kernel_rfl) (by kernel_rfl) (fun _ _ _ h => h) (Or.inl ⟨by rfl, ?h61⟩) (by assumption) ?r61
  case h61 => (intro w hSw; (try dsimp only at hSw); go_simp; try with_reducible rfl)
  try simp only [Act.put, List.setIfInBounds_toArray, List.set_cons_zero, List.set_cons_succ]
  refine wpAnyH_take (i := 9) (oi := ⟨some 44, _, _, _, _, _⟩) (v := ?v62) rfl (by kernel_rfl) (by kernel_rfl) (by kernel_rfl) (fun _ _ _ h => h) (Or.inl ⟨by rfl, ?h62⟩) (by assumption) ?r62
  case h62 => (intro w hSw; (try dsimp only at hSw); go_simp; try with_reducible rfl)
  try simp only [Act.put, List.setIfInBounds_toArray, List.set_cons_zero, List.set_cons_succ]
  refine wpAnyH_ready (rs := [8]) (by kernel_rfl) (by simp) ?_
  refine (AllReadyH.cons (o := ⟨some 43, _, _, _, _, _⟩) rfl (fun K hK => ?_) AllReadyH.nil)
  go_simp
  have HS1 := HB1
  refine (fplain_c b _).mono ?_
  rintro e w9 ⟨rfl, hb'⟩
  have HB1 := Lib.hid ((HB1.out).trans (hb'.mono (HB1.out).size))
  have O10 := Lib.hid ((O10.out).kept hb')
  have B7 := Lib.hid ((B7.out).below hb' (B7.out).lt)
  clear hb'
  refine hK.out _ _ ?hS63 (fun hHeld => ?_)
  case hS63 => exact ⟨(B2.out.below HB1.out B2.out.lt).cell 0, (B2.out.below HB1.out B2.out.lt).cell 1, (B2.out.below HB1.out B2.out.lt).cell 2, (B3.out.below HB1.out B3.out.lt).cell 0, (B3.out.below HB1.out B3.out.lt).cell 1, (B3.out.below HB1.out B3.out.lt).cell 2, (B3.out.below HB1.out B3.out.lt).cell 3, (B3.out.below HB1.out B3.out.lt).cell 4, (B3.out.below HB1.out B3.out.lt).cell 5, (B3.out.below HB1.out B3.out.lt).cell 6, (B3.out.below HB1.out B3.out.lt).cell 7, (B3.out.below HB1.out B3.out.lt).cell 8, (B7.out).cell 0, (B7.out).cell 1, (B7.out).cell 2, (B7.out).cell 3⟩
  clear hK K
  try simp only [Act.put, List.setIfInBounds_toArray, List.set_cons_zero, List.set_cons_succ]
  refine wpAnyH_ready (rs := [10]) (by kernel_rfl) (by simp) ?_
  refine (AllReadyH.cons (o := ⟨some 45, _, _, _, _, _⟩) rfl (fun K hK => ?_) AllReadyH.nil)
  go_simp
  have HS1 := HB1
  refine (r16plain_c b _ hb).mono ?_
  rintro e w10 ⟨rfl, hb'⟩
  have HB1 := Lib.hid ((HB1.out).trans (hb'.mono (HB1.out).size))
  have O10 := Lib.hid ((O10.out).kept hb')
  have B7 := Lib.hid ((B7.out).below hb' (B7.out).lt)
  clear hb'
  refine hK.out _ _ ?hS64 (fun hHeld => ?_)
  case hS64 => exact ⟨(B2.out.below HB1.out B2.out.lt).cell 0, (B2.out.below HB1.out B2.out.lt).cell 1, (B2.out.below HB1.out B2.out.lt).cell 2, (B3.out.below HB1.out B3.out.lt).cell 0, (B3.out.below HB1.out B3.out.lt).cell 1, (B3.out.below HB1.out B3.out.lt).cell 2, (B3.out.below HB1.out B3.out.lt).cell 3, (B3.out.below HB1.out B3.out.lt).cell 4, (B3.out.below HB1.out B3.out.lt).cell 5, (B3.out.below HB1.out B3.out.lt).cell 6, (B3.out.below HB1.out B3.out.lt).cell 7, (B3.out.below HB1.out B3.out.lt).cell 8, (B7.out).cell 0, (B7.out).cell 1, (B7.out).cell 2, (B7.out).cell 3⟩
  clear hK K
  try simp only [Act.put, List.setIfInBounds_toArray, List.set_cons_zero, List.set_cons_succ]
  refine wpAnyH_take (i := 11) (oi := ⟨some 46, _, _, _, _, _⟩) (v := ?v65) rfl (by kernel_rfl) (by kernel_rfl) (by kernel_rfl) (fun _ _ _ h => h) (Or.inl ⟨by rfl, ?h65⟩) (by assumption) ?r65
  case h65 => (intro w hSw; (try dsimp only at hSw); go_simp; try with_reducible rfl)
  try simp only [Act.put, List.setIfInBounds_toArray, List.set_cons_zero, List.set_cons_succ]
  refine wpAnyH_take (i := 12) (oi := ⟨some 47, _, _, _, _, _⟩) (v := ?v66) rfl (by kernel_rfl) (by kernel_rfl) (by kernel_rfl) (fun _ _ _ h => h) (Or.inl ⟨by rfl, ?h66⟩) (by assumption) ?r66
  case h66 => (intro w hSw; (try dsimp only at hSw); go_simp; try with_reducible rfl)
  try simp only [Act.put, List.setIfInBounds_toArray, List.set_cons_zero, List.set_cons_succ]
  refine wpAnyH_done (by kernel_rfl) ?_ _
  clear hHeld
  obtain ⟨zB10, zB11, zB12, zB13⟩ := (B1.out.below HB1.out B1.out.lt).cells4
  obtain ⟨zB70, zB71, zB72, zB73⟩ := (B7.out).cells4
  go_wp2_with fail
  have h9 := r16same_y a d S As As cs cs K' K A3 Ak c3 ck w10 (RS.out.kept HB1.out) (RS.out.kept HB1.out) O10.out.reads (RK.out.kept HB1.out) hn hm' HLK.out HKK.out
  rw [HLK.out] at h9
  refine (h9).mono ?_
  rintro e w11 ⟨rfl, hb'⟩
  have HB1 := Lib.hid ((HB1.out).trans (hb'.mono (HB1.out).size))
  have O10 := Lib.hid ((O10.out).kept hb')
  have B7 := Lib.hid ((B7.out).below hb' (B7.out).lt)
  clear hb'
  clear h9
  go_wp2_with fail
  go_ret
  exact ⟨rfl, HB.out.trans (HB1.out.mono HB.out.size)⟩
set_option maxRecDepth 100000 in
set_option maxHeartbeats 6400000 in
theorem sts_blk (a d : Int) (S : List Int) (As : Option Addr) (cs : Nat) (K : List Bk) (Ak : Option Addr) (ck : Nat) (u : Un) (b : Bk) (w : World) (hS : ReadsI w As S) (hK : ReadsE EK w Ak K) (hn : S.length ≤ 9223372036854775807) (hm : K.length ≤ 9223372036854775807) (hb : -9223372036854775808 ≤ b.m ∧ b.m ≤ 9223372036854775807) (hg : bigB S.length K.length = false) (ho : okFl a d S K = true) (hi : inFu a d u = true) (hbk : okBk b = false) :
    Calls Try.prog 4 #[flV a d (.slice As S.length cs) (.slice Ak K.length ck), unV u, bkV b] w fun e w' => e = .returned (.bool true) ∧ Below w.heap.size w w' := by
  have RS := Lib.hid hS
  have RK := Lib.hid hK
  have HB := Lib.hid (Below.refl w.heap.size w)
  have HG := Lib.hid hg
  obtain ⟨K', hK'⟩ : ∃ K', K' = setK a d S K u b := ⟨_, rfl⟩
  have HSK := Lib.hid hK'.symm
  have hlk : K'.length = K.length := by rw [hK']; exact setK_length a d S K u b
  have HLK := Lib.hid hlk
  have hsb : setB a d S K u b = false := by unfold setB; rw [ho, hi, hbk]; rfl
  have HKK := Lib.hid (show K' = K by rw [hK']; unfold setK; rw [if_neg (by rw [hsb]; decide)])
  have HSB := Lib.hid hsb
  have hm' : K'.length ≤ 9223372036854775807 := by rw [hlk]; exact hm
  clear hK' hlk hsb
  have hg1 := bigB_f hg
  have HO := Lib.hid ho
  have HI := Lib.hid hi
  obtain ⟨A, D, ea, ed, a1, a2, d1, d2, hl, hkl, hS1, hK1⟩ := okFl_nat ho
  have HKL := Lib.hid hkl
  have a1 : 1 ≤ a := by omega
  have a2 : a ≤ 64 := by omega
  have d1 : 1 ≤ d := by omega
  have d2 : d ≤ 64 := by omega
  clear ea ed hl hkl hS1 hK1
  have HBK := Lib.hid hbk
  clear hS hK hg ho hi hbk
  have HB1 := Lib.hid (Below.refl w.heap.size w)
  go_enter Try.func4, Try.ntmps4
  go_wp2_with fail
  have HB1 := Lib.hid (below_alloc_ (below_alloc_ (below_alloc_ (HB1.out) (.cells #[.int .i64 a, .int .i64 d, .slice As S.length cs, .slice Ak K.length ck] 25)) (.cells #[.int .i64 u.x, .int .i64 u.y, .int .i64 u.s] 34)) (.cells #[.int .i64 b.m, .bool b.g, .int .i64 b.x0, .int .i64 b.y0, .int .i64 b.x1, .int .i64 b.y1, .int .i64 b.d0, .int .i64 b.d1, .int .i64 b.d2] 40))
  have hzw : (((w.alloc (.cells #[.int .i64 a, .int .i64 d, .slice As S.length cs, .slice Ak K.length ck] 25)).alloc (.cells #[.int .i64 u.x, .int .i64 u.y, .int .i64 u.s] 34)).alloc (.cells #[.int .i64 b.m, .bool b.g, .int .i64 b.x0, .int .i64 b.y0, .int .i64 b.x1, .int .i64 b.y1, .int .i64 b.d0, .int .i64 b.d1, .int .i64 b.d2] 40)).heap.size = w.heap.size + 3 := by simp only [World.size_alloc]
  have B1 := ((Blk.new (w) 25 #[.int .i64 a, .int .i64 d, .slice As S.length cs, .slice Ak K.length ck]).alloc (.cells #[.int .i64 u.x, .int .i64 u.y, .int .i64 u.s] 34)).alloc (.cells #[.int .i64 b.m, .bool b.g, .int .i64 b.x0, .int .i64 b.y0, .int .i64 b.x1, .int .i64 b.y1, .int .i64 b.d0, .int .i64 b.d1, .int .i64 b.d2] 40)
  skip
  have B1 := Lib.hid B1
  have B2 := (Blk.new (w.alloc (.cells #[.int .i64 a, .int .i64 d, .slice As S.length cs, .slice Ak K.length ck] 25)) 34 #[.int .i64 u.x, .int .i64 u.y, .int .i64 u.s]).alloc (.cells #[.int .i64 b.m, .bool b.g, .int .i64 b.x0, .int .i64 b.y0, .int .i64 b.x1, .int .i64 b.y1, .int .i64 b.d0, .int .i64 b.d1, .int .i64 b.d2] 40)
  rw [show (w.alloc (.cells #[.int .i64 a, .int .i64 d, .slice As S.length cs, .slice Ak K.length ck] 25)).heap.size = w.heap.size + 1 by simp only [World.size_alloc]] at B2
  have B2 := Lib.hid B2
  have B3 := Blk.new ((w.alloc (.cells #[.int .i64 a, .int .i64 d, .slice As S.length cs, .slice Ak K.length ck] 25)).alloc (.cells #[.int .i64 u.x, .int .i64 u.y, .int .i64 u.s] 34)) 40 #[.int .i64 b.m, .bool b.g, .int .i64 b.x0, .int .i64 b.y0, .int .i64 b.x1, .int .i64 b.y1, .int .i64 b.d0, .int .i64 b.d1, .int .i64 b.d2]
  rw [show ((w.alloc (.cells #[.int .i64 a, .int .i64 d, .slice As S.length cs, .slice Ak K.length ck] 25)).alloc (.cells #[.int .i64 u.x, .int .i64 u.y, .int .i64 u.s] 34)).heap.size = w.heap.size + 1 + 1 by simp only [World.size_alloc]] at B3
  have B3 := Lib.hid B3
  generalize ((w.alloc (.cells #[.int .i64 a, .int .i64 d, .slice As S.length cs, .slice Ak K.length ck] 25)).alloc (.cells #[.int .i64 u.x, .int .i64 u.y, .int .i64 u.s] 34)).alloc (.cells #[.int .i64 b.m, .bool b.g, .int .i64 b.x0, .int .i64 b.y0, .int .i64 b.x1, .int .i64 b.y1, .int .i64 b.d0, .int .i64 b.d1, .int .i64 b.d2] 40) = w1 at *
  clear hzw
  refine (first_c w1).mono ?_
  rintro e w2 ⟨rfl, hb'⟩
  have HB1 := Lib.hid ((HB1.out).trans (hb'.mono (HB1.out).size))
  have B1 := Lib.hid ((B1.out).below hb' (B1.out).lt)
  have B2 := Lib.hid ((B2.out).below hb' (B2.out).lt)
  have B3 := Lib.hid ((B3.out).below hb' (B3.out).lt)
  clear hb'
  obtain ⟨zB10, zB11, zB12, zB13⟩ := (B1.out).cells4
  obtain ⟨zB20, zB21, zB22⟩ := (B2.out).cells3
  obtain ⟨zB30, zB31, zB32, zB33, zB34, zB35, zB36, zB37, zB38⟩ := (B3.out).cells9
  go_wp2_with fail
  clear zB10 zB11 zB12 zB13
  clear zB20 zB21 zB22
  clear zB30 zB31 zB32 zB33 zB34 zB35 zB36 zB37 zB38
  refine (big_c a d S As cs K Ak ck _ (RS.out.kept HB1.out) (RK.out.kept HB1.out) hn hm).mono ?_
  rintro e w3 ⟨rfl, hb'⟩
  have HB1 := Lib.hid ((HB1.out).trans (hb'.mono (HB1.out).size))
  have B1 := Lib.hid ((B1.out).below hb' (B1.out).lt)
  have B2 := Lib.hid ((B2.out).below hb' (B2.out).lt)
  have B3 := Lib.hid ((B3.out).below hb' (B3.out).lt)
  clear hb'
  rw [HG.out]
  obtain ⟨zB10, zB11, zB12, zB13⟩ := (B1.out).cells4
  obtain ⟨zB20, zB21, zB22⟩ := (B2.out).cells3
  obtain ⟨zB30, zB31, zB32, zB33, zB34, zB35, zB36, zB37, zB38⟩ := (B3.out).cells9
  go_upto_region 5 with fail
  clear zB10 zB11 zB12 zB13
  clear zB20 zB21 zB22
  clear zB30 zB31 zB32 zB33 zB34 zB35 zB36 zB37 zB38
  have RK := Lib.hid (RK.out.kept HB1.out)
  have RS := Lib.hid (RS.out.kept HB1.out)
  have HB := Lib.hid (HB.out.trans (HB1.out.mono HB.out.size))
  have HB1 := Lib.hid (Below.refl w3.heap.size w3)
  obtain ⟨zB10, zB11, zB12, zB13⟩ := (B1.out.below HB1.out B1.out.lt).cells4
  obtain ⟨zB20, zB21, zB22⟩ := (B2.out.below HB1.out B2.out.lt).cells3
  obtain ⟨zB30, zB31, zB32, zB33, zB34, zB35, zB36, zB37, zB38⟩ := (B3.out.below HB1.out B3.out.lt).cells9
  have kq0 := cell_regrown zB10
  have kq1 := cell_regrown zB11
  have kq2 := cell_regrown zB12
  have kq3 := cell_regrown zB13
  have kq4 := cell_regrown zB20
  have kq5 := cell_regrown zB21
  have kq6 := cell_regrown zB22
  have kq7 := cell_regrown zB30
  have kq8 := cell_regrown zB31
  have kq9 := cell_regrown zB32
  have kq10 := cell_regrown zB33
  have kq11 := cell_regrown zB34
  have kq12 := cell_regrown zB35
  have kq13 := cell_regrown zB36
  have kq14 := cell_regrown zB37
  have kq15 := cell_regrown zB38
  clear zB10 zB11 zB12 zB13 zB20 zB21 zB22 zB30 zB31 zB32 zB33 zB34 zB35 zB36 zB37 zB38
  refine wp_mono_tail 12 [Brings.one ?b67_0, Brings.one ?b68_1, Brings.one ?b69_2, Brings.one ?b70_3, Brings.one ?b71_4, Brings.one ?b72_5, Brings.litE EK w3.heap.size, Brings.one ?b73_7, Brings.one ?b74_8, Brings.ownE EK w3.heap.size (fun v => v) (K), Brings.ownE EK w3.heap.size (fun v => flV a d (.slice As S.length cs) v) (K), Brings.box 25 #[.int .i64 0, .int .i64 0, .slice none 0 0, .slice none 0 0]] (by kernel_rfl) (by kernel_rfl) ?_
  rotate_left 8
  simp only [List.take_succ_cons, List.take_zero, List.drop_succ_cons, List.drop_zero]
  refine wpL_take (k' := 1) rfl (by kernel_rfl) (fun d os => ?t75) ?_
  case t75 => (unfold bringsAt; go_simp; first | with_reducible exact take_one | exact take_one)
  try simp only [Act.put, List.setIfInBounds_toArray, List.set_cons_zero, List.set_cons_succ]
  refine wpL_take (k' := 2) rfl (by kernel_rfl) (fun d os => ?t76) ?_
  case t76 => (unfold bringsAt; go_simp; first | with_reducible exact take_one | exact take_one)
  try simp only [Act.put, List.setIfInBounds_toArray, List.set_cons_zero, List.set_cons_succ]
  refine wpL_take (k' := 3) rfl (by kernel_rfl) (fun d os => ?t77) ?_
  case t77 => (unfold bringsAt; go_simp; first | with_reducible exact take_one | exact take_one)
  try simp only [Act.put, List.setIfInBounds_toArray, List.set_cons_zero, List.set_cons_succ]
  refine wpL_take (k' := 4) rfl (by kernel_rfl) (fun d os => ?t78) ?_
  case t78 => (unfold bringsAt; go_simp; first | with_reducible exact take_one | exact take_one)
  try simp only [Act.put, List.setIfInBounds_toArray, List.set_cons_zero, List.set_cons_succ]
  refine wpL_take (k' := 5) rfl (by kernel_rfl) (fun d os => ?t79) ?_
  case t79 => (unfold bringsAt; go_simp; first | with_reducible exact take_one | exact take_one)
  try simp only [Act.put, List.setIfInBounds_toArray, List.set_cons_zero, List.set_cons_succ]
  refine wpL_take (k' := 6) rfl (by kernel_rfl) (fun d os => ?t80) ?_
  case t80 => (unfold bringsAt; go_simp; first | with_reducible exact take_one | exact take_one)
  try simp only [Act.put, List.setIfInBounds_toArray, List.set_cons_zero, List.set_cons_succ]
  refine wpL_litE (k' := 7) rfl (by kernel_rfl) (fun wz hz hd => ?t81) (fun g6 => ?_)
  case t81 =>
    unfold bringsAt
    go_simp
    exact lit_bringsE hz.size
  try simp only [Act.put, List.setIfInBounds_toArray, List.set_cons_zero, List.set_cons_succ]
  refine wpL_take (k' := 8) rfl (by kernel_rfl) (fun d os => ?t82) ?_
  case t82 => (unfold bringsAt; go_simp; first | with_reducible exact take_one | exact take_one)
  try simp only [Act.put, List.setIfInBounds_toArray, List.set_cons_zero, List.set_cons_succ]
  refine wpL_take (k' := 9) rfl (by kernel_rfl) (fun d os => ?t83) ?_
  case t83 => (unfold bringsAt; go_simp; first | with_reducible exact take_one | exact take_one)
  try simp only [Act.put, List.setIfInBounds_toArray, List.set_cons_zero, List.set_cons_succ]
  refine wpL_ownE (k' := 10) rfl (by kernel_rfl) (fun wz hz hd => ?t84) (fun A2 c2 => ?_)
  case t84 =>
    have HZ := Lib.hid (HB1.out.trans (hz.mono HB1.out.size))
    have L6 := Lib.hid (show OwnE EK wz w3.heap.size (.slice (some ⟨g6, 0, none⟩) 0 0) [] from hd.get 6 (by kernel_rfl))
    exact at_append_litE (.tmp 19) (.tmp 21) 23 rfl Try.underlying23 rfl rfl L6.out (RK.out.kept HZ.out) (by omega) hz.size
  try simp only [Act.put, List.setIfInBounds_toArray, List.set_cons_zero, List.set_cons_succ]
  refine wpL_ownE (k' := 11) rfl (by kernel_rfl) (fun wz hz hd => ?t85) (fun A3 c3 => ?_)
  case t85 =>
    have HZ := Lib.hid (HB1.out.trans (hz.mono HB1.out.size))
    have O9 := Lib.hid (show OwnE EK wz w3.heap.size (.slice A2 (K).length c2) (K) from hd.get 9 (by kernel_rfl))
    unfold bringsAt
    go_simp
    exact take_brings (A2, c2) rfl O9.out rfl
  try simp only [Act.put, List.setIfInBounds_toArray, List.set_cons_zero, List.set_cons_succ]
  refine wpL_box (k' := 12) rfl (by kernel_rfl) (fun wz hz hd => ?t86) (fun b7 => ?_)
  case t86 =>
    unfold bringsAt
    go_simp
    exact alloc_box
  try simp only [Act.put, List.setIfInBounds_toArray, List.set_cons_zero, List.set_cons_succ]
  refine wpL_nil ?_
  intro w4 hH
  have hb' := hH.below
  clear kq0 kq1 kq2 kq3 kq4 kq5 kq6 kq7 kq8 kq9 kq10 kq11 kq12 kq13 kq14 kq15
  have HB1 := Lib.hid ((HB1.out).trans (hb'.mono (HB1.out).size))
  have L6 := Lib.hid (show OwnE EK w4 w3.heap.size (.slice (some ⟨g6, 0, none⟩) 0 0) [] from hH.facts 6)
  have O9 := Lib.hid (show OwnE EK w4 w3.heap.size (.slice A2 (K).length c2) (K) from hH.facts 9)
  have O10 := Lib.hid (show OwnE EK w4 w3.heap.size (.slice A3 (K).length c3) (K) from hH.facts 10)
  have B7 := Lib.hid (show Blk w4 b7 25 #[.int .i64 0, .int .i64 0, .slice none 0 0, .slice none 0 0] from hH.facts 11)
  have HGB7 := Lib.hid (show w3.heap.size ≤ b7 from (hH.lt 11 _ rfl).1)
  clear hH hb'
  obtain ⟨f0, f1, f2, f3⟩ := B7.out.frozens
  obtain ⟨q0, q1, q2, q3⟩ := B7.out.cells4
  go_upto_region 6 with fail
  clear f0 f1 f2 f3 q0 q1 q2 q3
  have lb := HGB7
  have O10 := Lib.hid ((((O10.out.set_ (i := 0) B7.out (by decide) (.int .i64 a)).set_ (i := 1) (B7.out.set_ 0 (.int .i64 a)) (by decide) (.int .i64 d)).set_ (i := 2) ((B7.out.set_ 0 (.int .i64 a)).set_ 1 (.int .i64 d)) (by decide) (.slice As S.length cs)).set_ (i := 3) (((B7.out.set_ 0 (.int .i64 a)).set_ 1 (.int .i64 d)).set_ 2 (.slice As S.length cs)) (by decide) (.slice A3 K.length c3))
  have HB1 := Lib.hid ((((HB1.out.setCell (p := ⟨b7, 0, none⟩) lb (.int .i64 a)).setCell (p := ⟨b7, 1, none⟩) lb (.int .i64 d)).setCell (p := ⟨b7, 2, none⟩) lb (.slice As S.length cs)).setCell (p := ⟨b7, 3, none⟩) lb (.slice A3 K.length c3))
  have B7 := Lib.hid (ret_four' B7.out (.int .i64 a) (.int .i64 d) (.slice As S.length cs) (.slice A3 K.length c3))
  clear lb HGB7 O9 L6
  generalize (((w4.setCell ⟨b7, 0, none⟩ (.int .i64 a)).setCell ⟨b7, 1, none⟩ (.int .i64 d)).setCell ⟨b7, 2, none⟩ (.slice As S.length cs)).setCell ⟨b7, 3, none⟩ (.slice A3 K.length c3) = w5 at *
  obtain ⟨zB10, zB11, zB12, zB13⟩ := (B1.out.below HB1.out B1.out.lt).cells4
  obtain ⟨zB20, zB21, zB22⟩ := (B2.out.below HB1.out B2.out.lt).cells3
  obtain ⟨zB30, zB31, zB32, zB33, zB34, zB35, zB36, zB37, zB38⟩ := (B3.out.below HB1.out B3.out.lt).cells9
  go_wp2_with fail
  clear zB10 zB11 zB12 zB13
  clear zB20 zB21 zB22
  clear zB30 zB31 zB32 zB33 zB34 zB35 zB36 zB37 zB38
  refine (r16right_c a d S As cs K Ak ck _ (RS.out.kept HB1.out) (RK.out.kept HB1.out) hn hm).mono ?_
  rintro e w6 ⟨rfl, hb'⟩
  have HB1 := Lib.hid ((HB1.out).trans (hb'.mono (HB1.out).size))
  have O10 := Lib.hid ((O10.out).kept hb')
  have B7 := Lib.hid ((B7.out).below hb' (B7.out).lt)
  clear hb'
  rw [HO.out]
  obtain ⟨zB10, zB11, zB12, zB13⟩ := (B1.out.below HB1.out B1.out.lt).cells4
  obtain ⟨zB20, zB21, zB22⟩ := (B2.out.below HB1.out B2.out.lt).cells3
  obtain ⟨zB30, zB31, zB32, zB33, zB34, zB35, zB36, zB37, zB38⟩ := (B3.out.below HB1.out B3.out.lt).cells9
  go_wp2_with fail
  clear zB10 zB11 zB12 zB13
  clear zB20 zB21 zB22
  clear zB30 zB31 zB32 zB33 zB34 zB35 zB36 zB37 zB38
  refine (r16within_c a d _ _ u _ a1 a2 d1 d2).mono ?_
  rintro e w7 ⟨rfl, hb'⟩
  have HB1 := Lib.hid ((HB1.out).trans (hb'.mono (HB1.out).size))
  have O10 := Lib.hid ((O10.out).kept hb')
  have B7 := Lib.hid ((B7.out).below hb' (B7.out).lt)
  clear hb'
  rw [HI.out]
  obtain ⟨zB10, zB11, zB12, zB13⟩ := (B1.out.below HB1.out B1.out.lt).cells4
  obtain ⟨zB20, zB21, zB22⟩ := (B2.out.below HB1.out B2.out.lt).cells3
  obtain ⟨zB30, zB31, zB32, zB33, zB34, zB35, zB36, zB37, zB38⟩ := (B3.out.below HB1.out B3.out.lt).cells9
  go_wp2_with fail
  clear zB10 zB11 zB12 zB13
  clear zB20 zB21 zB22
  clear zB30 zB31 zB32 zB33 zB34 zB35 zB36 zB37 zB38
  refine (rblock_c b _).mono ?_
  rintro e w8 ⟨rfl, hb'⟩
  have HB1 := Lib.hid ((HB1.out).trans (hb'.mono (HB1.out).size))
  have O10 := Lib.hid ((O10.out).kept hb')
  have B7 := Lib.hid ((B7.out).below hb' (B7.out).lt)
  clear hb'
  rw [HBK.out]
  obtain ⟨zB10, zB11, zB12, zB13⟩ := (B1.out.below HB1.out B1.out.lt).cells4
  obtain ⟨zB20, zB21, zB22⟩ := (B2.out.below HB1.out B2.out.lt).cells3
  obtain ⟨zB30, zB31, zB32, zB33, zB34, zB35, zB36, zB37, zB38⟩ := (B3.out.below HB1.out B3.out.lt).cells9
  go_upto_region 7 with fail
  clear zB10 zB11 zB12 zB13
  clear zB20 zB21 zB22
  clear zB30 zB31 zB32 zB33 zB34 zB35 zB36 zB37 zB38
  have HPE := Lib.hid (show ∀ w, (binOp .neq 40 (bkV (plainBk b)) (bkV (plainBk b))).run Try.prog w = .ok (.bool false) w from fun w => by have h := ne_bk (plainBk b) (plainBk b) w; rw [show decide (plainBk b = plainBk b) = true by simp] at h; exact h)
  have HCS := Lib.hid (show ∀ (W : World) (B : Nat), ReadsI W As S → OwnE EK W B (.slice A3 K.length c3) K → Calls Try.prog 26 #[flV a d (.slice As S.length cs) (.slice A3 K.length c3), unV u, bkV b] W fun e w' => e = .returned (.bool false) ∧ OwnE EK w' B (.slice A3 K.length c3) K' ∧ W.grownBy w' (Value.slice A3 K.length c3).ownBlock from fun W B q1 q2 => by have h := fset_c a d S As cs K (.slice A3 K.length c3) B u b W q1 q2 hn; rw [HSB.out, HSK.out] at h; exact h)
  have hpe := HPE.out
  have HB1 := Lib.hid ((HB1.out).drew)
  have O10 := Lib.hid ((O10.out).drew)
  have B7 := Lib.hid ((B7.out).drew)
  refine wp_region_held_drew (S := (fun w' => w'.cell? ⟨w.heap.size + 1, 0, none⟩ = some (.int .i64 u.x) ∧ w'.cell? ⟨w.heap.size + 1, 1, none⟩ = some (.int .i64 u.y) ∧ w'.cell? ⟨w.heap.size + 1, 2, none⟩ = some (.int .i64 u.s) ∧ w'.cell? ⟨w.heap.size + 1 + 1, 0, none⟩ = some (.int .i64 b.m) ∧ w'.cell? ⟨w.heap.size + 1 + 1, 1, none⟩ = some (.bool b.g) ∧ w'.cell? ⟨w.heap.size + 1 + 1, 2, none⟩ = some (.int .i64 b.x0) ∧ w'.cell? ⟨w.heap.size + 1 + 1, 3, none⟩ = some (.int .i64 b.y0) ∧ w'.cell? ⟨w.heap.size + 1 + 1, 4, none⟩ = some (.int .i64 b.x1) ∧ w'.cell? ⟨w.heap.size + 1 + 1, 5, none⟩ = some (.int .i64 b.y1) ∧ w'.cell? ⟨w.heap.size + 1 + 1, 6, none⟩ = some (.int .i64 b.d0) ∧ w'.cell? ⟨w.heap.size + 1 + 1, 7, none⟩ = some (.int .i64 b.d1) ∧ w'.cell? ⟨w.heap.size + 1 + 1, 8, none⟩ = some (.int .i64 b.d2) ∧ w'.cell? ⟨b7, 0, none⟩ = some (.int .i64 a) ∧ w'.cell? ⟨b7, 1, none⟩ = some (.int .i64 d) ∧ w'.cell? ⟨b7, 2, none⟩ = some (.slice As S.length cs) ∧ w'.cell? ⟨b7, 3, none⟩ = some (.slice A3 K.length c3))) (by kernel_rfl) ?hS0 (fun hHeld => ?_)
  case hS0 => exact ⟨(B2.out.below HB1.out B2.out.lt).cell 0, (B2.out.below HB1.out B2.out.lt).cell 1, (B2.out.below HB1.out B2.out.lt).cell 2, (B3.out.below HB1.out B3.out.lt).cell 0, (B3.out.below HB1.out B3.out.lt).cell 1, (B3.out.below HB1.out B3.out.lt).cell 2, (B3.out.below HB1.out B3.out.lt).cell 3, (B3.out.below HB1.out B3.out.lt).cell 4, (B3.out.below HB1.out B3.out.lt).cell 5, (B3.out.below HB1.out B3.out.lt).cell 6, (B3.out.below HB1.out B3.out.lt).cell 7, (B3.out.below HB1.out B3.out.lt).cell 8, (B7.out).cell 0, (B7.out).cell 1, (B7.out).cell 2, (B7.out).cell 3⟩
  refine wpAnyH_take (i := 0) (oi := ⟨some 35, _, _, _, _, _⟩) (v := ?v87) rfl (by kernel_rfl) (by kernel_rfl) (by kernel_rfl) (fun _ _ _ h => h) (Or.inl ⟨by rfl, ?h87⟩) (by assumption) ?r87
  case h87 => (intro w hSw; (try dsimp only at hSw); go_simp; try with_reducible rfl)
  try simp only [Act.put, List.setIfInBounds_toArray, List.set_cons_zero, List.set_cons_succ]
  refine wpAnyH_take (i := 1) (oi := ⟨some 36, _, _, _, _, _⟩) (v := ?v88) rfl (by kernel_rfl) (by kernel_rfl) (by kernel_rfl) (fun _ _ _ h => h) (Or.inl ⟨by rfl, ?h88⟩) (by assumption) ?r88
  case h88 => (intro w hSw; (try dsimp only at hSw); go_simp; try with_reducible rfl)
  try simp only [Act.put, List.setIfInBounds_toArray, List.set_cons_zero, List.set_cons_succ]
  refine wpAnyH_take (i := 2) (oi := ⟨some 37, _, _, _, _, _⟩) (v := ?v89) rfl (by kernel_rfl) (by kernel_rfl) (by kernel_rfl) (fun _ _ _ h => h) (Or.inl ⟨by rfl, ?h89⟩) (by assumption) ?r89
  case h89 => (intro w hSw; (try dsimp only at hSw); go_simp; try with_reducible rfl)
  try simp only [Act.put, List.setIfInBounds_toArray, List.set_cons_zero, List.set_cons_succ]
  refine wpAnyH_take (i := 4) (oi := ⟨some 39, _, _, _, _, _⟩) (v := ?v90) rfl (by kernel_rfl) (by kernel_rfl) (by kernel_rfl) (fun _ _ _ h => h) (Or.inl ⟨by rfl, ?h90⟩) (by assumption) ?r90
  case h90 => (intro w hSw; (try dsimp only at hSw); go_simp; try with_reducible rfl)
  try simp only [Act.put, List.setIfInBounds_toArray, List.set_cons_zero, List.set_cons_succ]
  refine wpAnyH_ready (rs := [3]) (by kernel_rfl) (by simp) ?_
  refine (AllReadyH.cons (o := ⟨some 38, _, _, _, _, _⟩) rfl (fun K hK => ?_) AllReadyH.nil)
  go_simp
  refine (HCS.out _ _ (RS.out.kept HB1.out) O10.out).mono ?_
  rintro e w9 ⟨rfl, ho, hg⟩
  have HB1 := Lib.hid (O10.out.belowB HB1.out (Nat.le_refl _) hg)
  have B7 := Lib.hid (B7.out.appE O10.out (by decide) hg)
  have O10 := Lib.hid ho
  clear ho hg
  refine hK.out _ _ ?hS91 (fun hHeld => ?_)
  case hS91 => exact ⟨(B2.out.below HB1.out B2.out.lt).cell 0, (B2.out.below HB1.out B2.out.lt).cell 1, (B2.out.below HB1.out B2.out.lt).cell 2, (B3.out.below HB1.out B3.out.lt).cell 0, (B3.out.below HB1.out B3.out.lt).cell 1, (B3.out.below HB1.out B3.out.lt).cell 2, (B3.out.below HB1.out B3.out.lt).cell 3, (B3.out.below HB1.out B3.out.lt).cell 4, (B3.out.below HB1.out B3.out.lt).cell 5, (B3.out.below HB1.out B3.out.lt).cell 6, (B3.out.below HB1.out B3.out.lt).cell 7, (B3.out.below HB1.out B3.out.lt).cell 8, (B7.out).cell 0, (B7.out).cell 1, (B7.out).cell 2, (B7.out).cell 3⟩
  clear hK K
  try simp only [Act.put, List.setIfInBounds_toArray, List.set_cons_zero, List.set_cons_succ]
  refine wpAnyH_take (i := 5) (oi := ⟨some 40, _, _, _, _, _⟩) (v := ?v92) rfl (by kernel_rfl) (by kernel_rfl) (by kernel_rfl) (fun _ _ _ h => h) (Or.inl ⟨by rfl, ?h92⟩) (by assumption) ?r92
  case h92 => (intro w hSw; (try dsimp only at hSw); go_simp; try with_reducible rfl)
  try simp only [Act.put, List.setIfInBounds_toArray, List.set_cons_zero, List.set_cons_succ]
  refine wpAnyH_take (i := 6) (oi := ⟨some 41, _, _, _, _, _⟩) (v := ?v93) rfl (by kernel_rfl) (by kernel_rfl) (by kernel_rfl) (fun _ _ _ h => h) (Or.inl ⟨by rfl, ?h93⟩) (by assumption) ?r93
  case h93 => (intro w hSw; (try dsimp only at hSw); go_simp; try with_reducible rfl)
  try simp only [Act.put, List.setIfInBounds_toArray, List.set_cons_zero, List.set_cons_succ]
  refine wpAnyH_take (i := 7) (oi := ⟨some 42, _, _, _, _, _⟩) (v := ?v94) rfl (by kernel_rfl) (by kernel_rfl) (by kernel_rfl) (fun _ _ _ h => h) (Or.inl ⟨by rfl, ?h94⟩) (by assumption) ?r94
  case h94 => (intro w hSw; (try dsimp only at hSw); go_simp; try with_reducible rfl)
  try simp only [Act.put, List.setIfInBounds_toArray, List.set_cons_zero, List.set_cons_succ]
  refine wpAnyH_take (i := 9) (oi := ⟨some 44, _, _, _, _, _⟩) (v := ?v95) rfl (by kernel_rfl) (by kernel_rfl) (by kernel_rfl) (fun _ _ _ h => h) (Or.inl ⟨by rfl, ?h95⟩) (by assumption) ?r95
  case h95 => (intro w hSw; (try dsimp only at hSw); go_simp; try with_reducible rfl)
  try simp only [Act.put, List.setIfInBounds_toArray, List.set_cons_zero, List.set_cons_succ]
  refine wpAnyH_ready (rs := [8]) (by kernel_rfl) (by simp) ?_
  refine (AllReadyH.cons (o := ⟨some 43, _, _, _, _, _⟩) rfl (fun K hK => ?_) AllReadyH.nil)
  go_simp
  have HS1 := HB1
  refine (fplain_c b _).mono ?_
  rintro e w10 ⟨rfl, hb'⟩
  have HB1 := Lib.hid ((HB1.out).trans (hb'.mono (HB1.out).size))
  have O10 := Lib.hid ((O10.out).kept hb')
  have B7 := Lib.hid ((B7.out).below hb' (B7.out).lt)
  clear hb'
  refine hK.out _ _ ?hS96 (fun hHeld => ?_)
  case hS96 => exact ⟨(B2.out.below HB1.out B2.out.lt).cell 0, (B2.out.below HB1.out B2.out.lt).cell 1, (B2.out.below HB1.out B2.out.lt).cell 2, (B3.out.below HB1.out B3.out.lt).cell 0, (B3.out.below HB1.out B3.out.lt).cell 1, (B3.out.below HB1.out B3.out.lt).cell 2, (B3.out.below HB1.out B3.out.lt).cell 3, (B3.out.below HB1.out B3.out.lt).cell 4, (B3.out.below HB1.out B3.out.lt).cell 5, (B3.out.below HB1.out B3.out.lt).cell 6, (B3.out.below HB1.out B3.out.lt).cell 7, (B3.out.below HB1.out B3.out.lt).cell 8, (B7.out).cell 0, (B7.out).cell 1, (B7.out).cell 2, (B7.out).cell 3⟩
  clear hK K
  try simp only [Act.put, List.setIfInBounds_toArray, List.set_cons_zero, List.set_cons_succ]
  refine wpAnyH_ready (rs := [10]) (by kernel_rfl) (by simp) ?_
  refine (AllReadyH.cons (o := ⟨some 45, _, _, _, _, _⟩) rfl (fun K hK => ?_) AllReadyH.nil)
  go_simp
  have HS1 := HB1
  refine (r16plain_c b _ hb).mono ?_
  rintro e w11 ⟨rfl, hb'⟩
  have HB1 := Lib.hid ((HB1.out).trans (hb'.mono (HB1.out).size))
  have O10 := Lib.hid ((O10.out).kept hb')
  have B7 := Lib.hid ((B7.out).below hb' (B7.out).lt)
  clear hb'
  refine hK.out _ _ ?hS97 (fun hHeld => ?_)
  case hS97 => exact ⟨(B2.out.below HB1.out B2.out.lt).cell 0, (B2.out.below HB1.out B2.out.lt).cell 1, (B2.out.below HB1.out B2.out.lt).cell 2, (B3.out.below HB1.out B3.out.lt).cell 0, (B3.out.below HB1.out B3.out.lt).cell 1, (B3.out.below HB1.out B3.out.lt).cell 2, (B3.out.below HB1.out B3.out.lt).cell 3, (B3.out.below HB1.out B3.out.lt).cell 4, (B3.out.below HB1.out B3.out.lt).cell 5, (B3.out.below HB1.out B3.out.lt).cell 6, (B3.out.below HB1.out B3.out.lt).cell 7, (B3.out.below HB1.out B3.out.lt).cell 8, (B7.out).cell 0, (B7.out).cell 1, (B7.out).cell 2, (B7.out).cell 3⟩
  clear hK K
  try simp only [Act.put, List.setIfInBounds_toArray, List.set_cons_zero, List.set_cons_succ]
  refine wpAnyH_take (i := 11) (oi := ⟨some 46, _, _, _, _, _⟩) (v := ?v98) rfl (by kernel_rfl) (by kernel_rfl) (by kernel_rfl) (fun _ _ _ h => h) (Or.inl ⟨by rfl, ?h98⟩) (by assumption) ?r98
  case h98 => (intro w hSw; (try dsimp only at hSw); go_simp; try with_reducible rfl)
  try simp only [Act.put, List.setIfInBounds_toArray, List.set_cons_zero, List.set_cons_succ]
  refine wpAnyH_take (i := 12) (oi := ⟨some 47, _, _, _, _, _⟩) (v := ?v99) rfl (by kernel_rfl) (by kernel_rfl) (by kernel_rfl) (fun _ _ _ h => h) (Or.inl ⟨by rfl, ?h99⟩) (by assumption) ?r99
  case h99 => (intro w hSw; (try dsimp only at hSw); go_simp; try with_reducible rfl)
  try simp only [Act.put, List.setIfInBounds_toArray, List.set_cons_zero, List.set_cons_succ]
  refine wpAnyH_done (by kernel_rfl) ?_ _
  clear hHeld
  obtain ⟨zB10, zB11, zB12, zB13⟩ := (B1.out.below HB1.out B1.out.lt).cells4
  obtain ⟨zB70, zB71, zB72, zB73⟩ := (B7.out).cells4
  go_wp2_with fail
  have h9 := r16same_y a d S As As cs cs K' K A3 Ak c3 ck w11 (RS.out.kept HB1.out) (RS.out.kept HB1.out) O10.out.reads (RK.out.kept HB1.out) hn hm' HLK.out HKK.out
  rw [HLK.out] at h9
  refine (h9).mono ?_
  rintro e w12 ⟨rfl, hb'⟩
  have HB1 := Lib.hid ((HB1.out).trans (hb'.mono (HB1.out).size))
  have O10 := Lib.hid ((O10.out).kept hb')
  have B7 := Lib.hid ((B7.out).below hb' (B7.out).lt)
  clear hb'
  clear h9
  go_wp2_with fail
  go_ret
  exact ⟨rfl, HB.out.trans (HB1.out.mono HB.out.size)⟩
set_option maxRecDepth 100000 in
set_option maxHeartbeats 6400000 in
theorem sts_yes (a d : Nat) (S : List Int) (As : Option Addr) (cs : Nat) (K : List Bk) (Ak : Option Addr) (ck : Nat) (ux uy us : Nat) (b : Bk) (w : World) (hS : ReadsI w As S) (hK : ReadsE EK w Ak K) (hn : S.length ≤ 9223372036854775807) (hm : K.length ≤ 9223372036854775807) (hb : -9223372036854775808 ≤ b.m ∧ b.m ≤ 9223372036854775807) (hg : bigB S.length K.length = false) (ho : okFl a d S K = true) (hi : inFu a d ⟨ux, uy, us⟩ = true) (hux : ux + us ≤ 4 * a) (huy : uy + us ≤ 4 * d) (hbk : okBk b = true) :
    Calls Try.prog 4 #[flV a d (.slice As S.length cs) (.slice Ak K.length ck), unV ⟨ux, uy, us⟩, bkV b] w fun e w' => e = .returned (.bool true) ∧ Below w.heap.size w w' := by
  have RS := Lib.hid hS
  have RK := Lib.hid hK
  have HB := Lib.hid (Below.refl w.heap.size w)
  have HG := Lib.hid hg
  obtain ⟨K', hK'⟩ : ∃ K', K' = setK a d S K ⟨ux, uy, us⟩ b := ⟨_, rfl⟩
  have HSK := Lib.hid hK'.symm
  have hlk : K'.length = K.length := by rw [hK']; exact setK_length a d S K ⟨ux, uy, us⟩ b
  have HLK := Lib.hid hlk
  have hsb : setB a d S K ⟨ux, uy, us⟩ b = true := by unfold setB; rw [ho, hi, hbk]; rfl
  have HKK := Lib.hid (show K' = layL (4 * (a : Int).toNat) K ⟨ux, uy, us⟩ b by rw [hK']; unfold setK; rw [if_pos hsb])
  have HSB := Lib.hid hsb
  have hm' : K'.length ≤ 9223372036854775807 := by rw [hlk]; exact hm
  clear hK' hlk hsb
  have hg1 := bigB_f hg
  have HO := Lib.hid ho
  have HI := Lib.hid hi
  obtain ⟨A, D, ea, ed, n1, n2, n3, n4, hl, hkl, hS1, hK1⟩ := okFl_nat ho
  have ea := Int.ofNat.inj ea
  have ed := Int.ofNat.inj ed
  subst ea
  subst ed
  have HKL := Lib.hid hkl
  have a1 : 1 ≤ (a : Int) := by omega
  have a2 : (a : Int) ≤ 64 := by omega
  have d1 : 1 ≤ (d : Int) := by omega
  have d2 : (d : Int) ≤ 64 := by omega
  clear hl hkl hS1 hK1
  have HBK := Lib.hid hbk
  clear hS hK hg ho hi hbk
  have HB1 := Lib.hid (Below.refl w.heap.size w)
  go_enter Try.func4, Try.ntmps4
  go_wp2_with fail
  have HB1 := Lib.hid (below_alloc_ (below_alloc_ (below_alloc_ (HB1.out) (.cells #[.int .i64 a, .int .i64 d, .slice As S.length cs, .slice Ak K.length ck] 25)) (.cells #[.int .i64 (ux : Int), .int .i64 (uy : Int), .int .i64 (us : Int)] 34)) (.cells #[.int .i64 b.m, .bool b.g, .int .i64 b.x0, .int .i64 b.y0, .int .i64 b.x1, .int .i64 b.y1, .int .i64 b.d0, .int .i64 b.d1, .int .i64 b.d2] 40))
  have hzw : (((w.alloc (.cells #[.int .i64 a, .int .i64 d, .slice As S.length cs, .slice Ak K.length ck] 25)).alloc (.cells #[.int .i64 (ux : Int), .int .i64 (uy : Int), .int .i64 (us : Int)] 34)).alloc (.cells #[.int .i64 b.m, .bool b.g, .int .i64 b.x0, .int .i64 b.y0, .int .i64 b.x1, .int .i64 b.y1, .int .i64 b.d0, .int .i64 b.d1, .int .i64 b.d2] 40)).heap.size = w.heap.size + 3 := by simp only [World.size_alloc]
  have B1 := ((Blk.new (w) 25 #[.int .i64 a, .int .i64 d, .slice As S.length cs, .slice Ak K.length ck]).alloc (.cells #[.int .i64 (ux : Int), .int .i64 (uy : Int), .int .i64 (us : Int)] 34)).alloc (.cells #[.int .i64 b.m, .bool b.g, .int .i64 b.x0, .int .i64 b.y0, .int .i64 b.x1, .int .i64 b.y1, .int .i64 b.d0, .int .i64 b.d1, .int .i64 b.d2] 40)
  skip
  have B1 := Lib.hid B1
  have B2 := (Blk.new (w.alloc (.cells #[.int .i64 a, .int .i64 d, .slice As S.length cs, .slice Ak K.length ck] 25)) 34 #[.int .i64 (ux : Int), .int .i64 (uy : Int), .int .i64 (us : Int)]).alloc (.cells #[.int .i64 b.m, .bool b.g, .int .i64 b.x0, .int .i64 b.y0, .int .i64 b.x1, .int .i64 b.y1, .int .i64 b.d0, .int .i64 b.d1, .int .i64 b.d2] 40)
  rw [show (w.alloc (.cells #[.int .i64 a, .int .i64 d, .slice As S.length cs, .slice Ak K.length ck] 25)).heap.size = w.heap.size + 1 by simp only [World.size_alloc]] at B2
  have B2 := Lib.hid B2
  have B3 := Blk.new ((w.alloc (.cells #[.int .i64 a, .int .i64 d, .slice As S.length cs, .slice Ak K.length ck] 25)).alloc (.cells #[.int .i64 (ux : Int), .int .i64 (uy : Int), .int .i64 (us : Int)] 34)) 40 #[.int .i64 b.m, .bool b.g, .int .i64 b.x0, .int .i64 b.y0, .int .i64 b.x1, .int .i64 b.y1, .int .i64 b.d0, .int .i64 b.d1, .int .i64 b.d2]
  rw [show ((w.alloc (.cells #[.int .i64 a, .int .i64 d, .slice As S.length cs, .slice Ak K.length ck] 25)).alloc (.cells #[.int .i64 (ux : Int), .int .i64 (uy : Int), .int .i64 (us : Int)] 34)).heap.size = w.heap.size + 1 + 1 by simp only [World.size_alloc]] at B3
  have B3 := Lib.hid B3
  generalize ((w.alloc (.cells #[.int .i64 a, .int .i64 d, .slice As S.length cs, .slice Ak K.length ck] 25)).alloc (.cells #[.int .i64 (ux : Int), .int .i64 (uy : Int), .int .i64 (us : Int)] 34)).alloc (.cells #[.int .i64 b.m, .bool b.g, .int .i64 b.x0, .int .i64 b.y0, .int .i64 b.x1, .int .i64 b.y1, .int .i64 b.d0, .int .i64 b.d1, .int .i64 b.d2] 40) = w1 at *
  clear hzw
  refine (first_c w1).mono ?_
  rintro e w2 ⟨rfl, hb'⟩
  have HB1 := Lib.hid ((HB1.out).trans (hb'.mono (HB1.out).size))
  have B1 := Lib.hid ((B1.out).below hb' (B1.out).lt)
  have B2 := Lib.hid ((B2.out).below hb' (B2.out).lt)
  have B3 := Lib.hid ((B3.out).below hb' (B3.out).lt)
  clear hb'
  obtain ⟨zB10, zB11, zB12, zB13⟩ := (B1.out).cells4
  obtain ⟨zB20, zB21, zB22⟩ := (B2.out).cells3
  obtain ⟨zB30, zB31, zB32, zB33, zB34, zB35, zB36, zB37, zB38⟩ := (B3.out).cells9
  go_wp2_with fail
  clear zB10 zB11 zB12 zB13
  clear zB20 zB21 zB22
  clear zB30 zB31 zB32 zB33 zB34 zB35 zB36 zB37 zB38
  refine (big_c a d S As cs K Ak ck _ (RS.out.kept HB1.out) (RK.out.kept HB1.out) hn hm).mono ?_
  rintro e w3 ⟨rfl, hb'⟩
  have HB1 := Lib.hid ((HB1.out).trans (hb'.mono (HB1.out).size))
  have B1 := Lib.hid ((B1.out).below hb' (B1.out).lt)
  have B2 := Lib.hid ((B2.out).below hb' (B2.out).lt)
  have B3 := Lib.hid ((B3.out).below hb' (B3.out).lt)
  clear hb'
  rw [HG.out]
  obtain ⟨zB10, zB11, zB12, zB13⟩ := (B1.out).cells4
  obtain ⟨zB20, zB21, zB22⟩ := (B2.out).cells3
  obtain ⟨zB30, zB31, zB32, zB33, zB34, zB35, zB36, zB37, zB38⟩ := (B3.out).cells9
  go_upto_region 5 with fail
  clear zB10 zB11 zB12 zB13
  clear zB20 zB21 zB22
  clear zB30 zB31 zB32 zB33 zB34 zB35 zB36 zB37 zB38
  have RK := Lib.hid (RK.out.kept HB1.out)
  have RS := Lib.hid (RS.out.kept HB1.out)
  have HB := Lib.hid (HB.out.trans (HB1.out.mono HB.out.size))
  have HB1 := Lib.hid (Below.refl w3.heap.size w3)
  obtain ⟨zB10, zB11, zB12, zB13⟩ := (B1.out.below HB1.out B1.out.lt).cells4
  obtain ⟨zB20, zB21, zB22⟩ := (B2.out.below HB1.out B2.out.lt).cells3
  obtain ⟨zB30, zB31, zB32, zB33, zB34, zB35, zB36, zB37, zB38⟩ := (B3.out.below HB1.out B3.out.lt).cells9
  have kq0 := cell_regrown zB10
  have kq1 := cell_regrown zB11
  have kq2 := cell_regrown zB12
  have kq3 := cell_regrown zB13
  have kq4 := cell_regrown zB20
  have kq5 := cell_regrown zB21
  have kq6 := cell_regrown zB22
  have kq7 := cell_regrown zB30
  have kq8 := cell_regrown zB31
  have kq9 := cell_regrown zB32
  have kq10 := cell_regrown zB33
  have kq11 := cell_regrown zB34
  have kq12 := cell_regrown zB35
  have kq13 := cell_regrown zB36
  have kq14 := cell_regrown zB37
  have kq15 := cell_regrown zB38
  clear zB10 zB11 zB12 zB13 zB20 zB21 zB22 zB30 zB31 zB32 zB33 zB34 zB35 zB36 zB37 zB38
  refine wp_mono_tail 12 [Brings.one ?b100_0, Brings.one ?b101_1, Brings.one ?b102_2, Brings.one ?b103_3, Brings.one ?b104_4, Brings.one ?b105_5, Brings.litE EK w3.heap.size, Brings.one ?b106_7, Brings.one ?b107_8, Brings.ownE EK w3.heap.size (fun v => v) (K), Brings.ownE EK w3.heap.size (fun v => flV a d (.slice As S.length cs) v) (K), Brings.box 25 #[.int .i64 0, .int .i64 0, .slice none 0 0, .slice none 0 0]] (by kernel_rfl) (by kernel_rfl) ?_
  rotate_left 8
  simp only [List.take_succ_cons, List.take_zero, List.drop_succ_cons, List.drop_zero]
  refine wpL_take (k' := 1) rfl (by kernel_rfl) (fun d os => ?t108) ?_
  case t108 => (unfold bringsAt; go_simp; first | with_reducible exact take_one | exact take_one)
  try simp only [Act.put, List.setIfInBounds_toArray, List.set_cons_zero, List.set_cons_succ]
  refine wpL_take (k' := 2) rfl (by kernel_rfl) (fun d os => ?t109) ?_
  case t109 => (unfold bringsAt; go_simp; first | with_reducible exact take_one | exact take_one)
  try simp only [Act.put, List.setIfInBounds_toArray, List.set_cons_zero, List.set_cons_succ]
  refine wpL_take (k' := 3) rfl (by kernel_rfl) (fun d os => ?t110) ?_
  case t110 => (unfold bringsAt; go_simp; first | with_reducible exact take_one | exact take_one)
  try simp only [Act.put, List.setIfInBounds_toArray, List.set_cons_zero, List.set_cons_succ]
  refine wpL_take (k' := 4) rfl (by kernel_rfl) (fun d os => ?t111) ?_
  case t111 => (unfold bringsAt; go_simp; first | with_reducible exact take_one | exact take_one)
  try simp only [Act.put, List.setIfInBounds_toArray, List.set_cons_zero, List.set_cons_succ]
  refine wpL_take (k' := 5) rfl (by kernel_rfl) (fun d os => ?t112) ?_
  case t112 => (unfold bringsAt; go_simp; first | with_reducible exact take_one | exact take_one)
  try simp only [Act.put, List.setIfInBounds_toArray, List.set_cons_zero, List.set_cons_succ]
  refine wpL_take (k' := 6) rfl (by kernel_rfl) (fun d os => ?t113) ?_
  case t113 => (unfold bringsAt; go_simp; first | with_reducible exact take_one | exact take_one)
  try simp only [Act.put, List.setIfInBounds_toArray, List.set_cons_zero, List.set_cons_succ]
  refine wpL_litE (k' := 7) rfl (by kernel_rfl) (fun wz hz hd => ?t114) (fun g6 => ?_)
  case t114 =>
    unfold bringsAt
    go_simp
    exact lit_bringsE hz.size
  try simp only [Act.put, List.setIfInBounds_toArray, List.set_cons_zero, List.set_cons_succ]
  refine wpL_take (k' := 8) rfl (by kernel_rfl) (fun d os => ?t115) ?_
  case t115 => (unfold bringsAt; go_simp; first | with_reducible exact take_one | exact take_one)
  try simp only [Act.put, List.setIfInBounds_toArray, List.set_cons_zero, List.set_cons_succ]
  refine wpL_take (k' := 9) rfl (by kernel_rfl) (fun d os => ?t116) ?_
  case t116 => (unfold bringsAt; go_simp; first | with_reducible exact take_one | exact take_one)
  try simp only [Act.put, List.setIfInBounds_toArray, List.set_cons_zero, List.set_cons_succ]
  refine wpL_ownE (k' := 10) rfl (by kernel_rfl) (fun wz hz hd => ?t117) (fun A2 c2 => ?_)
  case t117 =>
    have HZ := Lib.hid (HB1.out.trans (hz.mono HB1.out.size))
    have L6 := Lib.hid (show OwnE EK wz w3.heap.size (.slice (some ⟨g6, 0, none⟩) 0 0) [] from hd.get 6 (by kernel_rfl))
    exact at_append_litE (.tmp 19) (.tmp 21) 23 rfl Try.underlying23 rfl rfl L6.out (RK.out.kept HZ.out) (by omega) hz.size
  try simp only [Act.put, List.setIfInBounds_toArray, List.set_cons_zero, List.set_cons_succ]
  refine wpL_ownE (k' := 11) rfl (by kernel_rfl) (fun wz hz hd => ?t118) (fun A3 c3 => ?_)
  case t118 =>
    have HZ := Lib.hid (HB1.out.trans (hz.mono HB1.out.size))
    have O9 := Lib.hid (show OwnE EK wz w3.heap.size (.slice A2 (K).length c2) (K) from hd.get 9 (by kernel_rfl))
    unfold bringsAt
    go_simp
    exact take_brings (A2, c2) rfl O9.out rfl
  try simp only [Act.put, List.setIfInBounds_toArray, List.set_cons_zero, List.set_cons_succ]
  refine wpL_box (k' := 12) rfl (by kernel_rfl) (fun wz hz hd => ?t119) (fun b7 => ?_)
  case t119 =>
    unfold bringsAt
    go_simp
    exact alloc_box
  try simp only [Act.put, List.setIfInBounds_toArray, List.set_cons_zero, List.set_cons_succ]
  refine wpL_nil ?_
  intro w4 hH
  have hb' := hH.below
  clear kq0 kq1 kq2 kq3 kq4 kq5 kq6 kq7 kq8 kq9 kq10 kq11 kq12 kq13 kq14 kq15
  have HB1 := Lib.hid ((HB1.out).trans (hb'.mono (HB1.out).size))
  have L6 := Lib.hid (show OwnE EK w4 w3.heap.size (.slice (some ⟨g6, 0, none⟩) 0 0) [] from hH.facts 6)
  have O9 := Lib.hid (show OwnE EK w4 w3.heap.size (.slice A2 (K).length c2) (K) from hH.facts 9)
  have O10 := Lib.hid (show OwnE EK w4 w3.heap.size (.slice A3 (K).length c3) (K) from hH.facts 10)
  have B7 := Lib.hid (show Blk w4 b7 25 #[.int .i64 0, .int .i64 0, .slice none 0 0, .slice none 0 0] from hH.facts 11)
  have HGB7 := Lib.hid (show w3.heap.size ≤ b7 from (hH.lt 11 _ rfl).1)
  clear hH hb'
  obtain ⟨f0, f1, f2, f3⟩ := B7.out.frozens
  obtain ⟨q0, q1, q2, q3⟩ := B7.out.cells4
  go_upto_region 6 with fail
  clear f0 f1 f2 f3 q0 q1 q2 q3
  have lb := HGB7
  have O10 := Lib.hid ((((O10.out.set_ (i := 0) B7.out (by decide) (.int .i64 a)).set_ (i := 1) (B7.out.set_ 0 (.int .i64 a)) (by decide) (.int .i64 d)).set_ (i := 2) ((B7.out.set_ 0 (.int .i64 a)).set_ 1 (.int .i64 d)) (by decide) (.slice As S.length cs)).set_ (i := 3) (((B7.out.set_ 0 (.int .i64 a)).set_ 1 (.int .i64 d)).set_ 2 (.slice As S.length cs)) (by decide) (.slice A3 K.length c3))
  have HB1 := Lib.hid ((((HB1.out.setCell (p := ⟨b7, 0, none⟩) lb (.int .i64 a)).setCell (p := ⟨b7, 1, none⟩) lb (.int .i64 d)).setCell (p := ⟨b7, 2, none⟩) lb (.slice As S.length cs)).setCell (p := ⟨b7, 3, none⟩) lb (.slice A3 K.length c3))
  have B7 := Lib.hid (ret_four' B7.out (.int .i64 a) (.int .i64 d) (.slice As S.length cs) (.slice A3 K.length c3))
  clear lb HGB7 O9 L6
  generalize (((w4.setCell ⟨b7, 0, none⟩ (.int .i64 a)).setCell ⟨b7, 1, none⟩ (.int .i64 d)).setCell ⟨b7, 2, none⟩ (.slice As S.length cs)).setCell ⟨b7, 3, none⟩ (.slice A3 K.length c3) = w5 at *
  obtain ⟨zB10, zB11, zB12, zB13⟩ := (B1.out.below HB1.out B1.out.lt).cells4
  obtain ⟨zB20, zB21, zB22⟩ := (B2.out.below HB1.out B2.out.lt).cells3
  obtain ⟨zB30, zB31, zB32, zB33, zB34, zB35, zB36, zB37, zB38⟩ := (B3.out.below HB1.out B3.out.lt).cells9
  go_wp2_with fail
  clear zB10 zB11 zB12 zB13
  clear zB20 zB21 zB22
  clear zB30 zB31 zB32 zB33 zB34 zB35 zB36 zB37 zB38
  refine (r16right_c a d S As cs K Ak ck _ (RS.out.kept HB1.out) (RK.out.kept HB1.out) hn hm).mono ?_
  rintro e w6 ⟨rfl, hb'⟩
  have HB1 := Lib.hid ((HB1.out).trans (hb'.mono (HB1.out).size))
  have O10 := Lib.hid ((O10.out).kept hb')
  have B7 := Lib.hid ((B7.out).below hb' (B7.out).lt)
  clear hb'
  rw [HO.out]
  obtain ⟨zB10, zB11, zB12, zB13⟩ := (B1.out.below HB1.out B1.out.lt).cells4
  obtain ⟨zB20, zB21, zB22⟩ := (B2.out.below HB1.out B2.out.lt).cells3
  obtain ⟨zB30, zB31, zB32, zB33, zB34, zB35, zB36, zB37, zB38⟩ := (B3.out.below HB1.out B3.out.lt).cells9
  go_wp2_with fail
  clear zB10 zB11 zB12 zB13
  clear zB20 zB21 zB22
  clear zB30 zB31 zB32 zB33 zB34 zB35 zB36 zB37 zB38
  refine (r16within_c a d _ _ ⟨ux, uy, us⟩ _ a1 a2 d1 d2).mono ?_
  rintro e w7 ⟨rfl, hb'⟩
  have HB1 := Lib.hid ((HB1.out).trans (hb'.mono (HB1.out).size))
  have O10 := Lib.hid ((O10.out).kept hb')
  have B7 := Lib.hid ((B7.out).below hb' (B7.out).lt)
  clear hb'
  rw [HI.out]
  obtain ⟨zB10, zB11, zB12, zB13⟩ := (B1.out.below HB1.out B1.out.lt).cells4
  obtain ⟨zB20, zB21, zB22⟩ := (B2.out.below HB1.out B2.out.lt).cells3
  obtain ⟨zB30, zB31, zB32, zB33, zB34, zB35, zB36, zB37, zB38⟩ := (B3.out.below HB1.out B3.out.lt).cells9
  go_wp2_with fail
  clear zB10 zB11 zB12 zB13
  clear zB20 zB21 zB22
  clear zB30 zB31 zB32 zB33 zB34 zB35 zB36 zB37 zB38
  refine (rblock_c b _).mono ?_
  rintro e w8 ⟨rfl, hb'⟩
  have HB1 := Lib.hid ((HB1.out).trans (hb'.mono (HB1.out).size))
  have O10 := Lib.hid ((O10.out).kept hb')
  have B7 := Lib.hid ((B7.out).below hb' (B7.out).lt)
  clear hb'
  rw [HBK.out]
  obtain ⟨zB10, zB11, zB12, zB13⟩ := (B1.out.below HB1.out B1.out.lt).cells4
  obtain ⟨zB20, zB21, zB22⟩ := (B2.out.below HB1.out B2.out.lt).cells3
  obtain ⟨zB30, zB31, zB32, zB33, zB34, zB35, zB36, zB37, zB38⟩ := (B3.out.below HB1.out B3.out.lt).cells9
  go_upto_region 7 with fail
  clear zB10 zB11 zB12 zB13
  clear zB20 zB21 zB22
  clear zB30 zB31 zB32 zB33 zB34 zB35 zB36 zB37 zB38
  have HPE := Lib.hid (show ∀ w, (binOp .neq 40 (bkV (plainBk b)) (bkV (plainBk b))).run Try.prog w = .ok (.bool false) w from fun w => by have h := ne_bk (plainBk b) (plainBk b) w; rw [show decide (plainBk b = plainBk b) = true by simp] at h; exact h)
  have HCS := Lib.hid (show ∀ (W : World) (B : Nat), ReadsI W As S → OwnE EK W B (.slice A3 K.length c3) K → Calls Try.prog 26 #[flV a d (.slice As S.length cs) (.slice A3 K.length c3), unV ⟨ux, uy, us⟩, bkV b] W fun e w' => e = .returned (.bool true) ∧ OwnE EK w' B (.slice A3 K.length c3) K' ∧ W.grownBy w' (Value.slice A3 K.length c3).ownBlock from fun W B q1 q2 => by have h := fset_c a d S As cs K (.slice A3 K.length c3) B ⟨ux, uy, us⟩ b W q1 q2 hn; rw [HSB.out, HSK.out] at h; exact h)
  have hpe := HPE.out
  have HB1 := Lib.hid ((HB1.out).drew)
  have O10 := Lib.hid ((O10.out).drew)
  have B7 := Lib.hid ((B7.out).drew)
  refine wp_region_held_drew (S := (fun w' => w'.cell? ⟨w.heap.size + 1, 0, none⟩ = some (.int .i64 (ux : Int)) ∧ w'.cell? ⟨w.heap.size + 1, 1, none⟩ = some (.int .i64 (uy : Int)) ∧ w'.cell? ⟨w.heap.size + 1, 2, none⟩ = some (.int .i64 (us : Int)) ∧ w'.cell? ⟨w.heap.size + 1 + 1, 0, none⟩ = some (.int .i64 b.m) ∧ w'.cell? ⟨w.heap.size + 1 + 1, 1, none⟩ = some (.bool b.g) ∧ w'.cell? ⟨w.heap.size + 1 + 1, 2, none⟩ = some (.int .i64 b.x0) ∧ w'.cell? ⟨w.heap.size + 1 + 1, 3, none⟩ = some (.int .i64 b.y0) ∧ w'.cell? ⟨w.heap.size + 1 + 1, 4, none⟩ = some (.int .i64 b.x1) ∧ w'.cell? ⟨w.heap.size + 1 + 1, 5, none⟩ = some (.int .i64 b.y1) ∧ w'.cell? ⟨w.heap.size + 1 + 1, 6, none⟩ = some (.int .i64 b.d0) ∧ w'.cell? ⟨w.heap.size + 1 + 1, 7, none⟩ = some (.int .i64 b.d1) ∧ w'.cell? ⟨w.heap.size + 1 + 1, 8, none⟩ = some (.int .i64 b.d2) ∧ w'.cell? ⟨b7, 0, none⟩ = some (.int .i64 a) ∧ w'.cell? ⟨b7, 1, none⟩ = some (.int .i64 d) ∧ w'.cell? ⟨b7, 2, none⟩ = some (.slice As S.length cs) ∧ w'.cell? ⟨b7, 3, none⟩ = some (.slice A3 K.length c3))) (by kernel_rfl) ?hS0 (fun hHeld => ?_)
  case hS0 => exact ⟨(B2.out.below HB1.out B2.out.lt).cell 0, (B2.out.below HB1.out B2.out.lt).cell 1, (B2.out.below HB1.out B2.out.lt).cell 2, (B3.out.below HB1.out B3.out.lt).cell 0, (B3.out.below HB1.out B3.out.lt).cell 1, (B3.out.below HB1.out B3.out.lt).cell 2, (B3.out.below HB1.out B3.out.lt).cell 3, (B3.out.below HB1.out B3.out.lt).cell 4, (B3.out.below HB1.out B3.out.lt).cell 5, (B3.out.below HB1.out B3.out.lt).cell 6, (B3.out.below HB1.out B3.out.lt).cell 7, (B3.out.below HB1.out B3.out.lt).cell 8, (B7.out).cell 0, (B7.out).cell 1, (B7.out).cell 2, (B7.out).cell 3⟩
  refine wpAnyH_take (i := 0) (oi := ⟨some 35, _, _, _, _, _⟩) (v := ?v120) rfl (by kernel_rfl) (by kernel_rfl) (by kernel_rfl) (fun _ _ _ h => h) (Or.inl ⟨by rfl, ?h120⟩) (by assumption) ?r120
  case h120 => (intro w hSw; (try dsimp only at hSw); go_simp; try with_reducible rfl)
  try simp only [Act.put, List.setIfInBounds_toArray, List.set_cons_zero, List.set_cons_succ]
  refine wpAnyH_take (i := 1) (oi := ⟨some 36, _, _, _, _, _⟩) (v := ?v121) rfl (by kernel_rfl) (by kernel_rfl) (by kernel_rfl) (fun _ _ _ h => h) (Or.inl ⟨by rfl, ?h121⟩) (by assumption) ?r121
  case h121 => (intro w hSw; (try dsimp only at hSw); go_simp; try with_reducible rfl)
  try simp only [Act.put, List.setIfInBounds_toArray, List.set_cons_zero, List.set_cons_succ]
  refine wpAnyH_take (i := 2) (oi := ⟨some 37, _, _, _, _, _⟩) (v := ?v122) rfl (by kernel_rfl) (by kernel_rfl) (by kernel_rfl) (fun _ _ _ h => h) (Or.inl ⟨by rfl, ?h122⟩) (by assumption) ?r122
  case h122 => (intro w hSw; (try dsimp only at hSw); go_simp; try with_reducible rfl)
  try simp only [Act.put, List.setIfInBounds_toArray, List.set_cons_zero, List.set_cons_succ]
  refine wpAnyH_take (i := 4) (oi := ⟨some 39, _, _, _, _, _⟩) (v := ?v123) rfl (by kernel_rfl) (by kernel_rfl) (by kernel_rfl) (fun _ _ _ h => h) (Or.inl ⟨by rfl, ?h123⟩) (by assumption) ?r123
  case h123 => (intro w hSw; (try dsimp only at hSw); go_simp; try with_reducible rfl)
  try simp only [Act.put, List.setIfInBounds_toArray, List.set_cons_zero, List.set_cons_succ]
  refine wpAnyH_ready (rs := [3]) (by kernel_rfl) (by simp) ?_
  refine (AllReadyH.cons (o := ⟨some 38, _, _, _, _, _⟩) rfl (fun K hK => ?_) AllReadyH.nil)
  go_simp
  refine (HCS.out _ _ (RS.out.kept HB1.out) O10.out).mono ?_
  rintro e w9 ⟨rfl, ho, hg⟩
  have HB1 := Lib.hid (O10.out.belowB HB1.out (Nat.le_refl _) hg)
  have B7 := Lib.hid (B7.out.appE O10.out (by decide) hg)
  have O10 := Lib.hid ho
  clear ho hg
  refine hK.out _ _ ?hS124 (fun hHeld => ?_)
  case hS124 => exact ⟨(B2.out.below HB1.out B2.out.lt).cell 0, (B2.out.below HB1.out B2.out.lt).cell 1, (B2.out.below HB1.out B2.out.lt).cell 2, (B3.out.below HB1.out B3.out.lt).cell 0, (B3.out.below HB1.out B3.out.lt).cell 1, (B3.out.below HB1.out B3.out.lt).cell 2, (B3.out.below HB1.out B3.out.lt).cell 3, (B3.out.below HB1.out B3.out.lt).cell 4, (B3.out.below HB1.out B3.out.lt).cell 5, (B3.out.below HB1.out B3.out.lt).cell 6, (B3.out.below HB1.out B3.out.lt).cell 7, (B3.out.below HB1.out B3.out.lt).cell 8, (B7.out).cell 0, (B7.out).cell 1, (B7.out).cell 2, (B7.out).cell 3⟩
  clear hK K
  try simp only [Act.put, List.setIfInBounds_toArray, List.set_cons_zero, List.set_cons_succ]
  refine wpAnyH_take (i := 5) (oi := ⟨some 40, _, _, _, _, _⟩) (v := ?v125) rfl (by kernel_rfl) (by kernel_rfl) (by kernel_rfl) (fun _ _ _ h => h) (Or.inl ⟨by rfl, ?h125⟩) (by assumption) ?r125
  case h125 => (intro w hSw; (try dsimp only at hSw); go_simp; try with_reducible rfl)
  try simp only [Act.put, List.setIfInBounds_toArray, List.set_cons_zero, List.set_cons_succ]
  refine wpAnyH_take (i := 6) (oi := ⟨some 41, _, _, _, _, _⟩) (v := ?v126) rfl (by kernel_rfl) (by kernel_rfl) (by kernel_rfl) (fun _ _ _ h => h) (Or.inl ⟨by rfl, ?h126⟩) (by assumption) ?r126
  case h126 => (intro w hSw; (try dsimp only at hSw); go_simp; try with_reducible rfl)
  try simp only [Act.put, List.setIfInBounds_toArray, List.set_cons_zero, List.set_cons_succ]
  refine wpAnyH_take (i := 7) (oi := ⟨some 42, _, _, _, _, _⟩) (v := ?v127) rfl (by kernel_rfl) (by kernel_rfl) (by kernel_rfl) (fun _ _ _ h => h) (Or.inl ⟨by rfl, ?h127⟩) (by assumption) ?r127
  case h127 => (intro w hSw; (try dsimp only at hSw); go_simp; try with_reducible rfl)
  try simp only [Act.put, List.setIfInBounds_toArray, List.set_cons_zero, List.set_cons_succ]
  refine wpAnyH_take (i := 9) (oi := ⟨some 44, _, _, _, _, _⟩) (v := ?v128) rfl (by kernel_rfl) (by kernel_rfl) (by kernel_rfl) (fun _ _ _ h => h) (Or.inl ⟨by rfl, ?h128⟩) (by assumption) ?r128
  case h128 => (intro w hSw; (try dsimp only at hSw); go_simp; try with_reducible rfl)
  try simp only [Act.put, List.setIfInBounds_toArray, List.set_cons_zero, List.set_cons_succ]
  refine wpAnyH_ready (rs := [8]) (by kernel_rfl) (by simp) ?_
  refine (AllReadyH.cons (o := ⟨some 43, _, _, _, _, _⟩) rfl (fun K hK => ?_) AllReadyH.nil)
  go_simp
  have HS1 := HB1
  refine (fplain_c b _).mono ?_
  rintro e w10 ⟨rfl, hb'⟩
  have HB1 := Lib.hid ((HB1.out).trans (hb'.mono (HB1.out).size))
  have O10 := Lib.hid ((O10.out).kept hb')
  have B7 := Lib.hid ((B7.out).below hb' (B7.out).lt)
  clear hb'
  refine hK.out _ _ ?hS129 (fun hHeld => ?_)
  case hS129 => exact ⟨(B2.out.below HB1.out B2.out.lt).cell 0, (B2.out.below HB1.out B2.out.lt).cell 1, (B2.out.below HB1.out B2.out.lt).cell 2, (B3.out.below HB1.out B3.out.lt).cell 0, (B3.out.below HB1.out B3.out.lt).cell 1, (B3.out.below HB1.out B3.out.lt).cell 2, (B3.out.below HB1.out B3.out.lt).cell 3, (B3.out.below HB1.out B3.out.lt).cell 4, (B3.out.below HB1.out B3.out.lt).cell 5, (B3.out.below HB1.out B3.out.lt).cell 6, (B3.out.below HB1.out B3.out.lt).cell 7, (B3.out.below HB1.out B3.out.lt).cell 8, (B7.out).cell 0, (B7.out).cell 1, (B7.out).cell 2, (B7.out).cell 3⟩
  clear hK K
  try simp only [Act.put, List.setIfInBounds_toArray, List.set_cons_zero, List.set_cons_succ]
  refine wpAnyH_ready (rs := [10]) (by kernel_rfl) (by simp) ?_
  refine (AllReadyH.cons (o := ⟨some 45, _, _, _, _, _⟩) rfl (fun K hK => ?_) AllReadyH.nil)
  go_simp
  have HS1 := HB1
  refine (r16plain_c b _ hb).mono ?_
  rintro e w11 ⟨rfl, hb'⟩
  have HB1 := Lib.hid ((HB1.out).trans (hb'.mono (HB1.out).size))
  have O10 := Lib.hid ((O10.out).kept hb')
  have B7 := Lib.hid ((B7.out).below hb' (B7.out).lt)
  clear hb'
  refine hK.out _ _ ?hS130 (fun hHeld => ?_)
  case hS130 => exact ⟨(B2.out.below HB1.out B2.out.lt).cell 0, (B2.out.below HB1.out B2.out.lt).cell 1, (B2.out.below HB1.out B2.out.lt).cell 2, (B3.out.below HB1.out B3.out.lt).cell 0, (B3.out.below HB1.out B3.out.lt).cell 1, (B3.out.below HB1.out B3.out.lt).cell 2, (B3.out.below HB1.out B3.out.lt).cell 3, (B3.out.below HB1.out B3.out.lt).cell 4, (B3.out.below HB1.out B3.out.lt).cell 5, (B3.out.below HB1.out B3.out.lt).cell 6, (B3.out.below HB1.out B3.out.lt).cell 7, (B3.out.below HB1.out B3.out.lt).cell 8, (B7.out).cell 0, (B7.out).cell 1, (B7.out).cell 2, (B7.out).cell 3⟩
  clear hK K
  try simp only [Act.put, List.setIfInBounds_toArray, List.set_cons_zero, List.set_cons_succ]
  refine wpAnyH_take (i := 11) (oi := ⟨some 46, _, _, _, _, _⟩) (v := ?v131) rfl (by kernel_rfl) (by kernel_rfl) (by kernel_rfl) (fun _ _ _ h => h) (Or.inl ⟨by rfl, ?h131⟩) (by assumption) ?r131
  case h131 => (intro w hSw; (try dsimp only at hSw); go_simp; try with_reducible rfl)
  try simp only [Act.put, List.setIfInBounds_toArray, List.set_cons_zero, List.set_cons_succ]
  refine wpAnyH_take (i := 12) (oi := ⟨some 47, _, _, _, _, _⟩) (v := ?v132) rfl (by kernel_rfl) (by kernel_rfl) (by kernel_rfl) (fun _ _ _ h => h) (Or.inl ⟨by rfl, ?h132⟩) (by assumption) ?r132
  case h132 => (intro w hSw; (try dsimp only at hSw); go_simp; try with_reducible rfl)
  try simp only [Act.put, List.setIfInBounds_toArray, List.set_cons_zero, List.set_cons_succ]
  refine wpAnyH_done (by kernel_rfl) ?_ _
  clear hHeld
  obtain ⟨zB10, zB11, zB12, zB13⟩ := (B1.out.below HB1.out B1.out.lt).cells4
  obtain ⟨zB70, zB71, zB72, zB73⟩ := (B7.out).cells4
  obtain ⟨zB20, zB21, zB22⟩ := (B2.out.below HB1.out B2.out.lt).cells3
  obtain ⟨zB30, zB31, zB32, zB33, zB34, zB35, zB36, zB37, zB38⟩ := (B3.out.below HB1.out B3.out.lt).cells9
  go_upto_region 11 with fail
  have HLAY := Lib.hid (show layL (4 * a) K ⟨ux, uy, us⟩ b = K' from by rw [HKK.out]; simp only [Int.toNat_natCast])
  have HCL := Lib.hid (show ∀ W : World, ReadsE EK W Ak K → Calls Try.prog 29 #[flV a d (.slice As S.length cs) (.slice Ak K.length ck), .agg #[.int .i64 (ux : Int), .int .i64 (uy : Int), .int .i64 (us : Int)], bkV b] W fun e w' => ∃ vk, e = .returned (flV a d (.slice As S.length cs) vk) ∧ OwnE EK w' W.heap.size vk K' ∧ Below W.heap.size W w' from fun W q => by have h := r16laid_c a d As S.length cs K Ak ck ux uy us b W q n1 n2 n3 n4 HKL.out hux huy; rw [HLAY.out] at h; exact h)
  have HCM := Lib.hid (show ∀ (W : World) (A5 : Option Addr) (c5 : Nat), ReadsI W As S → ReadsE EK W A3 K' → ReadsE EK W A5 K' → Calls Try.prog 14 #[flV a d (.slice As S.length cs) (.slice A3 K.length c3), flV a d (.slice As S.length cs) (.slice A5 K'.length c5)] W fun e w' => e = .returned (.bool true) ∧ Below W.heap.size W w' from fun W A5 c5 q1 q2 q3 => by have h := r16same_y a d S As As cs cs K' K' A3 A5 c3 c5 W q1 q1 q2 q3 hn hm' rfl rfl; rw [HLK.out] at h ⊢; exact h)
  have kq0 := cell_regrown zB10
  have kq1 := cell_regrown zB11
  have kq2 := cell_regrown zB12
  have kq3 := cell_regrown zB13
  have kq4 := cell_regrown zB70
  have kq5 := cell_regrown zB71
  have kq6 := cell_regrown zB72
  have kq7 := cell_regrown zB73
  have kq8 := cell_regrown zB20
  have kq9 := cell_regrown zB21
  have kq10 := cell_regrown zB22
  have kq11 := cell_regrown zB30
  have kq12 := cell_regrown zB31
  have kq13 := cell_regrown zB32
  have kq14 := cell_regrown zB33
  have kq15 := cell_regrown zB34
  have kq16 := cell_regrown zB35
  have kq17 := cell_regrown zB36
  have kq18 := cell_regrown zB37
  have kq19 := cell_regrown zB38
  clear zB10 zB11 zB12 zB13 zB70 zB71 zB72 zB73 zB20 zB21 zB22 zB30 zB31 zB32 zB33 zB34 zB35 zB36 zB37 zB38
  refine wp_mono [Brings.one ?b133_0, Brings.one ?b134_1, Brings.one ?b135_2, Brings.one ?b136_3, Brings.ownE EK w11.heap.size (fun v => flV a d (.slice As S.length cs) v) (K'), Brings.one ?b137_5, Brings.one ?b138_6] (by kernel_rfl) (by kernel_rfl) ?_
  rotate_left 6
  refine wpL_take (k' := 1) rfl (by kernel_rfl) (fun d os => ?t139) ?_
  case t139 => (unfold bringsAt; go_simp; first | with_reducible exact take_one | exact take_one)
  try simp only [Act.put, List.setIfInBounds_toArray, List.set_cons_zero, List.set_cons_succ]
  refine wpL_take (k' := 2) rfl (by kernel_rfl) (fun d os => ?t140) ?_
  case t140 => (unfold bringsAt; go_simp; first | with_reducible exact take_one | exact take_one)
  try simp only [Act.put, List.setIfInBounds_toArray, List.set_cons_zero, List.set_cons_succ]
  refine wpL_take (k' := 3) rfl (by kernel_rfl) (fun d os => ?t141) ?_
  case t141 => (unfold bringsAt; go_simp; first | with_reducible exact take_one | exact take_one)
  try simp only [Act.put, List.setIfInBounds_toArray, List.set_cons_zero, List.set_cons_succ]
  refine wpL_take (k' := 4) rfl (by kernel_rfl) (fun d os => ?t142) ?_
  case t142 => (unfold bringsAt; go_simp; first | with_reducible exact take_one | exact take_one)
  try simp only [Act.put, List.setIfInBounds_toArray, List.set_cons_zero, List.set_cons_succ]
  refine wpL_ownE (k' := 5) rfl (by kernel_rfl) (fun wz hz hd => ?t143) (fun A5 c5 => ?_)
  case t143 =>
    have HZ := Lib.hid (HB1.out.trans (hz.mono HB1.out.size))
    unfold bringsAt
    go_simp
    have h9 := HCL.out wz (RK.out.kept HZ.out)
    exact call_ownE hz.size h9
  try simp only [Act.put, List.setIfInBounds_toArray, List.set_cons_zero, List.set_cons_succ]
  refine wpL_call (k' := 6) rfl (by kernel_rfl) (fun wz hz hd => ?t144) ?_
  case t144 =>
    have HZ := Lib.hid (HB1.out.trans (hz.mono HB1.out.size))
    have O4 := Lib.hid (show OwnE EK wz w11.heap.size (.slice A5 (K').length c5) (K') from hd.get 4 (by kernel_rfl))
    unfold bringsAt
    go_simp
    have h9 := HCM.out wz A5 c5 (RS.out.kept HZ.out) (O10.out.kept hz).reads O4.out.reads
    refine call_one_as h9 ?_
    rfl
  try simp only [Act.put, List.setIfInBounds_toArray, List.set_cons_zero, List.set_cons_succ]
  refine wpL_take (k' := 7) rfl (by kernel_rfl) (fun d os => ?t145) ?_
  case t145 => (unfold bringsAt; go_simp; first | with_reducible exact take_one | exact take_one)
  try simp only [Act.put, List.setIfInBounds_toArray, List.set_cons_zero, List.set_cons_succ]
  refine wpL_nil ?_
  intro w12 hH
  have hb' := hH.below
  clear kq0 kq1 kq2 kq3 kq4 kq5 kq6 kq7 kq8 kq9 kq10 kq11 kq12 kq13 kq14 kq15 kq16 kq17 kq18 kq19
  have HB1 := Lib.hid ((HB1.out).trans (hb'.mono (HB1.out).size))
  have O10 := Lib.hid ((O10.out).kept hb')
  have B7 := Lib.hid ((B7.out).below hb' (B7.out).lt)
  have O4 := Lib.hid (show OwnE EK w12 w11.heap.size (.slice A5 (K').length c5) (K') from hH.facts 4)
  clear hH hb'
  go_wp2_with fail
  go_ret
  exact ⟨rfl, HB.out.trans (HB1.out.mono HB.out.size)⟩
theorem fieldSets_walk (x0 : Flx) (x1 : Un) (x2 : Bk) (v0 v1 v2 : Value) (w : World) (k0 : IsFl w v0 x0) (k1 : IsUn v1 x1) (k2 : IsBk v2 x2) :
    Calls Try.prog 4 #[v0, v1, v2] w fun e w' => e = .returned (.bool true) ∧ Below w.heap.size w w' := by
  obtain ⟨As, cs, Ak, ck, rfl, hS, hK, hn, hm, _⟩ := k0
  have hb := k2.2.1
  rw [k1.1, k2.1]
  obtain ⟨a, d, S, K⟩ := x0
  dsimp only at hS hK hn hm ⊢
  cases hg : bigB S.length K.length with
  | true => exact sts_big a d S As cs K Ak ck x1 x2 w hS hK hn hm hb hg
  | false =>
    cases ho : okFl a d S K with
    | false => exact sts_not a d S As cs K Ak ck x1 x2 w hS hK hn hm hb hg ho
    | true =>
      cases hi : inFu a d x1 with
      | false => exact sts_out a d S As cs K Ak ck x1 x2 w hS hK hn hm hb hg ho hi
      | true =>
        cases hk : okBk x2 with
        | false => exact sts_blk a d S As cs K Ak ck x1 x2 w hS hK hn hm hb hg ho hi hk
        | true =>
          obtain ⟨A, D, rfl, rfl, _⟩ := okFl_nat ho
          obtain ⟨ux, uy, us, rfl, _, hux, huy⟩ := inFu_nat hi
          exact sts_yes A D S As cs K Ak ck ux uy us x2 w hS hK hn hm hb hg ho hi hux huy hk

end Go.Proofs.Ytiedjeholmoccaa
