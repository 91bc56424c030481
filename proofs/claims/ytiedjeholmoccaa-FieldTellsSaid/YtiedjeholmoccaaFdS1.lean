/- Fields compared by the reference. -/
import Derived.Test.YtiedjeholmoccaaFd7
namespace Go.Proofs.Ytiedjeholmoccaa
open Go.RowKit Go.Sort
set_option linter.unusedVariables false
set_option linter.unusedSimpArgs false
set_option maxRecDepth 100000 in
set_option maxHeartbeats 6400000 in
theorem r16same_y (a d : Int) (S : List Int) (As As' : Option Addr) (cs cs' : Nat) (K L : List Bk) (Ak Al : Option Addr) (ck cl : Nat) (w : World) (hS : ReadsI w As S) (hT : ReadsI w As' S) (hK : ReadsE EK w Ak K) (hL : ReadsE EK w Al L) (hn : S.length ≤ 9223372036854775807) (hm : K.length ≤ 9223372036854775807) (hl : K.length = L.length) (he : K = L) :
    Calls Try.prog 14 #[flV a d (.slice As S.length cs) (.slice Ak K.length ck), flV a d (.slice As' S.length cs') (.slice Al L.length cl)] w fun e w' => e = .returned (.bool true) ∧ Below w.heap.size w w' := by
  have RS := Lib.hid hS
  have RT := Lib.hid hT
  have RK := Lib.hid hK
  have RL := Lib.hid hL
  have HLN := Lib.hid hl
  have HE := Lib.hid he
  clear he
  have e1 : ((a : Int) != a) = false := by simp
  have e2 : ((d : Int) != d) = false := by simp
  have e3 : ((S.length : Int) != (S.length : Int)) = false := by simp
  have e4 : ((K.length : Int) != (L.length : Int)) = false := by rw [hl]; simp
  clear hS hT hK hL hl
  have HB := Lib.hid (Below.refl w.heap.size w)
  go_enter Try.func14, Try.ntmps14
  go_wp2_with fail
  have RS := Lib.hid (((RS.out).alloc (.cells #[.int .i64 a, .int .i64 d, .slice As S.length cs, .slice Ak K.length ck] 25)).alloc (.cells #[.int .i64 a, .int .i64 d, .slice As' S.length cs', .slice Al L.length cl] 25))
  have RT := Lib.hid (((RT.out).alloc (.cells #[.int .i64 a, .int .i64 d, .slice As S.length cs, .slice Ak K.length ck] 25)).alloc (.cells #[.int .i64 a, .int .i64 d, .slice As' S.length cs', .slice Al L.length cl] 25))
  have RK := Lib.hid (((RK.out).alloc (.cells #[.int .i64 a, .int .i64 d, .slice As S.length cs, .slice Ak K.length ck] 25)).alloc (.cells #[.int .i64 a, .int .i64 d, .slice As' S.length cs', .slice Al L.length cl] 25))
  have RL := Lib.hid (((RL.out).alloc (.cells #[.int .i64 a, .int .i64 d, .slice As S.length cs, .slice Ak K.length ck] 25)).alloc (.cells #[.int .i64 a, .int .i64 d, .slice As' S.length cs', .slice Al L.length cl] 25))
  have HB := Lib.hid (below_alloc_ (below_alloc_ (HB.out) (.cells #[.int .i64 a, .int .i64 d, .slice As S.length cs, .slice Ak K.length ck] 25)) (.cells #[.int .i64 a, .int .i64 d, .slice As' S.length cs', .slice Al L.length cl] 25))
  have hzw : ((w.alloc (.cells #[.int .i64 a, .int .i64 d, .slice As S.length cs, .slice Ak K.length ck] 25)).alloc (.cells #[.int .i64 a, .int .i64 d, .slice As' S.length cs', .slice Al L.length cl] 25)).heap.size = w.heap.size + 2 := by simp only [World.size_alloc]
  have B1 := (Blk.new (w) 25 #[.int .i64 a, .int .i64 d, .slice As S.length cs, .slice Ak K.length ck]).alloc (.cells #[.int .i64 a, .int .i64 d, .slice As' S.length cs', .slice Al L.length cl] 25)
  skip
  have B1 := Lib.hid B1
  have B2 := Blk.new (w.alloc (.cells #[.int .i64 a, .int .i64 d, .slice As S.length cs, .slice Ak K.length ck] 25)) 25 #[.int .i64 a, .int .i64 d, .slice As' S.length cs', .slice Al L.length cl]
  rw [show (w.alloc (.cells #[.int .i64 a, .int .i64 d, .slice As S.length cs, .slice Ak K.length ck] 25)).heap.size = w.heap.size + 1 by simp only [World.size_alloc]] at B2
  have B2 := Lib.hid B2
  generalize (w.alloc (.cells #[.int .i64 a, .int .i64 d, .slice As S.length cs, .slice Ak K.length ck] 25)).alloc (.cells #[.int .i64 a, .int .i64 d, .slice As' S.length cs', .slice Al L.length cl] 25) = w1 at *
  clear hzw
  have HB1 := Lib.hid (Below.refl w1.heap.size w1)
  obtain ⟨zB10, zB11, zB12, zB13⟩ := (B1.out.below HB1.out B1.out.lt).cells4
  obtain ⟨zB20, zB21, zB22, zB23⟩ := (B2.out.below HB1.out B2.out.lt).cells4
  go_upto_region 4 with fail
  clear zB10 zB11 zB12 zB13
  clear zB20 zB21 zB22 zB23
  clear e1 e2 e3 e4
  go_loopw [40] (fun v wr => ∃ k : Nat, k ≤ S.length ∧ v = .int .i64 k ∧ Below w1.heap.size w1 wr) (fun v _ => S.length - (intOf v).toNat)
  case atStart => exact ⟨0, Nat.zero_le _, rfl, HB1.out⟩
  case round =>
    clear HB1
    obtain ⟨k, hk, rfl, hb⟩ := hrel
    have HB1 := Lib.hid hb
    obtain ⟨wo, ewo⟩ : ∃ wo, wo = wr := ⟨_, rfl⟩
    subst ewo
    clear hb
    by_cases hlt : k < S.length
    · skip
      obtain ⟨ad, hA1, l1, z0⟩ := (RS.out.kept HB1.out).rd_ hlt
      obtain ⟨ad', hA2, l2, y0⟩ := (RT.out.kept HB1.out).rd_ hlt
      obtain ⟨q, hq⟩ : ∃ q, q = rdn S k := ⟨_, rfl⟩
      rw [← hq] at z0 y0
      subst hA1
      subst hA2
      have e5 : ((q : Int) != q) = false := by simp
      have i1 : (0 : Int) ≤ (k : Int) := by omega
      have i2 : (k : Int) < (S.length : Int) := by omega
      clear l1 l2 hq
      obtain ⟨zB10, zB11, zB12, zB13⟩ := (B1.out.below HB1.out B1.out.lt).cells4
      obtain ⟨zB20, zB21, zB22, zB23⟩ := (B2.out.below HB1.out B2.out.lt).cells4
      go_wp2_with fail
      have kq0 := cell_regrown zB10
      have kq1 := cell_regrown zB11
      have kq2 := cell_regrown zB12
      have kq3 := cell_regrown zB13
      have kq4 := cell_regrown zB20
      have kq5 := cell_regrown zB21
      have kq6 := cell_regrown zB22
      have kq7 := cell_regrown zB23
      have kq8 := cell_regrown z0
      have kq9 := cell_regrown y0
      clear zB10 zB11 zB12 zB13 zB20 zB21 zB22 zB23 z0 y0
      refine wp_region_quiet_below (by kernel_rfl) (by kernel_rfl) ?_
      repeat (go_big_quiet_step (fail))
      refine wpQuiet_nil ?_
      intro _ hw'
      obtain ⟨⟨dq, osq⟩, hw''⟩ := hw'
      subst hw''
      have hb' := below_regrown wo dq osq
      clear kq0 kq1 kq2 kq3 kq4 kq5 kq6 kq7 kq8 kq9
      have HB1 := Lib.hid ((HB1.out).trans (hb'.mono (HB1.out).size))
      clear hb'
      generalize grow (redrawn wo dq) osq = w2 at *
      go_wp2_with fail
      go_roundw
      case rel => exact ⟨k + 1, by omega, by go_num, HB1.out⟩
      case measure => simp [intOf]; omega
    · skip
      obtain rfl : k = S.length := by omega
      clear hk hlt
      obtain ⟨zB10, zB11, zB12, zB13⟩ := (B1.out.below HB1.out B1.out.lt).cells4
      obtain ⟨zB20, zB21, zB22, zB23⟩ := (B2.out.below HB1.out B2.out.lt).cells4
      go_wp2_with fail
      clear zB10 zB11 zB12 zB13
      clear zB20 zB21 zB22 zB23
      go_loopw [58] (fun v wr => ∃ k : Nat, k ≤ K.length ∧ v = .int .i64 k ∧ Below w1.heap.size w1 wr) (fun v _ => K.length - (intOf v).toNat)
      case atStart => exact ⟨0, Nat.zero_le _, rfl, HB1.out⟩
      case round =>
        clear HB1
        obtain ⟨k, hk, rfl, hb⟩ := hrel
        have HB1 := Lib.hid hb
        obtain ⟨wp, ewp⟩ : ∃ wp, wp = wr := ⟨_, rfl⟩
        subst ewp
        clear hb
        by_cases hlt : k < K.length
        · skip
          obtain ⟨ad, hA1, l1, z0, z1, z2, z3, z4, z5, z6, z7, z8⟩ := ReadsE.bkk (RK.out.kept HB1.out) (i := k) (by omega)
          obtain ⟨ad', hA2, l2, y0, y1, y2, y3, y4, y5, y6, y7, y8⟩ := ReadsE.bkk (RL.out.kept HB1.out) (i := k) (by have := HLN.out; omega)
          subst hA1
          subst hA2
          have i1 : (0 : Int) ≤ (k : Int) := by omega
          have i2 : (k : Int) < (K.length : Int) := by omega
          have i3 : (k : Int) < (L.length : Int) := by have := HLN.out; omega
          clear l1 l2
          obtain ⟨q, hq⟩ : ∃ q, q = kat K k := ⟨_, rfl⟩
          have hq2 : q = kat L k := by rw [hq]; rw [HE.out]
          rw [← hq] at z0 z1 z2 z3 z4 z5 z6 z7 z8
          rw [← hq2] at y0 y1 y2 y3 y4 y5 y6 y7 y8
          have hne := fun w => ne_bk q q w
          rw [show decide (q = q) = true by simp] at hne
          simp only [Bool.not_true] at hne
          clear hq hq2
          obtain ⟨zB10, zB11, zB12, zB13⟩ := (B1.out.below HB1.out B1.out.lt).cells4
          obtain ⟨zB20, zB21, zB22, zB23⟩ := (B2.out.below HB1.out B2.out.lt).cells4
          go_wp2_with fail
          have kq0 := cell_regrown zB10
          have kq1 := cell_regrown zB11
          have kq2 := cell_regrown zB12
          have kq3 := cell_regrown zB13
          have kq4 := cell_regrown zB20
          have kq5 := cell_regrown zB21
          have kq6 := cell_regrown zB22
          have kq7 := cell_regrown zB23
          have kq8 := cell_regrown z0
          have kq9 := cell_regrown z1
          have kq10 := cell_regrown z2
          have kq11 := cell_regrown z3
          have kq12 := cell_regrown z4
          have kq13 := cell_regrown z5
          have kq14 := cell_regrown z6
          have kq15 := cell_regrown z7
          have kq16 := cell_regrown z8
          have kq17 := cell_regrown y0
          have kq18 := cell_regrown y1
          have kq19 := cell_regrown y2
          have kq20 := cell_regrown y3
          have kq21 := cell_regrown y4
          have kq22 := cell_regrown y5
          have kq23 := cell_regrown y6
          have kq24 := cell_regrown y7
          have kq25 := cell_regrown y8
          clear zB10 zB11 zB12 zB13 zB20 zB21 zB22 zB23 z0 z1 z2 z3 z4 z5 z6 z7 z8 y0 y1 y2 y3 y4 y5 y6 y7 y8
          refine wp_region_quiet_below (by kernel_rfl) (by kernel_rfl) ?_
          repeat (go_big_quiet_step (fail))
          refine wpQuiet_nil ?_
          intro _ hw'
          obtain ⟨⟨dq, osq⟩, hw''⟩ := hw'
          subst hw''
          have hb' := below_regrown wp dq osq
          clear kq0 kq1 kq2 kq3 kq4 kq5 kq6 kq7 kq8 kq9 kq10 kq11 kq12 kq13 kq14 kq15 kq16 kq17 kq18 kq19 kq20 kq21 kq22 kq23 kq24 kq25
          have HB1 := Lib.hid ((HB1.out).trans (hb'.mono (HB1.out).size))
          clear hb'
          generalize grow (redrawn wp dq) osq = w3 at *
          clear hne
          go_wp2_with fail
          go_roundw
          case rel => exact ⟨k + 1, by omega, by go_num, HB1.out⟩
          case measure => simp [intOf]; omega
        · skip
          obtain rfl : k = K.length := by omega
          go_wp2_with fail
          go_ret
          exact ⟨rfl, HB.out.trans (HB1.out.mono HB.out.size)⟩
set_option maxRecDepth 100000 in
set_option maxHeartbeats 6400000 in
theorem r16same_n (a d : Int) (S : List Int) (As As' : Option Addr) (cs cs' : Nat) (K L : List Bk) (Ak Al : Option Addr) (ck cl : Nat) (w : World) (hS : ReadsI w As S) (hT : ReadsI w As' S) (hK : ReadsE EK w Ak K) (hL : ReadsE EK w Al L) (hn : S.length ≤ 9223372036854775807) (hm : K.length ≤ 9223372036854775807) (hl : K.length = L.length) (he : K ≠ L) :
    Calls Try.prog 14 #[flV a d (.slice As S.length cs) (.slice Ak K.length ck), flV a d (.slice As' S.length cs') (.slice Al L.length cl)] w fun e w' => e = .returned (.bool false) ∧ Below w.heap.size w w' := by
  have RS := Lib.hid hS
  have RT := Lib.hid hT
  have RK := Lib.hid hK
  have RL := Lib.hid hL
  have HLN := Lib.hid hl
  obtain ⟨i0, hi0, hx, hj⟩ := ne_first hl he
  have HX := Lib.hid hx
  have HJ := Lib.hid hj
  clear hx hj he
  have e1 : ((a : Int) != a) = false := by simp
  have e2 : ((d : Int) != d) = false := by simp
  have e3 : ((S.length : Int) != (S.length : Int)) = false := by simp
  have e4 : ((K.length : Int) != (L.length : Int)) = false := by rw [hl]; simp
  clear hS hT hK hL hl
  have HB := Lib.hid (Below.refl w.heap.size w)
  go_enter Try.func14, Try.ntmps14
  go_wp2_with fail
  have RS := Lib.hid (((RS.out).alloc (.cells #[.int .i64 a, .int .i64 d, .slice As S.length cs, .slice Ak K.length ck] 25)).alloc (.cells #[.int .i64 a, .int .i64 d, .slice As' S.length cs', .slice Al L.length cl] 25))
  have RT := Lib.hid (((RT.out).alloc (.cells #[.int .i64 a, .int .i64 d, .slice As S.length cs, .slice Ak K.length ck] 25)).alloc (.cells #[.int .i64 a, .int .i64 d, .slice As' S.length cs', .slice Al L.length cl] 25))
  have RK := Lib.hid (((RK.out).alloc (.cells #[.int .i64 a, .int .i64 d, .slice As S.length cs, .slice Ak K.length ck] 25)).alloc (.cells #[.int .i64 a, .int .i64 d, .slice As' S.length cs', .slice Al L.length cl] 25))
  have RL := Lib.hid (((RL.out).alloc (.cells #[.int .i64 a, .int .i64 d, .slice As S.length cs, .slice Ak K.length ck] 25)).alloc (.cells #[.int .i64 a, .int .i64 d, .slice As' S.length cs', .slice Al L.length cl] 25))
  have HB := Lib.hid (below_alloc_ (below_alloc_ (HB.out) (.cells #[.int .i64 a, .int .i64 d, .slice As S.length cs, .slice Ak K.length ck] 25)) (.cells #[.int .i64 a, .int .i64 d, .slice As' S.length cs', .slice Al L.length cl] 25))
  have hzw : ((w.alloc (.cells #[.int .i64 a, .int .i64 d, .slice As S.length cs, .slice Ak K.length ck] 25)).alloc (.cells #[.int .i64 a, .int .i64 d, .slice As' S.length cs', .slice Al L.length cl] 25)).heap.size = w.heap.size + 2 := by simp only [World.size_alloc]
  have B1 := (Blk.new (w) 25 #[.int .i64 a, .int .i64 d, .slice As S.length cs, .slice Ak K.length ck]).alloc (.cells #[.int .i64 a, .int .i64 d, .slice As' S.length cs', .slice Al L.length cl] 25)
  skip
  have B1 := Lib.hid B1
  have B2 := Blk.new (w.alloc (.cells #[.int .i64 a, .int .i64 d, .slice As S.length cs, .slice Ak K.length ck] 25)) 25 #[.int .i64 a, .int .i64 d, .slice As' S.length cs', .slice Al L.length cl]
  rw [show (w.alloc (.cells #[.int .i64 a, .int .i64 d, .slice As S.length cs, .slice Ak K.length ck] 25)).heap.size = w.heap.size + 1 by simp only [World.size_alloc]] at B2
  have B2 := Lib.hid B2
  generalize (w.alloc (.cells #[.int .i64 a, .int .i64 d, .slice As S.length cs, .slice Ak K.length ck] 25)).alloc (.cells #[.int .i64 a, .int .i64 d, .slice As' S.length cs', .slice Al L.length cl] 25) = w1 at *
  clear hzw
  have HB1 := Lib.hid (Below.refl w1.heap.size w1)
  obtain ⟨zB10, zB11, zB12, zB13⟩ := (B1.out.below HB1.out B1.out.lt).cells4
  obtain ⟨zB20, zB21, zB22, zB23⟩ := (B2.out.below HB1.out B2.out.lt).cells4
  go_upto_region 4 with fail
  clear zB10 zB11 zB12 zB13
  clear zB20 zB21 zB22 zB23
  clear e1 e2 e3 e4
  go_loopw [40] (fun v wr => ∃ k : Nat, k ≤ S.length ∧ v = .int .i64 k ∧ Below w1.heap.size w1 wr) (fun v _ => S.length - (intOf v).toNat)
  case atStart => exact ⟨0, Nat.zero_le _, rfl, HB1.out⟩
  case round =>
    clear HB1
    obtain ⟨k, hk, rfl, hb⟩ := hrel
    have HB1 := Lib.hid hb
    obtain ⟨wo, ewo⟩ : ∃ wo, wo = wr := ⟨_, rfl⟩
    subst ewo
    clear hb
    by_cases hlt : k < S.length
    · skip
      obtain ⟨ad, hA1, l1, z0⟩ := (RS.out.kept HB1.out).rd_ hlt
      obtain ⟨ad', hA2, l2, y0⟩ := (RT.out.kept HB1.out).rd_ hlt
      obtain ⟨q, hq⟩ : ∃ q, q = rdn S k := ⟨_, rfl⟩
      rw [← hq] at z0 y0
      subst hA1
      subst hA2
      have e5 : ((q : Int) != q) = false := by simp
      have i1 : (0 : Int) ≤ (k : Int) := by omega
      have i2 : (k : Int) < (S.length : Int) := by omega
      clear l1 l2 hq
      obtain ⟨zB10, zB11, zB12, zB13⟩ := (B1.out.below HB1.out B1.out.lt).cells4
      obtain ⟨zB20, zB21, zB22, zB23⟩ := (B2.out.below HB1.out B2.out.lt).cells4
      go_wp2_with fail
      have kq0 := cell_regrown zB10
      have kq1 := cell_regrown zB11
      have kq2 := cell_regrown zB12
      have kq3 := cell_regrown zB13
      have kq4 := cell_regrown zB20
      have kq5 := cell_regrown zB21
      have kq6 := cell_regrown zB22
      have kq7 := cell_regrown zB23
      have kq8 := cell_regrown z0
      have kq9 := cell_regrown y0
      clear zB10 zB11 zB12 zB13 zB20 zB21 zB22 zB23 z0 y0
      refine wp_region_quiet_below (by kernel_rfl) (by kernel_rfl) ?_
      repeat (go_big_quiet_step (fail))
      refine wpQuiet_nil ?_
      intro _ hw'
      obtain ⟨⟨dq, osq⟩, hw''⟩ := hw'
      subst hw''
      have hb' := below_regrown wo dq osq
      clear kq0 kq1 kq2 kq3 kq4 kq5 kq6 kq7 kq8 kq9
      have HB1 := Lib.hid ((HB1.out).trans (hb'.mono (HB1.out).size))
      clear hb'
      generalize grow (redrawn wo dq) osq = w2 at *
      go_wp2_with fail
      go_roundw
      case rel => exact ⟨k + 1, by omega, by go_num, HB1.out⟩
      case measure => simp [intOf]; omega
    · skip
      obtain rfl : k = S.length := by omega
      clear hk hlt
      obtain ⟨zB10, zB11, zB12, zB13⟩ := (B1.out.below HB1.out B1.out.lt).cells4
      obtain ⟨zB20, zB21, zB22, zB23⟩ := (B2.out.below HB1.out B2.out.lt).cells4
      go_wp2_with fail
      clear zB10 zB11 zB12 zB13
      clear zB20 zB21 zB22 zB23
      go_loopw [58] (fun v wr => ∃ k : Nat, k ≤ i0 ∧ v = .int .i64 k ∧ Below w1.heap.size w1 wr) (fun v _ => K.length - (intOf v).toNat)
      case atStart => exact ⟨0, Nat.zero_le _, rfl, HB1.out⟩
      case round =>
        clear HB1
        obtain ⟨k, hk, rfl, hb⟩ := hrel
        have HB1 := Lib.hid hb
        obtain ⟨wp, ewp⟩ : ∃ wp, wp = wr := ⟨_, rfl⟩
        subst ewp
        clear hb
        by_cases hlt : k < i0
        · skip
          obtain ⟨ad, hA1, l1, z0, z1, z2, z3, z4, z5, z6, z7, z8⟩ := ReadsE.bkk (RK.out.kept HB1.out) (i := k) (by omega)
          obtain ⟨ad', hA2, l2, y0, y1, y2, y3, y4, y5, y6, y7, y8⟩ := ReadsE.bkk (RL.out.kept HB1.out) (i := k) (by have := HLN.out; omega)
          subst hA1
          subst hA2
          have i1 : (0 : Int) ≤ (k : Int) := by omega
          have i2 : (k : Int) < (K.length : Int) := by omega
          have i3 : (k : Int) < (L.length : Int) := by have := HLN.out; omega
          clear l1 l2
          obtain ⟨q, hq⟩ : ∃ q, q = kat K k := ⟨_, rfl⟩
          have hq2 : q = kat L k := by rw [hq]; exact HJ.out k hlt
          rw [← hq] at z0 z1 z2 z3 z4 z5 z6 z7 z8
          rw [← hq2] at y0 y1 y2 y3 y4 y5 y6 y7 y8
          have hne := fun w => ne_bk q q w
          rw [show decide (q = q) = true by simp] at hne
          simp only [Bool.not_true] at hne
          clear hq hq2
          obtain ⟨zB10, zB11, zB12, zB13⟩ := (B1.out.below HB1.out B1.out.lt).cells4
          obtain ⟨zB20, zB21, zB22, zB23⟩ := (B2.out.below HB1.out B2.out.lt).cells4
          go_wp2_with fail
          have kq0 := cell_regrown zB10
          have kq1 := cell_regrown zB11
          have kq2 := cell_regrown zB12
          have kq3 := cell_regrown zB13
          have kq4 := cell_regrown zB20
          have kq5 := cell_regrown zB21
          have kq6 := cell_regrown zB22
          have kq7 := cell_regrown zB23
          have kq8 := cell_regrown z0
          have kq9 := cell_regrown z1
          have kq10 := cell_regrown z2
          have kq11 := cell_regrown z3
          have kq12 := cell_regrown z4
          have kq13 := cell_regrown z5
          have kq14 := cell_regrown z6
          have kq15 := cell_regrown z7
          have kq16 := cell_regrown z8
          have kq17 := cell_regrown y0
          have kq18 := cell_regrown y1
          have kq19 := cell_regrown y2
          have kq20 := cell_regrown y3
          have kq21 := cell_regrown y4
          have kq22 := cell_regrown y5
          have kq23 := cell_regrown y6
          have kq24 := cell_regrown y7
          have kq25 := cell_regrown y8
          clear zB10 zB11 zB12 zB13 zB20 zB21 zB22 zB23 z0 z1 z2 z3 z4 z5 z6 z7 z8 y0 y1 y2 y3 y4 y5 y6 y7 y8
          refine wp_region_quiet_below (by kernel_rfl) (by kernel_rfl) ?_
          repeat (go_big_quiet_step (fail))
          refine wpQuiet_nil ?_
          intro _ hw'
          obtain ⟨⟨dq, osq⟩, hw''⟩ := hw'
          subst hw''
          have hb' := below_regrown wp dq osq
          clear kq0 kq1 kq2 kq3 kq4 kq5 kq6 kq7 kq8 kq9 kq10 kq11 kq12 kq13 kq14 kq15 kq16 kq17 kq18 kq19 kq20 kq21 kq22 kq23 kq24 kq25
          have HB1 := Lib.hid ((HB1.out).trans (hb'.mono (HB1.out).size))
          clear hb'
          generalize grow (redrawn wp dq) osq = w3 at *
          clear hne
          go_wp2_with fail
          go_roundw
          case rel => exact ⟨k + 1, by omega, by go_num, HB1.out⟩
          case measure => simp [intOf]; omega
        · skip
          obtain rfl : k = i0 := by omega
          obtain ⟨ad, hA1, l1, z0, z1, z2, z3, z4, z5, z6, z7, z8⟩ := ReadsE.bkk (RK.out.kept HB1.out) (i := k) (by omega)
          obtain ⟨ad', hA2, l2, y0, y1, y2, y3, y4, y5, y6, y7, y8⟩ := ReadsE.bkk (RL.out.kept HB1.out) (i := k) (by have := HLN.out; omega)
          subst hA1
          subst hA2
          have i1 : (0 : Int) ≤ (k : Int) := by omega
          have i2 : (k : Int) < (K.length : Int) := by omega
          have i3 : (k : Int) < (L.length : Int) := by have := HLN.out; omega
          clear l1 l2
          obtain ⟨q, hq⟩ : ∃ q, q = kat K k := ⟨_, rfl⟩
          obtain ⟨q', hq2⟩ : ∃ q, q = kat L k := ⟨_, rfl⟩
          have hne := fun w => ne_bk q q' w
          rw [show decide (q = q') = false by rw [hq, hq2]; exact decide_eq_false HX.out] at hne
          simp only [Bool.not_false] at hne
          rw [← hq] at z0 z1 z2 z3 z4 z5 z6 z7 z8
          rw [← hq2] at y0 y1 y2 y3 y4 y5 y6 y7 y8
          clear hq hq2
          obtain ⟨zB10, zB11, zB12, zB13⟩ := (B1.out.below HB1.out B1.out.lt).cells4
          obtain ⟨zB20, zB21, zB22, zB23⟩ := (B2.out.below HB1.out B2.out.lt).cells4
          go_wp2_with fail
          have kq0 := cell_regrown zB10
          have kq1 := cell_regrown zB11
          have kq2 := cell_regrown zB12
          have kq3 := cell_regrown zB13
          have kq4 := cell_regrown zB20
          have kq5 := cell_regrown zB21
          have kq6 := cell_regrown zB22
          have kq7 := cell_regrown zB23
          have kq8 := cell_regrown z0
          have kq9 := cell_regrown z1
          have kq10 := cell_regrown z2
          have kq11 := cell_regrown z3
          have kq12 := cell_regrown z4
          have kq13 := cell_regrown z5
          have kq14 := cell_regrown z6
          have kq15 := cell_regrown z7
          have kq16 := cell_regrown z8
          have kq17 := cell_regrown y0
          have kq18 := cell_regrown y1
          have kq19 := cell_regrown y2
          have kq20 := cell_regrown y3
          have kq21 := cell_regrown y4
          have kq22 := cell_regrown y5
          have kq23 := cell_regrown y6
          have kq24 := cell_regrown y7
          have kq25 := cell_regrown y8
          clear zB10 zB11 zB12 zB13 zB20 zB21 zB22 zB23 z0 z1 z2 z3 z4 z5 z6 z7 z8 y0 y1 y2 y3 y4 y5 y6 y7 y8
          refine wp_region_quiet_below (by kernel_rfl) (by kernel_rfl) ?_
          repeat (go_big_quiet_step (fail))
          refine wpQuiet_nil ?_
          intro _ hw'
          obtain ⟨⟨dq, osq⟩, hw''⟩ := hw'
          subst hw''
          have hb' := below_regrown wp dq osq
          clear kq0 kq1 kq2 kq3 kq4 kq5 kq6 kq7 kq8 kq9 kq10 kq11 kq12 kq13 kq14 kq15 kq16 kq17 kq18 kq19 kq20 kq21 kq22 kq23 kq24 kq25
          have HB1 := Lib.hid ((HB1.out).trans (hb'.mono (HB1.out).size))
          clear hb'
          generalize grow (redrawn wp dq) osq = w4 at *
          clear hne
          go_wp2_with fail
          go_ret
          exact ⟨rfl, HB.out.trans (HB1.out.mono HB.out.size)⟩
theorem r16same_c (a d : Int) (S : List Int) (As As' : Option Addr) (cs cs' : Nat) (K L : List Bk) (Ak Al : Option Addr) (ck cl : Nat) (w : World) (hS : ReadsI w As S) (hT : ReadsI w As' S) (hK : ReadsE EK w Ak K) (hL : ReadsE EK w Al L) (hn : S.length ≤ 9223372036854775807) (hm : K.length ≤ 9223372036854775807) (hl : K.length = L.length) :
    Calls Try.prog 14 #[flV a d (.slice As S.length cs) (.slice Ak K.length ck), flV a d (.slice As' S.length cs') (.slice Al L.length cl)] w fun e w' => e = .returned (.bool (decide (K = L))) ∧ Below w.heap.size w w' := by
  by_cases he : K = L
  · rw [show decide (K = L) = true from decide_eq_true he]
    exact r16same_y a d S As As' cs cs' K L Ak Al ck cl w hS hT hK hL hn hm hl he
  · rw [show decide (K = L) = false from decide_eq_false he]
    exact r16same_n a d S As As' cs cs' K L Ak Al ck cl w hS hT hK hL hn hm hl he

end Go.Proofs.Ytiedjeholmoccaa
