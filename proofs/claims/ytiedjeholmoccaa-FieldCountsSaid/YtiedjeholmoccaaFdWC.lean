/- How many units there are, and what is set: the law's walk. -/
import Derived.Test.YtiedjeholmoccaaFdLw
import Derived.Test.YtiedjeholmoccaaOpenFd
namespace Go.Proofs.Ytiedjeholmoccaa
open Go.RowKit Go.Sort
set_option linter.unusedVariables false
set_option linter.unusedSimpArgs false

theorem cntU_pos {S : List Int} (h : 0 < S.length) : 0 < cntU S S.length := by
  have := cntU_lt (S := S) (n := S.length) (i := 0) (k := 0) h (Nat.mul_pos (Nat.two_pow_pos _) (Nat.two_pow_pos _))
  omega
theorem cntU_next {S : List Int} {i : Nat} {s : Int} (h : s = rdn S i) (h0 : 0 ≤ s) (h2 : s ≤ 2) : (s = 0 ∧ cntU S (i + 1) = cntU S i + 1) ∨ (s = 1 ∧ cntU S (i + 1) = cntU S i + 4) ∨ (s = 2 ∧ cntU S (i + 1) = cntU S i + 16) := by
  have e : cntU S (i + 1) = cntU S i + sqN (rdn S i) * sqN (rdn S i) := rfl
  rw [← h] at e
  rcases sqN_in h0 h2 with ⟨h, r⟩ | ⟨h, r⟩ | ⟨h, r⟩ <;> rw [h] at e <;> omega
theorem inFu_of {A D x y s : Nat} (h1 : 1 ≤ s) (hx : x + s ≤ 4 * A) (hy : y + s ≤ 4 * D) : inFu A D ⟨x, y, s⟩ = true := by
  simp only [inFu, decide_eq_true_eq]
  omega
theorem lay_ok {W : Nat} {K : List Bk} {u : Un} {b : Bk} (h : okK K = true) (hb : okBk b = true) : okK (layL W K u b) = true := by
  refine okK_of fun p hp => ?_
  rw [layL_length] at hp
  rw [kat_lay hp]
  split
  · exact hb
  · exact okK_kat h hp
theorem okFl_of {A D : Nat} {S : List Int} {K K' : List Bk} (h : okFl A D S K = true) (hl : K'.length = K.length) (hk : okK K' = true) : okFl A D S K' = true := by
  obtain ⟨h1, h2, h3, h4, h5, h6⟩ := okFl_t h
  unfold okFl
  rw [h1, h2, h5, hk, hl]
  simp [h3, h4]
/-- What a set unit is told of each of its blocks. -/
theorem at_laid {A D : Nat} {S : List Int} {K : List Bk} {b : Bk} {ux uy us : Nat} (hok : okFl A D S K = true) (hb : okBk b = true) (h1 : 1 ≤ us) (hx : ux + us ≤ 4 * A) (hy : uy + us ≤ 4 * D) (hl : K.length = 16 * (A * D)) {k : Nat} (hk : k < us * us) :
    atB A D S (layL (4 * A) K ⟨ux, uy, us⟩ b) ((ux + k % us : Nat) : Int) ((uy + k / us : Nat) : Int) = true ∧ atK A D S (layL (4 * A) K ⟨ux, uy, us⟩ b) ((ux + k % us : Nat) : Int) ((uy + k / us : Nat) : Int) = b := by
  have k1 : k % us < us := Nat.mod_lt _ h1
  have k2 : k / us < us := Nat.div_lt_of_lt_mul hk
  generalize k % us = p at *
  generalize k / us = q at *
  have hB : atB A D S (layL (4 * A) K ⟨ux, uy, us⟩ b) ((ux + p : Nat) : Int) ((uy + q : Nat) : Int) = true := by
    unfold atB
    rw [okFl_of hok (layL_length _ _ _ _) (lay_ok (okFl_t hok).2.2.2.2.2 hb), Bool.true_and]
    exact inFu_of (s := 1) (by omega) (by omega) (by omega)
  refine ⟨hB, ?_⟩
  unfold atK
  rw [if_pos hB]
  rw [Int.toNat_natCast, Int.toNat_natCast, Int.toNat_natCast]
  obtain ⟨X, hX⟩ : ∃ X, X = ux + p := ⟨_, rfl⟩
  obtain ⟨Y, hY⟩ : ∃ Y, Y = uy + q := ⟨_, rfl⟩
  rw [← hX, ← hY]
  have hlt : Y * (4 * A) + X < K.length := by
    have h3 : (Y + 1) * (4 * A) = Y * (4 * A) + 4 * A := Nat.succ_mul _ _
    have h4 : (Y + 1) * (4 * A) ≤ (4 * D) * (4 * A) := Nat.mul_le_mul_right _ (by omega)
    have h5 : (4 * D) * (4 * A) = 16 * (A * D) := by rw [Nat.mul_comm 4 D, Nat.mul_assoc, ← Nat.mul_assoc 4 4 A, Nat.mul_left_comm, Nat.mul_comm D]
    omega
  rw [kat_lay hlt]
  have h6 := place_xy (W := 4 * A) (x := X) (y := Y) (by omega)
  rw [h6.1, h6.2, if_pos]
  rw [inUn_iff]
  simp only
  omega
set_option maxRecDepth 100000 in
set_option maxHeartbeats 6400000 in
theorem cnt_big (a d : Int) (S : List Int) (As : Option Addr) (cs : Nat) (K : List Bk) (Ak : Option Addr) (ck : Nat) (x1 : Int) (b : Bk) (w : World) (hS : ReadsI w As S) (hK : ReadsE EK w Ak K) (hn : S.length ≤ 9223372036854775807) (hm : K.length ≤ 9223372036854775807) (hg : bigB S.length K.length = true) :
    Calls Try.prog 7 #[flV a d (.slice As S.length cs) (.slice Ak K.length ck), .int .u16 x1, bkV b] w fun e w' => e = .returned (.bool true) ∧ Below w.heap.size w w' := by
  have RS := Lib.hid hS
  have RK := Lib.hid hK
  have HB := Lib.hid (Below.refl w.heap.size w)
  have HG := Lib.hid hg
  clear hS hK hg
  have HB1 := Lib.hid (Below.refl w.heap.size w)
  go_enter Try.func7, Try.ntmps7
  go_wp2_with fail
  have HB1 := Lib.hid (below_alloc_ (below_alloc_ (HB1.out) (.cells #[.int .i64 a, .int .i64 d, .slice As S.length cs, .slice Ak K.length ck] 25)) (.cells #[.int .i64 b.m, .bool b.g, .int .i64 b.x0, .int .i64 b.y0, .int .i64 b.x1, .int .i64 b.y1, .int .i64 b.d0, .int .i64 b.d1, .int .i64 b.d2] 40))
  have hzw : ((w.alloc (.cells #[.int .i64 a, .int .i64 d, .slice As S.length cs, .slice Ak K.length ck] 25)).alloc (.cells #[.int .i64 b.m, .bool b.g, .int .i64 b.x0, .int .i64 b.y0, .int .i64 b.x1, .int .i64 b.y1, .int .i64 b.d0, .int .i64 b.d1, .int .i64 b.d2] 40)).heap.size = w.heap.size + 2 := by simp only [World.size_alloc]
  have B1 := (Blk.new (w) 25 #[.int .i64 a, .int .i64 d, .slice As S.length cs, .slice Ak K.length ck]).alloc (.cells #[.int .i64 b.m, .bool b.g, .int .i64 b.x0, .int .i64 b.y0, .int .i64 b.x1, .int .i64 b.y1, .int .i64 b.d0, .int .i64 b.d1, .int .i64 b.d2] 40)
  skip
  have B1 := Lib.hid B1
  have B2 := Blk.new (w.alloc (.cells #[.int .i64 a, .int .i64 d, .slice As S.length cs, .slice Ak K.length ck] 25)) 40 #[.int .i64 b.m, .bool b.g, .int .i64 b.x0, .int .i64 b.y0, .int .i64 b.x1, .int .i64 b.y1, .int .i64 b.d0, .int .i64 b.d1, .int .i64 b.d2]
  rw [show (w.alloc (.cells #[.int .i64 a, .int .i64 d, .slice As S.length cs, .slice Ak K.length ck] 25)).heap.size = w.heap.size + 1 by simp only [World.size_alloc]] at B2
  have B2 := Lib.hid B2
  generalize (w.alloc (.cells #[.int .i64 a, .int .i64 d, .slice As S.length cs, .slice Ak K.length ck] 25)).alloc (.cells #[.int .i64 b.m, .bool b.g, .int .i64 b.x0, .int .i64 b.y0, .int .i64 b.x1, .int .i64 b.y1, .int .i64 b.d0, .int .i64 b.d1, .int .i64 b.d2] 40) = w1 at *
  clear hzw
  refine (first_c w1).mono ?_
  rintro e w2 ⟨rfl, hb'⟩
  have HB1 := Lib.hid ((HB1.out).trans (hb'.mono (HB1.out).size))
  have B1 := Lib.hid ((B1.out).below hb' (B1.out).lt)
  have B2 := Lib.hid ((B2.out).below hb' (B2.out).lt)
  clear hb'
  obtain ⟨zB10, zB11, zB12, zB13⟩ := (B1.out).cells4
  obtain ⟨zB20, zB21, zB22, zB23, zB24, zB25, zB26, zB27, zB28⟩ := (B2.out).cells9
  go_wp2_with fail
  clear zB10 zB11 zB12 zB13
  clear zB20 zB21 zB22 zB23 zB24 zB25 zB26 zB27 zB28
  refine (big_c a d S As cs K Ak ck _ (RS.out.kept HB1.out) (RK.out.kept HB1.out) hn hm).mono ?_
  rintro e w3 ⟨rfl, hb'⟩
  have HB1 := Lib.hid ((HB1.out).trans (hb'.mono (HB1.out).size))
  have B1 := Lib.hid ((B1.out).below hb' (B1.out).lt)
  have B2 := Lib.hid ((B2.out).below hb' (B2.out).lt)
  clear hb'
  rw [HG.out]
  obtain ⟨zB10, zB11, zB12, zB13⟩ := (B1.out).cells4
  obtain ⟨zB20, zB21, zB22, zB23, zB24, zB25, zB26, zB27, zB28⟩ := (B2.out).cells9
  go_wp2_with fail
  clear zB10 zB11 zB12 zB13
  clear zB20 zB21 zB22 zB23 zB24 zB25 zB26 zB27 zB28
  go_ret
  exact ⟨rfl, HB1.out⟩
set_option maxRecDepth 100000 in
set_option maxHeartbeats 6400000 in
theorem cnt_not (a d : Int) (S : List Int) (As : Option Addr) (cs : Nat) (K : List Bk) (Ak : Option Addr) (ck : Nat) (x1 : Int) (b : Bk) (w : World) (hS : ReadsI w As S) (hK : ReadsE EK w Ak K) (hn : S.length ≤ 9223372036854775807) (hm : K.length ≤ 9223372036854775807) (hg : bigB S.length K.length = false) (ho : okFl a d S K = false) :
    Calls Try.prog 7 #[flV a d (.slice As S.length cs) (.slice Ak K.length ck), .int .u16 x1, bkV b] w fun e w' => e = .returned (.bool true) ∧ Below w.heap.size w w' := by
  have RS := Lib.hid hS
  have RK := Lib.hid hK
  have HB := Lib.hid (Below.refl w.heap.size w)
  have HG := Lib.hid hg
  have HO := Lib.hid ho
  clear hS hK hg ho
  have HB1 := Lib.hid (Below.refl w.heap.size w)
  go_enter Try.func7, Try.ntmps7
  go_wp2_with fail
  have HB1 := Lib.hid (below_alloc_ (below_alloc_ (HB1.out) (.cells #[.int .i64 a, .int .i64 d, .slice As S.length cs, .slice Ak K.length ck] 25)) (.cells #[.int .i64 b.m, .bool b.g, .int .i64 b.x0, .int .i64 b.y0, .int .i64 b.x1, .int .i64 b.y1, .int .i64 b.d0, .int .i64 b.d1, .int .i64 b.d2] 40))
  have hzw : ((w.alloc (.cells #[.int .i64 a, .int .i64 d, .slice As S.length cs, .slice Ak K.length ck] 25)).alloc (.cells #[.int .i64 b.m, .bool b.g, .int .i64 b.x0, .int .i64 b.y0, .int .i64 b.x1, .int .i64 b.y1, .int .i64 b.d0, .int .i64 b.d1, .int .i64 b.d2] 40)).heap.size = w.heap.size + 2 := by simp only [World.size_alloc]
  have B1 := (Blk.new (w) 25 #[.int .i64 a, .int .i64 d, .slice As S.length cs, .slice Ak K.length ck]).alloc (.cells #[.int .i64 b.m, .bool b.g, .int .i64 b.x0, .int .i64 b.y0, .int .i64 b.x1, .int .i64 b.y1, .int .i64 b.d0, .int .i64 b.d1, .int .i64 b.d2] 40)
  skip
  have B1 := Lib.hid B1
  have B2 := Blk.new (w.alloc (.cells #[.int .i64 a, .int .i64 d, .slice As S.length cs, .slice Ak K.length ck] 25)) 40 #[.int .i64 b.m, .bool b.g, .int .i64 b.x0, .int .i64 b.y0, .int .i64 b.x1, .int .i64 b.y1, .int .i64 b.d0, .int .i64 b.d1, .int .i64 b.d2]
  rw [show (w.alloc (.cells #[.int .i64 a, .int .i64 d, .slice As S.length cs, .slice Ak K.length ck] 25)).heap.size = w.heap.size + 1 by simp only [World.size_alloc]] at B2
  have B2 := Lib.hid B2
  generalize (w.alloc (.cells #[.int .i64 a, .int .i64 d, .slice As S.length cs, .slice Ak K.length ck] 25)).alloc (.cells #[.int .i64 b.m, .bool b.g, .int .i64 b.x0, .int .i64 b.y0, .int .i64 b.x1, .int .i64 b.y1, .int .i64 b.d0, .int .i64 b.d1, .int .i64 b.d2] 40) = w1 at *
  clear hzw
  refine (first_c w1).mono ?_
  rintro e w2 ⟨rfl, hb'⟩
  have HB1 := Lib.hid ((HB1.out).trans (hb'.mono (HB1.out).size))
  have B1 := Lib.hid ((B1.out).below hb' (B1.out).lt)
  have B2 := Lib.hid ((B2.out).below hb' (B2.out).lt)
  clear hb'
  obtain ⟨zB10, zB11, zB12, zB13⟩ := (B1.out).cells4
  obtain ⟨zB20, zB21, zB22, zB23, zB24, zB25, zB26, zB27, zB28⟩ := (B2.out).cells9
  go_wp2_with fail
  clear zB10 zB11 zB12 zB13
  clear zB20 zB21 zB22 zB23 zB24 zB25 zB26 zB27 zB28
  refine (big_c a d S As cs K Ak ck _ (RS.out.kept HB1.out) (RK.out.kept HB1.out) hn hm).mono ?_
  rintro e w3 ⟨rfl, hb'⟩
  have HB1 := Lib.hid ((HB1.out).trans (hb'.mono (HB1.out).size))
  have B1 := Lib.hid ((B1.out).below hb' (B1.out).lt)
  have B2 := Lib.hid ((B2.out).below hb' (B2.out).lt)
  clear hb'
  rw [HG.out]
  obtain ⟨zB10, zB11, zB12, zB13⟩ := (B1.out).cells4
  obtain ⟨zB20, zB21, zB22, zB23, zB24, zB25, zB26, zB27, zB28⟩ := (B2.out).cells9
  go_wp2_with fail
  clear zB10 zB11 zB12 zB13
  clear zB20 zB21 zB22 zB23 zB24 zB25 zB26 zB27 zB28
  refine (fright_c a d S As cs K Ak ck _ (RS.out.kept HB1.out) (RK.out.kept HB1.out) hn hm).mono ?_
  rintro e w4 ⟨rfl, hb'⟩
  have HB1 := Lib.hid ((HB1.out).trans (hb'.mono (HB1.out).size))
  have B1 := Lib.hid ((B1.out).below hb' (B1.out).lt)
  have B2 := Lib.hid ((B2.out).below hb' (B2.out).lt)
  clear hb'
  rw [HO.out]
  obtain ⟨zB10, zB11, zB12, zB13⟩ := (B1.out).cells4
  obtain ⟨zB20, zB21, zB22, zB23, zB24, zB25, zB26, zB27, zB28⟩ := (B2.out).cells9
  go_wp2_with fail
  clear zB10 zB11 zB12 zB13
  clear zB20 zB21 zB22 zB23 zB24 zB25 zB26 zB27 zB28
  go_ret
  exact ⟨rfl, HB1.out⟩
set_option maxRecDepth 100000 in
set_option maxHeartbeats 6400000 in
theorem cnt_blk (a d : Int) (S : List Int) (As : Option Addr) (cs : Nat) (K : List Bk) (Ak : Option Addr) (ck : Nat) (x1 : Int) (b : Bk) (w : World) (hS : ReadsI w As S) (hK : ReadsE EK w Ak K) (hn : S.length ≤ 9223372036854775807) (hm : K.length ≤ 9223372036854775807) (hg : bigB S.length K.length = false) (ho : okFl a d S K = true) (hbk : okBk b = false) :
    Calls Try.prog 7 #[flV a d (.slice As S.length cs) (.slice Ak K.length ck), .int .u16 x1, bkV b] w fun e w' => e = .returned (.bool true) ∧ Below w.heap.size w w' := by
  have RS := Lib.hid hS
  have RK := Lib.hid hK
  have HB := Lib.hid (Below.refl w.heap.size w)
  have HG := Lib.hid hg
  have HO := Lib.hid ho
  have HBK := Lib.hid hbk
  clear hS hK hg ho hbk
  have HB1 := Lib.hid (Below.refl w.heap.size w)
  go_enter Try.func7, Try.ntmps7
  go_wp2_with fail
  have HB1 := Lib.hid (below_alloc_ (below_alloc_ (HB1.out) (.cells #[.int .i64 a, .int .i64 d, .slice As S.length cs, .slice Ak K.length ck] 25)) (.cells #[.int .i64 b.m, .bool b.g, .int .i64 b.x0, .int .i64 b.y0, .int .i64 b.x1, .int .i64 b.y1, .int .i64 b.d0, .int .i64 b.d1, .int .i64 b.d2] 40))
  have hzw : ((w.alloc (.cells #[.int .i64 a, .int .i64 d, .slice As S.length cs, .slice Ak K.length ck] 25)).alloc (.cells #[.int .i64 b.m, .bool b.g, .int .i64 b.x0, .int .i64 b.y0, .int .i64 b.x1, .int .i64 b.y1, .int .i64 b.d0, .int .i64 b.d1, .int .i64 b.d2] 40)).heap.size = w.heap.size + 2 := by simp only [World.size_alloc]
  have B1 := (Blk.new (w) 25 #[.int .i64 a, .int .i64 d, .slice As S.length cs, .slice Ak K.length ck]).alloc (.cells #[.int .i64 b.m, .bool b.g, .int .i64 b.x0, .int .i64 b.y0, .int .i64 b.x1, .int .i64 b.y1, .int .i64 b.d0, .int .i64 b.d1, .int .i64 b.d2] 40)
  skip
  have B1 := Lib.hid B1
  have B2 := Blk.new (w.alloc (.cells #[.int .i64 a, .int .i64 d, .slice As S.length cs, .slice Ak K.length ck] 25)) 40 #[.int .i64 b.m, .bool b.g, .int .i64 b.x0, .int .i64 b.y0, .int .i64 b.x1, .int .i64 b.y1, .int .i64 b.d0, .int .i64 b.d1, .int .i64 b.d2]
  rw [show (w.alloc (.cells #[.int .i64 a, .int .i64 d, .slice As S.length cs, .slice Ak K.length ck] 25)).heap.size = w.heap.size + 1 by simp only [World.size_alloc]] at B2
  have B2 := Lib.hid B2
  generalize (w.alloc (.cells #[.int .i64 a, .int .i64 d, .slice As S.length cs, .slice Ak K.length ck] 25)).alloc (.cells #[.int .i64 b.m, .bool b.g, .int .i64 b.x0, .int .i64 b.y0, .int .i64 b.x1, .int .i64 b.y1, .int .i64 b.d0, .int .i64 b.d1, .int .i64 b.d2] 40) = w1 at *
  clear hzw
  refine (first_c w1).mono ?_
  rintro e w2 ⟨rfl, hb'⟩
  have HB1 := Lib.hid ((HB1.out).trans (hb'.mono (HB1.out).size))
  have B1 := Lib.hid ((B1.out).below hb' (B1.out).lt)
  have B2 := Lib.hid ((B2.out).below hb' (B2.out).lt)
  clear hb'
  obtain ⟨zB10, zB11, zB12, zB13⟩ := (B1.out).cells4
  obtain ⟨zB20, zB21, zB22, zB23, zB24, zB25, zB26, zB27, zB28⟩ := (B2.out).cells9
  go_wp2_with fail
  clear zB10 zB11 zB12 zB13
  clear zB20 zB21 zB22 zB23 zB24 zB25 zB26 zB27 zB28
  refine (big_c a d S As cs K Ak ck _ (RS.out.kept HB1.out) (RK.out.kept HB1.out) hn hm).mono ?_
  rintro e w3 ⟨rfl, hb'⟩
  have HB1 := Lib.hid ((HB1.out).trans (hb'.mono (HB1.out).size))
  have B1 := Lib.hid ((B1.out).below hb' (B1.out).lt)
  have B2 := Lib.hid ((B2.out).below hb' (B2.out).lt)
  clear hb'
  rw [HG.out]
  obtain ⟨zB10, zB11, zB12, zB13⟩ := (B1.out).cells4
  obtain ⟨zB20, zB21, zB22, zB23, zB24, zB25, zB26, zB27, zB28⟩ := (B2.out).cells9
  go_wp2_with fail
  clear zB10 zB11 zB12 zB13
  clear zB20 zB21 zB22 zB23 zB24 zB25 zB26 zB27 zB28
  refine (fright_c a d S As cs K Ak ck _ (RS.out.kept HB1.out) (RK.out.kept HB1.out) hn hm).mono ?_
  rintro e w4 ⟨rfl, hb'⟩
  have HB1 := Lib.hid ((HB1.out).trans (hb'.mono (HB1.out).size))
  have B1 := Lib.hid ((B1.out).below hb' (B1.out).lt)
  have B2 := Lib.hid ((B2.out).below hb' (B2.out).lt)
  clear hb'
  rw [HO.out]
  obtain ⟨zB10, zB11, zB12, zB13⟩ := (B1.out).cells4
  obtain ⟨zB20, zB21, zB22, zB23, zB24, zB25, zB26, zB27, zB28⟩ := (B2.out).cells9
  go_wp2_with fail
  clear zB10 zB11 zB12 zB13
  clear zB20 zB21 zB22 zB23 zB24 zB25 zB26 zB27 zB28
  refine (rblock_c b _).mono ?_
  rintro e w5 ⟨rfl, hb'⟩
  have HB1 := Lib.hid ((HB1.out).trans (hb'.mono (HB1.out).size))
  have B1 := Lib.hid ((B1.out).below hb' (B1.out).lt)
  have B2 := Lib.hid ((B2.out).below hb' (B2.out).lt)
  clear hb'
  rw [HBK.out]
  obtain ⟨zB10, zB11, zB12, zB13⟩ := (B1.out).cells4
  obtain ⟨zB20, zB21, zB22, zB23, zB24, zB25, zB26, zB27, zB28⟩ := (B2.out).cells9
  go_wp2_with fail
  clear zB10 zB11 zB12 zB13
  clear zB20 zB21 zB22 zB23 zB24 zB25 zB26 zB27 zB28
  go_ret
  exact ⟨rfl, HB1.out⟩
set_option maxRecDepth 100000 in
set_option maxHeartbeats 6400000 in
theorem cnt_yes (a d : Nat) (S : List Int) (As : Option Addr) (cs : Nat) (K : List Bk) (Ak : Option Addr) (ck : Nat) (X : Nat) (hX : X ≤ 65535) (b : Bk) (w : World) (hS : ReadsI w As S) (hK : ReadsE EK w Ak K) (hn : S.length ≤ 9223372036854775807) (hm : K.length ≤ 9223372036854775807) (hg : bigB S.length K.length = false) (ho : okFl a d S K = true) (hbk : okBk b = true) :
    Calls Try.prog 7 #[flV a d (.slice As S.length cs) (.slice Ak K.length ck), .int .u16 (X : Int), bkV b] w fun e w' => e = .returned (.bool true) ∧ Below w.heap.size w w' := by
  have RS := Lib.hid hS
  have RK := Lib.hid hK
  have HB := Lib.hid (Below.refl w.heap.size w)
  have HG := Lib.hid hg
  have HO := Lib.hid ho
  have HBK := Lib.hid hbk
  have hg1 := bigB_f hg
  obtain ⟨A, D, ea, ed, a1, a2, d1, d2, hl, hkl, hS1, hK1⟩ := okFl_nat ho
  have HL := Lib.hid hl
  have HKL := Lib.hid hkl
  have HS1 := Lib.hid hS1
  have ea := Int.ofNat.inj ea
  have ed := Int.ofNat.inj ed
  subst ea
  subst ed
  have sp : 0 < S.length := by rw [hl]; exact Nat.mul_pos a1 d1
  have hu := unsL_length a S
  obtain ⟨N, hN⟩ : ∃ N, N = cntU S S.length := ⟨_, rfl⟩
  have n1 : 0 < N := by rw [hN]; exact cntU_pos sp
  have n2 : N ≤ 1600 := by have := cntU_le hS1 (Nat.le_refl S.length); omega
  obtain ⟨us, hus⟩ : ∃ us, us = unsL a S := ⟨_, rfl⟩
  have hul : us.length = N := by rw [hus, hu, hN]
  obtain ⟨j, hj⟩ : ∃ j, j = X % N := ⟨_, rfl⟩
  have j1 : j < N := by rw [hj]; exact Nat.mod_lt _ n1
  have hjl : j < us.length := by omega
  have hmem : us[j]'hjl ∈ unsL a S := by rw [← hus]; exact List.getElem_mem _
  obtain ⟨ux, uy, s, eu, s1, s4, hux, huy⟩ := unsL_in (a := a) (d := d) a1 hl hS1 hmem
  have HUF := Lib.hid (show unsF (a : Int) (d : Int) S K = us by unfold unsF; rw [if_pos ho, hus]; rfl)
  have HUL := Lib.hid hul
  have HN := Lib.hid hN
  have HEU := Lib.hid eu
  have W0 : IntKind.i64.wrap (X : Int) = (X : Int) := IntWalk.i64_in _ (by omega)
  have W1 : (X : Int).tmod (N : Int) = (j : Int) := by rw [hj, Int.tmod_eq_emod_of_nonneg (by omega)]; exact (Int.natCast_emod _ _).symm
  have in1 := inFu_of s1 hux huy
  have HSB := Lib.hid (show setB a d S K ⟨ux, uy, s⟩ b = true by unfold setB; rw [ho, in1, hbk]; rfl)
  obtain ⟨K', hK'⟩ : ∃ K', K' = layL (4 * a) K ⟨ux, uy, s⟩ b := ⟨_, rfl⟩
  have HSK := Lib.hid (show setK a d S K ⟨ux, uy, s⟩ b = K' by unfold setK; rw [if_pos HSB.out, hK']; rfl)
  have HLK := Lib.hid (show K'.length = K.length by rw [hK', layL_length])
  have HAT := Lib.hid (show ∀ k, k < s * s → atB a d S K' ((ux + k % s : Nat) : Int) ((uy + k / s : Nat) : Int) = true ∧ atK a d S K' ((ux + k % s : Nat) : Int) ((uy + k / s : Nat) : Int) = b from fun k hk => by rw [hK']; exact at_laid ho hbk s1 hux huy hkl hk)
  have hm' : K'.length ≤ 9223372036854775807 := by rw [HLK.out]; exact hm
  clear hl hkl hS1 hK1 hu hN hus hj hmem eu in1 hK' hul
  clear hS hK hg ho hbk
  have HB1 := Lib.hid (Below.refl w.heap.size w)
  go_enter Try.func7, Try.ntmps7
  go_wp2_with fail
  have HB1 := Lib.hid (below_alloc_ (below_alloc_ (HB1.out) (.cells #[.int .i64 a, .int .i64 d, .slice As S.length cs, .slice Ak K.length ck] 25)) (.cells #[.int .i64 b.m, .bool b.g, .int .i64 b.x0, .int .i64 b.y0, .int .i64 b.x1, .int .i64 b.y1, .int .i64 b.d0, .int .i64 b.d1, .int .i64 b.d2] 40))
  have hzw : ((w.alloc (.cells #[.int .i64 a, .int .i64 d, .slice As S.length cs, .slice Ak K.length ck] 25)).alloc (.cells #[.int .i64 b.m, .bool b.g, .int .i64 b.x0, .int .i64 b.y0, .int .i64 b.x1, .int .i64 b.y1, .int .i64 b.d0, .int .i64 b.d1, .int .i64 b.d2] 40)).heap.size = w.heap.size + 2 := by simp only [World.size_alloc]
  have B1 := (Blk.new (w) 25 #[.int .i64 a, .int .i64 d, .slice As S.length cs, .slice Ak K.length ck]).alloc (.cells #[.int .i64 b.m, .bool b.g, .int .i64 b.x0, .int .i64 b.y0, .int .i64 b.x1, .int .i64 b.y1, .int .i64 b.d0, .int .i64 b.d1, .int .i64 b.d2] 40)
  skip
  have B1 := Lib.hid B1
  have B2 := Blk.new (w.alloc (.cells #[.int .i64 a, .int .i64 d, .slice As S.length cs, .slice Ak K.length ck] 25)) 40 #[.int .i64 b.m, .bool b.g, .int .i64 b.x0, .int .i64 b.y0, .int .i64 b.x1, .int .i64 b.y1, .int .i64 b.d0, .int .i64 b.d1, .int .i64 b.d2]
  rw [show (w.alloc (.cells #[.int .i64 a, .int .i64 d, .slice As S.length cs, .slice Ak K.length ck] 25)).heap.size = w.heap.size + 1 by simp only [World.size_alloc]] at B2
  have B2 := Lib.hid B2
  generalize (w.alloc (.cells #[.int .i64 a, .int .i64 d, .slice As S.length cs, .slice Ak K.length ck] 25)).alloc (.cells #[.int .i64 b.m, .bool b.g, .int .i64 b.x0, .int .i64 b.y0, .int .i64 b.x1, .int .i64 b.y1, .int .i64 b.d0, .int .i64 b.d1, .int .i64 b.d2] 40) = w1 at *
  clear hzw
  refine (first_c w1).mono ?_
  rintro e w2 ⟨rfl, hb'⟩
  have HB1 := Lib.hid ((HB1.out).trans (hb'.mono (HB1.out).size))
  have B1 := Lib.hid ((B1.out).below hb' (B1.out).lt)
  have B2 := Lib.hid ((B2.out).below hb' (B2.out).lt)
  clear hb'
  obtain ⟨zB10, zB11, zB12, zB13⟩ := (B1.out).cells4
  obtain ⟨zB20, zB21, zB22, zB23, zB24, zB25, zB26, zB27, zB28⟩ := (B2.out).cells9
  go_wp2_with fail
  clear zB10 zB11 zB12 zB13
  clear zB20 zB21 zB22 zB23 zB24 zB25 zB26 zB27 zB28
  refine (big_c a d S As cs K Ak ck _ (RS.out.kept HB1.out) (RK.out.kept HB1.out) hn hm).mono ?_
  rintro e w3 ⟨rfl, hb'⟩
  have HB1 := Lib.hid ((HB1.out).trans (hb'.mono (HB1.out).size))
  have B1 := Lib.hid ((B1.out).below hb' (B1.out).lt)
  have B2 := Lib.hid ((B2.out).below hb' (B2.out).lt)
  clear hb'
  rw [HG.out]
  obtain ⟨zB10, zB11, zB12, zB13⟩ := (B1.out).cells4
  obtain ⟨zB20, zB21, zB22, zB23, zB24, zB25, zB26, zB27, zB28⟩ := (B2.out).cells9
  go_wp2_with fail
  clear zB10 zB11 zB12 zB13
  clear zB20 zB21 zB22 zB23 zB24 zB25 zB26 zB27 zB28
  refine (fright_c a d S As cs K Ak ck _ (RS.out.kept HB1.out) (RK.out.kept HB1.out) hn hm).mono ?_
  rintro e w4 ⟨rfl, hb'⟩
  have HB1 := Lib.hid ((HB1.out).trans (hb'.mono (HB1.out).size))
  have B1 := Lib.hid ((B1.out).below hb' (B1.out).lt)
  have B2 := Lib.hid ((B2.out).below hb' (B2.out).lt)
  clear hb'
  rw [HO.out]
  obtain ⟨zB10, zB11, zB12, zB13⟩ := (B1.out).cells4
  obtain ⟨zB20, zB21, zB22, zB23, zB24, zB25, zB26, zB27, zB28⟩ := (B2.out).cells9
  go_wp2_with fail
  clear zB10 zB11 zB12 zB13
  clear zB20 zB21 zB22 zB23 zB24 zB25 zB26 zB27 zB28
  refine (rblock_c b _).mono ?_
  rintro e w5 ⟨rfl, hb'⟩
  have HB1 := Lib.hid ((HB1.out).trans (hb'.mono (HB1.out).size))
  have B1 := Lib.hid ((B1.out).below hb' (B1.out).lt)
  have B2 := Lib.hid ((B2.out).below hb' (B2.out).lt)
  clear hb'
  rw [HBK.out]
  obtain ⟨zB10, zB11, zB12, zB13⟩ := (B1.out).cells4
  obtain ⟨zB20, zB21, zB22, zB23, zB24, zB25, zB26, zB27, zB28⟩ := (B2.out).cells9
  go_upto_region 5 with fail
  clear zB10 zB11 zB12 zB13
  clear zB20 zB21 zB22 zB23 zB24 zB25 zB26 zB27 zB28
  skip
  obtain ⟨zB10, zB11, zB12, zB13⟩ := (B1.out).cells4
  obtain ⟨zB20, zB21, zB22, zB23, zB24, zB25, zB26, zB27, zB28⟩ := (B2.out).cells9
  go_upto_region 7 with fail
  clear zB10 zB11 zB12 zB13
  clear zB20 zB21 zB22 zB23 zB24 zB25 zB26 zB27 zB28
  go_loop [7, 33] (fun n v => ∃ k : Nat, k ≤ S.length ∧ v = .int .i64 k ∧ n = .int .i64 (cntU S k : Int)) (fun _ v => S.length - (intOf v).toNat)
  case atStart => exact ⟨0, Nat.zero_le _, rfl, rfl⟩
  case round =>
    obtain ⟨k, hk, rfl, rfl⟩ := hrel
    by_cases hlt : k < S.length
    · skip
      obtain ⟨ad, rfl, l1, z0⟩ := (RS.out.kept HB1.out).rd_ hlt
      have i1 : (0 : Int) ≤ (k : Int) := by omega
      have i2 : (k : Int) < (S.length : Int) := by omega
      have es := HS1.out k hlt
      obtain ⟨q, hq⟩ : ∃ q, q = rdn S k := ⟨_, rfl⟩
      rw [← hq] at z0 es
      have hc := cntU_le HS1.out (Nat.le_of_lt hlt)
      have hx := cntU_next hq es.1 es.2
      obtain ⟨cn, hcn⟩ : ∃ c, c = cntU S k := ⟨_, rfl⟩
      rw [← hcn] at hc hx ⊢
      clear l1 hq es hcn
      rcases hx with ⟨rfl, hx⟩ | ⟨rfl, hx⟩ | ⟨rfl, hx⟩
      · have HX := Lib.hid hx
        clear hx
        have W5 : IntKind.i64.wrap ((cn : Int) + 1) = (cn : Int) + 1 := IntWalk.i64_in _ (by omega)
        go_wp2_with fail
        go_round
        case rel => exact ⟨k + 1, by omega, by go_num, by rw [HX.out]; go_num⟩
        case measure => simp [intOf]; omega
      · have HX := Lib.hid hx
        clear hx
        have W5 : IntKind.i64.wrap ((cn : Int) + 4) = (cn : Int) + 4 := IntWalk.i64_in _ (by omega)
        go_wp2_with fail
        go_round
        case rel => exact ⟨k + 1, by omega, by go_num, by rw [HX.out]; go_num⟩
        case measure => simp [intOf]; omega
      · have HX := Lib.hid hx
        clear hx
        have W5 : IntKind.i64.wrap ((cn : Int) + 16) = (cn : Int) + 16 := IntWalk.i64_in _ (by omega)
        go_wp2_with fail
        go_round
        case rel => exact ⟨k + 1, by omega, by go_num, by rw [HX.out]; go_num⟩
        case measure => simp [intOf]; omega
    · skip
      obtain rfl : k = S.length := by omega
      rw [← HN.out]
      clear hk hlt
      obtain ⟨zB10, zB11, zB12, zB13⟩ := (B1.out).cells4
      obtain ⟨zB20, zB21, zB22, zB23, zB24, zB25, zB26, zB27, zB28⟩ := (B2.out).cells9
      go_wp2_with fail
      clear zB10 zB11 zB12 zB13
      clear zB20 zB21 zB22 zB23 zB24 zB25 zB26 zB27 zB28
      have h9 := flist_c a d S As cs K Ak ck w5 (RS.out.kept HB1.out) (RK.out.kept HB1.out) hn hm
      rw [HUF.out] at h9
      refine h9.mono ?_
      rintro e w6 ⟨v, rfl, hu, hb'⟩
      clear h9
      have HB1 := Lib.hid ((HB1.out).trans (hb'.mono (HB1.out).size))
      have B1 := Lib.hid ((B1.out).below hb' (B1.out).lt)
      have B2 := Lib.hid ((B2.out).below hb' (B2.out).lt)
      obtain ⟨A4, c4, rfl, hr⟩ := hu.slice
      have RU := Lib.hid hr
      clear hr hu hb'
      rw [HUL.out]
      have hne1 : ((N : Int) != (N : Int)) = false := by simp
      go_upto_region 14 with fail
      clear hne1
      have RK := Lib.hid (RK.out.kept HB1.out)
      have RS := Lib.hid (RS.out.kept HB1.out)
      have HB := Lib.hid (HB.out.trans (HB1.out.mono HB.out.size))
      have HB1 := Lib.hid (Below.refl w6.heap.size w6)
      obtain ⟨zB10, zB11, zB12, zB13⟩ := (B1.out.below HB1.out B1.out.lt).cells4
      obtain ⟨zB20, zB21, zB22, zB23, zB24, zB25, zB26, zB27, zB28⟩ := (B2.out.below HB1.out B2.out.lt).cells9
      have kq0 := cell_regrown zB10
      have kq1 := cell_regrown zB11
      have kq2 := cell_regrown zB12
      have kq3 := cell_regrown zB13
      clear zB10 zB11 zB12 zB13
      refine wp_mono_tail 12 [Brings.one ?b1_0, Brings.one ?b2_1, Brings.one ?b3_2, Brings.one ?b4_3, Brings.one ?b5_4, Brings.one ?b6_5, Brings.litE EK w6.heap.size, Brings.one ?b7_7, Brings.one ?b8_8, Brings.ownE EK w6.heap.size (fun v => v) (K), Brings.ownE EK w6.heap.size (fun v => flV a d (.slice As S.length cs) v) (K), Brings.box 25 #[.int .i64 0, .int .i64 0, .slice none 0 0, .slice none 0 0]] (by kernel_rfl) (by kernel_rfl) ?_
      rotate_left 8
      simp only [List.take_succ_cons, List.take_zero, List.drop_succ_cons, List.drop_zero]
      refine wpL_take (k' := 1) rfl (by kernel_rfl) (fun d os => ?t9) ?_
      case t9 => (unfold bringsAt; go_simp; first | with_reducible exact take_one | exact take_one)
      try simp only [Act.put, List.setIfInBounds_toArray, List.set_cons_zero, List.set_cons_succ]
      refine wpL_take (k' := 2) rfl (by kernel_rfl) (fun d os => ?t10) ?_
      case t10 => (unfold bringsAt; go_simp; first | with_reducible exact take_one | exact take_one)
      try simp only [Act.put, List.setIfInBounds_toArray, List.set_cons_zero, List.set_cons_succ]
      refine wpL_take (k' := 3) rfl (by kernel_rfl) (fun d os => ?t11) ?_
      case t11 => (unfold bringsAt; go_simp; first | with_reducible exact take_one | exact take_one)
      try simp only [Act.put, List.setIfInBounds_toArray, List.set_cons_zero, List.set_cons_succ]
      refine wpL_take (k' := 4) rfl (by kernel_rfl) (fun d os => ?t12) ?_
      case t12 => (unfold bringsAt; go_simp; first | with_reducible exact take_one | exact take_one)
      try simp only [Act.put, List.setIfInBounds_toArray, List.set_cons_zero, List.set_cons_succ]
      refine wpL_take (k' := 5) rfl (by kernel_rfl) (fun d os => ?t13) ?_
      case t13 => (unfold bringsAt; go_simp; first | with_reducible exact take_one | exact take_one)
      try simp only [Act.put, List.setIfInBounds_toArray, List.set_cons_zero, List.set_cons_succ]
      refine wpL_take (k' := 6) rfl (by kernel_rfl) (fun d os => ?t14) ?_
      case t14 => (unfold bringsAt; go_simp; first | with_reducible exact take_one | exact take_one)
      try simp only [Act.put, List.setIfInBounds_toArray, List.set_cons_zero, List.set_cons_succ]
      refine wpL_litE (k' := 7) rfl (by kernel_rfl) (fun wz hz hd => ?t15) (fun g6 => ?_)
      case t15 =>
        unfold bringsAt
        go_simp
        exact lit_bringsE hz.size
      try simp only [Act.put, List.setIfInBounds_toArray, List.set_cons_zero, List.set_cons_succ]
      refine wpL_take (k' := 8) rfl (by kernel_rfl) (fun d os => ?t16) ?_
      case t16 => (unfold bringsAt; go_simp; first | with_reducible exact take_one | exact take_one)
      try simp only [Act.put, List.setIfInBounds_toArray, List.set_cons_zero, List.set_cons_succ]
      refine wpL_take (k' := 9) rfl (by kernel_rfl) (fun d os => ?t17) ?_
      case t17 => (unfold bringsAt; go_simp; first | with_reducible exact take_one | exact take_one)
      try simp only [Act.put, List.setIfInBounds_toArray, List.set_cons_zero, List.set_cons_succ]
      refine wpL_ownE (k' := 10) rfl (by kernel_rfl) (fun wz hz hd => ?t18) (fun A2 c2 => ?_)
      case t18 =>
        have HZ := Lib.hid (HB1.out.trans (hz.mono HB1.out.size))
        have L6 := Lib.hid (show OwnE EK wz w6.heap.size (.slice (some ⟨g6, 0, none⟩) 0 0) [] from hd.get 6 (by kernel_rfl))
        exact at_append_litE (.tmp 55) (.tmp 57) 23 rfl Try.underlying23 rfl rfl L6.out (RK.out.kept HZ.out) (by omega) hz.size
      try simp only [Act.put, List.setIfInBounds_toArray, List.set_cons_zero, List.set_cons_succ]
      refine wpL_ownE (k' := 11) rfl (by kernel_rfl) (fun wz hz hd => ?t19) (fun A3 c3 => ?_)
      case t19 =>
        have HZ := Lib.hid (HB1.out.trans (hz.mono HB1.out.size))
        have O9 := Lib.hid (show OwnE EK wz w6.heap.size (.slice A2 (K).length c2) (K) from hd.get 9 (by kernel_rfl))
        unfold bringsAt
        go_simp
        exact take_brings (A2, c2) rfl O9.out rfl
      try simp only [Act.put, List.setIfInBounds_toArray, List.set_cons_zero, List.set_cons_succ]
      refine wpL_box (k' := 12) rfl (by kernel_rfl) (fun wz hz hd => ?t20) (fun b11 => ?_)
      case t20 =>
        unfold bringsAt
        go_simp
        exact alloc_box
      try simp only [Act.put, List.setIfInBounds_toArray, List.set_cons_zero, List.set_cons_succ]
      refine wpL_nil ?_
      intro w7 hH
      have hb' := hH.below
      clear kq0 kq1 kq2 kq3
      have HB1 := Lib.hid ((HB1.out).trans (hb'.mono (HB1.out).size))
      have L6 := Lib.hid (show OwnE EK w7 w6.heap.size (.slice (some ⟨g6, 0, none⟩) 0 0) [] from hH.facts 6)
      have O9 := Lib.hid (show OwnE EK w7 w6.heap.size (.slice A2 (K).length c2) (K) from hH.facts 9)
      have O10 := Lib.hid (show OwnE EK w7 w6.heap.size (.slice A3 (K).length c3) (K) from hH.facts 10)
      have B3 := Lib.hid (show Blk w7 b11 25 #[.int .i64 0, .int .i64 0, .slice none 0 0, .slice none 0 0] from hH.facts 11)
      have HGB3 := Lib.hid (show w6.heap.size ≤ b11 from (hH.lt 11 _ rfl).1)
      clear hH hb'
      obtain ⟨f0, f1, f2, f3⟩ := B3.out.frozens
      obtain ⟨q0, q1, q2, q3⟩ := B3.out.cells4
      go_upto_region 15 with fail
      clear f0 f1 f2 f3 q0 q1 q2 q3
      have lb := HGB3
      have O10 := Lib.hid ((((O10.out.set_ (i := 0) B3.out (by decide) (.int .i64 (a : Int))).set_ (i := 1) (B3.out.set_ 0 (.int .i64 (a : Int))) (by decide) (.int .i64 (d : Int))).set_ (i := 2) ((B3.out.set_ 0 (.int .i64 (a : Int))).set_ 1 (.int .i64 (d : Int))) (by decide) (.slice As S.length cs)).set_ (i := 3) (((B3.out.set_ 0 (.int .i64 (a : Int))).set_ 1 (.int .i64 (d : Int))).set_ 2 (.slice As S.length cs)) (by decide) (.slice A3 K.length c3))
      have HB1 := Lib.hid ((((HB1.out.setCell (p := ⟨b11, 0, none⟩) lb (.int .i64 (a : Int))).setCell (p := ⟨b11, 1, none⟩) lb (.int .i64 (d : Int))).setCell (p := ⟨b11, 2, none⟩) lb (.slice As S.length cs)).setCell (p := ⟨b11, 3, none⟩) lb (.slice A3 K.length c3))
      have B3 := Lib.hid (ret_four' B3.out (.int .i64 (a : Int)) (.int .i64 (d : Int)) (.slice As S.length cs) (.slice A3 K.length c3))
      clear lb HGB3 O9 L6
      generalize (((w7.setCell ⟨b11, 0, none⟩ (.int .i64 (a : Int))).setCell ⟨b11, 1, none⟩ (.int .i64 (d : Int))).setCell ⟨b11, 2, none⟩ (.slice As S.length cs)).setCell ⟨b11, 3, none⟩ (.slice A3 K.length c3) = w8 at *
      obtain ⟨ad, hA4, l1, y0, y1, y2⟩ := (RU.out.kept HB1.out).un hjl
      subst hA4
      rw [HEU.out] at y0 y1 y2
      dsimp only at y0 y1 y2
      have i1 : (0 : Int) ≤ (j : Int) := by omega
      have i2 : (j : Int) < (N : Int) := by omega
      have i3 : (0 : Int) < (N : Int) := by omega
      clear l1
      go_upto_region 16 with fail
      clear y0 y1 y2 i1 i2 i3
      have HB1 := Lib.hid (below_alloc_ (HB1.out) (.cells #[.int .i64 (ux : Int), .int .i64 (uy : Int), .int .i64 (s : Int)] 34))
      have O10 := Lib.hid ((O10.out).alloc (.cells #[.int .i64 (ux : Int), .int .i64 (uy : Int), .int .i64 (s : Int)] 34))
      have B3 := Lib.hid ((B3.out).alloc (.cells #[.int .i64 (ux : Int), .int .i64 (uy : Int), .int .i64 (s : Int)] 34))
      have hzw : (w8.alloc (.cells #[.int .i64 (ux : Int), .int .i64 (uy : Int), .int .i64 (s : Int)] 34)).heap.size = w8.heap.size + 1 := by simp only [World.size_alloc]
      have B4 := Blk.new (w8) 34 #[.int .i64 (ux : Int), .int .i64 (uy : Int), .int .i64 (s : Int)]
      skip
      have B4 := Lib.hid B4
      generalize w8.alloc (.cells #[.int .i64 (ux : Int), .int .i64 (uy : Int), .int .i64 (s : Int)] 34) = w9 at *
      clear hzw
      obtain ⟨zB20, zB21, zB22, zB23, zB24, zB25, zB26, zB27, zB28⟩ := (B2.out.below HB1.out B2.out.lt).cells9
      obtain ⟨zB30, zB31, zB32, zB33⟩ := (B3.out).cells4
      obtain ⟨zB40, zB41, zB42⟩ := (B4.out).cells3
      go_wp2_with fail
      clear zB20 zB21 zB22 zB23 zB24 zB25 zB26 zB27 zB28
      clear zB30 zB31 zB32 zB33
      clear zB40 zB41 zB42
      have h9 := fset_c a d S As cs K (.slice A3 K.length c3) _ ⟨ux, uy, s⟩ b w9 (RS.out.kept HB1.out) O10.out hn
      rw [HSB.out, HSK.out] at h9
      refine h9.mono ?_
      rintro e w10 ⟨rfl, ho, hg⟩
      clear h9
      have HB1 := Lib.hid (O10.out.belowB HB1.out (Nat.le_refl _) hg)
      have B3 := Lib.hid (B3.out.appE O10.out (by decide) hg)
      have B4 := Lib.hid (B4.out.appE O10.out (by decide) hg)
      have O10 := Lib.hid ho
      clear ho hg
      have B1 := Lib.hid (B1.out.below HB1.out B1.out.lt)
      have B2 := Lib.hid (B2.out.below HB1.out B2.out.lt)
      have RK := Lib.hid (RK.out.kept HB1.out)
      have RS := Lib.hid (RS.out.kept HB1.out)
      have RU := Lib.hid (RU.out.kept HB1.out)
      have HB := Lib.hid (HB.out.trans (HB1.out.mono HB.out.size))
      have HB1 := Lib.hid (Below.refl w10.heap.size w10)
      have W6 : IntKind.i64.wrap ((s : Int) * (s : Int)) = ((s * s : Nat) : Int) := by rw [← Int.natCast_mul]; exact IntWalk.i64_in _ (by have := Nat.mul_le_mul s4 s4; omega)
      obtain ⟨ss, hss⟩ : ∃ q, q = s * s := ⟨_, rfl⟩
      rw [← hss] at W6 HAT
      have HKB := Lib.hid (show ∀ k, k < ss → k < 4611686018427387904 from fun k hk => by have := Nat.mul_le_mul s4 s4; omega)
      clear hss
      skip
      obtain ⟨zB20, zB21, zB22, zB23, zB24, zB25, zB26, zB27, zB28⟩ := (B2.out.below HB1.out B2.out.lt).cells9
      obtain ⟨zB30, zB31, zB32, zB33⟩ := (B3.out.below HB1.out B3.out.lt).cells4
      obtain ⟨zB40, zB41, zB42⟩ := (B4.out.below HB1.out B4.out.lt).cells3
      go_upto_region 19 with fail
      clear zB20 zB21 zB22 zB23 zB24 zB25 zB26 zB27 zB28
      clear zB30 zB31 zB32 zB33
      clear zB40 zB41 zB42
      go_loopw [77] (fun v wr => ∃ k : Nat, k ≤ ss ∧ v = .int .i64 k ∧ Below w10.heap.size w10 wr) (fun v _ => ss - (intOf v).toNat)
      case atStart => exact ⟨0, Nat.zero_le _, rfl, HB1.out⟩
      case round =>
    clear HB1
    obtain ⟨k, hk, rfl, hb⟩ := hrel
    have HB1 := Lib.hid hb
    obtain ⟨wo, ewo⟩ : ∃ wo, wo = wr := ⟨_, rfl⟩
    subst ewo
    clear hb
    by_cases hlt : k < ss
    · skip
      have hat := HAT.out k hlt
      have i0 : (0 : Int) ≤ (k : Int) := by omega
      obtain ⟨p, hp⟩ : ∃ p, p = k % s := ⟨_, rfl⟩
      obtain ⟨q, hq⟩ : ∃ q, q = k / s := ⟨_, rfl⟩
      rw [← hp, ← hq] at hat
      have hp1 : p < s := by rw [hp]; exact Nat.mod_lt _ s1
      have hq1 : q ≤ k := by rw [hq]; exact Nat.div_le_self _ _
      have hs1 : ¬ s = 0 := by omega
      have hk1 : k < 4611686018427387904 := HKB.out k hlt
      have F1 : (k : Int).tmod (s : Int) = (p : Int) := by rw [Int.tmod_eq_emod_of_nonneg i0, hp]; exact (Int.natCast_emod _ _).symm
      have F2 : (k : Int).tdiv (s : Int) = (q : Int) := by rw [Int.tdiv_eq_ediv_of_nonneg i0, hq]; exact (Int.natCast_ediv _ _).symm
      have F3 : IntKind.i64.wrap ((ux : Int) + (p : Int)) = ((ux + p : Nat) : Int) := by rw [← Int.natCast_add]; exact IntWalk.i64_in _ (by omega)
      have F4 : IntKind.i64.wrap ((uy : Int) + (q : Int)) = ((uy + q : Nat) : Int) := by rw [← Int.natCast_add]; exact IntWalk.i64_in _ (by omega)
      have F5 : IntKind.i64.wrap (q : Int) = (q : Int) := IntWalk.i64_in _ (by omega)
      have HA1 := Lib.hid hat.1
      have HA2 := Lib.hid hat.2
      obtain ⟨ex, hex⟩ : ∃ e : Int, e = ((ux + p : Nat) : Int) := ⟨_, rfl⟩
      obtain ⟨ey, hey⟩ : ∃ e : Int, e = ((uy + q : Nat) : Int) := ⟨_, rfl⟩
      rw [← hex] at F3 HA1 HA2
      rw [← hey] at F4 HA1 HA2
      clear hat hp hq hex hey hp1 hq1
      obtain ⟨zB20, zB21, zB22, zB23, zB24, zB25, zB26, zB27, zB28⟩ := (B2.out.below HB1.out B2.out.lt).cells9
      obtain ⟨zB30, zB31, zB32, zB33⟩ := (B3.out.below HB1.out B3.out.lt).cells4
      obtain ⟨zB40, zB41, zB42⟩ := (B4.out.below HB1.out B4.out.lt).cells3
      go_upto_region 21 with fail
      clear zB20 zB21 zB22 zB23 zB24 zB25 zB26 zB27 zB28
      clear zB30 zB31 zB32 zB33
      clear zB40 zB41 zB42
      have HFA := Lib.hid (show ∀ X : World, ReadsI X As S → ReadsE EK X A3 K' → Calls Try.prog 18 #[flV a d (.slice As S.length cs) (.slice A3 K.length c3), .int .i64 ex, .int .i64 ey] X fun e w' => e = .returned (.tuple #[bkV b, .bool true]) ∧ Below X.heap.size X w' from fun X q1 q2 => by have h9 := fat_c a d S As cs K' A3 c3 ex ey X q1 q2 hn hm'; rw [HA1.out, HA2.out, HLK.out] at h9; exact h9)
      have HB1 := Lib.hid ((HB1.out).drew)
      refine wp_region_held_drew (S := (fun w' => w'.cell? ⟨b11, 0, none⟩ = some (.int .i64 (a : Int)) ∧ w'.cell? ⟨b11, 1, none⟩ = some (.int .i64 (d : Int)) ∧ w'.cell? ⟨b11, 2, none⟩ = some (.slice As S.length cs) ∧ w'.cell? ⟨b11, 3, none⟩ = some (.slice A3 K.length c3) ∧ w'.cell? ⟨w8.heap.size, 0, none⟩ = some (.int .i64 (ux : Int)) ∧ w'.cell? ⟨w8.heap.size, 1, none⟩ = some (.int .i64 (uy : Int)) ∧ w'.cell? ⟨w8.heap.size, 2, none⟩ = some (.int .i64 (s : Int)))) (by kernel_rfl) ?hS0 (fun hHeld => ?_)
      case hS0 => exact ⟨(B3.out.below HB1.out B3.out.lt).cell 0, (B3.out.below HB1.out B3.out.lt).cell 1, (B3.out.below HB1.out B3.out.lt).cell 2, (B3.out.below HB1.out B3.out.lt).cell 3, (B4.out.below HB1.out B4.out.lt).cell 0, (B4.out.below HB1.out B4.out.lt).cell 1, (B4.out.below HB1.out B4.out.lt).cell 2⟩
      refine wpAnyH_take (i := 0) (oi := ⟨some 81, _, _, _, _, _⟩) (v := ?v21) rfl (by kernel_rfl) (by kernel_rfl) (by kernel_rfl) (fun _ _ _ h => h) (Or.inl ⟨by rfl, ?h21⟩) (by assumption) ?r21
      case h21 => (intro w hSw; (try dsimp only at hSw); go_simp; try with_reducible rfl)
      try simp only [Act.put, List.setIfInBounds_toArray, List.set_cons_zero, List.set_cons_succ]
      refine wpAnyH_take (i := 1) (oi := ⟨some 82, _, _, _, _, _⟩) (v := ?v22) rfl (by kernel_rfl) (by kernel_rfl) (by kernel_rfl) (fun _ _ _ h => h) (Or.inl ⟨by rfl, ?h22⟩) (by assumption) ?r22
      case h22 => (intro w hSw; (try dsimp only at hSw); go_simp; try with_reducible rfl)
      try simp only [Act.put, List.setIfInBounds_toArray, List.set_cons_zero, List.set_cons_succ]
      refine wpAnyH_take (i := 2) (oi := ⟨some 83, _, _, _, _, _⟩) (v := ?v23) rfl (by kernel_rfl) (by kernel_rfl) (by kernel_rfl) (fun _ _ _ h => h) (Or.inl ⟨by rfl, ?h23⟩) (by assumption) ?r23
      case h23 => (intro w hSw; (try dsimp only at hSw); go_simp; try with_reducible rfl)
      try simp only [Act.put, List.setIfInBounds_toArray, List.set_cons_zero, List.set_cons_succ]
      refine wpAnyH_take (i := 3) (oi := ⟨some 84, _, _, _, _, _⟩) (v := ?v24) rfl (by kernel_rfl) (by kernel_rfl) (by kernel_rfl) (fun _ _ _ h => h) (Or.inl ⟨by rfl, ?h24⟩) (by assumption) ?r24
      case h24 => (intro w hSw; (try dsimp only at hSw); go_simp; try with_reducible rfl)
      try simp only [Act.put, List.setIfInBounds_toArray, List.set_cons_zero, List.set_cons_succ]
      refine wpAnyH_take (i := 4) (oi := ⟨some 85, _, _, _, _, _⟩) (v := ?v25) rfl (by kernel_rfl) (by kernel_rfl) (by kernel_rfl) (fun _ _ _ h => h) (Or.inl ⟨by rfl, ?h25⟩) (by assumption) ?r25
      case h25 => (intro w hSw; (try dsimp only at hSw); go_simp; try with_reducible rfl)
      try simp only [Act.put, List.setIfInBounds_toArray, List.set_cons_zero, List.set_cons_succ]
      refine wpAnyH_take (i := 5) (oi := ⟨some 86, _, _, _, _, _⟩) (v := ?v26) rfl (by kernel_rfl) (by kernel_rfl) (by kernel_rfl) (fun _ _ _ h => h) (Or.inl ⟨by rfl, ?h26⟩) (by assumption) ?r26
      case h26 => (intro w hSw; (try dsimp only at hSw); go_simp; try with_reducible rfl)
      try simp only [Act.put, List.setIfInBounds_toArray, List.set_cons_zero, List.set_cons_succ]
      refine wpAnyH_take (i := 6) (oi := ⟨some 87, _, _, _, _, _⟩) (v := ?v27) rfl (by kernel_rfl) (by kernel_rfl) (by kernel_rfl) (fun _ _ _ h => h) (Or.inl ⟨by rfl, ?h27⟩) (by assumption) ?r27
      case h27 => (intro w hSw; (try dsimp only at hSw); go_simp; try with_reducible rfl)
      try simp only [Act.put, List.setIfInBounds_toArray, List.set_cons_zero, List.set_cons_succ]
      refine wpAnyH_take (i := 7) (oi := ⟨some 88, _, _, _, _, _⟩) (v := ?v28) rfl (by kernel_rfl) (by kernel_rfl) (by kernel_rfl) (fun _ _ _ h => h) (Or.inl ⟨by rfl, ?h28⟩) (by assumption) ?r28
      case h28 => (intro w hSw; (try dsimp only at hSw); go_simp; try with_reducible rfl)
      try simp only [Act.put, List.setIfInBounds_toArray, List.set_cons_zero, List.set_cons_succ]
      refine wpAnyH_take (i := 8) (oi := ⟨some 89, _, _, _, _, _⟩) (v := ?v29) rfl (by kernel_rfl) (by kernel_rfl) (by kernel_rfl) (fun _ _ _ h => h) (Or.inl ⟨by rfl, ?h29⟩) (by assumption) ?r29
      case h29 => (intro w hSw; (try dsimp only at hSw); go_simp; try with_reducible rfl)
      try simp only [Act.put, List.setIfInBounds_toArray, List.set_cons_zero, List.set_cons_succ]
      refine wpAnyH_take (i := 9) (oi := ⟨some 90, _, _, _, _, _⟩) (v := ?v30) rfl (by kernel_rfl) (by kernel_rfl) (by kernel_rfl) (fun _ _ _ h => h) (Or.inl ⟨by rfl, ?h30⟩) (by assumption) ?r30
      case h30 => (intro w hSw; (try dsimp only at hSw); go_simp; try with_reducible rfl)
      try simp only [Act.put, List.setIfInBounds_toArray, List.set_cons_zero, List.set_cons_succ]
      refine wpAnyH_take (i := 10) (oi := ⟨some 91, _, _, _, _, _⟩) (v := ?v31) rfl (by kernel_rfl) (by kernel_rfl) (by kernel_rfl) (fun _ _ _ h => h) (Or.inl ⟨by rfl, ?h31⟩) (by assumption) ?r31
      case h31 => (intro w hSw; (try dsimp only at hSw); go_simp; try with_reducible rfl)
      try simp only [Act.put, List.setIfInBounds_toArray, List.set_cons_zero, List.set_cons_succ]
      refine wpAnyH_take (i := 11) (oi := ⟨some 92, _, _, _, _, _⟩) (v := ?v32) rfl (by kernel_rfl) (by kernel_rfl) (by kernel_rfl) (fun _ _ _ h => h) (Or.inl ⟨by rfl, ?h32⟩) (by assumption) ?r32
      case h32 => (intro w hSw; (try dsimp only at hSw); go_simp; try with_reducible rfl)
      try simp only [Act.put, List.setIfInBounds_toArray, List.set_cons_zero, List.set_cons_succ]
      refine wpAnyH_take (i := 12) (oi := ⟨some 93, _, _, _, _, _⟩) (v := ?v33) rfl (by kernel_rfl) (by kernel_rfl) (by kernel_rfl) (fun _ _ _ h => h) (Or.inl ⟨by rfl, ?h33⟩) (by assumption) ?r33
      case h33 => (intro w hSw; (try dsimp only at hSw); go_simp; try with_reducible rfl)
      try simp only [Act.put, List.setIfInBounds_toArray, List.set_cons_zero, List.set_cons_succ]
      refine wpAnyH_take (i := 13) (oi := ⟨some 94, _, _, _, _, _⟩) (v := ?v34) rfl (by kernel_rfl) (by kernel_rfl) (by kernel_rfl) (fun _ _ _ h => h) (Or.inl ⟨by rfl, ?h34⟩) (by assumption) ?r34
      case h34 => (intro w hSw; (try dsimp only at hSw); go_simp; try with_reducible rfl)
      try simp only [Act.put, List.setIfInBounds_toArray, List.set_cons_zero, List.set_cons_succ]
      refine wpAnyH_take (i := 14) (oi := ⟨some 95, _, _, _, _, _⟩) (v := ?v35) rfl (by kernel_rfl) (by kernel_rfl) (by kernel_rfl) (fun _ _ _ h => h) (Or.inl ⟨by rfl, ?h35⟩) (by assumption) ?r35
      case h35 => (intro w hSw; (try dsimp only at hSw); go_simp; try with_reducible rfl)
      try simp only [Act.put, List.setIfInBounds_toArray, List.set_cons_zero, List.set_cons_succ]
      refine wpAnyH_ready (rs := [15, 19]) (by kernel_rfl) (by simp) ?_
      refine (AllReadyH.cons (o := ⟨some 96, _, _, _, _, _⟩) rfl (fun K hK => ?_) (AllReadyH.cons (o := ⟨some 14, _, _, _, _, _⟩) rfl (fun K hK => ?_) AllReadyH.nil))
      · skip
        go_simp
        have HS1 := HB1
        refine (HFA.out _ (RS.out.kept HB1.out) (O10.out.kept HB1.out).reads).mono ?_
        rintro e w11 ⟨rfl, hb'⟩
        have HB1 := Lib.hid ((HB1.out).trans (hb'.mono (HB1.out).size))
        clear hb'
        refine hK.out _ _ ?hS36 (fun hHeld => ?_)
        case hS36 => exact ⟨(B3.out.below HB1.out B3.out.lt).cell 0, (B3.out.below HB1.out B3.out.lt).cell 1, (B3.out.below HB1.out B3.out.lt).cell 2, (B3.out.below HB1.out B3.out.lt).cell 3, (B4.out.below HB1.out B4.out.lt).cell 0, (B4.out.below HB1.out B4.out.lt).cell 1, (B4.out.below HB1.out B4.out.lt).cell 2⟩
        clear hK K
        try simp only [Act.put, List.setIfInBounds_toArray, List.set_cons_zero, List.set_cons_succ]
        refine wpAnyH_take (i := 16) (oi := ⟨some 80, _, _, _, _, _⟩) (v := ?v37) rfl (by kernel_rfl) (by kernel_rfl) (by kernel_rfl) (fun _ _ _ h => h) (Or.inl ⟨by rfl, ?h37⟩) (by assumption) ?r37
        case h37 => (intro w hSw; (try dsimp only at hSw); go_simp; try with_reducible rfl)
        try simp only [Act.put, List.setIfInBounds_toArray, List.set_cons_zero, List.set_cons_succ]
        refine wpAnyH_take (i := 17) (oi := ⟨some 97, _, _, _, _, _⟩) (v := ?v38) rfl (by kernel_rfl) (by kernel_rfl) (by kernel_rfl) (fun _ _ _ h => h) (Or.inl ⟨by rfl, ?h38⟩) (by assumption) ?r38
        case h38 => (intro w hSw; (try dsimp only at hSw); go_simp; try with_reducible rfl)
        try simp only [Act.put, List.setIfInBounds_toArray, List.set_cons_zero, List.set_cons_succ]
        refine wpAnyH_take (i := 18) (oi := ⟨some 98, _, _, _, _, _⟩) (v := ?v39) rfl (by kernel_rfl) (by kernel_rfl) (by kernel_rfl) (fun _ _ _ h => h) (Or.inl ⟨by rfl, ?h39⟩) (by assumption) ?r39
        case h39 => (intro w hSw; (try dsimp only at hSw); go_simp; try with_reducible rfl)
        try simp only [Act.put, List.setIfInBounds_toArray, List.set_cons_zero, List.set_cons_succ]
        refine wpAnyH_ready (rs := [19]) (by kernel_rfl) (by simp) ?_
        refine (AllReadyH.cons (o := ⟨some 14, _, _, _, _, _⟩) rfl (fun K hK => ?_) AllReadyH.nil)
        go_simp
        have hlt := HB1.out.size
        have HB1 := Lib.hid (below_alloc_ (HB1.out) (.cells #[.int .i64 0, .bool false, .int .i64 0, .int .i64 0, .int .i64 0, .int .i64 0, .int .i64 0, .int .i64 0, .int .i64 0] 40))
        have hzw : (w11.alloc (.cells #[.int .i64 0, .bool false, .int .i64 0, .int .i64 0, .int .i64 0, .int .i64 0, .int .i64 0, .int .i64 0, .int .i64 0] 40)).heap.size = w11.heap.size + 1 := by simp only [World.size_alloc]
        have B5 := Blk.new (w11) 40 #[.int .i64 0, .bool false, .int .i64 0, .int .i64 0, .int .i64 0, .int .i64 0, .int .i64 0, .int .i64 0, .int .i64 0]
        skip
        have B5 := Lib.hid B5
        generalize w11.alloc (.cells #[.int .i64 0, .bool false, .int .i64 0, .int .i64 0, .int .i64 0, .int .i64 0, .int .i64 0, .int .i64 0, .int .i64 0] 40) = w12 at *
        have hge5 : w10.heap.size ≤ w11.heap.size := hlt
        clear hzw hlt
        refine hK.out _ _ ?hS40 (fun hHeld => ?_)
        case hS40 => exact ⟨(B3.out.below HB1.out B3.out.lt).cell 0, (B3.out.below HB1.out B3.out.lt).cell 1, (B3.out.below HB1.out B3.out.lt).cell 2, (B3.out.below HB1.out B3.out.lt).cell 3, (B4.out.below HB1.out B4.out.lt).cell 0, (B4.out.below HB1.out B4.out.lt).cell 1, (B4.out.below HB1.out B4.out.lt).cell 2⟩
        clear hK K
        try simp only [Act.put, List.setIfInBounds_toArray, List.set_cons_zero, List.set_cons_succ]
        refine wpAnyH_ready (rs := [20]) (by kernel_rfl) (by simp) ?_
        refine (AllReadyH.cons (o := ⟨none, _, _, _, _, _⟩) rfl (fun K hK => ?_) AllReadyH.nil)
        obtain ⟨f0, f1, f2, f3, f4, f5, f6, f7, f8⟩ := B5.out.frozens9
        obtain ⟨q0, q1, q2, q3, q4, q5, q6, q7, q8⟩ := B5.out.cells9
        go_simp
        clear f0 f1 f2 f3 f4 f5 f6 f7 f8 q0 q1 q2 q3 q4 q5 q6 q7 q8
        have HB1 := Lib.hid (((((((((HB1.out.setCell (p := ⟨w11.heap.size, 0, none⟩) hge5 (.int .i64 b.m)).setCell (p := ⟨w11.heap.size, 1, none⟩) hge5 (.bool b.g)).setCell (p := ⟨w11.heap.size, 2, none⟩) hge5 (.int .i64 b.x0)).setCell (p := ⟨w11.heap.size, 3, none⟩) hge5 (.int .i64 b.y0)).setCell (p := ⟨w11.heap.size, 4, none⟩) hge5 (.int .i64 b.x1)).setCell (p := ⟨w11.heap.size, 5, none⟩) hge5 (.int .i64 b.y1)).setCell (p := ⟨w11.heap.size, 6, none⟩) hge5 (.int .i64 b.d0)).setCell (p := ⟨w11.heap.size, 7, none⟩) hge5 (.int .i64 b.d1)).setCell (p := ⟨w11.heap.size, 8, none⟩) hge5 (.int .i64 b.d2))
        have B5 := Lib.hid (ret_nine B5.out (.int .i64 b.m) (.bool b.g) (.int .i64 b.x0) (.int .i64 b.y0) (.int .i64 b.x1) (.int .i64 b.y1) (.int .i64 b.d0) (.int .i64 b.d1) (.int .i64 b.d2))
        generalize ((((((((w12.setCell ⟨w11.heap.size, 0, none⟩ (.int .i64 b.m)).setCell ⟨w11.heap.size, 1, none⟩ (.bool b.g)).setCell ⟨w11.heap.size, 2, none⟩ (.int .i64 b.x0)).setCell ⟨w11.heap.size, 3, none⟩ (.int .i64 b.y0)).setCell ⟨w11.heap.size, 4, none⟩ (.int .i64 b.x1)).setCell ⟨w11.heap.size, 5, none⟩ (.int .i64 b.y1)).setCell ⟨w11.heap.size, 6, none⟩ (.int .i64 b.d0)).setCell ⟨w11.heap.size, 7, none⟩ (.int .i64 b.d1)).setCell ⟨w11.heap.size, 8, none⟩ (.int .i64 b.d2) = w13 at *
        refine hK.out _ _ ?hS41 (fun hHeld => ?_)
        case hS41 => exact ⟨(B3.out.below HB1.out B3.out.lt).cell 0, (B3.out.below HB1.out B3.out.lt).cell 1, (B3.out.below HB1.out B3.out.lt).cell 2, (B3.out.below HB1.out B3.out.lt).cell 3, (B4.out.below HB1.out B4.out.lt).cell 0, (B4.out.below HB1.out B4.out.lt).cell 1, (B4.out.below HB1.out B4.out.lt).cell 2⟩
        clear hK K
        try simp only [Act.put, List.setIfInBounds_toArray, List.set_cons_zero, List.set_cons_succ]
        refine wpAnyH_take (i := 21) (oi := ⟨some 15, _, _, _, _, _⟩) (v := ?v42) rfl (by kernel_rfl) (by kernel_rfl) (by kernel_rfl) (fun _ _ _ h => h) (Or.inl ⟨by rfl, ?h42⟩) (by assumption) ?r42
        case h42 => (intro w hSw; (try dsimp only at hSw); go_simp; try with_reducible rfl)
        try simp only [Act.put, List.setIfInBounds_toArray, List.set_cons_zero, List.set_cons_succ]
        refine wpAnyH_done (by kernel_rfl) ?_ _
        clear hHeld
        have hne := fun w => ne_bk b b w
        rw [show decide (b = b) = true by simp] at hne
        simp only [Bool.not_true] at hne
        obtain ⟨zB20, zB21, zB22, zB23, zB24, zB25, zB26, zB27, zB28⟩ := (B2.out.below HB1.out B2.out.lt).cells9
        obtain ⟨zB50, zB51, zB52, zB53, zB54, zB55, zB56, zB57, zB58⟩ := (B5.out).cells9
        go_wp2_with fail
        go_roundw
        case rel => exact ⟨k + 1, by omega, by go_num, HB1.out⟩
        case measure => simp [intOf]; omega
      · skip
        go_simp
        have hlt := HB1.out.size
        have HB1 := Lib.hid (below_alloc_ (HB1.out) (.cells #[.int .i64 0, .bool false, .int .i64 0, .int .i64 0, .int .i64 0, .int .i64 0, .int .i64 0, .int .i64 0, .int .i64 0] 40))
        have hzw : (wo.drew.alloc (.cells #[.int .i64 0, .bool false, .int .i64 0, .int .i64 0, .int .i64 0, .int .i64 0, .int .i64 0, .int .i64 0, .int .i64 0] 40)).heap.size = wo.drew.heap.size + 1 := by simp only [World.size_alloc]
        have B5 := Blk.new (wo.drew) 40 #[.int .i64 0, .bool false, .int .i64 0, .int .i64 0, .int .i64 0, .int .i64 0, .int .i64 0, .int .i64 0, .int .i64 0]
        skip
        have B5 := Lib.hid B5
        have B5 := Lib.hid (show Blk _ (wo.heap.size) _ _ from B5.out)
        try rw [show (wo.alloc (.cells #[.int .i64 0, .bool false, .int .i64 0, .int .i64 0, .int .i64 0, .int .i64 0, .int .i64 0, .int .i64 0, .int .i64 0] 40)).drew = wo.drew.alloc (.cells #[.int .i64 0, .bool false, .int .i64 0, .int .i64 0, .int .i64 0, .int .i64 0, .int .i64 0, .int .i64 0, .int .i64 0] 40) from rfl]
        generalize wo.drew.alloc (.cells #[.int .i64 0, .bool false, .int .i64 0, .int .i64 0, .int .i64 0, .int .i64 0, .int .i64 0, .int .i64 0, .int .i64 0] 40) = w11 at *
        have hge5 : w10.heap.size ≤ wo.heap.size := hlt
        clear hzw hlt
        refine hK.out _ _ ?hS43 (fun hHeld => ?_)
        case hS43 => exact ⟨(B3.out.below HB1.out B3.out.lt).cell 0, (B3.out.below HB1.out B3.out.lt).cell 1, (B3.out.below HB1.out B3.out.lt).cell 2, (B3.out.below HB1.out B3.out.lt).cell 3, (B4.out.below HB1.out B4.out.lt).cell 0, (B4.out.below HB1.out B4.out.lt).cell 1, (B4.out.below HB1.out B4.out.lt).cell 2⟩
        clear hK K
        try simp only [Act.put, List.setIfInBounds_toArray, List.set_cons_zero, List.set_cons_succ]
        refine wpAnyH_ready (rs := [15]) (by kernel_rfl) (by simp) ?_
        refine (AllReadyH.cons (o := ⟨some 96, _, _, _, _, _⟩) rfl (fun K hK => ?_) AllReadyH.nil)
        go_simp
        have HS1 := HB1
        refine (HFA.out _ (RS.out.kept HB1.out) (O10.out.kept HB1.out).reads).mono ?_
        rintro e w12 ⟨rfl, hb'⟩
        have HB1 := Lib.hid ((HB1.out).trans (hb'.mono (HB1.out).size))
        have B5 := Lib.hid ((B5.out).below hb' (B5.out).lt)
        clear hb'
        refine hK.out _ _ ?hS44 (fun hHeld => ?_)
        case hS44 => exact ⟨(B3.out.below HB1.out B3.out.lt).cell 0, (B3.out.below HB1.out B3.out.lt).cell 1, (B3.out.below HB1.out B3.out.lt).cell 2, (B3.out.below HB1.out B3.out.lt).cell 3, (B4.out.below HB1.out B4.out.lt).cell 0, (B4.out.below HB1.out B4.out.lt).cell 1, (B4.out.below HB1.out B4.out.lt).cell 2⟩
        clear hK K
        try simp only [Act.put, List.setIfInBounds_toArray, List.set_cons_zero, List.set_cons_succ]
        refine wpAnyH_take (i := 16) (oi := ⟨some 80, _, _, _, _, _⟩) (v := ?v45) rfl (by kernel_rfl) (by kernel_rfl) (by kernel_rfl) (fun _ _ _ h => h) (Or.inl ⟨by rfl, ?h45⟩) (by assumption) ?r45
        case h45 => (intro w hSw; (try dsimp only at hSw); go_simp; try with_reducible rfl)
        try simp only [Act.put, List.setIfInBounds_toArray, List.set_cons_zero, List.set_cons_succ]
        refine wpAnyH_take (i := 17) (oi := ⟨some 97, _, _, _, _, _⟩) (v := ?v46) rfl (by kernel_rfl) (by kernel_rfl) (by kernel_rfl) (fun _ _ _ h => h) (Or.inl ⟨by rfl, ?h46⟩) (by assumption) ?r46
        case h46 => (intro w hSw; (try dsimp only at hSw); go_simp; try with_reducible rfl)
        try simp only [Act.put, List.setIfInBounds_toArray, List.set_cons_zero, List.set_cons_succ]
        refine wpAnyH_take (i := 18) (oi := ⟨some 98, _, _, _, _, _⟩) (v := ?v47) rfl (by kernel_rfl) (by kernel_rfl) (by kernel_rfl) (fun _ _ _ h => h) (Or.inl ⟨by rfl, ?h47⟩) (by assumption) ?r47
        case h47 => (intro w hSw; (try dsimp only at hSw); go_simp; try with_reducible rfl)
        try simp only [Act.put, List.setIfInBounds_toArray, List.set_cons_zero, List.set_cons_succ]
        refine wpAnyH_ready (rs := [20]) (by kernel_rfl) (by simp) ?_
        refine (AllReadyH.cons (o := ⟨none, _, _, _, _, _⟩) rfl (fun K hK => ?_) AllReadyH.nil)
        obtain ⟨f0, f1, f2, f3, f4, f5, f6, f7, f8⟩ := B5.out.frozens9
        obtain ⟨q0, q1, q2, q3, q4, q5, q6, q7, q8⟩ := B5.out.cells9
        go_simp
        clear f0 f1 f2 f3 f4 f5 f6 f7 f8 q0 q1 q2 q3 q4 q5 q6 q7 q8
        have HB1 := Lib.hid (((((((((HB1.out.setCell (p := ⟨wo.heap.size, 0, none⟩) hge5 (.int .i64 b.m)).setCell (p := ⟨wo.heap.size, 1, none⟩) hge5 (.bool b.g)).setCell (p := ⟨wo.heap.size, 2, none⟩) hge5 (.int .i64 b.x0)).setCell (p := ⟨wo.heap.size, 3, none⟩) hge5 (.int .i64 b.y0)).setCell (p := ⟨wo.heap.size, 4, none⟩) hge5 (.int .i64 b.x1)).setCell (p := ⟨wo.heap.size, 5, none⟩) hge5 (.int .i64 b.y1)).setCell (p := ⟨wo.heap.size, 6, none⟩) hge5 (.int .i64 b.d0)).setCell (p := ⟨wo.heap.size, 7, none⟩) hge5 (.int .i64 b.d1)).setCell (p := ⟨wo.heap.size, 8, none⟩) hge5 (.int .i64 b.d2))
        have B5 := Lib.hid (ret_nine B5.out (.int .i64 b.m) (.bool b.g) (.int .i64 b.x0) (.int .i64 b.y0) (.int .i64 b.x1) (.int .i64 b.y1) (.int .i64 b.d0) (.int .i64 b.d1) (.int .i64 b.d2))
        generalize ((((((((w12.setCell ⟨wo.heap.size, 0, none⟩ (.int .i64 b.m)).setCell ⟨wo.heap.size, 1, none⟩ (.bool b.g)).setCell ⟨wo.heap.size, 2, none⟩ (.int .i64 b.x0)).setCell ⟨wo.heap.size, 3, none⟩ (.int .i64 b.y0)).setCell ⟨wo.heap.size, 4, none⟩ (.int .i64 b.x1)).setCell ⟨wo.heap.size, 5, none⟩ (.int .i64 b.y1)).setCell ⟨wo.heap.size, 6, none⟩ (.int .i64 b.d0)).setCell ⟨wo.heap.size, 7, none⟩ (.int .i64 b.d1)).setCell ⟨wo.heap.size, 8, none⟩ (.int .i64 b.d2) = w13 at *
        refine hK.out _ _ ?hS48 (fun hHeld => ?_)
        case hS48 => exact ⟨(B3.out.below HB1.out B3.out.lt).cell 0, (B3.out.below HB1.out B3.out.lt).cell 1, (B3.out.below HB1.out B3.out.lt).cell 2, (B3.out.below HB1.out B3.out.lt).cell 3, (B4.out.below HB1.out B4.out.lt).cell 0, (B4.out.below HB1.out B4.out.lt).cell 1, (B4.out.below HB1.out B4.out.lt).cell 2⟩
        clear hK K
        try simp only [Act.put, List.setIfInBounds_toArray, List.set_cons_zero, List.set_cons_succ]
        refine wpAnyH_take (i := 21) (oi := ⟨some 15, _, _, _, _, _⟩) (v := ?v49) rfl (by kernel_rfl) (by kernel_rfl) (by kernel_rfl) (fun _ _ _ h => h) (Or.inl ⟨by rfl, ?h49⟩) (by assumption) ?r49
        case h49 => (intro w hSw; (try dsimp only at hSw); go_simp; try with_reducible rfl)
        try simp only [Act.put, List.setIfInBounds_toArray, List.set_cons_zero, List.set_cons_succ]
        refine wpAnyH_done (by kernel_rfl) ?_ _
        clear hHeld
        have hne := fun w => ne_bk b b w
        rw [show decide (b = b) = true by simp] at hne
        simp only [Bool.not_true] at hne
        obtain ⟨zB20, zB21, zB22, zB23, zB24, zB25, zB26, zB27, zB28⟩ := (B2.out.below HB1.out B2.out.lt).cells9
        obtain ⟨zB50, zB51, zB52, zB53, zB54, zB55, zB56, zB57, zB58⟩ := (B5.out).cells9
        go_wp2_with fail
        go_roundw
        case rel => exact ⟨k + 1, by omega, by go_num, HB1.out⟩
        case measure => simp [intOf]; omega
    · skip
      obtain rfl : k = ss := by omega
      go_wp2_with fail
      go_ret
      exact ⟨rfl, HB.out.trans (HB1.out.mono HB.out.size)⟩
theorem bd16 {v : Value} {n : Int} (h : IsInt .u16 v n) : 0 ≤ n ∧ n ≤ 65535 := by
  have := h.2
  simp [Lit.wf, IntKind.min, IntKind.max, IntKind.signed, IntKind.bits] at this
  omega
theorem fieldCounts_walk (x0 : Flx) (x1 : Int) (x2 : Bk) (v0 v1 v2 : Value) (w : World) (k0 : IsFl w v0 x0) (k1 : IsInt .u16 v1 x1) (k2 : IsBk v2 x2) :
    Calls Try.prog 7 #[v0, v1, v2] w fun e w' => e = .returned (.bool true) ∧ Below w.heap.size w w' := by
  obtain ⟨As, cs, Ak, ck, rfl, hS, hK, hn, hm, _⟩ := k0
  have hx := bd16 k1
  rw [k1.1, k2.1]
  obtain ⟨a, d, S, K⟩ := x0
  dsimp only at hS hK hn hm ⊢
  cases hg : bigB S.length K.length with
  | true => exact cnt_big a d S As cs K Ak ck x1 x2 w hS hK hn hm hg
  | false =>
    cases ho : okFl a d S K with
    | false => exact cnt_not a d S As cs K Ak ck x1 x2 w hS hK hn hm hg ho
    | true =>
      cases hb : okBk x2 with
      | false => exact cnt_blk a d S As cs K Ak ck x1 x2 w hS hK hn hm hg ho hb
      | true =>
        obtain ⟨A, D, rfl, rfl, _⟩ := okFl_nat ho
        obtain ⟨X, rfl⟩ := Int.eq_ofNat_of_zero_le hx.1
        exact cnt_yes A D S As cs K Ak ck X (by omega) x2 w hS hK hn hm hg ho hb

end Go.Proofs.Ytiedjeholmoccaa
