/- Fields: a unit's blocks set; squares that cover. -/
import Derived.Test.YtiedjeholmoccaaFd9
namespace Go.Proofs.Ytiedjeholmoccaa
open Go.RowKit Go.Sort
set_option linter.unusedVariables false
set_option linter.unusedSimpArgs false

def setB (a d : Int) (S : List Int) (K : List Bk) (u : Un) (b : Bk) : Bool := okFl a d S K && inFu a d u && okBk b
def setK (a d : Int) (S : List Int) (K : List Bk) (u : Un) (b : Bk) : List Bk := if setB a d S K u b = true then layL (4 * a.toNat) K u b else K
theorem setK_length (a d : Int) (S : List Int) (K : List Bk) (u : Un) (b : Bk) : (setK a d S K u b).length = K.length := by
  unfold setK
  split
  · exact layL_length _ _ _ _
  · rfl
set_option maxRecDepth 100000 in
set_option maxHeartbeats 6400000 in
theorem fset_1 (a d : Int) (S : List Int) (As : Option Addr) (cs : Nat) (K : List Bk) (vk : Value) (B : Nat) (u : Un) (b : Bk) (w : World) (hS : ReadsI w As S) (hO : OwnE EK w B vk K) (hn : S.length ≤ 9223372036854775807) (h1 : okFl a d S K = false) :
    Calls Try.prog 26 #[flV a d (.slice As S.length cs) vk, unV u, bkV b] w fun e w' => e = .returned (.bool false) ∧ OwnE EK w' B vk K ∧ w.grownBy w' vk.ownBlock := by
  have RS := Lib.hid hS
  have RO := Lib.hid hO
  obtain ⟨Ak, ck, rfl, hq⟩ := hO.slice
  have RK := Lib.hid hq
  have hm := hO.max
  have HB := Lib.hid (Below.refl w.heap.size w)
  have H1 := Lib.hid h1
  clear hS hO hq h1
  go_enter Try.func26, Try.ntmps26
  go_wp2_with fail
  have RS := Lib.hid ((((RS.out).alloc (.cells #[.int .i64 a, .int .i64 d, .slice As S.length cs, .slice Ak K.length ck] 25)).alloc (.cells #[.int .i64 u.x, .int .i64 u.y, .int .i64 u.s] 34)).alloc (.cells #[.int .i64 b.m, .bool b.g, .int .i64 b.x0, .int .i64 b.y0, .int .i64 b.x1, .int .i64 b.y1, .int .i64 b.d0, .int .i64 b.d1, .int .i64 b.d2] 40))
  have RO := Lib.hid ((((RO.out).alloc (.cells #[.int .i64 a, .int .i64 d, .slice As S.length cs, .slice Ak K.length ck] 25)).alloc (.cells #[.int .i64 u.x, .int .i64 u.y, .int .i64 u.s] 34)).alloc (.cells #[.int .i64 b.m, .bool b.g, .int .i64 b.x0, .int .i64 b.y0, .int .i64 b.x1, .int .i64 b.y1, .int .i64 b.d0, .int .i64 b.d1, .int .i64 b.d2] 40))
  have RK := Lib.hid ((((RK.out).alloc (.cells #[.int .i64 a, .int .i64 d, .slice As S.length cs, .slice Ak K.length ck] 25)).alloc (.cells #[.int .i64 u.x, .int .i64 u.y, .int .i64 u.s] 34)).alloc (.cells #[.int .i64 b.m, .bool b.g, .int .i64 b.x0, .int .i64 b.y0, .int .i64 b.x1, .int .i64 b.y1, .int .i64 b.d0, .int .i64 b.d1, .int .i64 b.d2] 40))
  have HB := Lib.hid (below_alloc_ (below_alloc_ (below_alloc_ (HB.out) (.cells #[.int .i64 a, .int .i64 d, .slice As S.length cs, .slice Ak K.length ck] 25)) (.cells #[.int .i64 u.x, .int .i64 u.y, .int .i64 u.s] 34)) (.cells #[.int .i64 b.m, .bool b.g, .int .i64 b.x0, .int .i64 b.y0, .int .i64 b.x1, .int .i64 b.y1, .int .i64 b.d0, .int .i64 b.d1, .int .i64 b.d2] 40))
  have hzw : (((w.alloc (.cells #[.int .i64 a, .int .i64 d, .slice As S.length cs, .slice Ak K.length ck] 25)).alloc (.cells #[.int .i64 u.x, .int .i64 u.y, .int .i64 u.s] 34)).alloc (.cells #[.int .i64 b.m, .bool b.g, .int .i64 b.x0, .int .i64 b.y0, .int .i64 b.x1, .int .i64 b.y1, .int .i64 b.d0, .int .i64 b.d1, .int .i64 b.d2] 40)).heap.size = w.heap.size + 3 := by simp only [World.size_alloc]
  have B3 := ((Blk.new (w) 25 #[.int .i64 a, .int .i64 d, .slice As S.length cs, .slice Ak K.length ck]).alloc (.cells #[.int .i64 u.x, .int .i64 u.y, .int .i64 u.s] 34)).alloc (.cells #[.int .i64 b.m, .bool b.g, .int .i64 b.x0, .int .i64 b.y0, .int .i64 b.x1, .int .i64 b.y1, .int .i64 b.d0, .int .i64 b.d1, .int .i64 b.d2] 40)
  skip
  have B3 := Lib.hid B3
  have B4 := (Blk.new (w.alloc (.cells #[.int .i64 a, .int .i64 d, .slice As S.length cs, .slice Ak K.length ck] 25)) 34 #[.int .i64 u.x, .int .i64 u.y, .int .i64 u.s]).alloc (.cells #[.int .i64 b.m, .bool b.g, .int .i64 b.x0, .int .i64 b.y0, .int .i64 b.x1, .int .i64 b.y1, .int .i64 b.d0, .int .i64 b.d1, .int .i64 b.d2] 40)
  rw [show (w.alloc (.cells #[.int .i64 a, .int .i64 d, .slice As S.length cs, .slice Ak K.length ck] 25)).heap.size = w.heap.size + 1 by simp only [World.size_alloc]] at B4
  have B4 := Lib.hid B4
  have B5 := Blk.new ((w.alloc (.cells #[.int .i64 a, .int .i64 d, .slice As S.length cs, .slice Ak K.length ck] 25)).alloc (.cells #[.int .i64 u.x, .int .i64 u.y, .int .i64 u.s] 34)) 40 #[.int .i64 b.m, .bool b.g, .int .i64 b.x0, .int .i64 b.y0, .int .i64 b.x1, .int .i64 b.y1, .int .i64 b.d0, .int .i64 b.d1, .int .i64 b.d2]
  rw [show ((w.alloc (.cells #[.int .i64 a, .int .i64 d, .slice As S.length cs, .slice Ak K.length ck] 25)).alloc (.cells #[.int .i64 u.x, .int .i64 u.y, .int .i64 u.s] 34)).heap.size = w.heap.size + 1 + 1 by simp only [World.size_alloc]] at B5
  have B5 := Lib.hid B5
  generalize ((w.alloc (.cells #[.int .i64 a, .int .i64 d, .slice As S.length cs, .slice Ak K.length ck] 25)).alloc (.cells #[.int .i64 u.x, .int .i64 u.y, .int .i64 u.s] 34)).alloc (.cells #[.int .i64 b.m, .bool b.g, .int .i64 b.x0, .int .i64 b.y0, .int .i64 b.x1, .int .i64 b.y1, .int .i64 b.d0, .int .i64 b.d1, .int .i64 b.d2] 40) = w1 at *
  clear hzw
  have HB1 := Lib.hid (Below.refl w1.heap.size w1)
  refine (fright_c a d S As cs K Ak ck _ (RS.out.kept HB1.out) (RK.out.kept HB1.out) hn hm).mono ?_
  rintro e w2 ⟨rfl, hb'⟩
  have HB1 := Lib.hid ((HB1.out).trans (hb'.mono (HB1.out).size))
  clear hb'
  rw [H1.out]
  obtain ⟨zB30, zB31, zB32, zB33⟩ := (B3.out.below HB1.out B3.out.lt).cells4
  obtain ⟨zB40, zB41, zB42⟩ := (B4.out.below HB1.out B4.out.lt).cells3
  obtain ⟨zB50, zB51, zB52, zB53, zB54, zB55, zB56, zB57, zB58⟩ := (B5.out.below HB1.out B5.out.lt).cells9
  go_wp2_with fail
  clear zB30 zB31 zB32 zB33
  clear zB40 zB41 zB42
  clear zB50 zB51 zB52 zB53 zB54 zB55 zB56 zB57 zB58
  go_ret
  exact ⟨rfl, RO.out.kept (HB1.out), only_of_below (HB.out.trans (HB1.out.mono HB.out.size)) _⟩
set_option maxRecDepth 100000 in
set_option maxHeartbeats 6400000 in
theorem fset_2 (a d : Int) (S : List Int) (As : Option Addr) (cs : Nat) (K : List Bk) (vk : Value) (B : Nat) (u : Un) (b : Bk) (w : World) (hS : ReadsI w As S) (hO : OwnE EK w B vk K) (hn : S.length ≤ 9223372036854775807) (h1 : okFl a d S K = true) (h2 : inFu a d u = false) :
    Calls Try.prog 26 #[flV a d (.slice As S.length cs) vk, unV u, bkV b] w fun e w' => e = .returned (.bool false) ∧ OwnE EK w' B vk K ∧ w.grownBy w' vk.ownBlock := by
  have RS := Lib.hid hS
  have RO := Lib.hid hO
  obtain ⟨Ak, ck, rfl, hq⟩ := hO.slice
  have RK := Lib.hid hq
  have hm := hO.max
  have HB := Lib.hid (Below.refl w.heap.size w)
  have H1 := Lib.hid h1
  have H2 := Lib.hid h2
  clear hS hO hq h1 h2
  go_enter Try.func26, Try.ntmps26
  go_wp2_with fail
  have RS := Lib.hid ((((RS.out).alloc (.cells #[.int .i64 a, .int .i64 d, .slice As S.length cs, .slice Ak K.length ck] 25)).alloc (.cells #[.int .i64 u.x, .int .i64 u.y, .int .i64 u.s] 34)).alloc (.cells #[.int .i64 b.m, .bool b.g, .int .i64 b.x0, .int .i64 b.y0, .int .i64 b.x1, .int .i64 b.y1, .int .i64 b.d0, .int .i64 b.d1, .int .i64 b.d2] 40))
  have RO := Lib.hid ((((RO.out).alloc (.cells #[.int .i64 a, .int .i64 d, .slice As S.length cs, .slice Ak K.length ck] 25)).alloc (.cells #[.int .i64 u.x, .int .i64 u.y, .int .i64 u.s] 34)).alloc (.cells #[.int .i64 b.m, .bool b.g, .int .i64 b.x0, .int .i64 b.y0, .int .i64 b.x1, .int .i64 b.y1, .int .i64 b.d0, .int .i64 b.d1, .int .i64 b.d2] 40))
  have RK := Lib.hid ((((RK.out).alloc (.cells #[.int .i64 a, .int .i64 d, .slice As S.length cs, .slice Ak K.length ck] 25)).alloc (.cells #[.int .i64 u.x, .int .i64 u.y, .int .i64 u.s] 34)).alloc (.cells #[.int .i64 b.m, .bool b.g, .int .i64 b.x0, .int .i64 b.y0, .int .i64 b.x1, .int .i64 b.y1, .int .i64 b.d0, .int .i64 b.d1, .int .i64 b.d2] 40))
  have HB := Lib.hid (below_alloc_ (below_alloc_ (below_alloc_ (HB.out) (.cells #[.int .i64 a, .int .i64 d, .slice As S.length cs, .slice Ak K.length ck] 25)) (.cells #[.int .i64 u.x, .int .i64 u.y, .int .i64 u.s] 34)) (.cells #[.int .i64 b.m, .bool b.g, .int .i64 b.x0, .int .i64 b.y0, .int .i64 b.x1, .int .i64 b.y1, .int .i64 b.d0, .int .i64 b.d1, .int .i64 b.d2] 40))
  have hzw : (((w.alloc (.cells #[.int .i64 a, .int .i64 d, .slice As S.length cs, .slice Ak K.length ck] 25)).alloc (.cells #[.int .i64 u.x, .int .i64 u.y, .int .i64 u.s] 34)).alloc (.cells #[.int .i64 b.m, .bool b.g, .int .i64 b.x0, .int .i64 b.y0, .int .i64 b.x1, .int .i64 b.y1, .int .i64 b.d0, .int .i64 b.d1, .int .i64 b.d2] 40)).heap.size = w.heap.size + 3 := by simp only [World.size_alloc]
  have B3 := ((Blk.new (w) 25 #[.int .i64 a, .int .i64 d, .slice As S.length cs, .slice Ak K.length ck]).alloc (.cells #[.int .i64 u.x, .int .i64 u.y, .int .i64 u.s] 34)).alloc (.cells #[.int .i64 b.m, .bool b.g, .int .i64 b.x0, .int .i64 b.y0, .int .i64 b.x1, .int .i64 b.y1, .int .i64 b.d0, .int .i64 b.d1, .int .i64 b.d2] 40)
  skip
  have B3 := Lib.hid B3
  have B4 := (Blk.new (w.alloc (.cells #[.int .i64 a, .int .i64 d, .slice As S.length cs, .slice Ak K.length ck] 25)) 34 #[.int .i64 u.x, .int .i64 u.y, .int .i64 u.s]).alloc (.cells #[.int .i64 b.m, .bool b.g, .int .i64 b.x0, .int .i64 b.y0, .int .i64 b.x1, .int .i64 b.y1, .int .i64 b.d0, .int .i64 b.d1, .int .i64 b.d2] 40)
  rw [show (w.alloc (.cells #[.int .i64 a, .int .i64 d, .slice As S.length cs, .slice Ak K.length ck] 25)).heap.size = w.heap.size + 1 by simp only [World.size_alloc]] at B4
  have B4 := Lib.hid B4
  have B5 := Blk.new ((w.alloc (.cells #[.int .i64 a, .int .i64 d, .slice As S.length cs, .slice Ak K.length ck] 25)).alloc (.cells #[.int .i64 u.x, .int .i64 u.y, .int .i64 u.s] 34)) 40 #[.int .i64 b.m, .bool b.g, .int .i64 b.x0, .int .i64 b.y0, .int .i64 b.x1, .int .i64 b.y1, .int .i64 b.d0, .int .i64 b.d1, .int .i64 b.d2]
  rw [show ((w.alloc (.cells #[.int .i64 a, .int .i64 d, .slice As S.length cs, .slice Ak K.length ck] 25)).alloc (.cells #[.int .i64 u.x, .int .i64 u.y, .int .i64 u.s] 34)).heap.size = w.heap.size + 1 + 1 by simp only [World.size_alloc]] at B5
  have B5 := Lib.hid B5
  generalize ((w.alloc (.cells #[.int .i64 a, .int .i64 d, .slice As S.length cs, .slice Ak K.length ck] 25)).alloc (.cells #[.int .i64 u.x, .int .i64 u.y, .int .i64 u.s] 34)).alloc (.cells #[.int .i64 b.m, .bool b.g, .int .i64 b.x0, .int .i64 b.y0, .int .i64 b.x1, .int .i64 b.y1, .int .i64 b.d0, .int .i64 b.d1, .int .i64 b.d2] 40) = w1 at *
  clear hzw
  have HB1 := Lib.hid (Below.refl w1.heap.size w1)
  refine (fright_c a d S As cs K Ak ck _ (RS.out.kept HB1.out) (RK.out.kept HB1.out) hn hm).mono ?_
  rintro e w2 ⟨rfl, hb'⟩
  have HB1 := Lib.hid ((HB1.out).trans (hb'.mono (HB1.out).size))
  clear hb'
  rw [H1.out]
  obtain ⟨zB30, zB31, zB32, zB33⟩ := (B3.out.below HB1.out B3.out.lt).cells4
  obtain ⟨zB40, zB41, zB42⟩ := (B4.out.below HB1.out B4.out.lt).cells3
  obtain ⟨zB50, zB51, zB52, zB53, zB54, zB55, zB56, zB57, zB58⟩ := (B5.out.below HB1.out B5.out.lt).cells9
  go_wp2_with fail
  clear zB30 zB31 zB32 zB33
  clear zB40 zB41 zB42
  clear zB50 zB51 zB52 zB53 zB54 zB55 zB56 zB57 zB58
  refine (fwithin_c a d (.slice As S.length cs) (.slice Ak K.length ck) u _ (countB_t (okFl_t H1.out).1).1 (countB_t (okFl_t H1.out).1).2 (countB_t (okFl_t H1.out).2.1).1 (countB_t (okFl_t H1.out).2.1).2).mono ?_
  rintro e w3 ⟨rfl, hb'⟩
  have HB1 := Lib.hid ((HB1.out).trans (hb'.mono (HB1.out).size))
  clear hb'
  rw [H2.out]
  obtain ⟨zB30, zB31, zB32, zB33⟩ := (B3.out.below HB1.out B3.out.lt).cells4
  obtain ⟨zB40, zB41, zB42⟩ := (B4.out.below HB1.out B4.out.lt).cells3
  obtain ⟨zB50, zB51, zB52, zB53, zB54, zB55, zB56, zB57, zB58⟩ := (B5.out.below HB1.out B5.out.lt).cells9
  go_wp2_with fail
  clear zB30 zB31 zB32 zB33
  clear zB40 zB41 zB42
  clear zB50 zB51 zB52 zB53 zB54 zB55 zB56 zB57 zB58
  go_ret
  exact ⟨rfl, RO.out.kept (HB1.out), only_of_below (HB.out.trans (HB1.out.mono HB.out.size)) _⟩
set_option maxRecDepth 100000 in
set_option maxHeartbeats 6400000 in
theorem fset_3 (a d : Int) (S : List Int) (As : Option Addr) (cs : Nat) (K : List Bk) (vk : Value) (B : Nat) (u : Un) (b : Bk) (w : World) (hS : ReadsI w As S) (hO : OwnE EK w B vk K) (hn : S.length ≤ 9223372036854775807) (h1 : okFl a d S K = true) (h2 : inFu a d u = true) (h3 : okBk b = false) :
    Calls Try.prog 26 #[flV a d (.slice As S.length cs) vk, unV u, bkV b] w fun e w' => e = .returned (.bool false) ∧ OwnE EK w' B vk K ∧ w.grownBy w' vk.ownBlock := by
  have RS := Lib.hid hS
  have RO := Lib.hid hO
  obtain ⟨Ak, ck, rfl, hq⟩ := hO.slice
  have RK := Lib.hid hq
  have hm := hO.max
  have HB := Lib.hid (Below.refl w.heap.size w)
  have H1 := Lib.hid h1
  have H2 := Lib.hid h2
  have H3 := Lib.hid h3
  clear hS hO hq h1 h2 h3
  go_enter Try.func26, Try.ntmps26
  go_wp2_with fail
  have RS := Lib.hid ((((RS.out).alloc (.cells #[.int .i64 a, .int .i64 d, .slice As S.length cs, .slice Ak K.length ck] 25)).alloc (.cells #[.int .i64 u.x, .int .i64 u.y, .int .i64 u.s] 34)).alloc (.cells #[.int .i64 b.m, .bool b.g, .int .i64 b.x0, .int .i64 b.y0, .int .i64 b.x1, .int .i64 b.y1, .int .i64 b.d0, .int .i64 b.d1, .int .i64 b.d2] 40))
  have RO := Lib.hid ((((RO.out).alloc (.cells #[.int .i64 a, .int .i64 d, .slice As S.length cs, .slice Ak K.length ck] 25)).alloc (.cells #[.int .i64 u.x, .int .i64 u.y, .int .i64 u.s] 34)).alloc (.cells #[.int .i64 b.m, .bool b.g, .int .i64 b.x0, .int .i64 b.y0, .int .i64 b.x1, .int .i64 b.y1, .int .i64 b.d0, .int .i64 b.d1, .int .i64 b.d2] 40))
  have RK := Lib.hid ((((RK.out).alloc (.cells #[.int .i64 a, .int .i64 d, .slice As S.length cs, .slice Ak K.length ck] 25)).alloc (.cells #[.int .i64 u.x, .int .i64 u.y, .int .i64 u.s] 34)).alloc (.cells #[.int .i64 b.m, .bool b.g, .int .i64 b.x0, .int .i64 b.y0, .int .i64 b.x1, .int .i64 b.y1, .int .i64 b.d0, .int .i64 b.d1, .int .i64 b.d2] 40))
  have HB := Lib.hid (below_alloc_ (below_alloc_ (below_alloc_ (HB.out) (.cells #[.int .i64 a, .int .i64 d, .slice As S.length cs, .slice Ak K.length ck] 25)) (.cells #[.int .i64 u.x, .int .i64 u.y, .int .i64 u.s] 34)) (.cells #[.int .i64 b.m, .bool b.g, .int .i64 b.x0, .int .i64 b.y0, .int .i64 b.x1, .int .i64 b.y1, .int .i64 b.d0, .int .i64 b.d1, .int .i64 b.d2] 40))
  have hzw : (((w.alloc (.cells #[.int .i64 a, .int .i64 d, .slice As S.length cs, .slice Ak K.length ck] 25)).alloc (.cells #[.int .i64 u.x, .int .i64 u.y, .int .i64 u.s] 34)).alloc (.cells #[.int .i64 b.m, .bool b.g, .int .i64 b.x0, .int .i64 b.y0, .int .i64 b.x1, .int .i64 b.y1, .int .i64 b.d0, .int .i64 b.d1, .int .i64 b.d2] 40)).heap.size = w.heap.size + 3 := by simp only [World.size_alloc]
  have B3 := ((Blk.new (w) 25 #[.int .i64 a, .int .i64 d, .slice As S.length cs, .slice Ak K.length ck]).alloc (.cells #[.int .i64 u.x, .int .i64 u.y, .int .i64 u.s] 34)).alloc (.cells #[.int .i64 b.m, .bool b.g, .int .i64 b.x0, .int .i64 b.y0, .int .i64 b.x1, .int .i64 b.y1, .int .i64 b.d0, .int .i64 b.d1, .int .i64 b.d2] 40)
  skip
  have B3 := Lib.hid B3
  have B4 := (Blk.new (w.alloc (.cells #[.int .i64 a, .int .i64 d, .slice As S.length cs, .slice Ak K.length ck] 25)) 34 #[.int .i64 u.x, .int .i64 u.y, .int .i64 u.s]).alloc (.cells #[.int .i64 b.m, .bool b.g, .int .i64 b.x0, .int .i64 b.y0, .int .i64 b.x1, .int .i64 b.y1, .int .i64 b.d0, .int .i64 b.d1, .int .i64 b.d2] 40)
  rw [show (w.alloc (.cells #[.int .i64 a, .int .i64 d, .slice As S.length cs, .slice Ak K.length ck] 25)).heap.size = w.heap.size + 1 by simp only [World.size_alloc]] at B4
  have B4 := Lib.hid B4
  have B5 := Blk.new ((w.alloc (.cells #[.int .i64 a, .int .i64 d, .slice As S.length cs, .slice Ak K.length ck] 25)).alloc (.cells #[.int .i64 u.x, .int .i64 u.y, .int .i64 u.s] 34)) 40 #[.int .i64 b.m, .bool b.g, .int .i64 b.x0, .int .i64 b.y0, .int .i64 b.x1, .int .i64 b.y1, .int .i64 b.d0, .int .i64 b.d1, .int .i64 b.d2]
  rw [show ((w.alloc (.cells #[.int .i64 a, .int .i64 d, .slice As S.length cs, .slice Ak K.length ck] 25)).alloc (.cells #[.int .i64 u.x, .int .i64 u.y, .int .i64 u.s] 34)).heap.size = w.heap.size + 1 + 1 by simp only [World.size_alloc]] at B5
  have B5 := Lib.hid B5
  generalize ((w.alloc (.cells #[.int .i64 a, .int .i64 d, .slice As S.length cs, .slice Ak K.length ck] 25)).alloc (.cells #[.int .i64 u.x, .int .i64 u.y, .int .i64 u.s] 34)).alloc (.cells #[.int .i64 b.m, .bool b.g, .int .i64 b.x0, .int .i64 b.y0, .int .i64 b.x1, .int .i64 b.y1, .int .i64 b.d0, .int .i64 b.d1, .int .i64 b.d2] 40) = w1 at *
  clear hzw
  have HB1 := Lib.hid (Below.refl w1.heap.size w1)
  refine (fright_c a d S As cs K Ak ck _ (RS.out.kept HB1.out) (RK.out.kept HB1.out) hn hm).mono ?_
  rintro e w2 ⟨rfl, hb'⟩
  have HB1 := Lib.hid ((HB1.out).trans (hb'.mono (HB1.out).size))
  clear hb'
  rw [H1.out]
  obtain ⟨zB30, zB31, zB32, zB33⟩ := (B3.out.below HB1.out B3.out.lt).cells4
  obtain ⟨zB40, zB41, zB42⟩ := (B4.out.below HB1.out B4.out.lt).cells3
  obtain ⟨zB50, zB51, zB52, zB53, zB54, zB55, zB56, zB57, zB58⟩ := (B5.out.below HB1.out B5.out.lt).cells9
  go_wp2_with fail
  clear zB30 zB31 zB32 zB33
  clear zB40 zB41 zB42
  clear zB50 zB51 zB52 zB53 zB54 zB55 zB56 zB57 zB58
  refine (fwithin_c a d (.slice As S.length cs) (.slice Ak K.length ck) u _ (countB_t (okFl_t H1.out).1).1 (countB_t (okFl_t H1.out).1).2 (countB_t (okFl_t H1.out).2.1).1 (countB_t (okFl_t H1.out).2.1).2).mono ?_
  rintro e w3 ⟨rfl, hb'⟩
  have HB1 := Lib.hid ((HB1.out).trans (hb'.mono (HB1.out).size))
  clear hb'
  rw [H2.out]
  obtain ⟨zB30, zB31, zB32, zB33⟩ := (B3.out.below HB1.out B3.out.lt).cells4
  obtain ⟨zB40, zB41, zB42⟩ := (B4.out.below HB1.out B4.out.lt).cells3
  obtain ⟨zB50, zB51, zB52, zB53, zB54, zB55, zB56, zB57, zB58⟩ := (B5.out.below HB1.out B5.out.lt).cells9
  go_wp2_with fail
  clear zB30 zB31 zB32 zB33
  clear zB40 zB41 zB42
  clear zB50 zB51 zB52 zB53 zB54 zB55 zB56 zB57 zB58
  refine (fblock_c b _).mono ?_
  rintro e w4 ⟨rfl, hb'⟩
  have HB1 := Lib.hid ((HB1.out).trans (hb'.mono (HB1.out).size))
  clear hb'
  rw [H3.out]
  obtain ⟨zB30, zB31, zB32, zB33⟩ := (B3.out.below HB1.out B3.out.lt).cells4
  obtain ⟨zB40, zB41, zB42⟩ := (B4.out.below HB1.out B4.out.lt).cells3
  obtain ⟨zB50, zB51, zB52, zB53, zB54, zB55, zB56, zB57, zB58⟩ := (B5.out.below HB1.out B5.out.lt).cells9
  go_wp2_with fail
  clear zB30 zB31 zB32 zB33
  clear zB40 zB41 zB42
  clear zB50 zB51 zB52 zB53 zB54 zB55 zB56 zB57 zB58
  go_ret
  exact ⟨rfl, RO.out.kept (HB1.out), only_of_below (HB.out.trans (HB1.out.mono HB.out.size)) _⟩
set_option maxRecDepth 100000 in
set_option maxHeartbeats 6400000 in
theorem fset_4 (a d : Int) (S : List Int) (As : Option Addr) (cs : Nat) (K : List Bk) (vk : Value) (B : Nat) (u : Un) (b : Bk) (w : World) (hS : ReadsI w As S) (hO : OwnE EK w B vk K) (hn : S.length ≤ 9223372036854775807) (h1 : okFl a d S K = true) (h2 : inFu a d u = true) (h3 : okBk b = true) :
    Calls Try.prog 26 #[flV a d (.slice As S.length cs) vk, unV u, bkV b] w fun e w' => e = .returned (.bool true) ∧ OwnE EK w' B vk (layL (4 * a.toNat) K u b) ∧ w.grownBy w' vk.ownBlock := by
  have RS := Lib.hid hS
  have RO := Lib.hid hO
  obtain ⟨Ak, ck, rfl, hq⟩ := hO.slice
  have RK := Lib.hid hq
  have hm := hO.max
  have HB := Lib.hid (Below.refl w.heap.size w)
  have H1 := Lib.hid h1
  have H2 := Lib.hid h2
  have H3 := Lib.hid h3
  clear hS hO hq h1 h2 h3
  obtain ⟨A, D, ea, ed, a1, a2, d1, d2, hl, hkl, hS1, hK1⟩ := okFl_nat H1.out
  subst ea
  subst ed
  obtain ⟨ux, uy, us, eu, s1, hux, huy⟩ := inFu_nat H2.out
  subst eu
  obtain ⟨g, c, eg, hgB, hgl⟩ := OwnE.form RO.out (by rw [hkl]; have := Nat.mul_pos a1 d1; omega)
  injection eg with eg1 eg2 eg3
  subst eg1
  subst eg3
  have HKL := Lib.hid hkl
  obtain ⟨m, g9, x0, y0, x1, y1, d0, d1', d2'⟩ := b
  clear hl hkl hS1 hK1 eg2
  obtain ⟨n, hnk⟩ : ∃ n, n = K.length := ⟨_, rfl⟩
  rw [← hnk] at RO ⊢
  have HNK := Lib.hid hnk
  clear hnk
  go_enter Try.func26, Try.ntmps26
  go_wp2_with fail
  have RS := Lib.hid ((((RS.out).alloc (.cells #[.int .i64 A, .int .i64 D, .slice As S.length cs, .slice (some ⟨g, 0, none⟩) n ck] 25)).alloc (.cells #[.int .i64 ux, .int .i64 uy, .int .i64 us] 34)).alloc (.cells #[.int .i64 m, .bool g9, .int .i64 x0, .int .i64 y0, .int .i64 x1, .int .i64 y1, .int .i64 d0, .int .i64 d1', .int .i64 d2'] 40))
  have RO := Lib.hid ((((RO.out).alloc (.cells #[.int .i64 A, .int .i64 D, .slice As S.length cs, .slice (some ⟨g, 0, none⟩) n ck] 25)).alloc (.cells #[.int .i64 ux, .int .i64 uy, .int .i64 us] 34)).alloc (.cells #[.int .i64 m, .bool g9, .int .i64 x0, .int .i64 y0, .int .i64 x1, .int .i64 y1, .int .i64 d0, .int .i64 d1', .int .i64 d2'] 40))
  have RK := Lib.hid ((((RK.out).alloc (.cells #[.int .i64 A, .int .i64 D, .slice As S.length cs, .slice (some ⟨g, 0, none⟩) n ck] 25)).alloc (.cells #[.int .i64 ux, .int .i64 uy, .int .i64 us] 34)).alloc (.cells #[.int .i64 m, .bool g9, .int .i64 x0, .int .i64 y0, .int .i64 x1, .int .i64 y1, .int .i64 d0, .int .i64 d1', .int .i64 d2'] 40))
  have HB := Lib.hid (below_alloc_ (below_alloc_ (below_alloc_ (HB.out) (.cells #[.int .i64 A, .int .i64 D, .slice As S.length cs, .slice (some ⟨g, 0, none⟩) n ck] 25)) (.cells #[.int .i64 ux, .int .i64 uy, .int .i64 us] 34)) (.cells #[.int .i64 m, .bool g9, .int .i64 x0, .int .i64 y0, .int .i64 x1, .int .i64 y1, .int .i64 d0, .int .i64 d1', .int .i64 d2'] 40))
  have hzw : (((w.alloc (.cells #[.int .i64 A, .int .i64 D, .slice As S.length cs, .slice (some ⟨g, 0, none⟩) n ck] 25)).alloc (.cells #[.int .i64 ux, .int .i64 uy, .int .i64 us] 34)).alloc (.cells #[.int .i64 m, .bool g9, .int .i64 x0, .int .i64 y0, .int .i64 x1, .int .i64 y1, .int .i64 d0, .int .i64 d1', .int .i64 d2'] 40)).heap.size = w.heap.size + 3 := by simp only [World.size_alloc]
  have B3 := ((Blk.new (w) 25 #[.int .i64 A, .int .i64 D, .slice As S.length cs, .slice (some ⟨g, 0, none⟩) n ck]).alloc (.cells #[.int .i64 ux, .int .i64 uy, .int .i64 us] 34)).alloc (.cells #[.int .i64 m, .bool g9, .int .i64 x0, .int .i64 y0, .int .i64 x1, .int .i64 y1, .int .i64 d0, .int .i64 d1', .int .i64 d2'] 40)
  skip
  have B3 := Lib.hid B3
  have B4 := (Blk.new (w.alloc (.cells #[.int .i64 A, .int .i64 D, .slice As S.length cs, .slice (some ⟨g, 0, none⟩) n ck] 25)) 34 #[.int .i64 ux, .int .i64 uy, .int .i64 us]).alloc (.cells #[.int .i64 m, .bool g9, .int .i64 x0, .int .i64 y0, .int .i64 x1, .int .i64 y1, .int .i64 d0, .int .i64 d1', .int .i64 d2'] 40)
  rw [show (w.alloc (.cells #[.int .i64 A, .int .i64 D, .slice As S.length cs, .slice (some ⟨g, 0, none⟩) n ck] 25)).heap.size = w.heap.size + 1 by simp only [World.size_alloc]] at B4
  have B4 := Lib.hid B4
  have B5 := Blk.new ((w.alloc (.cells #[.int .i64 A, .int .i64 D, .slice As S.length cs, .slice (some ⟨g, 0, none⟩) n ck] 25)).alloc (.cells #[.int .i64 ux, .int .i64 uy, .int .i64 us] 34)) 40 #[.int .i64 m, .bool g9, .int .i64 x0, .int .i64 y0, .int .i64 x1, .int .i64 y1, .int .i64 d0, .int .i64 d1', .int .i64 d2']
  rw [show ((w.alloc (.cells #[.int .i64 A, .int .i64 D, .slice As S.length cs, .slice (some ⟨g, 0, none⟩) n ck] 25)).alloc (.cells #[.int .i64 ux, .int .i64 uy, .int .i64 us] 34)).heap.size = w.heap.size + 1 + 1 by simp only [World.size_alloc]] at B5
  have B5 := Lib.hid B5
  generalize ((w.alloc (.cells #[.int .i64 A, .int .i64 D, .slice As S.length cs, .slice (some ⟨g, 0, none⟩) n ck] 25)).alloc (.cells #[.int .i64 ux, .int .i64 uy, .int .i64 us] 34)).alloc (.cells #[.int .i64 m, .bool g9, .int .i64 x0, .int .i64 y0, .int .i64 x1, .int .i64 y1, .int .i64 d0, .int .i64 d1', .int .i64 d2'] 40) = w1 at *
  clear hzw
  have HB1 := Lib.hid (Below.refl w1.heap.size w1)
  have hfr := fright_c A D S As cs K (some ⟨g, 0, none⟩) ck _ (RS.out.kept HB1.out) (RK.out.kept HB1.out) hn hm
  rw [← HNK.out] at hfr
  refine (hfr).mono ?_
  rintro e w2 ⟨rfl, hb'⟩
  have HB1 := Lib.hid ((HB1.out).trans (hb'.mono (HB1.out).size))
  clear hb'
  rw [H1.out]
  obtain ⟨zB30, zB31, zB32, zB33⟩ := (B3.out.below HB1.out B3.out.lt).cells4
  obtain ⟨zB40, zB41, zB42⟩ := (B4.out.below HB1.out B4.out.lt).cells3
  obtain ⟨zB50, zB51, zB52, zB53, zB54, zB55, zB56, zB57, zB58⟩ := (B5.out.below HB1.out B5.out.lt).cells9
  go_wp2_with fail
  clear zB30 zB31 zB32 zB33
  clear zB40 zB41 zB42
  clear zB50 zB51 zB52 zB53 zB54 zB55 zB56 zB57 zB58
  refine (fwithin_c A D (.slice As S.length cs) (.slice (some ⟨g, 0, none⟩) n ck) ⟨ux, uy, us⟩ _ (countB_t (okFl_t H1.out).1).1 (countB_t (okFl_t H1.out).1).2 (countB_t (okFl_t H1.out).2.1).1 (countB_t (okFl_t H1.out).2.1).2).mono ?_
  rintro e w3 ⟨rfl, hb'⟩
  have HB1 := Lib.hid ((HB1.out).trans (hb'.mono (HB1.out).size))
  clear hb'
  rw [H2.out]
  obtain ⟨zB30, zB31, zB32, zB33⟩ := (B3.out.below HB1.out B3.out.lt).cells4
  obtain ⟨zB40, zB41, zB42⟩ := (B4.out.below HB1.out B4.out.lt).cells3
  obtain ⟨zB50, zB51, zB52, zB53, zB54, zB55, zB56, zB57, zB58⟩ := (B5.out.below HB1.out B5.out.lt).cells9
  go_wp2_with fail
  clear zB30 zB31 zB32 zB33
  clear zB40 zB41 zB42
  clear zB50 zB51 zB52 zB53 zB54 zB55 zB56 zB57 zB58
  refine (fblock_c ⟨m, g9, x0, y0, x1, y1, d0, d1', d2'⟩ _).mono ?_
  rintro e w4 ⟨rfl, hb'⟩
  have HB1 := Lib.hid ((HB1.out).trans (hb'.mono (HB1.out).size))
  clear hb'
  rw [H3.out]
  obtain ⟨zB30, zB31, zB32, zB33⟩ := (B3.out.below HB1.out B3.out.lt).cells4
  obtain ⟨zB40, zB41, zB42⟩ := (B4.out.below HB1.out B4.out.lt).cells3
  obtain ⟨zB50, zB51, zB52, zB53, zB54, zB55, zB56, zB57, zB58⟩ := (B5.out.below HB1.out B5.out.lt).cells9
  go_wp2_with fail
  clear zB30 zB31 zB32 zB33
  clear zB40 zB41 zB42
  clear zB50 zB51 zB52 zB53 zB54 zB55 zB56 zB57 zB58
  refine (flay_c A D (.slice As S.length cs) g n ck B K ux uy us m g9 x0 y0 x1 y1 d0 d1' d2' _ (RO.out.kept HB1.out) (by have := (HB.out.trans (HB1.out.mono HB.out.size)).size; omega) a2 d2 HKL.out hux huy).mono ?_
  rintro e w5 ⟨⟨v, rfl⟩, ho, hg⟩
  have HO := Lib.hid ho
  have HG := Lib.hid hg
  clear ho hg
  go_wp2_with fail
  go_ret
  exact ⟨rfl, HO.out, (only_of_below (HB.out.trans (HB1.out.mono HB.out.size)) _).trans HG.out⟩
theorem fset_c (a d : Int) (S : List Int) (As : Option Addr) (cs : Nat) (K : List Bk) (vk : Value) (B : Nat) (u : Un) (b : Bk) (w : World) (hS : ReadsI w As S) (hO : OwnE EK w B vk K) (hn : S.length ≤ 9223372036854775807) :
    Calls Try.prog 26 #[flV a d (.slice As S.length cs) vk, unV u, bkV b] w fun e w' => e = .returned (.bool (setB a d S K u b)) ∧ OwnE EK w' B vk (setK a d S K u b) ∧ w.grownBy w' vk.ownBlock := by
  cases h1 : okFl a d S K with
  | false =>
    have e : setB a d S K u b = false := by unfold setB; rw [h1]; rfl
    unfold setK
    rw [e, if_neg (by decide)]
    exact fset_1 a d S As cs K vk B u b w hS hO hn h1
  | true =>
    cases h2 : inFu a d u with
    | false =>
      have e : setB a d S K u b = false := by unfold setB; rw [h1, h2]; rfl
      unfold setK
      rw [e, if_neg (by decide)]
      exact fset_2 a d S As cs K vk B u b w hS hO hn h1 h2
    | true =>
      cases h3 : okBk b with
      | false =>
        have e : setB a d S K u b = false := by unfold setB; rw [h1, h2, h3]; rfl
        unfold setK
        rw [e, if_neg (by decide)]
        exact fset_3 a d S As cs K vk B u b w hS hO hn h1 h2 h3
      | true =>
        have e : setB a d S K u b = true := by unfold setB; rw [h1, h2, h3]; rfl
        unfold setK
        rw [e, if_pos rfl]
        exact fset_4 a d S As cs K vk B u b w hS hO hn h1 h2 h3
def covI (n sep : Int) : Int := (n + 4 * sep - 1) / (4 * sep)
theorem fcover_c (n sep : Int) (w : World) (n1 : 1 ≤ n) (n2 : n ≤ 1024) (s1 : 1 ≤ sep) (s2 : sep ≤ 256) : Calls Try.prog 43 #[.int .i64 n, .int .i64 sep] w fun e w' => e = .returned (.int .i64 (covI n sep)) ∧ w = w' := by
  have h0 : ¬ 4 * sep = 0 := by omega
  go_enter Try.func43, Try.ntmps43
  go_wp2_with fail
  go_ret
  exact ⟨ret_int (by unfold covI; rfl), rfl⟩
def sqB (p h sep : Int) : Bool := decide (1 ≤ p ∧ p ≤ 1024 ∧ 1 ≤ h ∧ h ≤ 1024 ∧ 1 ≤ sep ∧ sep ≤ 256)
set_option maxRecDepth 100000 in
set_option maxHeartbeats 6400000 in
theorem fsq_n (p h sep : Int) (w : World) (hb : sqB p h sep = false) : Calls Try.prog 30 #[.int .i64 p, .int .i64 h, .int .i64 sep] w fun e w' => e = .returned (.tuple #[.int .i64 0, .int .i64 0]) ∧ w = w' := by
  have hb := of_decide_eq_false hb
  by_cases c0 : 1 ≤ p
  rotate_left
  · clear hb
    go_enter Try.func30, Try.ntmps30
    go_wp2_with fail
    go_ret2
    exact ⟨rfl, rfl⟩
  by_cases c1 : p ≤ 1024
  rotate_left
  · clear hb
    go_enter Try.func30, Try.ntmps30
    go_wp2_with fail
    go_ret2
    exact ⟨rfl, rfl⟩
  by_cases c2 : 1 ≤ h
  rotate_left
  · clear hb
    go_enter Try.func30, Try.ntmps30
    go_wp2_with fail
    go_ret2
    exact ⟨rfl, rfl⟩
  by_cases c3 : h ≤ 1024
  rotate_left
  · clear hb
    go_enter Try.func30, Try.ntmps30
    go_wp2_with fail
    go_ret2
    exact ⟨rfl, rfl⟩
  by_cases c4 : 1 ≤ sep
  rotate_left
  · clear hb
    go_enter Try.func30, Try.ntmps30
    go_wp2_with fail
    go_ret2
    exact ⟨rfl, rfl⟩
  by_cases c5 : sep ≤ 256
  rotate_left
  · clear hb
    go_enter Try.func30, Try.ntmps30
    go_wp2_with fail
    go_ret2
    exact ⟨rfl, rfl⟩
  omega
set_option maxRecDepth 100000 in
set_option maxHeartbeats 6400000 in
theorem fsq_y (p h sep : Int) (w : World) (hb : sqB p h sep = true) : Calls Try.prog 30 #[.int .i64 p, .int .i64 h, .int .i64 sep] w fun e w' => e = .returned (.tuple #[.int .i64 (covI p sep), .int .i64 (covI h sep)]) ∧ w = w' := by
  obtain ⟨c0, c1, c2, c3, c4, c5⟩ := of_decide_eq_true hb
  clear hb
  go_enter Try.func30, Try.ntmps30
  go_wp2_with fail
  refine (fcover_c p sep _ (by omega) (by omega) (by omega) (by omega)).mono ?_
  rintro e w1 ⟨rfl, rfl⟩
  go_wp2_with fail
  refine (fcover_c h sep _ (by omega) (by omega) (by omega) (by omega)).mono ?_
  rintro e w1 ⟨rfl, rfl⟩
  go_wp2_with fail
  go_ret2
  exact ⟨rfl, rfl⟩

end Go.Proofs.Ytiedjeholmoccaa
