/- What the law BandsCut of layer 10 answers: true. -/
import Derived.Test.YtjlajggilcihoaaBd15
import Derived.Test.YtjlajggilcihoaaMono3
import Derived.Test.YtjlajggilcihoaaBdF
import Derived.Test.YtjlajggilcihoaaOpenBand
import Derived.Test.YtjlajggilcihoaaOpenPlaneC
import Derived.Deep.DeepCutAuto
import Derived.Deep.CutBlock
namespace Go.Proofs.Ytjlajggilcihoaa
open Go.RowKit Go.Sort
set_option linter.unusedVariables false
set_option linter.unusedSimpArgs false

theorem layV_length (W H : Int) (V : List Int) (b : Bd) (W' H' : Int) (U : List Int) : (layV W H V b W' H' U).length = V.length := by
  unfold layV
  split
  · unfold laidL; rw [tab_length]
  · rfl
/-- What was cut out is laid back. -/
theorem lay_back {W H : Int} {V : List Int} {b : Bd} {W' H' : Int} {U : List Int} (h : inB W H V.length b = true) :
    layB W H V.length b (cutP W H V b).W (cutP W H V b).H (cutP W H V b).V.length = true ∧ layV W H (layV W H V b W' H' U) b (cutP W H V b).W (cutP W H V b).H (cutP W H V b).V = V ∧ 0 < (cutP W H V b).V.length ∧ (cutP W H V b).V.length ≤ V.length := by
  obtain ⟨a, c, x, y, bw, bh, rfl, rfl, a1, a2, b1, b2, hl, hb, w1, w2, hx, hy⟩ := inB_nat h
  have hc : cutP a c V b = ⟨bw, bh, cutL V a x y bw (bw * bh)⟩ := by
    unfold cutP
    rw [if_pos h, hb]
    simp
  have hp : 0 < bw * bh := Nat.mul_pos w1 w2
  have hle : bw * bh ≤ V.length := by rw [hl]; exact Nat.mul_le_mul (by omega) (by omega)
  have hB : layB a c V.length b bw bh (bw * bh) = true := by
    unfold layB
    rw [h, okB_mk w1 (by omega) w2 (by omega), hb]
    simp
  rw [hc]
  dsimp only
  rw [cutL_length]
  refine ⟨hB, ?_, hp, hle⟩
  have hB2 : layB a c (layV a c V b W' H' U).length b bw bh (cutL V a x y bw (bw * bh)).length = true := by
    rw [layV_length, cutL_length]; exact hB
  rw [layV, if_pos hB2, layV_length, hb]
  simp only [Int.toNat_natCast]
  unfold layV
  split
  · simp only [Int.toNat_natCast]
    exact laid_cut2 hx
  · exact laid_cut hx
theorem rsame_n (W H : Int) (V : List Int) (W' H' : Int) (V' : List Int) (n n' : Nat) (hl : V.length = n) (hl' : V'.length = n') (A A' : Option Addr) (c c' : Nat) (w : World) (hR : ReadsI w A V) (hR' : ReadsI w A' V') (hn : n ≤ 9223372036854775806) (hn' : n' ≤ 9223372036854775806) :
    Calls Try.prog 17 #[plV W H (.slice A n c), plV W' H' (.slice A' n' c')] w fun e w' => e = .returned (.bool (eqB W H V W' H' V')) ∧ Below w.heap.size w w' := by
  subst hl
  subst hl'
  exact rsame_c W H V W' H' V' A A' c c' w hR hR' hn hn'
theorem layB_len {W H : Int} {n : Nat} {b : Bd} {W' H' : Int} {m n' : Nat} (h : n = n') : layB W H n b W' H' m = layB W H n' b W' H' m := by rw [h]
set_option maxRecDepth 100000 in
set_option maxHeartbeats 16000000 in
theorem bcw_1 (W H : Int) (V : List Int) (A : Option Addr) (c : Nat) (b : Bd) (W' H' : Int) (U : List Int) (A' : Option Addr) (c' : Nat) (w : World) (hR : ReadsI w A V) (hR' : ReadsI w A' U) (hc : V.length ≤ c) (hc2 : c ≤ 9223372036854775807) (hn' : U.length ≤ 9223372036854775807) (h1 : 3000 < V.length) :
    Calls Try.prog 5 #[plV W H (.slice A V.length c), bdV b, plV W' H' (.slice A' U.length c')] w fun e w' => e = .returned (.bool true) ∧ Below w.heap.size w w' := by
  have RP := Lib.hid hR
  have RQ := Lib.hid hR'
  have HB := Lib.hid (Below.refl w.heap.size w)
  have q1 : (3000 : Int) < (V.length : Int) := by omega
  clear h1
  obtain ⟨l, o, x, y, bw, bh⟩ := b
  clear hR hR'
  go_enter Try.func5, Try.ntmps5
  go_wp2_with fail
  have RP := Lib.hid ((((RP.out).alloc (.cells #[.int .i64 W, .int .i64 H, .slice A V.length c] 39)).alloc (.cells #[.int .i64 l, .int .i64 o, .int .i64 x, .int .i64 y, .int .i64 bw, .int .i64 bh] 31)).alloc (.cells #[.int .i64 W', .int .i64 H', .slice A' U.length c'] 39))
  have RQ := Lib.hid ((((RQ.out).alloc (.cells #[.int .i64 W, .int .i64 H, .slice A V.length c] 39)).alloc (.cells #[.int .i64 l, .int .i64 o, .int .i64 x, .int .i64 y, .int .i64 bw, .int .i64 bh] 31)).alloc (.cells #[.int .i64 W', .int .i64 H', .slice A' U.length c'] 39))
  have HB := Lib.hid (below_alloc_ (below_alloc_ (below_alloc_ (HB.out) (.cells #[.int .i64 W, .int .i64 H, .slice A V.length c] 39)) (.cells #[.int .i64 l, .int .i64 o, .int .i64 x, .int .i64 y, .int .i64 bw, .int .i64 bh] 31)) (.cells #[.int .i64 W', .int .i64 H', .slice A' U.length c'] 39))
  have hzw : (((w.alloc (.cells #[.int .i64 W, .int .i64 H, .slice A V.length c] 39)).alloc (.cells #[.int .i64 l, .int .i64 o, .int .i64 x, .int .i64 y, .int .i64 bw, .int .i64 bh] 31)).alloc (.cells #[.int .i64 W', .int .i64 H', .slice A' U.length c'] 39)).heap.size = w.heap.size + 3 := by simp only [World.size_alloc]
  have B3 := ((Blk.new (w) 39 #[.int .i64 W, .int .i64 H, .slice A V.length c]).alloc (.cells #[.int .i64 l, .int .i64 o, .int .i64 x, .int .i64 y, .int .i64 bw, .int .i64 bh] 31)).alloc (.cells #[.int .i64 W', .int .i64 H', .slice A' U.length c'] 39)
  skip
  have B3 := Lib.hid B3
  have B4 := (Blk.new (w.alloc (.cells #[.int .i64 W, .int .i64 H, .slice A V.length c] 39)) 31 #[.int .i64 l, .int .i64 o, .int .i64 x, .int .i64 y, .int .i64 bw, .int .i64 bh]).alloc (.cells #[.int .i64 W', .int .i64 H', .slice A' U.length c'] 39)
  rw [show (w.alloc (.cells #[.int .i64 W, .int .i64 H, .slice A V.length c] 39)).heap.size = w.heap.size + 1 by simp only [World.size_alloc]] at B4
  have B4 := Lib.hid B4
  have B5 := Blk.new ((w.alloc (.cells #[.int .i64 W, .int .i64 H, .slice A V.length c] 39)).alloc (.cells #[.int .i64 l, .int .i64 o, .int .i64 x, .int .i64 y, .int .i64 bw, .int .i64 bh] 31)) 39 #[.int .i64 W', .int .i64 H', .slice A' U.length c']
  rw [show ((w.alloc (.cells #[.int .i64 W, .int .i64 H, .slice A V.length c] 39)).alloc (.cells #[.int .i64 l, .int .i64 o, .int .i64 x, .int .i64 y, .int .i64 bw, .int .i64 bh] 31)).heap.size = w.heap.size + 1 + 1 by simp only [World.size_alloc]] at B5
  have B5 := Lib.hid B5
  generalize ((w.alloc (.cells #[.int .i64 W, .int .i64 H, .slice A V.length c] 39)).alloc (.cells #[.int .i64 l, .int .i64 o, .int .i64 x, .int .i64 y, .int .i64 bw, .int .i64 bh] 31)).alloc (.cells #[.int .i64 W', .int .i64 H', .slice A' U.length c'] 39) = w1 at *
  have h3z := Lib.hid hzw
  clear hzw
  have HB1 := Lib.hid (Below.refl w1.heap.size w1)
  refine (first_c _).mono ?_
  rintro e w2 ⟨rfl, hb'⟩
  have HB1 := Lib.hid ((HB1.out).trans (hb'.mono (HB1.out).size))
  clear hb'
  obtain ⟨zB30, zB31, zB32⟩ := (B3.out.below HB1.out B3.out.lt).cells3
  obtain ⟨zB40, zB41, zB42, zB43, zB44, zB45⟩ := (B4.out.below HB1.out B4.out.lt).cells6
  obtain ⟨zB50, zB51, zB52⟩ := (B5.out.below HB1.out B5.out.lt).cells3
  go_wp2_with fail
  clear zB30 zB31 zB32
  clear zB40 zB41 zB42 zB43 zB44 zB45
  clear zB50 zB51 zB52
  go_ret
  exact ⟨rfl, HB.out.trans (HB1.out.mono HB.out.size)⟩

set_option maxRecDepth 100000 in
set_option maxHeartbeats 16000000 in
theorem bcw_2 (W H : Int) (V : List Int) (A : Option Addr) (c : Nat) (b : Bd) (W' H' : Int) (U : List Int) (A' : Option Addr) (c' : Nat) (w : World) (hR : ReadsI w A V) (hR' : ReadsI w A' U) (hc : V.length ≤ c) (hc2 : c ≤ 9223372036854775807) (hn' : U.length ≤ 9223372036854775807) (h1 : ¬ 3000 < V.length) (h2 : 3000 < U.length) :
    Calls Try.prog 5 #[plV W H (.slice A V.length c), bdV b, plV W' H' (.slice A' U.length c')] w fun e w' => e = .returned (.bool true) ∧ Below w.heap.size w w' := by
  have RP := Lib.hid hR
  have RQ := Lib.hid hR'
  have HB := Lib.hid (Below.refl w.heap.size w)
  have q1 : (V.length : Int) ≤ 3000 := by omega
  have q2 : (3000 : Int) < (U.length : Int) := by omega
  clear h1 h2
  obtain ⟨l, o, x, y, bw, bh⟩ := b
  clear hR hR'
  go_enter Try.func5, Try.ntmps5
  go_wp2_with fail
  have RP := Lib.hid ((((RP.out).alloc (.cells #[.int .i64 W, .int .i64 H, .slice A V.length c] 39)).alloc (.cells #[.int .i64 l, .int .i64 o, .int .i64 x, .int .i64 y, .int .i64 bw, .int .i64 bh] 31)).alloc (.cells #[.int .i64 W', .int .i64 H', .slice A' U.length c'] 39))
  have RQ := Lib.hid ((((RQ.out).alloc (.cells #[.int .i64 W, .int .i64 H, .slice A V.length c] 39)).alloc (.cells #[.int .i64 l, .int .i64 o, .int .i64 x, .int .i64 y, .int .i64 bw, .int .i64 bh] 31)).alloc (.cells #[.int .i64 W', .int .i64 H', .slice A' U.length c'] 39))
  have HB := Lib.hid (below_alloc_ (below_alloc_ (below_alloc_ (HB.out) (.cells #[.int .i64 W, .int .i64 H, .slice A V.length c] 39)) (.cells #[.int .i64 l, .int .i64 o, .int .i64 x, .int .i64 y, .int .i64 bw, .int .i64 bh] 31)) (.cells #[.int .i64 W', .int .i64 H', .slice A' U.length c'] 39))
  have hzw : (((w.alloc (.cells #[.int .i64 W, .int .i64 H, .slice A V.length c] 39)).alloc (.cells #[.int .i64 l, .int .i64 o, .int .i64 x, .int .i64 y, .int .i64 bw, .int .i64 bh] 31)).alloc (.cells #[.int .i64 W', .int .i64 H', .slice A' U.length c'] 39)).heap.size = w.heap.size + 3 := by simp only [World.size_alloc]
  have B3 := ((Blk.new (w) 39 #[.int .i64 W, .int .i64 H, .slice A V.length c]).alloc (.cells #[.int .i64 l, .int .i64 o, .int .i64 x, .int .i64 y, .int .i64 bw, .int .i64 bh] 31)).alloc (.cells #[.int .i64 W', .int .i64 H', .slice A' U.length c'] 39)
  skip
  have B3 := Lib.hid B3
  have B4 := (Blk.new (w.alloc (.cells #[.int .i64 W, .int .i64 H, .slice A V.length c] 39)) 31 #[.int .i64 l, .int .i64 o, .int .i64 x, .int .i64 y, .int .i64 bw, .int .i64 bh]).alloc (.cells #[.int .i64 W', .int .i64 H', .slice A' U.length c'] 39)
  rw [show (w.alloc (.cells #[.int .i64 W, .int .i64 H, .slice A V.length c] 39)).heap.size = w.heap.size + 1 by simp only [World.size_alloc]] at B4
  have B4 := Lib.hid B4
  have B5 := Blk.new ((w.alloc (.cells #[.int .i64 W, .int .i64 H, .slice A V.length c] 39)).alloc (.cells #[.int .i64 l, .int .i64 o, .int .i64 x, .int .i64 y, .int .i64 bw, .int .i64 bh] 31)) 39 #[.int .i64 W', .int .i64 H', .slice A' U.length c']
  rw [show ((w.alloc (.cells #[.int .i64 W, .int .i64 H, .slice A V.length c] 39)).alloc (.cells #[.int .i64 l, .int .i64 o, .int .i64 x, .int .i64 y, .int .i64 bw, .int .i64 bh] 31)).heap.size = w.heap.size + 1 + 1 by simp only [World.size_alloc]] at B5
  have B5 := Lib.hid B5
  generalize ((w.alloc (.cells #[.int .i64 W, .int .i64 H, .slice A V.length c] 39)).alloc (.cells #[.int .i64 l, .int .i64 o, .int .i64 x, .int .i64 y, .int .i64 bw, .int .i64 bh] 31)).alloc (.cells #[.int .i64 W', .int .i64 H', .slice A' U.length c'] 39) = w1 at *
  have h3z := Lib.hid hzw
  clear hzw
  have HB1 := Lib.hid (Below.refl w1.heap.size w1)
  refine (first_c _).mono ?_
  rintro e w2 ⟨rfl, hb'⟩
  have HB1 := Lib.hid ((HB1.out).trans (hb'.mono (HB1.out).size))
  clear hb'
  obtain ⟨zB30, zB31, zB32⟩ := (B3.out.below HB1.out B3.out.lt).cells3
  obtain ⟨zB40, zB41, zB42, zB43, zB44, zB45⟩ := (B4.out.below HB1.out B4.out.lt).cells6
  obtain ⟨zB50, zB51, zB52⟩ := (B5.out.below HB1.out B5.out.lt).cells3
  go_wp2_with fail
  clear zB30 zB31 zB32
  clear zB40 zB41 zB42 zB43 zB44 zB45
  clear zB50 zB51 zB52
  go_ret
  exact ⟨rfl, HB.out.trans (HB1.out.mono HB.out.size)⟩

set_option maxRecDepth 100000 in
set_option maxHeartbeats 16000000 in
theorem bcw_y (W H : Int) (V : List Int) (A : Option Addr) (c : Nat) (b : Bd) (W' H' : Int) (U : List Int) (A' : Option Addr) (c' : Nat) (w : World) (hR : ReadsI w A V) (hR' : ReadsI w A' U) (hc : V.length ≤ c) (hc2 : c ≤ 9223372036854775807) (hn' : U.length ≤ 9223372036854775807) (h1 : ¬ 3000 < V.length) (h2 : ¬ 3000 < U.length) (hi : inB W H V.length b = true) :
    Calls Try.prog 5 #[plV W H (.slice A V.length c), bdV b, plV W' H' (.slice A' U.length c')] w fun e w' => e = .returned (.bool true) ∧ Below w.heap.size w w' := by
  have RP := Lib.hid hR
  have RQ := Lib.hid hR'
  have HB := Lib.hid (Below.refl w.heap.size w)
  have q1 : (V.length : Int) ≤ 3000 := by omega
  have q2 : (U.length : Int) ≤ 3000 := by omega
  have n1 : V.length ≤ 9223372036854775806 := by omega
  have NC := Lib.hid (show (cutP W H V b).V.length ≤ 3000 by have := (lay_back (W' := 0) (H' := 0) (U := []) hi).2.2.2; omega)
  have LB := Lib.hid (lay_back (W' := W') (H' := H') (U := U) hi)
  clear h1 h2 hi
  obtain ⟨l, o, x, y, bw, bh⟩ := b
  clear hR hR'
  go_enter Try.func5, Try.ntmps5
  go_wp2_with fail
  have RP := Lib.hid ((((RP.out).alloc (.cells #[.int .i64 W, .int .i64 H, .slice A V.length c] 39)).alloc (.cells #[.int .i64 l, .int .i64 o, .int .i64 x, .int .i64 y, .int .i64 bw, .int .i64 bh] 31)).alloc (.cells #[.int .i64 W', .int .i64 H', .slice A' U.length c'] 39))
  have RQ := Lib.hid ((((RQ.out).alloc (.cells #[.int .i64 W, .int .i64 H, .slice A V.length c] 39)).alloc (.cells #[.int .i64 l, .int .i64 o, .int .i64 x, .int .i64 y, .int .i64 bw, .int .i64 bh] 31)).alloc (.cells #[.int .i64 W', .int .i64 H', .slice A' U.length c'] 39))
  have HB := Lib.hid (below_alloc_ (below_alloc_ (below_alloc_ (HB.out) (.cells #[.int .i64 W, .int .i64 H, .slice A V.length c] 39)) (.cells #[.int .i64 l, .int .i64 o, .int .i64 x, .int .i64 y, .int .i64 bw, .int .i64 bh] 31)) (.cells #[.int .i64 W', .int .i64 H', .slice A' U.length c'] 39))
  have hzw : (((w.alloc (.cells #[.int .i64 W, .int .i64 H, .slice A V.length c] 39)).alloc (.cells #[.int .i64 l, .int .i64 o, .int .i64 x, .int .i64 y, .int .i64 bw, .int .i64 bh] 31)).alloc (.cells #[.int .i64 W', .int .i64 H', .slice A' U.length c'] 39)).heap.size = w.heap.size + 3 := by simp only [World.size_alloc]
  have B3 := ((Blk.new (w) 39 #[.int .i64 W, .int .i64 H, .slice A V.length c]).alloc (.cells #[.int .i64 l, .int .i64 o, .int .i64 x, .int .i64 y, .int .i64 bw, .int .i64 bh] 31)).alloc (.cells #[.int .i64 W', .int .i64 H', .slice A' U.length c'] 39)
  skip
  have B3 := Lib.hid B3
  have B4 := (Blk.new (w.alloc (.cells #[.int .i64 W, .int .i64 H, .slice A V.length c] 39)) 31 #[.int .i64 l, .int .i64 o, .int .i64 x, .int .i64 y, .int .i64 bw, .int .i64 bh]).alloc (.cells #[.int .i64 W', .int .i64 H', .slice A' U.length c'] 39)
  rw [show (w.alloc (.cells #[.int .i64 W, .int .i64 H, .slice A V.length c] 39)).heap.size = w.heap.size + 1 by simp only [World.size_alloc]] at B4
  have B4 := Lib.hid B4
  have B5 := Blk.new ((w.alloc (.cells #[.int .i64 W, .int .i64 H, .slice A V.length c] 39)).alloc (.cells #[.int .i64 l, .int .i64 o, .int .i64 x, .int .i64 y, .int .i64 bw, .int .i64 bh] 31)) 39 #[.int .i64 W', .int .i64 H', .slice A' U.length c']
  rw [show ((w.alloc (.cells #[.int .i64 W, .int .i64 H, .slice A V.length c] 39)).alloc (.cells #[.int .i64 l, .int .i64 o, .int .i64 x, .int .i64 y, .int .i64 bw, .int .i64 bh] 31)).heap.size = w.heap.size + 1 + 1 by simp only [World.size_alloc]] at B5
  have B5 := Lib.hid B5
  generalize ((w.alloc (.cells #[.int .i64 W, .int .i64 H, .slice A V.length c] 39)).alloc (.cells #[.int .i64 l, .int .i64 o, .int .i64 x, .int .i64 y, .int .i64 bw, .int .i64 bh] 31)).alloc (.cells #[.int .i64 W', .int .i64 H', .slice A' U.length c'] 39) = w1 at *
  have h3z := Lib.hid hzw
  clear hzw
  have HB1 := Lib.hid (Below.refl w1.heap.size w1)
  refine (first_c _).mono ?_
  rintro e w2 ⟨rfl, hb'⟩
  have HB1 := Lib.hid ((HB1.out).trans (hb'.mono (HB1.out).size))
  clear hb'
  obtain ⟨zB30, zB31, zB32⟩ := (B3.out.below HB1.out B3.out.lt).cells3
  obtain ⟨zB40, zB41, zB42, zB43, zB44, zB45⟩ := (B4.out.below HB1.out B4.out.lt).cells6
  obtain ⟨zB50, zB51, zB52⟩ := (B5.out.below HB1.out B5.out.lt).cells3
  go_wp2_with fail
  clear zB30 zB31 zB32
  clear zB40 zB41 zB42 zB43 zB44 zB45
  clear zB50 zB51 zB52
  refine (bcut_c W H V A c (⟨l, o, x, y, bw, bh⟩ : Bd) _ (RP.out.kept HB1.out) hc hc2).mono ?_
  rintro e w3 ⟨v, rfl, ho, hb'⟩
  have HB1 := Lib.hid ((HB1.out).trans (hb'.mono (HB1.out).size))
  clear hb'
  obtain ⟨A7, c7, rfl, hq⟩ := ho.slice
  have R7 := Lib.hid hq
  clear ho hq
  obtain ⟨P, hP⟩ : ∃ P, P = cutP W H V (⟨l, o, x, y, bw, bh⟩ : Bd) := ⟨_, rfl⟩
  rw [← hP] at R7 LB NC ⊢
  have HP := Lib.hid hP
  clear hP
  obtain ⟨PW, PH, PV⟩ := P
  dsimp only at R7 LB NC ⊢
  have B3 := Lib.hid (B3.out.below HB1.out B3.out.lt)
  have B4 := Lib.hid (B4.out.below HB1.out B4.out.lt)
  have B5 := Lib.hid (B5.out.below HB1.out B5.out.lt)
  have RP := Lib.hid (RP.out.kept HB1.out)
  have RQ := Lib.hid (RQ.out.kept HB1.out)
  have HB := Lib.hid (HB.out.trans (HB1.out.mono HB.out.size))
  have HB1 := Lib.hid (Below.refl w3.heap.size w3)
  obtain ⟨zB30, zB31, zB32⟩ := (B3.out.below HB1.out B3.out.lt).cells3
  obtain ⟨zB40, zB41, zB42, zB43, zB44, zB45⟩ := (B4.out.below HB1.out B4.out.lt).cells6
  obtain ⟨zB50, zB51, zB52⟩ := (B5.out.below HB1.out B5.out.lt).cells3
  go_upto_region 6 with fail
  clear zB30 zB31 zB32
  clear zB40 zB41 zB42 zB43 zB44 zB45
  clear zB50 zB51 zB52
  have hlt := HB1.out.size
  have HB1 := Lib.hid (below_alloc_ (HB1.out) (.cells #[.int .i64 PW, .int .i64 PH, .slice A7 PV.length c7] 39))
  have hzw : (w3.alloc (.cells #[.int .i64 PW, .int .i64 PH, .slice A7 PV.length c7] 39)).heap.size = w3.heap.size + 1 := by simp only [World.size_alloc]
  have B7 := Blk.new (w3) 39 #[.int .i64 PW, .int .i64 PH, .slice A7 PV.length c7]
  skip
  have B7 := Lib.hid B7
  generalize w3.alloc (.cells #[.int .i64 PW, .int .i64 PH, .slice A7 PV.length c7] 39) = w4 at *
  clear hzw hlt
  obtain ⟨b7, hb7⟩ : ∃ n, n = w3.heap.size := ⟨_, rfl⟩
  rw [← hb7] at B7 ⊢
  clear hb7
  have B3 := Lib.hid (B3.out.below HB1.out B3.out.lt)
  have B4 := Lib.hid (B4.out.below HB1.out B4.out.lt)
  have B5 := Lib.hid (B5.out.below HB1.out B5.out.lt)
  have R7 := Lib.hid (R7.out.kept HB1.out)
  have RP := Lib.hid (RP.out.kept HB1.out)
  have RQ := Lib.hid (RQ.out.kept HB1.out)
  have HB := Lib.hid (HB.out.trans (HB1.out.mono HB.out.size))
  have HB1 := Lib.hid (Below.refl w4.heap.size w4)
  obtain ⟨zB30, zB31, zB32⟩ := (B3.out.below HB1.out B3.out.lt).cells3
  obtain ⟨zB40, zB41, zB42, zB43, zB44, zB45⟩ := (B4.out.below HB1.out B4.out.lt).cells6
  obtain ⟨zB50, zB51, zB52⟩ := (B5.out.below HB1.out B5.out.lt).cells3
  obtain ⟨zB70, zB71, zB72⟩ := (B7.out.below HB1.out B7.out.lt).cells3
  have kq0 := cell_regrown zB30
  have kq1 := cell_regrown zB31
  have kq2 := cell_regrown zB32
  have kq3 := cell_regrown zB40
  have kq4 := cell_regrown zB41
  have kq5 := cell_regrown zB42
  have kq6 := cell_regrown zB43
  have kq7 := cell_regrown zB44
  have kq8 := cell_regrown zB45
  have kq9 := cell_regrown zB50
  have kq10 := cell_regrown zB51
  have kq11 := cell_regrown zB52
  have kq12 := cell_regrown zB70
  have kq13 := cell_regrown zB71
  have kq14 := cell_regrown zB72
  clear zB30 zB31 zB32 zB40 zB41 zB42 zB43 zB44 zB45 zB50 zB51 zB52 zB70 zB71 zB72
  refine wp_mono [Brings.one ?b1_0, Brings.one ?b2_1, Brings.one ?b3_2, Brings.own w4.heap.size (fun v => plV PW PH v) (PV), Brings.one ?b4_4, Brings.one ?b5_5] (by kernel_rfl) (by kernel_rfl) ?_
  rotate_left 5
  refine wpL_take (k' := 1) rfl (by kernel_rfl) (fun d os => ?t6) ?_
  case t6 => (unfold bringsAt; go_simp; first | with_reducible exact take_one | exact take_one)
  try simp only [Act.put, List.setIfInBounds_toArray, List.set_cons_zero, List.set_cons_succ]
  refine wpL_take (k' := 2) rfl (by kernel_rfl) (fun d os => ?t7) ?_
  case t7 => (unfold bringsAt; go_simp; first | with_reducible exact take_one | exact take_one)
  try simp only [Act.put, List.setIfInBounds_toArray, List.set_cons_zero, List.set_cons_succ]
  refine wpL_take (k' := 3) rfl (by kernel_rfl) (fun d os => ?t8) ?_
  case t8 => (unfold bringsAt; go_simp; first | with_reducible exact take_one | exact take_one)
  try simp only [Act.put, List.setIfInBounds_toArray, List.set_cons_zero, List.set_cons_succ]
  refine wpL_own (k' := 4) rfl (by kernel_rfl) (fun wz hz hd => ?t9) (fun A8 c8 => ?_)
  case t9 =>
    have HZ := Lib.hid (HB1.out.trans (hz.mono HB1.out.size))
    unfold bringsAt
    go_simp
    have h9 := r10cut_c W H V A c (⟨l, o, x, y, bw, bh⟩ : Bd) wz (RP.out.kept HZ.out) (by omega)
    rw [← HP.out] at h9
    exact call_own hz.size h9
  try simp only [Act.put, List.setIfInBounds_toArray, List.set_cons_zero, List.set_cons_succ]
  refine wpL_call (k' := 5) rfl (by kernel_rfl) (fun wz hz hd => ?t10) ?_
  case t10 =>
    have HZ := Lib.hid (HB1.out.trans (hz.mono HB1.out.size))
    have O8 := Lib.hid (show OwnI wz w4.heap.size (.slice A8 (PV).length c8) (PV) from hd.get 3 (by kernel_rfl))
    unfold bringsAt
    go_simp
    have h9 := rsame_c PW PH PV PW PH PV A7 A8 c7 c8 wz (R7.out.kept HZ.out) O8.out.reads (by have := NC.out; omega) (by have := NC.out; omega)
    rw [show eqB PW PH PV PW PH PV = true from by simp [eqB]] at h9
    refine call_one_as h9 ?_
    rfl
  try simp only [Act.put, List.setIfInBounds_toArray, List.set_cons_zero, List.set_cons_succ]
  refine wpL_take (k' := 6) rfl (by kernel_rfl) (fun d os => ?t11) ?_
  case t11 => (unfold bringsAt; go_simp; first | with_reducible exact take_one | exact take_one)
  try simp only [Act.put, List.setIfInBounds_toArray, List.set_cons_zero, List.set_cons_succ]
  refine wpL_nil ?_
  intro w5 hH
  have hb' := hH.below
  clear kq0 kq1 kq2 kq3 kq4 kq5 kq6 kq7 kq8 kq9 kq10 kq11 kq12 kq13 kq14
  have HB1 := Lib.hid ((HB1.out).trans (hb'.mono (HB1.out).size))
  have O8 := Lib.hid (show OwnI w5 w4.heap.size (.slice A8 (PV).length c8) (PV) from hH.facts 3)
  clear hH hb'
  clear O8
  have B3 := Lib.hid (B3.out.below HB1.out B3.out.lt)
  have B4 := Lib.hid (B4.out.below HB1.out B4.out.lt)
  have B5 := Lib.hid (B5.out.below HB1.out B5.out.lt)
  have B7 := Lib.hid (B7.out.below HB1.out B7.out.lt)
  have R7 := Lib.hid (R7.out.kept HB1.out)
  have RP := Lib.hid (RP.out.kept HB1.out)
  have RQ := Lib.hid (RQ.out.kept HB1.out)
  have HB := Lib.hid (HB.out.trans (HB1.out.mono HB.out.size))
  have HB1 := Lib.hid (Below.refl w5.heap.size w5)
  obtain ⟨zB30, zB31, zB32⟩ := (B3.out.below HB1.out B3.out.lt).cells3
  obtain ⟨zB40, zB41, zB42, zB43, zB44, zB45⟩ := (B4.out.below HB1.out B4.out.lt).cells6
  obtain ⟨zB50, zB51, zB52⟩ := (B5.out.below HB1.out B5.out.lt).cells3
  obtain ⟨zB70, zB71, zB72⟩ := (B7.out.below HB1.out B7.out.lt).cells3
  go_upto_region 8 with fail
  clear zB30 zB31 zB32
  clear zB40 zB41 zB42 zB43 zB44 zB45
  clear zB50 zB51 zB52
  clear zB70 zB71 zB72
  obtain ⟨zB30, zB31, zB32⟩ := (B3.out.below HB1.out B3.out.lt).cells3
  obtain ⟨zB40, zB41, zB42, zB43, zB44, zB45⟩ := (B4.out.below HB1.out B4.out.lt).cells6
  obtain ⟨zB50, zB51, zB52⟩ := (B5.out.below HB1.out B5.out.lt).cells3
  obtain ⟨zB70, zB71, zB72⟩ := (B7.out.below HB1.out B7.out.lt).cells3
  have kq0 := cell_regrown zB30
  have kq1 := cell_regrown zB31
  have kq2 := cell_regrown zB32
  have kq3 := cell_regrown zB40
  have kq4 := cell_regrown zB41
  have kq5 := cell_regrown zB42
  have kq6 := cell_regrown zB43
  have kq7 := cell_regrown zB44
  have kq8 := cell_regrown zB45
  have kq9 := cell_regrown zB50
  have kq10 := cell_regrown zB51
  have kq11 := cell_regrown zB52
  have kq12 := cell_regrown zB70
  have kq13 := cell_regrown zB71
  have kq14 := cell_regrown zB72
  clear zB30 zB31 zB32 zB40 zB41 zB42 zB43 zB44 zB45 zB50 zB51 zB52 zB70 zB71 zB72
  refine wp_mono_tail 10 [Brings.one ?b12_0, Brings.one ?b13_1, Brings.one ?b14_2, Brings.one ?b15_3, Brings.lit w5.heap.size, Brings.one ?b16_5, Brings.one ?b17_6, Brings.owned w5.heap.size (fun v => v) (V), Brings.owned w5.heap.size (fun v => plV W H v) (V), Brings.box 39 #[.int .i64 0, .int .i64 0, .slice none 0 0]] (by kernel_rfl) (by kernel_rfl) ?_
  rotate_left 6
  simp only [List.take_succ_cons, List.take_zero, List.drop_succ_cons, List.drop_zero]
  refine wpL_take (k' := 1) rfl (by kernel_rfl) (fun d os => ?t18) ?_
  case t18 => (unfold bringsAt; go_simp; first | with_reducible exact take_one | exact take_one)
  try simp only [Act.put, List.setIfInBounds_toArray, List.set_cons_zero, List.set_cons_succ]
  refine wpL_take (k' := 2) rfl (by kernel_rfl) (fun d os => ?t19) ?_
  case t19 => (unfold bringsAt; go_simp; first | with_reducible exact take_one | exact take_one)
  try simp only [Act.put, List.setIfInBounds_toArray, List.set_cons_zero, List.set_cons_succ]
  refine wpL_take (k' := 3) rfl (by kernel_rfl) (fun d os => ?t20) ?_
  case t20 => (unfold bringsAt; go_simp; first | with_reducible exact take_one | exact take_one)
  try simp only [Act.put, List.setIfInBounds_toArray, List.set_cons_zero, List.set_cons_succ]
  refine wpL_take (k' := 4) rfl (by kernel_rfl) (fun d os => ?t21) ?_
  case t21 => (unfold bringsAt; go_simp; first | with_reducible exact take_one | exact take_one)
  try simp only [Act.put, List.setIfInBounds_toArray, List.set_cons_zero, List.set_cons_succ]
  refine wpL_lit (k' := 5) rfl (by kernel_rfl) (fun wz hz hd => ?t22) (fun gE => ?_)
  case t22 =>
    unfold bringsAt
    go_simp
    exact lit_brings hz.size
  try simp only [Act.put, List.setIfInBounds_toArray, List.set_cons_zero, List.set_cons_succ]
  refine wpL_take (k' := 6) rfl (by kernel_rfl) (fun d os => ?t23) ?_
  case t23 => (unfold bringsAt; go_simp; first | with_reducible exact take_one | exact take_one)
  try simp only [Act.put, List.setIfInBounds_toArray, List.set_cons_zero, List.set_cons_succ]
  refine wpL_take (k' := 7) rfl (by kernel_rfl) (fun d os => ?t24) ?_
  case t24 => (unfold bringsAt; go_simp; first | with_reducible exact take_one | exact take_one)
  try simp only [Act.put, List.setIfInBounds_toArray, List.set_cons_zero, List.set_cons_succ]
  refine wpL_owned (k' := 8) rfl (by kernel_rfl) (fun wz hz hd => ?t25) (fun A8 c8 => ?_)
  case t25 =>
    have HZ := Lib.hid (HB1.out.trans (hz.mono HB1.out.size))
    have OE := Lib.hid (show OwnI wz w5.heap.size (.slice (some ⟨gE, 0, none⟩) 0 0) [] from hd.get 4 (by kernel_rfl))
    exact at_append_lit (.tmp 37) (.tmp 39) 37 rfl Try.underlying37 rfl rfl OE.out (RP.out.kept HZ.out) (by omega) hz.size
  try simp only [Act.put, List.setIfInBounds_toArray, List.set_cons_zero, List.set_cons_succ]
  refine wpL_owned (k' := 9) rfl (by kernel_rfl) (fun wz hz hd => ?t26) (fun A9 c9 => ?_)
  case t26 =>
    have HZ := Lib.hid (HB1.out.trans (hz.mono HB1.out.size))
    have O8 := Lib.hid (show OwnI wz w5.heap.size (.slice A8 (V).length c8) (V) from hd.get 7 (by kernel_rfl))
    unfold bringsAt
    go_simp
    exact take_brings (A8, c8) rfl O8.out rfl
  try simp only [Act.put, List.setIfInBounds_toArray, List.set_cons_zero, List.set_cons_succ]
  refine wpL_box (k' := 10) rfl (by kernel_rfl) (fun wz hz hd => ?t27) (fun b8 => ?_)
  case t27 =>
    unfold bringsAt
    go_simp
    exact alloc_box
  try simp only [Act.put, List.setIfInBounds_toArray, List.set_cons_zero, List.set_cons_succ]
  refine wpL_nil ?_
  intro w6 hH
  have hb' := hH.below
  clear kq0 kq1 kq2 kq3 kq4 kq5 kq6 kq7 kq8 kq9 kq10 kq11 kq12 kq13 kq14
  have HB1 := Lib.hid ((HB1.out).trans (hb'.mono (HB1.out).size))
  have OE := Lib.hid (show OwnI w6 w5.heap.size (.slice (some ⟨gE, 0, none⟩) 0 0) [] from hH.facts 4)
  have O8 := Lib.hid (show OwnI w6 w5.heap.size (.slice A8 (V).length c8) (V) from hH.facts 7)
  have O9 := Lib.hid (show OwnI w6 w5.heap.size (.slice A9 (V).length c9) (V) from hH.facts 8)
  have B8 := Lib.hid (show Blk w6 b8 39 #[.int .i64 0, .int .i64 0, .slice none 0 0] from hH.facts 9)
  have HGB8 := Lib.hid (show w5.heap.size ≤ b8 from (hH.lt 9 _ rfl).1)
  clear hH hb'
  clear OE O8
  have O8 := O9
  clear O9
  obtain ⟨⟨q0, q1, q2⟩, f0, f1, f2⟩ := B8.out.three
  go_upto_region 9 with fail
  clear q0 q1 q2 f0 f1 f2
  obtain ⟨k1, k2, k3⟩ := ret_plane B8.out (.int .i64 W) (.int .i64 H) (.slice A9 V.length c9)
  have B8 := Lib.hid k1
  have O8 := Lib.hid (k2 _ _ _ O8.out)
  have HB1 := Lib.hid (k3 _ _ HB1.out HGB8.out)
  clear k1 k2 k3
  generalize ((w6.setCell ⟨b8, 0, none⟩ (.int .i64 W)).setCell ⟨b8, 1, none⟩ (.int .i64 H)).setCell ⟨b8, 2, none⟩ (.slice A9 V.length c9) = w7 at *
  clear HGB8
  obtain ⟨zB30, zB31, zB32⟩ := (B3.out.below HB1.out B3.out.lt).cells3
  obtain ⟨zB40, zB41, zB42, zB43, zB44, zB45⟩ := (B4.out.below HB1.out B4.out.lt).cells6
  obtain ⟨zB50, zB51, zB52⟩ := (B5.out.below HB1.out B5.out.lt).cells3
  obtain ⟨zB80, zB81, zB82⟩ := (B8.out).cells3
  go_wp2_with fail
  clear zB30 zB31 zB32
  clear zB40 zB41 zB42 zB43 zB44 zB45
  clear zB50 zB51 zB52
  clear zB80 zB81 zB82
  have hbs := HB1.out.size
  refine (blay_c W H V (.slice A9 V.length c9) (⟨l, o, x, y, bw, bh⟩ : Bd) W' H' U A' c' w5.heap.size _ O8.out (RQ.out.kept HB1.out) hn').mono ?_
  rintro e w8 ⟨rfl, ho2, hg2⟩
  have B8 := Lib.hid (Blk.app B8.out O8.out (by decide) hg2)
  have HB1 := Lib.hid (below_app HB1.out O8.out hbs hg2)
  have O8 := Lib.hid ho2
  clear ho2 hg2 hbs
  have LL := Lib.hid (layV_length W H V (⟨l, o, x, y, bw, bh⟩ : Bd) W' H' U)
  obtain ⟨L, hL⟩ : ∃ L, L = layV W H V (⟨l, o, x, y, bw, bh⟩ : Bd) W' H' U := ⟨_, rfl⟩
  rw [← hL] at O8 LL LB
  have HL := Lib.hid hL
  clear hL
  obtain ⟨zB30, zB31, zB32⟩ := (B3.out.below HB1.out B3.out.lt).cells3
  obtain ⟨zB40, zB41, zB42, zB43, zB44, zB45⟩ := (B4.out.below HB1.out B4.out.lt).cells6
  obtain ⟨zB50, zB51, zB52⟩ := (B5.out.below HB1.out B5.out.lt).cells3
  obtain ⟨zB80, zB81, zB82⟩ := (B8.out).cells3
  go_wp2_with fail
  clear zB30 zB31 zB32
  clear zB40 zB41 zB42 zB43 zB44 zB45
  clear zB50 zB51 zB52
  clear zB80 zB81 zB82
  refine (r10laid_c W H V A c (⟨l, o, x, y, bw, bh⟩ : Bd) W' H' U A' c' _ (RP.out.kept HB1.out) (RQ.out.kept HB1.out) (by omega) hn').mono ?_
  rintro e w9 ⟨A10, c10, rfl, hr10, _, hb'⟩
  have HB1 := Lib.hid ((HB1.out).trans (hb'.mono (HB1.out).size))
  have O8 := Lib.hid ((O8.out).kept hb')
  have B8 := Lib.hid ((B8.out).below hb' (B8.out).lt)
  clear hb'
  rw [← HL.out] at hr10
  have R10 := Lib.hid hr10
  clear hr10
  obtain ⟨k, hk⟩ : ∃ k, k = layB W H V.length (⟨l, o, x, y, bw, bh⟩ : Bd) W' H' U.length := ⟨_, rfl⟩
  rw [← hk]
  clear hk
  have nk : (k != k) = false := by simp
  obtain ⟨zB30, zB31, zB32⟩ := (B3.out.below HB1.out B3.out.lt).cells3
  obtain ⟨zB40, zB41, zB42, zB43, zB44, zB45⟩ := (B4.out.below HB1.out B4.out.lt).cells6
  obtain ⟨zB50, zB51, zB52⟩ := (B5.out.below HB1.out B5.out.lt).cells3
  obtain ⟨zB80, zB81, zB82⟩ := (B8.out).cells3
  go_upto_region 11 with fail
  clear zB30 zB31 zB32
  clear zB40 zB41 zB42 zB43 zB44 zB45
  clear zB50 zB51 zB52
  clear zB80 zB81 zB82
  have HB1 := Lib.hid (below_alloc_ (HB1.out) (.cells #[.int .i64 W, .int .i64 H, .slice A10 V.length c10] 39))
  have O8 := Lib.hid ((O8.out).alloc (.cells #[.int .i64 W, .int .i64 H, .slice A10 V.length c10] 39))
  have B8 := Lib.hid ((B8.out).alloc (.cells #[.int .i64 W, .int .i64 H, .slice A10 V.length c10] 39))
  have R10 := Lib.hid ((R10.out).alloc (.cells #[.int .i64 W, .int .i64 H, .slice A10 V.length c10] 39))
  have hzw : (w9.alloc (.cells #[.int .i64 W, .int .i64 H, .slice A10 V.length c10] 39)).heap.size = w9.heap.size + 1 := by simp only [World.size_alloc]
  have B10 := Blk.new (w9) 39 #[.int .i64 W, .int .i64 H, .slice A10 V.length c10]
  skip
  have B10 := Lib.hid B10
  generalize w9.alloc (.cells #[.int .i64 W, .int .i64 H, .slice A10 V.length c10] 39) = w10 at *
  clear hzw
  obtain ⟨b10, hb10⟩ : ∃ n, n = w9.heap.size := ⟨_, rfl⟩
  rw [← hb10] at B10 ⊢
  clear hb10
  obtain ⟨zB30, zB31, zB32⟩ := (B3.out.below HB1.out B3.out.lt).cells3
  obtain ⟨zB40, zB41, zB42, zB43, zB44, zB45⟩ := (B4.out.below HB1.out B4.out.lt).cells6
  obtain ⟨zB50, zB51, zB52⟩ := (B5.out.below HB1.out B5.out.lt).cells3
  obtain ⟨zB70, zB71, zB72⟩ := (B7.out.below HB1.out B7.out.lt).cells3
  obtain ⟨zB80, zB81, zB82⟩ := (B8.out).cells3
  obtain ⟨zB100, zB101, zB102⟩ := (B10.out).cells3
  go_wp2_with fail
  clear zB30 zB31 zB32
  clear zB40 zB41 zB42 zB43 zB44 zB45
  clear zB50 zB51 zB52
  clear zB70 zB71 zB72
  clear zB80 zB81 zB82
  clear zB100 zB101 zB102
  refine (rsame_n W H L W H L V.length V.length LL.out LL.out A9 A10 c9 c10 _ O8.out.reads R10.out n1 n1).mono ?_
  rintro e w11 ⟨rfl, hb'⟩
  have HB1 := Lib.hid ((HB1.out).trans (hb'.mono (HB1.out).size))
  have O8 := Lib.hid ((O8.out).kept hb')
  have B8 := Lib.hid ((B8.out).below hb' (B8.out).lt)
  have R10 := Lib.hid ((R10.out).kept hb')
  have B10 := Lib.hid ((B10.out).below hb' (B10.out).lt)
  clear hb'
  rw [show eqB W H L W H L = true from by simp [eqB]]
  clear nk
  clear B10 R10
  obtain ⟨L1, L2, L3, L4⟩ := LB.out
  have L1 := Lib.hid L1
  have L2 := Lib.hid L2
  have q3 : (0 : Int) < (PV.length : Int) := by omega
  have HLL := Lib.hid (show L.length = V.length from LL.out)
  clear L3 L4 LB
  obtain ⟨zB30, zB31, zB32⟩ := (B3.out.below HB1.out B3.out.lt).cells3
  obtain ⟨zB40, zB41, zB42, zB43, zB44, zB45⟩ := (B4.out.below HB1.out B4.out.lt).cells6
  obtain ⟨zB50, zB51, zB52⟩ := (B5.out.below HB1.out B5.out.lt).cells3
  obtain ⟨zB70, zB71, zB72⟩ := (B7.out.below HB1.out B7.out.lt).cells3
  obtain ⟨zB80, zB81, zB82⟩ := (B8.out).cells3
  go_wp2_with fail
  clear zB30 zB31 zB32
  clear zB40 zB41 zB42 zB43 zB44 zB45
  clear zB50 zB51 zB52
  clear zB70 zB71 zB72
  clear zB80 zB81 zB82
  have hbs := HB1.out.size
  refine (blay_c W H L (.slice A9 V.length c9) (⟨l, o, x, y, bw, bh⟩ : Bd) PW PH PV A7 c7 w5.heap.size _ O8.out (R7.out.kept HB1.out) (by have := NC.out; omega)).mono ?_
  rintro e w12 ⟨rfl, ho2, hg2⟩
  have B8 := Lib.hid (Blk.app B8.out O8.out (by decide) hg2)
  have HB1 := Lib.hid (below_app HB1.out O8.out hbs hg2)
  have O8 := Lib.hid ho2
  clear ho2 hg2 hbs
  rw [L2.out] at O8
  obtain ⟨zB30, zB31, zB32⟩ := (B3.out.below HB1.out B3.out.lt).cells3
  obtain ⟨zB40, zB41, zB42, zB43, zB44, zB45⟩ := (B4.out.below HB1.out B4.out.lt).cells6
  obtain ⟨zB50, zB51, zB52⟩ := (B5.out.below HB1.out B5.out.lt).cells3
  obtain ⟨zB70, zB71, zB72⟩ := (B7.out.below HB1.out B7.out.lt).cells3
  obtain ⟨zB80, zB81, zB82⟩ := (B8.out).cells3
  go_wp2_with fail
  clear zB30 zB31 zB32
  clear zB40 zB41 zB42 zB43 zB44 zB45
  clear zB50 zB51 zB52
  clear zB70 zB71 zB72
  clear zB80 zB81 zB82
  refine (rsame_c W H V W H V A9 A c9 c _ O8.out.reads (RP.out.kept HB1.out) n1 n1).mono ?_
  rintro e w13 ⟨rfl, hb'⟩
  have HB1 := Lib.hid ((HB1.out).trans (hb'.mono (HB1.out).size))
  have O8 := Lib.hid ((O8.out).kept hb')
  have B8 := Lib.hid ((B8.out).below hb' (B8.out).lt)
  clear hb'
  rw [show eqB W H V W H V = true from by simp [eqB]]
  go_wp2_with fail
  go_ret
  exact ⟨rfl, HB.out.trans (HB1.out.mono HB.out.size)⟩

set_option maxRecDepth 100000 in
set_option maxHeartbeats 16000000 in
theorem bcw_n (W H : Int) (V : List Int) (A : Option Addr) (c : Nat) (b : Bd) (W' H' : Int) (U : List Int) (A' : Option Addr) (c' : Nat) (w : World) (hR : ReadsI w A V) (hR' : ReadsI w A' U) (hc : V.length ≤ c) (hc2 : c ≤ 9223372036854775807) (hn' : U.length ≤ 9223372036854775807) (h1 : ¬ 3000 < V.length) (h2 : ¬ 3000 < U.length) (hi : inB W H V.length b = false) :
    Calls Try.prog 5 #[plV W H (.slice A V.length c), bdV b, plV W' H' (.slice A' U.length c')] w fun e w' => e = .returned (.bool true) ∧ Below w.heap.size w w' := by
  have RP := Lib.hid hR
  have RQ := Lib.hid hR'
  have HB := Lib.hid (Below.refl w.heap.size w)
  have q1 : (V.length : Int) ≤ 3000 := by omega
  have q2 : (U.length : Int) ≤ 3000 := by omega
  have n1 : V.length ≤ 9223372036854775806 := by omega
  have NC := Lib.hid (show (cutP W H V b).V.length ≤ 3000 by unfold cutP; rw [if_neg (by rw [hi]; decide)]; simp [Pl.none_])
  have LB := Lib.hid (show (cutP W H V b).V = [] by unfold cutP; rw [if_neg (by rw [hi]; decide)]; rfl)
  clear h1 h2 hi
  obtain ⟨l, o, x, y, bw, bh⟩ := b
  clear hR hR'
  go_enter Try.func5, Try.ntmps5
  go_wp2_with fail
  have RP := Lib.hid ((((RP.out).alloc (.cells #[.int .i64 W, .int .i64 H, .slice A V.length c] 39)).alloc (.cells #[.int .i64 l, .int .i64 o, .int .i64 x, .int .i64 y, .int .i64 bw, .int .i64 bh] 31)).alloc (.cells #[.int .i64 W', .int .i64 H', .slice A' U.length c'] 39))
  have RQ := Lib.hid ((((RQ.out).alloc (.cells #[.int .i64 W, .int .i64 H, .slice A V.length c] 39)).alloc (.cells #[.int .i64 l, .int .i64 o, .int .i64 x, .int .i64 y, .int .i64 bw, .int .i64 bh] 31)).alloc (.cells #[.int .i64 W', .int .i64 H', .slice A' U.length c'] 39))
  have HB := Lib.hid (below_alloc_ (below_alloc_ (below_alloc_ (HB.out) (.cells #[.int .i64 W, .int .i64 H, .slice A V.length c] 39)) (.cells #[.int .i64 l, .int .i64 o, .int .i64 x, .int .i64 y, .int .i64 bw, .int .i64 bh] 31)) (.cells #[.int .i64 W', .int .i64 H', .slice A' U.length c'] 39))
  have hzw : (((w.alloc (.cells #[.int .i64 W, .int .i64 H, .slice A V.length c] 39)).alloc (.cells #[.int .i64 l, .int .i64 o, .int .i64 x, .int .i64 y, .int .i64 bw, .int .i64 bh] 31)).alloc (.cells #[.int .i64 W', .int .i64 H', .slice A' U.length c'] 39)).heap.size = w.heap.size + 3 := by simp only [World.size_alloc]
  have B3 := ((Blk.new (w) 39 #[.int .i64 W, .int .i64 H, .slice A V.length c]).alloc (.cells #[.int .i64 l, .int .i64 o, .int .i64 x, .int .i64 y, .int .i64 bw, .int .i64 bh] 31)).alloc (.cells #[.int .i64 W', .int .i64 H', .slice A' U.length c'] 39)
  skip
  have B3 := Lib.hid B3
  have B4 := (Blk.new (w.alloc (.cells #[.int .i64 W, .int .i64 H, .slice A V.length c] 39)) 31 #[.int .i64 l, .int .i64 o, .int .i64 x, .int .i64 y, .int .i64 bw, .int .i64 bh]).alloc (.cells #[.int .i64 W', .int .i64 H', .slice A' U.length c'] 39)
  rw [show (w.alloc (.cells #[.int .i64 W, .int .i64 H, .slice A V.length c] 39)).heap.size = w.heap.size + 1 by simp only [World.size_alloc]] at B4
  have B4 := Lib.hid B4
  have B5 := Blk.new ((w.alloc (.cells #[.int .i64 W, .int .i64 H, .slice A V.length c] 39)).alloc (.cells #[.int .i64 l, .int .i64 o, .int .i64 x, .int .i64 y, .int .i64 bw, .int .i64 bh] 31)) 39 #[.int .i64 W', .int .i64 H', .slice A' U.length c']
  rw [show ((w.alloc (.cells #[.int .i64 W, .int .i64 H, .slice A V.length c] 39)).alloc (.cells #[.int .i64 l, .int .i64 o, .int .i64 x, .int .i64 y, .int .i64 bw, .int .i64 bh] 31)).heap.size = w.heap.size + 1 + 1 by simp only [World.size_alloc]] at B5
  have B5 := Lib.hid B5
  generalize ((w.alloc (.cells #[.int .i64 W, .int .i64 H, .slice A V.length c] 39)).alloc (.cells #[.int .i64 l, .int .i64 o, .int .i64 x, .int .i64 y, .int .i64 bw, .int .i64 bh] 31)).alloc (.cells #[.int .i64 W', .int .i64 H', .slice A' U.length c'] 39) = w1 at *
  have h3z := Lib.hid hzw
  clear hzw
  have HB1 := Lib.hid (Below.refl w1.heap.size w1)
  refine (first_c _).mono ?_
  rintro e w2 ⟨rfl, hb'⟩
  have HB1 := Lib.hid ((HB1.out).trans (hb'.mono (HB1.out).size))
  clear hb'
  obtain ⟨zB30, zB31, zB32⟩ := (B3.out.below HB1.out B3.out.lt).cells3
  obtain ⟨zB40, zB41, zB42, zB43, zB44, zB45⟩ := (B4.out.below HB1.out B4.out.lt).cells6
  obtain ⟨zB50, zB51, zB52⟩ := (B5.out.below HB1.out B5.out.lt).cells3
  go_wp2_with fail
  clear zB30 zB31 zB32
  clear zB40 zB41 zB42 zB43 zB44 zB45
  clear zB50 zB51 zB52
  refine (bcut_c W H V A c (⟨l, o, x, y, bw, bh⟩ : Bd) _ (RP.out.kept HB1.out) hc hc2).mono ?_
  rintro e w3 ⟨v, rfl, ho, hb'⟩
  have HB1 := Lib.hid ((HB1.out).trans (hb'.mono (HB1.out).size))
  clear hb'
  obtain ⟨A7, c7, rfl, hq⟩ := ho.slice
  have R7 := Lib.hid hq
  clear ho hq
  obtain ⟨P, hP⟩ : ∃ P, P = cutP W H V (⟨l, o, x, y, bw, bh⟩ : Bd) := ⟨_, rfl⟩
  rw [← hP] at R7 LB NC ⊢
  have HP := Lib.hid hP
  clear hP
  obtain ⟨PW, PH, PV⟩ := P
  dsimp only at R7 LB NC ⊢
  have B3 := Lib.hid (B3.out.below HB1.out B3.out.lt)
  have B4 := Lib.hid (B4.out.below HB1.out B4.out.lt)
  have B5 := Lib.hid (B5.out.below HB1.out B5.out.lt)
  have RP := Lib.hid (RP.out.kept HB1.out)
  have RQ := Lib.hid (RQ.out.kept HB1.out)
  have HB := Lib.hid (HB.out.trans (HB1.out.mono HB.out.size))
  have HB1 := Lib.hid (Below.refl w3.heap.size w3)
  obtain ⟨zB30, zB31, zB32⟩ := (B3.out.below HB1.out B3.out.lt).cells3
  obtain ⟨zB40, zB41, zB42, zB43, zB44, zB45⟩ := (B4.out.below HB1.out B4.out.lt).cells6
  obtain ⟨zB50, zB51, zB52⟩ := (B5.out.below HB1.out B5.out.lt).cells3
  go_upto_region 6 with fail
  clear zB30 zB31 zB32
  clear zB40 zB41 zB42 zB43 zB44 zB45
  clear zB50 zB51 zB52
  have hlt := HB1.out.size
  have HB1 := Lib.hid (below_alloc_ (HB1.out) (.cells #[.int .i64 PW, .int .i64 PH, .slice A7 PV.length c7] 39))
  have hzw : (w3.alloc (.cells #[.int .i64 PW, .int .i64 PH, .slice A7 PV.length c7] 39)).heap.size = w3.heap.size + 1 := by simp only [World.size_alloc]
  have B7 := Blk.new (w3) 39 #[.int .i64 PW, .int .i64 PH, .slice A7 PV.length c7]
  skip
  have B7 := Lib.hid B7
  generalize w3.alloc (.cells #[.int .i64 PW, .int .i64 PH, .slice A7 PV.length c7] 39) = w4 at *
  clear hzw hlt
  obtain ⟨b7, hb7⟩ : ∃ n, n = w3.heap.size := ⟨_, rfl⟩
  rw [← hb7] at B7 ⊢
  clear hb7
  have B3 := Lib.hid (B3.out.below HB1.out B3.out.lt)
  have B4 := Lib.hid (B4.out.below HB1.out B4.out.lt)
  have B5 := Lib.hid (B5.out.below HB1.out B5.out.lt)
  have R7 := Lib.hid (R7.out.kept HB1.out)
  have RP := Lib.hid (RP.out.kept HB1.out)
  have RQ := Lib.hid (RQ.out.kept HB1.out)
  have HB := Lib.hid (HB.out.trans (HB1.out.mono HB.out.size))
  have HB1 := Lib.hid (Below.refl w4.heap.size w4)
  obtain ⟨zB30, zB31, zB32⟩ := (B3.out.below HB1.out B3.out.lt).cells3
  obtain ⟨zB40, zB41, zB42, zB43, zB44, zB45⟩ := (B4.out.below HB1.out B4.out.lt).cells6
  obtain ⟨zB50, zB51, zB52⟩ := (B5.out.below HB1.out B5.out.lt).cells3
  obtain ⟨zB70, zB71, zB72⟩ := (B7.out.below HB1.out B7.out.lt).cells3
  have kq0 := cell_regrown zB30
  have kq1 := cell_regrown zB31
  have kq2 := cell_regrown zB32
  have kq3 := cell_regrown zB40
  have kq4 := cell_regrown zB41
  have kq5 := cell_regrown zB42
  have kq6 := cell_regrown zB43
  have kq7 := cell_regrown zB44
  have kq8 := cell_regrown zB45
  have kq9 := cell_regrown zB50
  have kq10 := cell_regrown zB51
  have kq11 := cell_regrown zB52
  have kq12 := cell_regrown zB70
  have kq13 := cell_regrown zB71
  have kq14 := cell_regrown zB72
  clear zB30 zB31 zB32 zB40 zB41 zB42 zB43 zB44 zB45 zB50 zB51 zB52 zB70 zB71 zB72
  refine wp_mono [Brings.one ?b28_0, Brings.one ?b29_1, Brings.one ?b30_2, Brings.own w4.heap.size (fun v => plV PW PH v) (PV), Brings.one ?b31_4, Brings.one ?b32_5] (by kernel_rfl) (by kernel_rfl) ?_
  rotate_left 5
  refine wpL_take (k' := 1) rfl (by kernel_rfl) (fun d os => ?t33) ?_
  case t33 => (unfold bringsAt; go_simp; first | with_reducible exact take_one | exact take_one)
  try simp only [Act.put, List.setIfInBounds_toArray, List.set_cons_zero, List.set_cons_succ]
  refine wpL_take (k' := 2) rfl (by kernel_rfl) (fun d os => ?t34) ?_
  case t34 => (unfold bringsAt; go_simp; first | with_reducible exact take_one | exact take_one)
  try simp only [Act.put, List.setIfInBounds_toArray, List.set_cons_zero, List.set_cons_succ]
  refine wpL_take (k' := 3) rfl (by kernel_rfl) (fun d os => ?t35) ?_
  case t35 => (unfold bringsAt; go_simp; first | with_reducible exact take_one | exact take_one)
  try simp only [Act.put, List.setIfInBounds_toArray, List.set_cons_zero, List.set_cons_succ]
  refine wpL_own (k' := 4) rfl (by kernel_rfl) (fun wz hz hd => ?t36) (fun A8 c8 => ?_)
  case t36 =>
    have HZ := Lib.hid (HB1.out.trans (hz.mono HB1.out.size))
    unfold bringsAt
    go_simp
    have h9 := r10cut_c W H V A c (⟨l, o, x, y, bw, bh⟩ : Bd) wz (RP.out.kept HZ.out) (by omega)
    rw [← HP.out] at h9
    exact call_own hz.size h9
  try simp only [Act.put, List.setIfInBounds_toArray, List.set_cons_zero, List.set_cons_succ]
  refine wpL_call (k' := 5) rfl (by kernel_rfl) (fun wz hz hd => ?t37) ?_
  case t37 =>
    have HZ := Lib.hid (HB1.out.trans (hz.mono HB1.out.size))
    have O8 := Lib.hid (show OwnI wz w4.heap.size (.slice A8 (PV).length c8) (PV) from hd.get 3 (by kernel_rfl))
    unfold bringsAt
    go_simp
    have h9 := rsame_c PW PH PV PW PH PV A7 A8 c7 c8 wz (R7.out.kept HZ.out) O8.out.reads (by have := NC.out; omega) (by have := NC.out; omega)
    rw [show eqB PW PH PV PW PH PV = true from by simp [eqB]] at h9
    refine call_one_as h9 ?_
    rfl
  try simp only [Act.put, List.setIfInBounds_toArray, List.set_cons_zero, List.set_cons_succ]
  refine wpL_take (k' := 6) rfl (by kernel_rfl) (fun d os => ?t38) ?_
  case t38 => (unfold bringsAt; go_simp; first | with_reducible exact take_one | exact take_one)
  try simp only [Act.put, List.setIfInBounds_toArray, List.set_cons_zero, List.set_cons_succ]
  refine wpL_nil ?_
  intro w5 hH
  have hb' := hH.below
  clear kq0 kq1 kq2 kq3 kq4 kq5 kq6 kq7 kq8 kq9 kq10 kq11 kq12 kq13 kq14
  have HB1 := Lib.hid ((HB1.out).trans (hb'.mono (HB1.out).size))
  have O8 := Lib.hid (show OwnI w5 w4.heap.size (.slice A8 (PV).length c8) (PV) from hH.facts 3)
  clear hH hb'
  clear O8
  have B3 := Lib.hid (B3.out.below HB1.out B3.out.lt)
  have B4 := Lib.hid (B4.out.below HB1.out B4.out.lt)
  have B5 := Lib.hid (B5.out.below HB1.out B5.out.lt)
  have B7 := Lib.hid (B7.out.below HB1.out B7.out.lt)
  have R7 := Lib.hid (R7.out.kept HB1.out)
  have RP := Lib.hid (RP.out.kept HB1.out)
  have RQ := Lib.hid (RQ.out.kept HB1.out)
  have HB := Lib.hid (HB.out.trans (HB1.out.mono HB.out.size))
  have HB1 := Lib.hid (Below.refl w5.heap.size w5)
  obtain ⟨zB30, zB31, zB32⟩ := (B3.out.below HB1.out B3.out.lt).cells3
  obtain ⟨zB40, zB41, zB42, zB43, zB44, zB45⟩ := (B4.out.below HB1.out B4.out.lt).cells6
  obtain ⟨zB50, zB51, zB52⟩ := (B5.out.below HB1.out B5.out.lt).cells3
  obtain ⟨zB70, zB71, zB72⟩ := (B7.out.below HB1.out B7.out.lt).cells3
  go_upto_region 8 with fail
  clear zB30 zB31 zB32
  clear zB40 zB41 zB42 zB43 zB44 zB45
  clear zB50 zB51 zB52
  clear zB70 zB71 zB72
  obtain ⟨zB30, zB31, zB32⟩ := (B3.out.below HB1.out B3.out.lt).cells3
  obtain ⟨zB40, zB41, zB42, zB43, zB44, zB45⟩ := (B4.out.below HB1.out B4.out.lt).cells6
  obtain ⟨zB50, zB51, zB52⟩ := (B5.out.below HB1.out B5.out.lt).cells3
  obtain ⟨zB70, zB71, zB72⟩ := (B7.out.below HB1.out B7.out.lt).cells3
  have kq0 := cell_regrown zB30
  have kq1 := cell_regrown zB31
  have kq2 := cell_regrown zB32
  have kq3 := cell_regrown zB40
  have kq4 := cell_regrown zB41
  have kq5 := cell_regrown zB42
  have kq6 := cell_regrown zB43
  have kq7 := cell_regrown zB44
  have kq8 := cell_regrown zB45
  have kq9 := cell_regrown zB50
  have kq10 := cell_regrown zB51
  have kq11 := cell_regrown zB52
  have kq12 := cell_regrown zB70
  have kq13 := cell_regrown zB71
  have kq14 := cell_regrown zB72
  clear zB30 zB31 zB32 zB40 zB41 zB42 zB43 zB44 zB45 zB50 zB51 zB52 zB70 zB71 zB72
  refine wp_mono_tail 10 [Brings.one ?b39_0, Brings.one ?b40_1, Brings.one ?b41_2, Brings.one ?b42_3, Brings.lit w5.heap.size, Brings.one ?b43_5, Brings.one ?b44_6, Brings.owned w5.heap.size (fun v => v) (V), Brings.owned w5.heap.size (fun v => plV W H v) (V), Brings.box 39 #[.int .i64 0, .int .i64 0, .slice none 0 0]] (by kernel_rfl) (by kernel_rfl) ?_
  rotate_left 6
  simp only [List.take_succ_cons, List.take_zero, List.drop_succ_cons, List.drop_zero]
  refine wpL_take (k' := 1) rfl (by kernel_rfl) (fun d os => ?t45) ?_
  case t45 => (unfold bringsAt; go_simp; first | with_reducible exact take_one | exact take_one)
  try simp only [Act.put, List.setIfInBounds_toArray, List.set_cons_zero, List.set_cons_succ]
  refine wpL_take (k' := 2) rfl (by kernel_rfl) (fun d os => ?t46) ?_
  case t46 => (unfold bringsAt; go_simp; first | with_reducible exact take_one | exact take_one)
  try simp only [Act.put, List.setIfInBounds_toArray, List.set_cons_zero, List.set_cons_succ]
  refine wpL_take (k' := 3) rfl (by kernel_rfl) (fun d os => ?t47) ?_
  case t47 => (unfold bringsAt; go_simp; first | with_reducible exact take_one | exact take_one)
  try simp only [Act.put, List.setIfInBounds_toArray, List.set_cons_zero, List.set_cons_succ]
  refine wpL_take (k' := 4) rfl (by kernel_rfl) (fun d os => ?t48) ?_
  case t48 => (unfold bringsAt; go_simp; first | with_reducible exact take_one | exact take_one)
  try simp only [Act.put, List.setIfInBounds_toArray, List.set_cons_zero, List.set_cons_succ]
  refine wpL_lit (k' := 5) rfl (by kernel_rfl) (fun wz hz hd => ?t49) (fun gE => ?_)
  case t49 =>
    unfold bringsAt
    go_simp
    exact lit_brings hz.size
  try simp only [Act.put, List.setIfInBounds_toArray, List.set_cons_zero, List.set_cons_succ]
  refine wpL_take (k' := 6) rfl (by kernel_rfl) (fun d os => ?t50) ?_
  case t50 => (unfold bringsAt; go_simp; first | with_reducible exact take_one | exact take_one)
  try simp only [Act.put, List.setIfInBounds_toArray, List.set_cons_zero, List.set_cons_succ]
  refine wpL_take (k' := 7) rfl (by kernel_rfl) (fun d os => ?t51) ?_
  case t51 => (unfold bringsAt; go_simp; first | with_reducible exact take_one | exact take_one)
  try simp only [Act.put, List.setIfInBounds_toArray, List.set_cons_zero, List.set_cons_succ]
  refine wpL_owned (k' := 8) rfl (by kernel_rfl) (fun wz hz hd => ?t52) (fun A8 c8 => ?_)
  case t52 =>
    have HZ := Lib.hid (HB1.out.trans (hz.mono HB1.out.size))
    have OE := Lib.hid (show OwnI wz w5.heap.size (.slice (some ⟨gE, 0, none⟩) 0 0) [] from hd.get 4 (by kernel_rfl))
    exact at_append_lit (.tmp 37) (.tmp 39) 37 rfl Try.underlying37 rfl rfl OE.out (RP.out.kept HZ.out) (by omega) hz.size
  try simp only [Act.put, List.setIfInBounds_toArray, List.set_cons_zero, List.set_cons_succ]
  refine wpL_owned (k' := 9) rfl (by kernel_rfl) (fun wz hz hd => ?t53) (fun A9 c9 => ?_)
  case t53 =>
    have HZ := Lib.hid (HB1.out.trans (hz.mono HB1.out.size))
    have O8 := Lib.hid (show OwnI wz w5.heap.size (.slice A8 (V).length c8) (V) from hd.get 7 (by kernel_rfl))
    unfold bringsAt
    go_simp
    exact take_brings (A8, c8) rfl O8.out rfl
  try simp only [Act.put, List.setIfInBounds_toArray, List.set_cons_zero, List.set_cons_succ]
  refine wpL_box (k' := 10) rfl (by kernel_rfl) (fun wz hz hd => ?t54) (fun b8 => ?_)
  case t54 =>
    unfold bringsAt
    go_simp
    exact alloc_box
  try simp only [Act.put, List.setIfInBounds_toArray, List.set_cons_zero, List.set_cons_succ]
  refine wpL_nil ?_
  intro w6 hH
  have hb' := hH.below
  clear kq0 kq1 kq2 kq3 kq4 kq5 kq6 kq7 kq8 kq9 kq10 kq11 kq12 kq13 kq14
  have HB1 := Lib.hid ((HB1.out).trans (hb'.mono (HB1.out).size))
  have OE := Lib.hid (show OwnI w6 w5.heap.size (.slice (some ⟨gE, 0, none⟩) 0 0) [] from hH.facts 4)
  have O8 := Lib.hid (show OwnI w6 w5.heap.size (.slice A8 (V).length c8) (V) from hH.facts 7)
  have O9 := Lib.hid (show OwnI w6 w5.heap.size (.slice A9 (V).length c9) (V) from hH.facts 8)
  have B8 := Lib.hid (show Blk w6 b8 39 #[.int .i64 0, .int .i64 0, .slice none 0 0] from hH.facts 9)
  have HGB8 := Lib.hid (show w5.heap.size ≤ b8 from (hH.lt 9 _ rfl).1)
  clear hH hb'
  clear OE O8
  have O8 := O9
  clear O9
  obtain ⟨⟨q0, q1, q2⟩, f0, f1, f2⟩ := B8.out.three
  go_upto_region 9 with fail
  clear q0 q1 q2 f0 f1 f2
  obtain ⟨k1, k2, k3⟩ := ret_plane B8.out (.int .i64 W) (.int .i64 H) (.slice A9 V.length c9)
  have B8 := Lib.hid k1
  have O8 := Lib.hid (k2 _ _ _ O8.out)
  have HB1 := Lib.hid (k3 _ _ HB1.out HGB8.out)
  clear k1 k2 k3
  generalize ((w6.setCell ⟨b8, 0, none⟩ (.int .i64 W)).setCell ⟨b8, 1, none⟩ (.int .i64 H)).setCell ⟨b8, 2, none⟩ (.slice A9 V.length c9) = w7 at *
  clear HGB8
  obtain ⟨zB30, zB31, zB32⟩ := (B3.out.below HB1.out B3.out.lt).cells3
  obtain ⟨zB40, zB41, zB42, zB43, zB44, zB45⟩ := (B4.out.below HB1.out B4.out.lt).cells6
  obtain ⟨zB50, zB51, zB52⟩ := (B5.out.below HB1.out B5.out.lt).cells3
  obtain ⟨zB80, zB81, zB82⟩ := (B8.out).cells3
  go_wp2_with fail
  clear zB30 zB31 zB32
  clear zB40 zB41 zB42 zB43 zB44 zB45
  clear zB50 zB51 zB52
  clear zB80 zB81 zB82
  have hbs := HB1.out.size
  refine (blay_c W H V (.slice A9 V.length c9) (⟨l, o, x, y, bw, bh⟩ : Bd) W' H' U A' c' w5.heap.size _ O8.out (RQ.out.kept HB1.out) hn').mono ?_
  rintro e w8 ⟨rfl, ho2, hg2⟩
  have B8 := Lib.hid (Blk.app B8.out O8.out (by decide) hg2)
  have HB1 := Lib.hid (below_app HB1.out O8.out hbs hg2)
  have O8 := Lib.hid ho2
  clear ho2 hg2 hbs
  have LL := Lib.hid (layV_length W H V (⟨l, o, x, y, bw, bh⟩ : Bd) W' H' U)
  obtain ⟨L, hL⟩ : ∃ L, L = layV W H V (⟨l, o, x, y, bw, bh⟩ : Bd) W' H' U := ⟨_, rfl⟩
  rw [← hL] at O8 LL
  have HL := Lib.hid hL
  clear hL
  obtain ⟨zB30, zB31, zB32⟩ := (B3.out.below HB1.out B3.out.lt).cells3
  obtain ⟨zB40, zB41, zB42, zB43, zB44, zB45⟩ := (B4.out.below HB1.out B4.out.lt).cells6
  obtain ⟨zB50, zB51, zB52⟩ := (B5.out.below HB1.out B5.out.lt).cells3
  obtain ⟨zB80, zB81, zB82⟩ := (B8.out).cells3
  go_wp2_with fail
  clear zB30 zB31 zB32
  clear zB40 zB41 zB42 zB43 zB44 zB45
  clear zB50 zB51 zB52
  clear zB80 zB81 zB82
  refine (r10laid_c W H V A c (⟨l, o, x, y, bw, bh⟩ : Bd) W' H' U A' c' _ (RP.out.kept HB1.out) (RQ.out.kept HB1.out) (by omega) hn').mono ?_
  rintro e w9 ⟨A10, c10, rfl, hr10, _, hb'⟩
  have HB1 := Lib.hid ((HB1.out).trans (hb'.mono (HB1.out).size))
  have O8 := Lib.hid ((O8.out).kept hb')
  have B8 := Lib.hid ((B8.out).below hb' (B8.out).lt)
  clear hb'
  rw [← HL.out] at hr10
  have R10 := Lib.hid hr10
  clear hr10
  obtain ⟨k, hk⟩ : ∃ k, k = layB W H V.length (⟨l, o, x, y, bw, bh⟩ : Bd) W' H' U.length := ⟨_, rfl⟩
  rw [← hk]
  clear hk
  have nk : (k != k) = false := by simp
  obtain ⟨zB30, zB31, zB32⟩ := (B3.out.below HB1.out B3.out.lt).cells3
  obtain ⟨zB40, zB41, zB42, zB43, zB44, zB45⟩ := (B4.out.below HB1.out B4.out.lt).cells6
  obtain ⟨zB50, zB51, zB52⟩ := (B5.out.below HB1.out B5.out.lt).cells3
  obtain ⟨zB80, zB81, zB82⟩ := (B8.out).cells3
  go_upto_region 11 with fail
  clear zB30 zB31 zB32
  clear zB40 zB41 zB42 zB43 zB44 zB45
  clear zB50 zB51 zB52
  clear zB80 zB81 zB82
  have HB1 := Lib.hid (below_alloc_ (HB1.out) (.cells #[.int .i64 W, .int .i64 H, .slice A10 V.length c10] 39))
  have O8 := Lib.hid ((O8.out).alloc (.cells #[.int .i64 W, .int .i64 H, .slice A10 V.length c10] 39))
  have B8 := Lib.hid ((B8.out).alloc (.cells #[.int .i64 W, .int .i64 H, .slice A10 V.length c10] 39))
  have R10 := Lib.hid ((R10.out).alloc (.cells #[.int .i64 W, .int .i64 H, .slice A10 V.length c10] 39))
  have hzw : (w9.alloc (.cells #[.int .i64 W, .int .i64 H, .slice A10 V.length c10] 39)).heap.size = w9.heap.size + 1 := by simp only [World.size_alloc]
  have B10 := Blk.new (w9) 39 #[.int .i64 W, .int .i64 H, .slice A10 V.length c10]
  skip
  have B10 := Lib.hid B10
  generalize w9.alloc (.cells #[.int .i64 W, .int .i64 H, .slice A10 V.length c10] 39) = w10 at *
  clear hzw
  obtain ⟨b10, hb10⟩ : ∃ n, n = w9.heap.size := ⟨_, rfl⟩
  rw [← hb10] at B10 ⊢
  clear hb10
  obtain ⟨zB30, zB31, zB32⟩ := (B3.out.below HB1.out B3.out.lt).cells3
  obtain ⟨zB40, zB41, zB42, zB43, zB44, zB45⟩ := (B4.out.below HB1.out B4.out.lt).cells6
  obtain ⟨zB50, zB51, zB52⟩ := (B5.out.below HB1.out B5.out.lt).cells3
  obtain ⟨zB70, zB71, zB72⟩ := (B7.out.below HB1.out B7.out.lt).cells3
  obtain ⟨zB80, zB81, zB82⟩ := (B8.out).cells3
  obtain ⟨zB100, zB101, zB102⟩ := (B10.out).cells3
  go_wp2_with fail
  clear zB30 zB31 zB32
  clear zB40 zB41 zB42 zB43 zB44 zB45
  clear zB50 zB51 zB52
  clear zB70 zB71 zB72
  clear zB80 zB81 zB82
  clear zB100 zB101 zB102
  refine (rsame_n W H L W H L V.length V.length LL.out LL.out A9 A10 c9 c10 _ O8.out.reads R10.out n1 n1).mono ?_
  rintro e w11 ⟨rfl, hb'⟩
  have HB1 := Lib.hid ((HB1.out).trans (hb'.mono (HB1.out).size))
  have O8 := Lib.hid ((O8.out).kept hb')
  have B8 := Lib.hid ((B8.out).below hb' (B8.out).lt)
  have R10 := Lib.hid ((R10.out).kept hb')
  have B10 := Lib.hid ((B10.out).below hb' (B10.out).lt)
  clear hb'
  rw [show eqB W H L W H L = true from by simp [eqB]]
  clear nk
  clear B10 R10
  obtain rfl : PV = [] := LB.out
  obtain ⟨zB30, zB31, zB32⟩ := (B3.out.below HB1.out B3.out.lt).cells3
  obtain ⟨zB40, zB41, zB42, zB43, zB44, zB45⟩ := (B4.out.below HB1.out B4.out.lt).cells6
  obtain ⟨zB50, zB51, zB52⟩ := (B5.out.below HB1.out B5.out.lt).cells3
  obtain ⟨zB70, zB71, zB72⟩ := (B7.out.below HB1.out B7.out.lt).cells3
  obtain ⟨zB80, zB81, zB82⟩ := (B8.out).cells3
  go_wp2_with fail
  clear zB30 zB31 zB32
  clear zB40 zB41 zB42 zB43 zB44 zB45
  clear zB50 zB51 zB52
  clear zB70 zB71 zB72
  clear zB80 zB81 zB82
  go_ret
  exact ⟨rfl, HB.out.trans (HB1.out.mono HB.out.size)⟩

def IsBd (v : Value) (b : Bd) : Prop := v = bdV b
theorem opens_bd {HH : Type} {enc : TypeId × Value → HH} {w : World} {base b0 : Nat} {spare : Nat → Bool} {held : Bool} {r : Go.Reach} {v : Value} {d : DataW HH} {ps : List MemPlace} (hv : Value.okWide Try.prog w r b0 31 v) (h : DataW.Trod enc Try.prog w base spare held 31 v d ps) : ∃ b, IsBd v b := by
  obtain ⟨l, o, x, y, bw, bh, u0, u1, u2, u3, u4, u5, rfl, ⟨rfl, _⟩, ⟨rfl, _⟩, ⟨rfl, _⟩, ⟨rfl, _⟩, ⟨rfl, _⟩, ⟨rfl, _⟩⟩ := opens_band hv h
  exact ⟨⟨l, o, x, y, bw, bh⟩, rfl⟩
theorem bandsCut_walk (x0 : Int × Int × List Int) (x1 : Bd) (x2 : Int × Int × List Int) (v0 v1 v2 : Value) (w : World) (k0 : IsPlaneC w v0 x0) (k1 : IsBd v1 x1) (k2 : IsPlaneC w v2 x2) :
    Calls Try.prog 5 #[v0, v1, v2] w fun e w' => e = .returned (.bool true) ∧ Below w.heap.size w w' := by
  obtain ⟨W, H, V⟩ := x0
  obtain ⟨A, c, rfl, hp, hn, _, _, _, hc, hc2⟩ := k0.form
  obtain rfl := k1
  obtain ⟨W', H', U⟩ := x2
  obtain ⟨A', c', rfl, hp', hn', _, _, _, hc', hc2'⟩ := k2.form
  by_cases h1 : 3000 < V.length
  · exact bcw_1 W H V A c x1 W' H' U A' c' w hp hp' hc hc2 hn' h1
  by_cases h2 : 3000 < U.length
  · exact bcw_2 W H V A c x1 W' H' U A' c' w hp hp' hc hc2 hn' h1 h2
  cases hi : inB W H V.length x1 with
  | true => exact bcw_y W H V A c x1 W' H' U A' c' w hp hp' hc hc2 hn' h1 h2 hi
  | false => exact bcw_n W H V A c x1 W' H' U A' c' w hp hp' hc hc2 hn' h1 h2 hi

end Go.Proofs.Ytjlajggilcihoaa
