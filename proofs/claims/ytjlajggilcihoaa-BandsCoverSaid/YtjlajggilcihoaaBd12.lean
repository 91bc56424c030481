/- Bands: what is not laid. -/
import Derived.Test.YtjlajggilcihoaaBd11
namespace Go.Proofs.Ytjlajggilcihoaa
open Go.RowKit
set_option linter.unusedVariables false
set_option linter.unusedSimpArgs false

/-- May a plane be laid into another at a band? -/
def layB (W H : Int) (n : Nat) (b : Bd) (W' H' : Int) (n' : Nat) : Bool := inB W H n b && okB W' H' n' && decide (W' = b.w) && decide (H' = b.h)
set_option maxRecDepth 100000 in
set_option maxHeartbeats 6400000 in
theorem blay_no (W H : Int) (A : Option Addr) (n c : Nat) (b : Bd) (W' H' : Int) (A' : Option Addr) (n' c' : Nat) (w : World) (hn : n ≤ 9223372036854775807) (hn' : n' ≤ 9223372036854775807) (hi : layB W H n b W' H' n' = false) :
    Calls Try.prog 19 #[plV W H (.slice A n c), bdV b, plV W' H' (.slice A' n' c')] w fun e w' => e = .returned (.bool false) ∧ Below w.heap.size w w' := by
  obtain ⟨l, o, x, y, bw, bh⟩ := b
  cases h1 : inB W H n ⟨l, o, x, y, bw, bh⟩ with
  | false =>
    have HI := Lib.hid h1
    have HB1 := Lib.hid (Below.refl w.heap.size w)
    clear h1 hi
    go_enter Try.func19, Try.ntmps19
    go_wp2_with fail
    have HB1 := Lib.hid (below_alloc_ (below_alloc_ (below_alloc_ (HB1.out) (.cells #[.int .i64 W, .int .i64 H, .slice A n c] 39)) (.cells #[.int .i64 l, .int .i64 o, .int .i64 x, .int .i64 y, .int .i64 bw, .int .i64 bh] 31)) (.cells #[.int .i64 W', .int .i64 H', .slice A' n' c'] 39))
    have hzw : (((w.alloc (.cells #[.int .i64 W, .int .i64 H, .slice A n c] 39)).alloc (.cells #[.int .i64 l, .int .i64 o, .int .i64 x, .int .i64 y, .int .i64 bw, .int .i64 bh] 31)).alloc (.cells #[.int .i64 W', .int .i64 H', .slice A' n' c'] 39)).heap.size = w.heap.size + 3 := by simp only [World.size_alloc]
    have B3 := ((Blk.new (w) 39 #[.int .i64 W, .int .i64 H, .slice A n c]).alloc (.cells #[.int .i64 l, .int .i64 o, .int .i64 x, .int .i64 y, .int .i64 bw, .int .i64 bh] 31)).alloc (.cells #[.int .i64 W', .int .i64 H', .slice A' n' c'] 39)
    skip
    have B3 := Lib.hid B3
    have B4 := (Blk.new (w.alloc (.cells #[.int .i64 W, .int .i64 H, .slice A n c] 39)) 31 #[.int .i64 l, .int .i64 o, .int .i64 x, .int .i64 y, .int .i64 bw, .int .i64 bh]).alloc (.cells #[.int .i64 W', .int .i64 H', .slice A' n' c'] 39)
    rw [show (w.alloc (.cells #[.int .i64 W, .int .i64 H, .slice A n c] 39)).heap.size = w.heap.size + 1 by simp only [World.size_alloc]] at B4
    have B4 := Lib.hid B4
    have B5 := Blk.new ((w.alloc (.cells #[.int .i64 W, .int .i64 H, .slice A n c] 39)).alloc (.cells #[.int .i64 l, .int .i64 o, .int .i64 x, .int .i64 y, .int .i64 bw, .int .i64 bh] 31)) 39 #[.int .i64 W', .int .i64 H', .slice A' n' c']
    rw [show ((w.alloc (.cells #[.int .i64 W, .int .i64 H, .slice A n c] 39)).alloc (.cells #[.int .i64 l, .int .i64 o, .int .i64 x, .int .i64 y, .int .i64 bw, .int .i64 bh] 31)).heap.size = w.heap.size + 1 + 1 by simp only [World.size_alloc]] at B5
    have B5 := Lib.hid B5
    generalize ((w.alloc (.cells #[.int .i64 W, .int .i64 H, .slice A n c] 39)).alloc (.cells #[.int .i64 l, .int .i64 o, .int .i64 x, .int .i64 y, .int .i64 bw, .int .i64 bh] 31)).alloc (.cells #[.int .i64 W', .int .i64 H', .slice A' n' c'] 39) = w1 at *
    clear hzw
    refine (bwithin_c W H A n c ⟨l, o, x, y, bw, bh⟩ _ hn).mono ?_
    rintro e w2 ⟨rfl, hb'⟩
    have HB1 := Lib.hid ((HB1.out).trans (hb'.mono (HB1.out).size))
    have B3 := Lib.hid ((B3.out).below hb' (B3.out).lt)
    have B4 := Lib.hid ((B4.out).below hb' (B4.out).lt)
    have B5 := Lib.hid ((B5.out).below hb' (B5.out).lt)
    clear hb'
    rw [HI.out]
    obtain ⟨zB30, zB31, zB32⟩ := (B3.out).cells3
    obtain ⟨zB40, zB41, zB42, zB43, zB44, zB45⟩ := (B4.out).cells6
    obtain ⟨zB50, zB51, zB52⟩ := (B5.out).cells3
    go_wp2_with fail
    clear zB30 zB31 zB32
    clear zB40 zB41 zB42 zB43 zB44 zB45
    clear zB50 zB51 zB52
    go_ret
    exact ⟨rfl, HB1.out⟩
  | true =>
    cases h2 : okB W' H' n' with
    | false =>
      have HI := Lib.hid h1
      have HQ := Lib.hid h2
      have HB1 := Lib.hid (Below.refl w.heap.size w)
      clear h1 hi h2
      go_enter Try.func19, Try.ntmps19
      go_wp2_with fail
      have HB1 := Lib.hid (below_alloc_ (below_alloc_ (below_alloc_ (HB1.out) (.cells #[.int .i64 W, .int .i64 H, .slice A n c] 39)) (.cells #[.int .i64 l, .int .i64 o, .int .i64 x, .int .i64 y, .int .i64 bw, .int .i64 bh] 31)) (.cells #[.int .i64 W', .int .i64 H', .slice A' n' c'] 39))
      have hzw : (((w.alloc (.cells #[.int .i64 W, .int .i64 H, .slice A n c] 39)).alloc (.cells #[.int .i64 l, .int .i64 o, .int .i64 x, .int .i64 y, .int .i64 bw, .int .i64 bh] 31)).alloc (.cells #[.int .i64 W', .int .i64 H', .slice A' n' c'] 39)).heap.size = w.heap.size + 3 := by simp only [World.size_alloc]
      have B3 := ((Blk.new (w) 39 #[.int .i64 W, .int .i64 H, .slice A n c]).alloc (.cells #[.int .i64 l, .int .i64 o, .int .i64 x, .int .i64 y, .int .i64 bw, .int .i64 bh] 31)).alloc (.cells #[.int .i64 W', .int .i64 H', .slice A' n' c'] 39)
      skip
      have B3 := Lib.hid B3
      have B4 := (Blk.new (w.alloc (.cells #[.int .i64 W, .int .i64 H, .slice A n c] 39)) 31 #[.int .i64 l, .int .i64 o, .int .i64 x, .int .i64 y, .int .i64 bw, .int .i64 bh]).alloc (.cells #[.int .i64 W', .int .i64 H', .slice A' n' c'] 39)
      rw [show (w.alloc (.cells #[.int .i64 W, .int .i64 H, .slice A n c] 39)).heap.size = w.heap.size + 1 by simp only [World.size_alloc]] at B4
      have B4 := Lib.hid B4
      have B5 := Blk.new ((w.alloc (.cells #[.int .i64 W, .int .i64 H, .slice A n c] 39)).alloc (.cells #[.int .i64 l, .int .i64 o, .int .i64 x, .int .i64 y, .int .i64 bw, .int .i64 bh] 31)) 39 #[.int .i64 W', .int .i64 H', .slice A' n' c']
      rw [show ((w.alloc (.cells #[.int .i64 W, .int .i64 H, .slice A n c] 39)).alloc (.cells #[.int .i64 l, .int .i64 o, .int .i64 x, .int .i64 y, .int .i64 bw, .int .i64 bh] 31)).heap.size = w.heap.size + 1 + 1 by simp only [World.size_alloc]] at B5
      have B5 := Lib.hid B5
      generalize ((w.alloc (.cells #[.int .i64 W, .int .i64 H, .slice A n c] 39)).alloc (.cells #[.int .i64 l, .int .i64 o, .int .i64 x, .int .i64 y, .int .i64 bw, .int .i64 bh] 31)).alloc (.cells #[.int .i64 W', .int .i64 H', .slice A' n' c'] 39) = w1 at *
      clear hzw
      refine (bwithin_c W H A n c ⟨l, o, x, y, bw, bh⟩ _ hn).mono ?_
      rintro e w2 ⟨rfl, hb'⟩
      have HB1 := Lib.hid ((HB1.out).trans (hb'.mono (HB1.out).size))
      have B3 := Lib.hid ((B3.out).below hb' (B3.out).lt)
      have B4 := Lib.hid ((B4.out).below hb' (B4.out).lt)
      have B5 := Lib.hid ((B5.out).below hb' (B5.out).lt)
      clear hb'
      rw [HI.out]
      obtain ⟨zB30, zB31, zB32⟩ := (B3.out).cells3
      obtain ⟨zB40, zB41, zB42, zB43, zB44, zB45⟩ := (B4.out).cells6
      obtain ⟨zB50, zB51, zB52⟩ := (B5.out).cells3
      go_wp2_with fail
      clear zB30 zB31 zB32
      clear zB40 zB41 zB42 zB43 zB44 zB45
      clear zB50 zB51 zB52
      refine (pright_c W' H' A' n' c' _ hn').mono ?_
      rintro e w3 ⟨rfl, hb'⟩
      have HB1 := Lib.hid ((HB1.out).trans (hb'.mono (HB1.out).size))
      have B3 := Lib.hid ((B3.out).below hb' (B3.out).lt)
      have B4 := Lib.hid ((B4.out).below hb' (B4.out).lt)
      have B5 := Lib.hid ((B5.out).below hb' (B5.out).lt)
      clear hb'
      rw [HQ.out]
      obtain ⟨zB30, zB31, zB32⟩ := (B3.out).cells3
      obtain ⟨zB40, zB41, zB42, zB43, zB44, zB45⟩ := (B4.out).cells6
      obtain ⟨zB50, zB51, zB52⟩ := (B5.out).cells3
      go_wp2_with fail
      clear zB30 zB31 zB32
      clear zB40 zB41 zB42 zB43 zB44 zB45
      clear zB50 zB51 zB52
      go_ret
      exact ⟨rfl, HB1.out⟩
    | true =>
      by_cases h3 : W' = bw
      · have h4 : ¬ H' = bh := fun e => by rw [show layB W H n ⟨l, o, x, y, bw, bh⟩ W' H' n' = true by simp only [layB, h1, h2, Bool.true_and]; simp [h3, e]] at hi; cases hi
        have e1 : (W' != bw) = false := by simp [h3]
        have e2 : (H' != bh) = true := by simpa using h4
        clear h3 h4
        have HI := Lib.hid h1
        have HQ := Lib.hid h2
        have HB1 := Lib.hid (Below.refl w.heap.size w)
        clear h1 hi h2
        go_enter Try.func19, Try.ntmps19
        go_wp2_with fail
        have HB1 := Lib.hid (below_alloc_ (below_alloc_ (below_alloc_ (HB1.out) (.cells #[.int .i64 W, .int .i64 H, .slice A n c] 39)) (.cells #[.int .i64 l, .int .i64 o, .int .i64 x, .int .i64 y, .int .i64 bw, .int .i64 bh] 31)) (.cells #[.int .i64 W', .int .i64 H', .slice A' n' c'] 39))
        have hzw : (((w.alloc (.cells #[.int .i64 W, .int .i64 H, .slice A n c] 39)).alloc (.cells #[.int .i64 l, .int .i64 o, .int .i64 x, .int .i64 y, .int .i64 bw, .int .i64 bh] 31)).alloc (.cells #[.int .i64 W', .int .i64 H', .slice A' n' c'] 39)).heap.size = w.heap.size + 3 := by simp only [World.size_alloc]
        have B3 := ((Blk.new (w) 39 #[.int .i64 W, .int .i64 H, .slice A n c]).alloc (.cells #[.int .i64 l, .int .i64 o, .int .i64 x, .int .i64 y, .int .i64 bw, .int .i64 bh] 31)).alloc (.cells #[.int .i64 W', .int .i64 H', .slice A' n' c'] 39)
        skip
        have B3 := Lib.hid B3
        have B4 := (Blk.new (w.alloc (.cells #[.int .i64 W, .int .i64 H, .slice A n c] 39)) 31 #[.int .i64 l, .int .i64 o, .int .i64 x, .int .i64 y, .int .i64 bw, .int .i64 bh]).alloc (.cells #[.int .i64 W', .int .i64 H', .slice A' n' c'] 39)
        rw [show (w.alloc (.cells #[.int .i64 W, .int .i64 H, .slice A n c] 39)).heap.size = w.heap.size + 1 by simp only [World.size_alloc]] at B4
        have B4 := Lib.hid B4
        have B5 := Blk.new ((w.alloc (.cells #[.int .i64 W, .int .i64 H, .slice A n c] 39)).alloc (.cells #[.int .i64 l, .int .i64 o, .int .i64 x, .int .i64 y, .int .i64 bw, .int .i64 bh] 31)) 39 #[.int .i64 W', .int .i64 H', .slice A' n' c']
        rw [show ((w.alloc (.cells #[.int .i64 W, .int .i64 H, .slice A n c] 39)).alloc (.cells #[.int .i64 l, .int .i64 o, .int .i64 x, .int .i64 y, .int .i64 bw, .int .i64 bh] 31)).heap.size = w.heap.size + 1 + 1 by simp only [World.size_alloc]] at B5
        have B5 := Lib.hid B5
        generalize ((w.alloc (.cells #[.int .i64 W, .int .i64 H, .slice A n c] 39)).alloc (.cells #[.int .i64 l, .int .i64 o, .int .i64 x, .int .i64 y, .int .i64 bw, .int .i64 bh] 31)).alloc (.cells #[.int .i64 W', .int .i64 H', .slice A' n' c'] 39) = w1 at *
        clear hzw
        refine (bwithin_c W H A n c ⟨l, o, x, y, bw, bh⟩ _ hn).mono ?_
        rintro e w2 ⟨rfl, hb'⟩
        have HB1 := Lib.hid ((HB1.out).trans (hb'.mono (HB1.out).size))
        have B3 := Lib.hid ((B3.out).below hb' (B3.out).lt)
        have B4 := Lib.hid ((B4.out).below hb' (B4.out).lt)
        have B5 := Lib.hid ((B5.out).below hb' (B5.out).lt)
        clear hb'
        rw [HI.out]
        obtain ⟨zB30, zB31, zB32⟩ := (B3.out).cells3
        obtain ⟨zB40, zB41, zB42, zB43, zB44, zB45⟩ := (B4.out).cells6
        obtain ⟨zB50, zB51, zB52⟩ := (B5.out).cells3
        go_wp2_with fail
        clear zB30 zB31 zB32
        clear zB40 zB41 zB42 zB43 zB44 zB45
        clear zB50 zB51 zB52
        refine (pright_c W' H' A' n' c' _ hn').mono ?_
        rintro e w3 ⟨rfl, hb'⟩
        have HB1 := Lib.hid ((HB1.out).trans (hb'.mono (HB1.out).size))
        have B3 := Lib.hid ((B3.out).below hb' (B3.out).lt)
        have B4 := Lib.hid ((B4.out).below hb' (B4.out).lt)
        have B5 := Lib.hid ((B5.out).below hb' (B5.out).lt)
        clear hb'
        rw [HQ.out]
        obtain ⟨zB30, zB31, zB32⟩ := (B3.out).cells3
        obtain ⟨zB40, zB41, zB42, zB43, zB44, zB45⟩ := (B4.out).cells6
        obtain ⟨zB50, zB51, zB52⟩ := (B5.out).cells3
        go_wp2_with fail
        clear zB30 zB31 zB32
        clear zB40 zB41 zB42 zB43 zB44 zB45
        clear zB50 zB51 zB52
        go_ret
        exact ⟨rfl, HB1.out⟩
      · have e1 : (W' != bw) = true := by simpa using h3
        clear h3
        have HI := Lib.hid h1
        have HQ := Lib.hid h2
        have HB1 := Lib.hid (Below.refl w.heap.size w)
        clear h1 hi h2
        go_enter Try.func19, Try.ntmps19
        go_wp2_with fail
        have HB1 := Lib.hid (below_alloc_ (below_alloc_ (below_alloc_ (HB1.out) (.cells #[.int .i64 W, .int .i64 H, .slice A n c] 39)) (.cells #[.int .i64 l, .int .i64 o, .int .i64 x, .int .i64 y, .int .i64 bw, .int .i64 bh] 31)) (.cells #[.int .i64 W', .int .i64 H', .slice A' n' c'] 39))
        have hzw : (((w.alloc (.cells #[.int .i64 W, .int .i64 H, .slice A n c] 39)).alloc (.cells #[.int .i64 l, .int .i64 o, .int .i64 x, .int .i64 y, .int .i64 bw, .int .i64 bh] 31)).alloc (.cells #[.int .i64 W', .int .i64 H', .slice A' n' c'] 39)).heap.size = w.heap.size + 3 := by simp only [World.size_alloc]
        have B3 := ((Blk.new (w) 39 #[.int .i64 W, .int .i64 H, .slice A n c]).alloc (.cells #[.int .i64 l, .int .i64 o, .int .i64 x, .int .i64 y, .int .i64 bw, .int .i64 bh] 31)).alloc (.cells #[.int .i64 W', .int .i64 H', .slice A' n' c'] 39)
        skip
        have B3 := Lib.hid B3
        have B4 := (Blk.new (w.alloc (.cells #[.int .i64 W, .int .i64 H, .slice A n c] 39)) 31 #[.int .i64 l, .int .i64 o, .int .i64 x, .int .i64 y, .int .i64 bw, .int .i64 bh]).alloc (.cells #[.int .i64 W', .int .i64 H', .slice A' n' c'] 39)
        rw [show (w.alloc (.cells #[.int .i64 W, .int .i64 H, .slice A n c] 39)).heap.size = w.heap.size + 1 by simp only [World.size_alloc]] at B4
        have B4 := Lib.hid B4
        have B5 := Blk.new ((w.alloc (.cells #[.int .i64 W, .int .i64 H, .slice A n c] 39)).alloc (.cells #[.int .i64 l, .int .i64 o, .int .i64 x, .int .i64 y, .int .i64 bw, .int .i64 bh] 31)) 39 #[.int .i64 W', .int .i64 H', .slice A' n' c']
        rw [show ((w.alloc (.cells #[.int .i64 W, .int .i64 H, .slice A n c] 39)).alloc (.cells #[.int .i64 l, .int .i64 o, .int .i64 x, .int .i64 y, .int .i64 bw, .int .i64 bh] 31)).heap.size = w.heap.size + 1 + 1 by simp only [World.size_alloc]] at B5
        have B5 := Lib.hid B5
        generalize ((w.alloc (.cells #[.int .i64 W, .int .i64 H, .slice A n c] 39)).alloc (.cells #[.int .i64 l, .int .i64 o, .int .i64 x, .int .i64 y, .int .i64 bw, .int .i64 bh] 31)).alloc (.cells #[.int .i64 W', .int .i64 H', .slice A' n' c'] 39) = w1 at *
        clear hzw
        refine (bwithin_c W H A n c ⟨l, o, x, y, bw, bh⟩ _ hn).mono ?_
        rintro e w2 ⟨rfl, hb'⟩
        have HB1 := Lib.hid ((HB1.out).trans (hb'.mono (HB1.out).size))
        have B3 := Lib.hid ((B3.out).below hb' (B3.out).lt)
        have B4 := Lib.hid ((B4.out).below hb' (B4.out).lt)
        have B5 := Lib.hid ((B5.out).below hb' (B5.out).lt)
        clear hb'
        rw [HI.out]
        obtain ⟨zB30, zB31, zB32⟩ := (B3.out).cells3
        obtain ⟨zB40, zB41, zB42, zB43, zB44, zB45⟩ := (B4.out).cells6
        obtain ⟨zB50, zB51, zB52⟩ := (B5.out).cells3
        go_wp2_with fail
        clear zB30 zB31 zB32
        clear zB40 zB41 zB42 zB43 zB44 zB45
        clear zB50 zB51 zB52
        refine (pright_c W' H' A' n' c' _ hn').mono ?_
        rintro e w3 ⟨rfl, hb'⟩
        have HB1 := Lib.hid ((HB1.out).trans (hb'.mono (HB1.out).size))
        have B3 := Lib.hid ((B3.out).below hb' (B3.out).lt)
        have B4 := Lib.hid ((B4.out).below hb' (B4.out).lt)
        have B5 := Lib.hid ((B5.out).below hb' (B5.out).lt)
        clear hb'
        rw [HQ.out]
        obtain ⟨zB30, zB31, zB32⟩ := (B3.out).cells3
        obtain ⟨zB40, zB41, zB42, zB43, zB44, zB45⟩ := (B4.out).cells6
        obtain ⟨zB50, zB51, zB52⟩ := (B5.out).cells3
        go_wp2_with fail
        clear zB30 zB31 zB32
        clear zB40 zB41 zB42 zB43 zB44 zB45
        clear zB50 zB51 zB52
        go_ret
        exact ⟨rfl, HB1.out⟩
set_option maxRecDepth 100000 in
set_option maxHeartbeats 6400000 in
theorem r10laid_no (W H : Int) (A : Option Addr) (n c : Nat) (b : Bd) (W' H' : Int) (A' : Option Addr) (n' c' : Nat) (w : World) (hn : n ≤ 9223372036854775807) (hn' : n' ≤ 9223372036854775807) (hi : layB W H n b W' H' n' = false) :
    Calls Try.prog 20 #[plV W H (.slice A n c), bdV b, plV W' H' (.slice A' n' c')] w fun e w' => e = .returned (.tuple #[plV W H (.slice A n c), .bool false]) ∧ Below w.heap.size w w' := by
  obtain ⟨l, o, x, y, bw, bh⟩ := b
  cases h1 : inB W H n ⟨l, o, x, y, bw, bh⟩ with
  | false =>
    have HI := Lib.hid h1
    have HB1 := Lib.hid (Below.refl w.heap.size w)
    clear h1 hi
    go_enter Try.func20, Try.ntmps20
    go_wp2_with fail
    have HB1 := Lib.hid (below_alloc_ (below_alloc_ (below_alloc_ (below_alloc_ (HB1.out) (.cells #[.int .i64 W, .int .i64 H, .slice A n c] 39)) (.cells #[.int .i64 l, .int .i64 o, .int .i64 x, .int .i64 y, .int .i64 bw, .int .i64 bh] 31)) (.cells #[.int .i64 W', .int .i64 H', .slice A' n' c'] 39)) (.cells #[.int .i64 0, .int .i64 0, .slice none 0 0] 39))
    have hzw : ((((w.alloc (.cells #[.int .i64 W, .int .i64 H, .slice A n c] 39)).alloc (.cells #[.int .i64 l, .int .i64 o, .int .i64 x, .int .i64 y, .int .i64 bw, .int .i64 bh] 31)).alloc (.cells #[.int .i64 W', .int .i64 H', .slice A' n' c'] 39)).alloc (.cells #[.int .i64 0, .int .i64 0, .slice none 0 0] 39)).heap.size = w.heap.size + 4 := by simp only [World.size_alloc]
    have B3 := (((Blk.new (w) 39 #[.int .i64 W, .int .i64 H, .slice A n c]).alloc (.cells #[.int .i64 l, .int .i64 o, .int .i64 x, .int .i64 y, .int .i64 bw, .int .i64 bh] 31)).alloc (.cells #[.int .i64 W', .int .i64 H', .slice A' n' c'] 39)).alloc (.cells #[.int .i64 0, .int .i64 0, .slice none 0 0] 39)
    skip
    have B3 := Lib.hid B3
    have B4 := ((Blk.new (w.alloc (.cells #[.int .i64 W, .int .i64 H, .slice A n c] 39)) 31 #[.int .i64 l, .int .i64 o, .int .i64 x, .int .i64 y, .int .i64 bw, .int .i64 bh]).alloc (.cells #[.int .i64 W', .int .i64 H', .slice A' n' c'] 39)).alloc (.cells #[.int .i64 0, .int .i64 0, .slice none 0 0] 39)
    rw [show (w.alloc (.cells #[.int .i64 W, .int .i64 H, .slice A n c] 39)).heap.size = w.heap.size + 1 by simp only [World.size_alloc]] at B4
    have B4 := Lib.hid B4
    have B5 := (Blk.new ((w.alloc (.cells #[.int .i64 W, .int .i64 H, .slice A n c] 39)).alloc (.cells #[.int .i64 l, .int .i64 o, .int .i64 x, .int .i64 y, .int .i64 bw, .int .i64 bh] 31)) 39 #[.int .i64 W', .int .i64 H', .slice A' n' c']).alloc (.cells #[.int .i64 0, .int .i64 0, .slice none 0 0] 39)
    rw [show ((w.alloc (.cells #[.int .i64 W, .int .i64 H, .slice A n c] 39)).alloc (.cells #[.int .i64 l, .int .i64 o, .int .i64 x, .int .i64 y, .int .i64 bw, .int .i64 bh] 31)).heap.size = w.heap.size + 1 + 1 by simp only [World.size_alloc]] at B5
    have B5 := Lib.hid B5
    have B6 := Blk.new (((w.alloc (.cells #[.int .i64 W, .int .i64 H, .slice A n c] 39)).alloc (.cells #[.int .i64 l, .int .i64 o, .int .i64 x, .int .i64 y, .int .i64 bw, .int .i64 bh] 31)).alloc (.cells #[.int .i64 W', .int .i64 H', .slice A' n' c'] 39)) 39 #[.int .i64 0, .int .i64 0, .slice none 0 0]
    rw [show (((w.alloc (.cells #[.int .i64 W, .int .i64 H, .slice A n c] 39)).alloc (.cells #[.int .i64 l, .int .i64 o, .int .i64 x, .int .i64 y, .int .i64 bw, .int .i64 bh] 31)).alloc (.cells #[.int .i64 W', .int .i64 H', .slice A' n' c'] 39)).heap.size = w.heap.size + 1 + 1 + 1 by simp only [World.size_alloc]] at B6
    have B6 := Lib.hid B6
    generalize (((w.alloc (.cells #[.int .i64 W, .int .i64 H, .slice A n c] 39)).alloc (.cells #[.int .i64 l, .int .i64 o, .int .i64 x, .int .i64 y, .int .i64 bw, .int .i64 bh] 31)).alloc (.cells #[.int .i64 W', .int .i64 H', .slice A' n' c'] 39)).alloc (.cells #[.int .i64 0, .int .i64 0, .slice none 0 0] 39) = w1 at *
    clear hzw
    refine (r10within_c W H A n c ⟨l, o, x, y, bw, bh⟩ _ hn).mono ?_
    rintro e w2 ⟨rfl, hb'⟩
    have HB1 := Lib.hid ((HB1.out).trans (hb'.mono (HB1.out).size))
    have B3 := Lib.hid ((B3.out).below hb' (B3.out).lt)
    have B4 := Lib.hid ((B4.out).below hb' (B4.out).lt)
    have B5 := Lib.hid ((B5.out).below hb' (B5.out).lt)
    have B6 := Lib.hid ((B6.out).below hb' (B6.out).lt)
    clear hb'
    rw [HI.out]
    obtain ⟨⟨r0, r1, r2⟩, f0, f1, f2⟩ := B6.out.three
    obtain ⟨zB30, zB31, zB32⟩ := (B3.out).cells3
    obtain ⟨zB40, zB41, zB42, zB43, zB44, zB45⟩ := (B4.out).cells6
    obtain ⟨zB50, zB51, zB52⟩ := (B5.out).cells3
    go_wp2_with fail
    clear zB30 zB31 zB32
    clear zB40 zB41 zB42 zB43 zB44 zB45
    clear zB50 zB51 zB52
    obtain ⟨k1, k2, k3⟩ := ret_plane B6.out (.int .i64 W) (.int .i64 H) (.slice A n c)
    refine bodyPost_ret (results_row_tmp rfl _ _ (w.heap.size + 1 + 1 + 1) 39 _ (0, 0) _ rfl k1 Try.underlying39 rfl (by kernel_rfl)) rfl ?_
    exact ⟨rfl, k3 _ _ HB1.out (by omega)⟩
  | true =>
    cases h2 : okB W' H' n' with
    | false =>
      have HI := Lib.hid h1
      have HQ := Lib.hid h2
      have HB1 := Lib.hid (Below.refl w.heap.size w)
      clear h1 hi h2
      go_enter Try.func20, Try.ntmps20
      go_wp2_with fail
      have HB1 := Lib.hid (below_alloc_ (below_alloc_ (below_alloc_ (below_alloc_ (HB1.out) (.cells #[.int .i64 W, .int .i64 H, .slice A n c] 39)) (.cells #[.int .i64 l, .int .i64 o, .int .i64 x, .int .i64 y, .int .i64 bw, .int .i64 bh] 31)) (.cells #[.int .i64 W', .int .i64 H', .slice A' n' c'] 39)) (.cells #[.int .i64 0, .int .i64 0, .slice none 0 0] 39))
      have hzw : ((((w.alloc (.cells #[.int .i64 W, .int .i64 H, .slice A n c] 39)).alloc (.cells #[.int .i64 l, .int .i64 o, .int .i64 x, .int .i64 y, .int .i64 bw, .int .i64 bh] 31)).alloc (.cells #[.int .i64 W', .int .i64 H', .slice A' n' c'] 39)).alloc (.cells #[.int .i64 0, .int .i64 0, .slice none 0 0] 39)).heap.size = w.heap.size + 4 := by simp only [World.size_alloc]
      have B3 := (((Blk.new (w) 39 #[.int .i64 W, .int .i64 H, .slice A n c]).alloc (.cells #[.int .i64 l, .int .i64 o, .int .i64 x, .int .i64 y, .int .i64 bw, .int .i64 bh] 31)).alloc (.cells #[.int .i64 W', .int .i64 H', .slice A' n' c'] 39)).alloc (.cells #[.int .i64 0, .int .i64 0, .slice none 0 0] 39)
      skip
      have B3 := Lib.hid B3
      have B4 := ((Blk.new (w.alloc (.cells #[.int .i64 W, .int .i64 H, .slice A n c] 39)) 31 #[.int .i64 l, .int .i64 o, .int .i64 x, .int .i64 y, .int .i64 bw, .int .i64 bh]).alloc (.cells #[.int .i64 W', .int .i64 H', .slice A' n' c'] 39)).alloc (.cells #[.int .i64 0, .int .i64 0, .slice none 0 0] 39)
      rw [show (w.alloc (.cells #[.int .i64 W, .int .i64 H, .slice A n c] 39)).heap.size = w.heap.size + 1 by simp only [World.size_alloc]] at B4
      have B4 := Lib.hid B4
      have B5 := (Blk.new ((w.alloc (.cells #[.int .i64 W, .int .i64 H, .slice A n c] 39)).alloc (.cells #[.int .i64 l, .int .i64 o, .int .i64 x, .int .i64 y, .int .i64 bw, .int .i64 bh] 31)) 39 #[.int .i64 W', .int .i64 H', .slice A' n' c']).alloc (.cells #[.int .i64 0, .int .i64 0, .slice none 0 0] 39)
      rw [show ((w.alloc (.cells #[.int .i64 W, .int .i64 H, .slice A n c] 39)).alloc (.cells #[.int .i64 l, .int .i64 o, .int .i64 x, .int .i64 y, .int .i64 bw, .int .i64 bh] 31)).heap.size = w.heap.size + 1 + 1 by simp only [World.size_alloc]] at B5
      have B5 := Lib.hid B5
      have B6 := Blk.new (((w.alloc (.cells #[.int .i64 W, .int .i64 H, .slice A n c] 39)).alloc (.cells #[.int .i64 l, .int .i64 o, .int .i64 x, .int .i64 y, .int .i64 bw, .int .i64 bh] 31)).alloc (.cells #[.int .i64 W', .int .i64 H', .slice A' n' c'] 39)) 39 #[.int .i64 0, .int .i64 0, .slice none 0 0]
      rw [show (((w.alloc (.cells #[.int .i64 W, .int .i64 H, .slice A n c] 39)).alloc (.cells #[.int .i64 l, .int .i64 o, .int .i64 x, .int .i64 y, .int .i64 bw, .int .i64 bh] 31)).alloc (.cells #[.int .i64 W', .int .i64 H', .slice A' n' c'] 39)).heap.size = w.heap.size + 1 + 1 + 1 by simp only [World.size_alloc]] at B6
      have B6 := Lib.hid B6
      generalize (((w.alloc (.cells #[.int .i64 W, .int .i64 H, .slice A n c] 39)).alloc (.cells #[.int .i64 l, .int .i64 o, .int .i64 x, .int .i64 y, .int .i64 bw, .int .i64 bh] 31)).alloc (.cells #[.int .i64 W', .int .i64 H', .slice A' n' c'] 39)).alloc (.cells #[.int .i64 0, .int .i64 0, .slice none 0 0] 39) = w1 at *
      clear hzw
      refine (r10within_c W H A n c ⟨l, o, x, y, bw, bh⟩ _ hn).mono ?_
      rintro e w2 ⟨rfl, hb'⟩
      have HB1 := Lib.hid ((HB1.out).trans (hb'.mono (HB1.out).size))
      have B3 := Lib.hid ((B3.out).below hb' (B3.out).lt)
      have B4 := Lib.hid ((B4.out).below hb' (B4.out).lt)
      have B5 := Lib.hid ((B5.out).below hb' (B5.out).lt)
      have B6 := Lib.hid ((B6.out).below hb' (B6.out).lt)
      clear hb'
      rw [HI.out]
      obtain ⟨zB30, zB31, zB32⟩ := (B3.out).cells3
      obtain ⟨zB40, zB41, zB42, zB43, zB44, zB45⟩ := (B4.out).cells6
      obtain ⟨zB50, zB51, zB52⟩ := (B5.out).cells3
      go_wp2_with fail
      clear zB30 zB31 zB32
      clear zB40 zB41 zB42 zB43 zB44 zB45
      clear zB50 zB51 zB52
      refine (rright_c W' H' A' n' c' _ hn').mono ?_
      rintro e w3 ⟨rfl, hb'⟩
      have HB1 := Lib.hid ((HB1.out).trans (hb'.mono (HB1.out).size))
      have B3 := Lib.hid ((B3.out).below hb' (B3.out).lt)
      have B4 := Lib.hid ((B4.out).below hb' (B4.out).lt)
      have B5 := Lib.hid ((B5.out).below hb' (B5.out).lt)
      have B6 := Lib.hid ((B6.out).below hb' (B6.out).lt)
      clear hb'
      rw [HQ.out]
      obtain ⟨⟨r0, r1, r2⟩, f0, f1, f2⟩ := B6.out.three
      obtain ⟨zB30, zB31, zB32⟩ := (B3.out).cells3
      obtain ⟨zB40, zB41, zB42, zB43, zB44, zB45⟩ := (B4.out).cells6
      obtain ⟨zB50, zB51, zB52⟩ := (B5.out).cells3
      go_wp2_with fail
      clear zB30 zB31 zB32
      clear zB40 zB41 zB42 zB43 zB44 zB45
      clear zB50 zB51 zB52
      obtain ⟨k1, k2, k3⟩ := ret_plane B6.out (.int .i64 W) (.int .i64 H) (.slice A n c)
      refine bodyPost_ret (results_row_tmp rfl _ _ (w.heap.size + 1 + 1 + 1) 39 _ (0, 0) _ rfl k1 Try.underlying39 rfl (by kernel_rfl)) rfl ?_
      exact ⟨rfl, k3 _ _ HB1.out (by omega)⟩
    | true =>
      by_cases h3 : W' = bw
      · have h4 : ¬ H' = bh := fun e => by rw [show layB W H n ⟨l, o, x, y, bw, bh⟩ W' H' n' = true by simp only [layB, h1, h2, Bool.true_and]; simp [h3, e]] at hi; cases hi
        have e1 : (W' != bw) = false := by simp [h3]
        have e2 : (H' != bh) = true := by simpa using h4
        clear h3 h4
        have HI := Lib.hid h1
        have HQ := Lib.hid h2
        have HB1 := Lib.hid (Below.refl w.heap.size w)
        clear h1 hi h2
        go_enter Try.func20, Try.ntmps20
        go_wp2_with fail
        have HB1 := Lib.hid (below_alloc_ (below_alloc_ (below_alloc_ (below_alloc_ (HB1.out) (.cells #[.int .i64 W, .int .i64 H, .slice A n c] 39)) (.cells #[.int .i64 l, .int .i64 o, .int .i64 x, .int .i64 y, .int .i64 bw, .int .i64 bh] 31)) (.cells #[.int .i64 W', .int .i64 H', .slice A' n' c'] 39)) (.cells #[.int .i64 0, .int .i64 0, .slice none 0 0] 39))
        have hzw : ((((w.alloc (.cells #[.int .i64 W, .int .i64 H, .slice A n c] 39)).alloc (.cells #[.int .i64 l, .int .i64 o, .int .i64 x, .int .i64 y, .int .i64 bw, .int .i64 bh] 31)).alloc (.cells #[.int .i64 W', .int .i64 H', .slice A' n' c'] 39)).alloc (.cells #[.int .i64 0, .int .i64 0, .slice none 0 0] 39)).heap.size = w.heap.size + 4 := by simp only [World.size_alloc]
        have B3 := (((Blk.new (w) 39 #[.int .i64 W, .int .i64 H, .slice A n c]).alloc (.cells #[.int .i64 l, .int .i64 o, .int .i64 x, .int .i64 y, .int .i64 bw, .int .i64 bh] 31)).alloc (.cells #[.int .i64 W', .int .i64 H', .slice A' n' c'] 39)).alloc (.cells #[.int .i64 0, .int .i64 0, .slice none 0 0] 39)
        skip
        have B3 := Lib.hid B3
        have B4 := ((Blk.new (w.alloc (.cells #[.int .i64 W, .int .i64 H, .slice A n c] 39)) 31 #[.int .i64 l, .int .i64 o, .int .i64 x, .int .i64 y, .int .i64 bw, .int .i64 bh]).alloc (.cells #[.int .i64 W', .int .i64 H', .slice A' n' c'] 39)).alloc (.cells #[.int .i64 0, .int .i64 0, .slice none 0 0] 39)
        rw [show (w.alloc (.cells #[.int .i64 W, .int .i64 H, .slice A n c] 39)).heap.size = w.heap.size + 1 by simp only [World.size_alloc]] at B4
        have B4 := Lib.hid B4
        have B5 := (Blk.new ((w.alloc (.cells #[.int .i64 W, .int .i64 H, .slice A n c] 39)).alloc (.cells #[.int .i64 l, .int .i64 o, .int .i64 x, .int .i64 y, .int .i64 bw, .int .i64 bh] 31)) 39 #[.int .i64 W', .int .i64 H', .slice A' n' c']).alloc (.cells #[.int .i64 0, .int .i64 0, .slice none 0 0] 39)
        rw [show ((w.alloc (.cells #[.int .i64 W, .int .i64 H, .slice A n c] 39)).alloc (.cells #[.int .i64 l, .int .i64 o, .int .i64 x, .int .i64 y, .int .i64 bw, .int .i64 bh] 31)).heap.size = w.heap.size + 1 + 1 by simp only [World.size_alloc]] at B5
        have B5 := Lib.hid B5
        have B6 := Blk.new (((w.alloc (.cells #[.int .i64 W, .int .i64 H, .slice A n c] 39)).alloc (.cells #[.int .i64 l, .int .i64 o, .int .i64 x, .int .i64 y, .int .i64 bw, .int .i64 bh] 31)).alloc (.cells #[.int .i64 W', .int .i64 H', .slice A' n' c'] 39)) 39 #[.int .i64 0, .int .i64 0, .slice none 0 0]
        rw [show (((w.alloc (.cells #[.int .i64 W, .int .i64 H, .slice A n c] 39)).alloc (.cells #[.int .i64 l, .int .i64 o, .int .i64 x, .int .i64 y, .int .i64 bw, .int .i64 bh] 31)).alloc (.cells #[.int .i64 W', .int .i64 H', .slice A' n' c'] 39)).heap.size = w.heap.size + 1 + 1 + 1 by simp only [World.size_alloc]] at B6
        have B6 := Lib.hid B6
        generalize (((w.alloc (.cells #[.int .i64 W, .int .i64 H, .slice A n c] 39)).alloc (.cells #[.int .i64 l, .int .i64 o, .int .i64 x, .int .i64 y, .int .i64 bw, .int .i64 bh] 31)).alloc (.cells #[.int .i64 W', .int .i64 H', .slice A' n' c'] 39)).alloc (.cells #[.int .i64 0, .int .i64 0, .slice none 0 0] 39) = w1 at *
        clear hzw
        refine (r10within_c W H A n c ⟨l, o, x, y, bw, bh⟩ _ hn).mono ?_
        rintro e w2 ⟨rfl, hb'⟩
        have HB1 := Lib.hid ((HB1.out).trans (hb'.mono (HB1.out).size))
        have B3 := Lib.hid ((B3.out).below hb' (B3.out).lt)
        have B4 := Lib.hid ((B4.out).below hb' (B4.out).lt)
        have B5 := Lib.hid ((B5.out).below hb' (B5.out).lt)
        have B6 := Lib.hid ((B6.out).below hb' (B6.out).lt)
        clear hb'
        rw [HI.out]
        obtain ⟨zB30, zB31, zB32⟩ := (B3.out).cells3
        obtain ⟨zB40, zB41, zB42, zB43, zB44, zB45⟩ := (B4.out).cells6
        obtain ⟨zB50, zB51, zB52⟩ := (B5.out).cells3
        go_wp2_with fail
        clear zB30 zB31 zB32
        clear zB40 zB41 zB42 zB43 zB44 zB45
        clear zB50 zB51 zB52
        refine (rright_c W' H' A' n' c' _ hn').mono ?_
        rintro e w3 ⟨rfl, hb'⟩
        have HB1 := Lib.hid ((HB1.out).trans (hb'.mono (HB1.out).size))
        have B3 := Lib.hid ((B3.out).below hb' (B3.out).lt)
        have B4 := Lib.hid ((B4.out).below hb' (B4.out).lt)
        have B5 := Lib.hid ((B5.out).below hb' (B5.out).lt)
        have B6 := Lib.hid ((B6.out).below hb' (B6.out).lt)
        clear hb'
        rw [HQ.out]
        obtain ⟨⟨r0, r1, r2⟩, f0, f1, f2⟩ := B6.out.three
        obtain ⟨zB30, zB31, zB32⟩ := (B3.out).cells3
        obtain ⟨zB40, zB41, zB42, zB43, zB44, zB45⟩ := (B4.out).cells6
        obtain ⟨zB50, zB51, zB52⟩ := (B5.out).cells3
        go_wp2_with fail
        clear zB30 zB31 zB32
        clear zB40 zB41 zB42 zB43 zB44 zB45
        clear zB50 zB51 zB52
        obtain ⟨k1, k2, k3⟩ := ret_plane B6.out (.int .i64 W) (.int .i64 H) (.slice A n c)
        refine bodyPost_ret (results_row_tmp rfl _ _ (w.heap.size + 1 + 1 + 1) 39 _ (0, 0) _ rfl k1 Try.underlying39 rfl (by kernel_rfl)) rfl ?_
        exact ⟨rfl, k3 _ _ HB1.out (by omega)⟩
      · have e1 : (W' != bw) = true := by simpa using h3
        clear h3
        have HI := Lib.hid h1
        have HQ := Lib.hid h2
        have HB1 := Lib.hid (Below.refl w.heap.size w)
        clear h1 hi h2
        go_enter Try.func20, Try.ntmps20
        go_wp2_with fail
        have HB1 := Lib.hid (below_alloc_ (below_alloc_ (below_alloc_ (below_alloc_ (HB1.out) (.cells #[.int .i64 W, .int .i64 H, .slice A n c] 39)) (.cells #[.int .i64 l, .int .i64 o, .int .i64 x, .int .i64 y, .int .i64 bw, .int .i64 bh] 31)) (.cells #[.int .i64 W', .int .i64 H', .slice A' n' c'] 39)) (.cells #[.int .i64 0, .int .i64 0, .slice none 0 0] 39))
        have hzw : ((((w.alloc (.cells #[.int .i64 W, .int .i64 H, .slice A n c] 39)).alloc (.cells #[.int .i64 l, .int .i64 o, .int .i64 x, .int .i64 y, .int .i64 bw, .int .i64 bh] 31)).alloc (.cells #[.int .i64 W', .int .i64 H', .slice A' n' c'] 39)).alloc (.cells #[.int .i64 0, .int .i64 0, .slice none 0 0] 39)).heap.size = w.heap.size + 4 := by simp only [World.size_alloc]
        have B3 := (((Blk.new (w) 39 #[.int .i64 W, .int .i64 H, .slice A n c]).alloc (.cells #[.int .i64 l, .int .i64 o, .int .i64 x, .int .i64 y, .int .i64 bw, .int .i64 bh] 31)).alloc (.cells #[.int .i64 W', .int .i64 H', .slice A' n' c'] 39)).alloc (.cells #[.int .i64 0, .int .i64 0, .slice none 0 0] 39)
        skip
        have B3 := Lib.hid B3
        have B4 := ((Blk.new (w.alloc (.cells #[.int .i64 W, .int .i64 H, .slice A n c] 39)) 31 #[.int .i64 l, .int .i64 o, .int .i64 x, .int .i64 y, .int .i64 bw, .int .i64 bh]).alloc (.cells #[.int .i64 W', .int .i64 H', .slice A' n' c'] 39)).alloc (.cells #[.int .i64 0, .int .i64 0, .slice none 0 0] 39)
        rw [show (w.alloc (.cells #[.int .i64 W, .int .i64 H, .slice A n c] 39)).heap.size = w.heap.size + 1 by simp only [World.size_alloc]] at B4
        have B4 := Lib.hid B4
        have B5 := (Blk.new ((w.alloc (.cells #[.int .i64 W, .int .i64 H, .slice A n c] 39)).alloc (.cells #[.int .i64 l, .int .i64 o, .int .i64 x, .int .i64 y, .int .i64 bw, .int .i64 bh] 31)) 39 #[.int .i64 W', .int .i64 H', .slice A' n' c']).alloc (.cells #[.int .i64 0, .int .i64 0, .slice none 0 0] 39)
        rw [show ((w.alloc (.cells #[.int .i64 W, .int .i64 H, .slice A n c] 39)).alloc (.cells #[.int .i64 l, .int .i64 o, .int .i64 x, .int .i64 y, .int .i64 bw, .int .i64 bh] 31)).heap.size = w.heap.size + 1 + 1 by simp only [World.size_alloc]] at B5
        have B5 := Lib.hid B5
        have B6 := Blk.new (((w.alloc (.cells #[.int .i64 W, .int .i64 H, .slice A n c] 39)).alloc (.cells #[.int .i64 l, .int .i64 o, .int .i64 x, .int .i64 y, .int .i64 bw, .int .i64 bh] 31)).alloc (.cells #[.int .i64 W', .int .i64 H', .slice A' n' c'] 39)) 39 #[.int .i64 0, .int .i64 0, .slice none 0 0]
        rw [show (((w.alloc (.cells #[.int .i64 W, .int .i64 H, .slice A n c] 39)).alloc (.cells #[.int .i64 l, .int .i64 o, .int .i64 x, .int .i64 y, .int .i64 bw, .int .i64 bh] 31)).alloc (.cells #[.int .i64 W', .int .i64 H', .slice A' n' c'] 39)).heap.size = w.heap.size + 1 + 1 + 1 by simp only [World.size_alloc]] at B6
        have B6 := Lib.hid B6
        generalize (((w.alloc (.cells #[.int .i64 W, .int .i64 H, .slice A n c] 39)).alloc (.cells #[.int .i64 l, .int .i64 o, .int .i64 x, .int .i64 y, .int .i64 bw, .int .i64 bh] 31)).alloc (.cells #[.int .i64 W', .int .i64 H', .slice A' n' c'] 39)).alloc (.cells #[.int .i64 0, .int .i64 0, .slice none 0 0] 39) = w1 at *
        clear hzw
        refine (r10within_c W H A n c ⟨l, o, x, y, bw, bh⟩ _ hn).mono ?_
        rintro e w2 ⟨rfl, hb'⟩
        have HB1 := Lib.hid ((HB1.out).trans (hb'.mono (HB1.out).size))
        have B3 := Lib.hid ((B3.out).below hb' (B3.out).lt)
        have B4 := Lib.hid ((B4.out).below hb' (B4.out).lt)
        have B5 := Lib.hid ((B5.out).below hb' (B5.out).lt)
        have B6 := Lib.hid ((B6.out).below hb' (B6.out).lt)
        clear hb'
        rw [HI.out]
        obtain ⟨zB30, zB31, zB32⟩ := (B3.out).cells3
        obtain ⟨zB40, zB41, zB42, zB43, zB44, zB45⟩ := (B4.out).cells6
        obtain ⟨zB50, zB51, zB52⟩ := (B5.out).cells3
        go_wp2_with fail
        clear zB30 zB31 zB32
        clear zB40 zB41 zB42 zB43 zB44 zB45
        clear zB50 zB51 zB52
        refine (rright_c W' H' A' n' c' _ hn').mono ?_
        rintro e w3 ⟨rfl, hb'⟩
        have HB1 := Lib.hid ((HB1.out).trans (hb'.mono (HB1.out).size))
        have B3 := Lib.hid ((B3.out).below hb' (B3.out).lt)
        have B4 := Lib.hid ((B4.out).below hb' (B4.out).lt)
        have B5 := Lib.hid ((B5.out).below hb' (B5.out).lt)
        have B6 := Lib.hid ((B6.out).below hb' (B6.out).lt)
        clear hb'
        rw [HQ.out]
        obtain ⟨⟨r0, r1, r2⟩, f0, f1, f2⟩ := B6.out.three
        obtain ⟨zB30, zB31, zB32⟩ := (B3.out).cells3
        obtain ⟨zB40, zB41, zB42, zB43, zB44, zB45⟩ := (B4.out).cells6
        obtain ⟨zB50, zB51, zB52⟩ := (B5.out).cells3
        go_wp2_with fail
        clear zB30 zB31 zB32
        clear zB40 zB41 zB42 zB43 zB44 zB45
        clear zB50 zB51 zB52
        obtain ⟨k1, k2, k3⟩ := ret_plane B6.out (.int .i64 W) (.int .i64 H) (.slice A n c)
        refine bodyPost_ret (results_row_tmp rfl _ _ (w.heap.size + 1 + 1 + 1) 39 _ (0, 0) _ rfl k1 Try.underlying39 rfl (by kernel_rfl)) rfl ?_
        exact ⟨rfl, k3 _ _ HB1.out (by omega)⟩

end Go.Proofs.Ytjlajggilcihoaa
