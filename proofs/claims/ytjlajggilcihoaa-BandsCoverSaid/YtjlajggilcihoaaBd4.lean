/- Bands: are they within a plane; a band's row in a plane. -/
import Derived.Test.YtjlajggilcihoaaBd3
import Derived.Test.YtjlajggilcihoaaPl9
namespace Go.Proofs.Ytjlajggilcihoaa
open Go.RowKit Go.Sort
set_option linter.unusedVariables false
set_option linter.unusedSimpArgs false

def inB (W H : Int) (n : Nat) (b : Bd) : Bool := okB W H n && decide (1 ≤ b.w ∧ 1 ≤ b.h ∧ 0 ≤ b.x ∧ 0 ≤ b.y ∧ b.w ≤ W ∧ b.x ≤ W - b.w ∧ b.h ≤ H ∧ b.y ≤ H - b.h)
theorem inB_t {W H : Int} {n : Nat} {b : Bd} (h : inB W H n b = true) : okB W H n = true ∧ 1 ≤ b.w ∧ 1 ≤ b.h ∧ 0 ≤ b.x ∧ 0 ≤ b.y ∧ b.w ≤ W ∧ b.x ≤ W - b.w ∧ b.h ≤ H ∧ b.y ≤ H - b.h := by simpa [inB] using h
set_option maxRecDepth 100000 in
set_option maxHeartbeats 6400000 in
theorem bwithin_c (W H : Int) (A : Option Addr) (n c : Nat) (b : Bd) (w : World) (hn : n ≤ 9223372036854775807) :
    Calls Try.prog 27 #[plV W H (.slice A n c), bdV b] w fun e w' => e = .returned (.bool (inB W H n b)) ∧ Below w.heap.size w w' := by
  obtain ⟨l, o, x, y, bw, bh⟩ := b
  cases hok : okB W H n with
  | false =>
    have HB1 := Lib.hid (Below.refl w.heap.size w)
    have HO := Lib.hid hok
    clear hok
    go_enter Try.func27, Try.ntmps27
    go_wp2_with fail
    have HB1 := Lib.hid (below_alloc_ (below_alloc_ (HB1.out) (.cells #[.int .i64 W, .int .i64 H, .slice A n c] 39)) (.cells #[.int .i64 l, .int .i64 o, .int .i64 x, .int .i64 y, .int .i64 bw, .int .i64 bh] 31))
    have hzw : ((w.alloc (.cells #[.int .i64 W, .int .i64 H, .slice A n c] 39)).alloc (.cells #[.int .i64 l, .int .i64 o, .int .i64 x, .int .i64 y, .int .i64 bw, .int .i64 bh] 31)).heap.size = w.heap.size + 2 := by simp only [World.size_alloc]
    have B2 := (Blk.new (w) 39 #[.int .i64 W, .int .i64 H, .slice A n c]).alloc (.cells #[.int .i64 l, .int .i64 o, .int .i64 x, .int .i64 y, .int .i64 bw, .int .i64 bh] 31)
    skip
    have B2 := Lib.hid B2
    have B3 := Blk.new (w.alloc (.cells #[.int .i64 W, .int .i64 H, .slice A n c] 39)) 31 #[.int .i64 l, .int .i64 o, .int .i64 x, .int .i64 y, .int .i64 bw, .int .i64 bh]
    rw [show (w.alloc (.cells #[.int .i64 W, .int .i64 H, .slice A n c] 39)).heap.size = w.heap.size + 1 by simp only [World.size_alloc]] at B3
    have B3 := Lib.hid B3
    generalize (w.alloc (.cells #[.int .i64 W, .int .i64 H, .slice A n c] 39)).alloc (.cells #[.int .i64 l, .int .i64 o, .int .i64 x, .int .i64 y, .int .i64 bw, .int .i64 bh] 31) = w1 at *
    clear hzw
    refine (pright_c W H A n c _ hn).mono ?_
    rintro e w2 ⟨rfl, hb'⟩
    have HB1 := Lib.hid ((HB1.out).trans (hb'.mono (HB1.out).size))
    have B2 := Lib.hid ((B2.out).below hb' (B2.out).lt)
    have B3 := Lib.hid ((B3.out).below hb' (B3.out).lt)
    clear hb'
    rw [HO.out]
    obtain ⟨zB20, zB21, zB22⟩ := (B2.out).cells3
    obtain ⟨zB30, zB31, zB32, zB33, zB34, zB35⟩ := (B3.out).cells6
    go_wp2_with fail
    clear zB20 zB21 zB22
    clear zB30 zB31 zB32 zB33 zB34 zB35
    go_ret
    exact ⟨ret_bool (by simp [inB, HO.out]), HB1.out⟩
  | true =>
    obtain ⟨s1, s2, s3, s4, _⟩ := okB_t hok
    by_cases c0 : 1 ≤ bw
    · skip
      by_cases c1 : 1 ≤ bh
      · skip
        by_cases c2 : 0 ≤ x
        · skip
          by_cases c3 : 0 ≤ y
          · skip
            by_cases c4 : bw ≤ W
            · skip
              by_cases c5 : x ≤ W - bw
              · skip
                by_cases c6 : bh ≤ H
                · skip
                  by_cases c7 : y ≤ H - bh
                  · skip
                    have HB1 := Lib.hid (Below.refl w.heap.size w)
                    have HO := Lib.hid hok
                    have HV := Lib.hid (show inB W H n ⟨l, o, x, y, bw, bh⟩ = true by simp [inB, hok] <;> omega)
                    clear hok
                    go_enter Try.func27, Try.ntmps27
                    go_wp2_with fail
                    have HB1 := Lib.hid (below_alloc_ (below_alloc_ (HB1.out) (.cells #[.int .i64 W, .int .i64 H, .slice A n c] 39)) (.cells #[.int .i64 l, .int .i64 o, .int .i64 x, .int .i64 y, .int .i64 bw, .int .i64 bh] 31))
                    have hzw : ((w.alloc (.cells #[.int .i64 W, .int .i64 H, .slice A n c] 39)).alloc (.cells #[.int .i64 l, .int .i64 o, .int .i64 x, .int .i64 y, .int .i64 bw, .int .i64 bh] 31)).heap.size = w.heap.size + 2 := by simp only [World.size_alloc]
                    have B2 := (Blk.new (w) 39 #[.int .i64 W, .int .i64 H, .slice A n c]).alloc (.cells #[.int .i64 l, .int .i64 o, .int .i64 x, .int .i64 y, .int .i64 bw, .int .i64 bh] 31)
                    skip
                    have B2 := Lib.hid B2
                    have B3 := Blk.new (w.alloc (.cells #[.int .i64 W, .int .i64 H, .slice A n c] 39)) 31 #[.int .i64 l, .int .i64 o, .int .i64 x, .int .i64 y, .int .i64 bw, .int .i64 bh]
                    rw [show (w.alloc (.cells #[.int .i64 W, .int .i64 H, .slice A n c] 39)).heap.size = w.heap.size + 1 by simp only [World.size_alloc]] at B3
                    have B3 := Lib.hid B3
                    generalize (w.alloc (.cells #[.int .i64 W, .int .i64 H, .slice A n c] 39)).alloc (.cells #[.int .i64 l, .int .i64 o, .int .i64 x, .int .i64 y, .int .i64 bw, .int .i64 bh] 31) = w1 at *
                    clear hzw
                    refine (pright_c W H A n c _ hn).mono ?_
                    rintro e w2 ⟨rfl, hb'⟩
                    have HB1 := Lib.hid ((HB1.out).trans (hb'.mono (HB1.out).size))
                    have B2 := Lib.hid ((B2.out).below hb' (B2.out).lt)
                    have B3 := Lib.hid ((B3.out).below hb' (B3.out).lt)
                    clear hb'
                    rw [HO.out]
                    obtain ⟨zB20, zB21, zB22⟩ := (B2.out).cells3
                    obtain ⟨zB30, zB31, zB32, zB33, zB34, zB35⟩ := (B3.out).cells6
                    go_wp2_with fail
                    clear zB20 zB21 zB22
                    clear zB30 zB31 zB32 zB33 zB34 zB35
                    go_ret
                    exact ⟨ret_bool (by rw [HV.out] <;> first | rfl | (simp; omega)), HB1.out⟩
                  · skip
                    have HB1 := Lib.hid (Below.refl w.heap.size w)
                    have HO := Lib.hid hok
                    have HV := Lib.hid (show inB W H n ⟨l, o, x, y, bw, bh⟩ = false by simp [inB, hok] <;> omega)
                    clear hok
                    go_enter Try.func27, Try.ntmps27
                    go_wp2_with fail
                    have HB1 := Lib.hid (below_alloc_ (below_alloc_ (HB1.out) (.cells #[.int .i64 W, .int .i64 H, .slice A n c] 39)) (.cells #[.int .i64 l, .int .i64 o, .int .i64 x, .int .i64 y, .int .i64 bw, .int .i64 bh] 31))
                    have hzw : ((w.alloc (.cells #[.int .i64 W, .int .i64 H, .slice A n c] 39)).alloc (.cells #[.int .i64 l, .int .i64 o, .int .i64 x, .int .i64 y, .int .i64 bw, .int .i64 bh] 31)).heap.size = w.heap.size + 2 := by simp only [World.size_alloc]
                    have B2 := (Blk.new (w) 39 #[.int .i64 W, .int .i64 H, .slice A n c]).alloc (.cells #[.int .i64 l, .int .i64 o, .int .i64 x, .int .i64 y, .int .i64 bw, .int .i64 bh] 31)
                    skip
                    have B2 := Lib.hid B2
                    have B3 := Blk.new (w.alloc (.cells #[.int .i64 W, .int .i64 H, .slice A n c] 39)) 31 #[.int .i64 l, .int .i64 o, .int .i64 x, .int .i64 y, .int .i64 bw, .int .i64 bh]
                    rw [show (w.alloc (.cells #[.int .i64 W, .int .i64 H, .slice A n c] 39)).heap.size = w.heap.size + 1 by simp only [World.size_alloc]] at B3
                    have B3 := Lib.hid B3
                    generalize (w.alloc (.cells #[.int .i64 W, .int .i64 H, .slice A n c] 39)).alloc (.cells #[.int .i64 l, .int .i64 o, .int .i64 x, .int .i64 y, .int .i64 bw, .int .i64 bh] 31) = w1 at *
                    clear hzw
                    refine (pright_c W H A n c _ hn).mono ?_
                    rintro e w2 ⟨rfl, hb'⟩
                    have HB1 := Lib.hid ((HB1.out).trans (hb'.mono (HB1.out).size))
                    have B2 := Lib.hid ((B2.out).below hb' (B2.out).lt)
                    have B3 := Lib.hid ((B3.out).below hb' (B3.out).lt)
                    clear hb'
                    rw [HO.out]
                    obtain ⟨zB20, zB21, zB22⟩ := (B2.out).cells3
                    obtain ⟨zB30, zB31, zB32, zB33, zB34, zB35⟩ := (B3.out).cells6
                    go_wp2_with fail
                    clear zB20 zB21 zB22
                    clear zB30 zB31 zB32 zB33 zB34 zB35
                    go_ret
                    exact ⟨ret_bool (by rw [HV.out] <;> first | rfl | (simp; omega)), HB1.out⟩
                · skip
                  have HB1 := Lib.hid (Below.refl w.heap.size w)
                  have HO := Lib.hid hok
                  have HV := Lib.hid (show inB W H n ⟨l, o, x, y, bw, bh⟩ = false by simp [inB, hok] <;> omega)
                  clear hok
                  go_enter Try.func27, Try.ntmps27
                  go_wp2_with fail
                  have HB1 := Lib.hid (below_alloc_ (below_alloc_ (HB1.out) (.cells #[.int .i64 W, .int .i64 H, .slice A n c] 39)) (.cells #[.int .i64 l, .int .i64 o, .int .i64 x, .int .i64 y, .int .i64 bw, .int .i64 bh] 31))
                  have hzw : ((w.alloc (.cells #[.int .i64 W, .int .i64 H, .slice A n c] 39)).alloc (.cells #[.int .i64 l, .int .i64 o, .int .i64 x, .int .i64 y, .int .i64 bw, .int .i64 bh] 31)).heap.size = w.heap.size + 2 := by simp only [World.size_alloc]
                  have B2 := (Blk.new (w) 39 #[.int .i64 W, .int .i64 H, .slice A n c]).alloc (.cells #[.int .i64 l, .int .i64 o, .int .i64 x, .int .i64 y, .int .i64 bw, .int .i64 bh] 31)
                  skip
                  have B2 := Lib.hid B2
                  have B3 := Blk.new (w.alloc (.cells #[.int .i64 W, .int .i64 H, .slice A n c] 39)) 31 #[.int .i64 l, .int .i64 o, .int .i64 x, .int .i64 y, .int .i64 bw, .int .i64 bh]
                  rw [show (w.alloc (.cells #[.int .i64 W, .int .i64 H, .slice A n c] 39)).heap.size = w.heap.size + 1 by simp only [World.size_alloc]] at B3
                  have B3 := Lib.hid B3
                  generalize (w.alloc (.cells #[.int .i64 W, .int .i64 H, .slice A n c] 39)).alloc (.cells #[.int .i64 l, .int .i64 o, .int .i64 x, .int .i64 y, .int .i64 bw, .int .i64 bh] 31) = w1 at *
                  clear hzw
                  refine (pright_c W H A n c _ hn).mono ?_
                  rintro e w2 ⟨rfl, hb'⟩
                  have HB1 := Lib.hid ((HB1.out).trans (hb'.mono (HB1.out).size))
                  have B2 := Lib.hid ((B2.out).below hb' (B2.out).lt)
                  have B3 := Lib.hid ((B3.out).below hb' (B3.out).lt)
                  clear hb'
                  rw [HO.out]
                  obtain ⟨zB20, zB21, zB22⟩ := (B2.out).cells3
                  obtain ⟨zB30, zB31, zB32, zB33, zB34, zB35⟩ := (B3.out).cells6
                  go_wp2_with fail
                  clear zB20 zB21 zB22
                  clear zB30 zB31 zB32 zB33 zB34 zB35
                  go_ret
                  exact ⟨ret_bool (by rw [HV.out] <;> first | rfl | (simp; omega)), HB1.out⟩
              · skip
                have HB1 := Lib.hid (Below.refl w.heap.size w)
                have HO := Lib.hid hok
                have HV := Lib.hid (show inB W H n ⟨l, o, x, y, bw, bh⟩ = false by simp [inB, hok] <;> omega)
                clear hok
                go_enter Try.func27, Try.ntmps27
                go_wp2_with fail
                have HB1 := Lib.hid (below_alloc_ (below_alloc_ (HB1.out) (.cells #[.int .i64 W, .int .i64 H, .slice A n c] 39)) (.cells #[.int .i64 l, .int .i64 o, .int .i64 x, .int .i64 y, .int .i64 bw, .int .i64 bh] 31))
                have hzw : ((w.alloc (.cells #[.int .i64 W, .int .i64 H, .slice A n c] 39)).alloc (.cells #[.int .i64 l, .int .i64 o, .int .i64 x, .int .i64 y, .int .i64 bw, .int .i64 bh] 31)).heap.size = w.heap.size + 2 := by simp only [World.size_alloc]
                have B2 := (Blk.new (w) 39 #[.int .i64 W, .int .i64 H, .slice A n c]).alloc (.cells #[.int .i64 l, .int .i64 o, .int .i64 x, .int .i64 y, .int .i64 bw, .int .i64 bh] 31)
                skip
                have B2 := Lib.hid B2
                have B3 := Blk.new (w.alloc (.cells #[.int .i64 W, .int .i64 H, .slice A n c] 39)) 31 #[.int .i64 l, .int .i64 o, .int .i64 x, .int .i64 y, .int .i64 bw, .int .i64 bh]
                rw [show (w.alloc (.cells #[.int .i64 W, .int .i64 H, .slice A n c] 39)).heap.size = w.heap.size + 1 by simp only [World.size_alloc]] at B3
                have B3 := Lib.hid B3
                generalize (w.alloc (.cells #[.int .i64 W, .int .i64 H, .slice A n c] 39)).alloc (.cells #[.int .i64 l, .int .i64 o, .int .i64 x, .int .i64 y, .int .i64 bw, .int .i64 bh] 31) = w1 at *
                clear hzw
                refine (pright_c W H A n c _ hn).mono ?_
                rintro e w2 ⟨rfl, hb'⟩
                have HB1 := Lib.hid ((HB1.out).trans (hb'.mono (HB1.out).size))
                have B2 := Lib.hid ((B2.out).below hb' (B2.out).lt)
                have B3 := Lib.hid ((B3.out).below hb' (B3.out).lt)
                clear hb'
                rw [HO.out]
                obtain ⟨zB20, zB21, zB22⟩ := (B2.out).cells3
                obtain ⟨zB30, zB31, zB32, zB33, zB34, zB35⟩ := (B3.out).cells6
                go_wp2_with fail
                clear zB20 zB21 zB22
                clear zB30 zB31 zB32 zB33 zB34 zB35
                go_ret
                exact ⟨ret_bool (by rw [HV.out] <;> first | rfl | (simp; omega)), HB1.out⟩
            · skip
              have HB1 := Lib.hid (Below.refl w.heap.size w)
              have HO := Lib.hid hok
              have HV := Lib.hid (show inB W H n ⟨l, o, x, y, bw, bh⟩ = false by simp [inB, hok] <;> omega)
              clear hok
              go_enter Try.func27, Try.ntmps27
              go_wp2_with fail
              have HB1 := Lib.hid (below_alloc_ (below_alloc_ (HB1.out) (.cells #[.int .i64 W, .int .i64 H, .slice A n c] 39)) (.cells #[.int .i64 l, .int .i64 o, .int .i64 x, .int .i64 y, .int .i64 bw, .int .i64 bh] 31))
              have hzw : ((w.alloc (.cells #[.int .i64 W, .int .i64 H, .slice A n c] 39)).alloc (.cells #[.int .i64 l, .int .i64 o, .int .i64 x, .int .i64 y, .int .i64 bw, .int .i64 bh] 31)).heap.size = w.heap.size + 2 := by simp only [World.size_alloc]
              have B2 := (Blk.new (w) 39 #[.int .i64 W, .int .i64 H, .slice A n c]).alloc (.cells #[.int .i64 l, .int .i64 o, .int .i64 x, .int .i64 y, .int .i64 bw, .int .i64 bh] 31)
              skip
              have B2 := Lib.hid B2
              have B3 := Blk.new (w.alloc (.cells #[.int .i64 W, .int .i64 H, .slice A n c] 39)) 31 #[.int .i64 l, .int .i64 o, .int .i64 x, .int .i64 y, .int .i64 bw, .int .i64 bh]
              rw [show (w.alloc (.cells #[.int .i64 W, .int .i64 H, .slice A n c] 39)).heap.size = w.heap.size + 1 by simp only [World.size_alloc]] at B3
              have B3 := Lib.hid B3
              generalize (w.alloc (.cells #[.int .i64 W, .int .i64 H, .slice A n c] 39)).alloc (.cells #[.int .i64 l, .int .i64 o, .int .i64 x, .int .i64 y, .int .i64 bw, .int .i64 bh] 31) = w1 at *
              clear hzw
              refine (pright_c W H A n c _ hn).mono ?_
              rintro e w2 ⟨rfl, hb'⟩
              have HB1 := Lib.hid ((HB1.out).trans (hb'.mono (HB1.out).size))
              have B2 := Lib.hid ((B2.out).below hb' (B2.out).lt)
              have B3 := Lib.hid ((B3.out).below hb' (B3.out).lt)
              clear hb'
              rw [HO.out]
              obtain ⟨zB20, zB21, zB22⟩ := (B2.out).cells3
              obtain ⟨zB30, zB31, zB32, zB33, zB34, zB35⟩ := (B3.out).cells6
              go_wp2_with fail
              clear zB20 zB21 zB22
              clear zB30 zB31 zB32 zB33 zB34 zB35
              go_ret
              exact ⟨ret_bool (by rw [HV.out] <;> first | rfl | (simp; omega)), HB1.out⟩
          · skip
            have HB1 := Lib.hid (Below.refl w.heap.size w)
            have HO := Lib.hid hok
            have HV := Lib.hid (show inB W H n ⟨l, o, x, y, bw, bh⟩ = false by simp [inB, hok] <;> omega)
            clear hok
            go_enter Try.func27, Try.ntmps27
            go_wp2_with fail
            have HB1 := Lib.hid (below_alloc_ (below_alloc_ (HB1.out) (.cells #[.int .i64 W, .int .i64 H, .slice A n c] 39)) (.cells #[.int .i64 l, .int .i64 o, .int .i64 x, .int .i64 y, .int .i64 bw, .int .i64 bh] 31))
            have hzw : ((w.alloc (.cells #[.int .i64 W, .int .i64 H, .slice A n c] 39)).alloc (.cells #[.int .i64 l, .int .i64 o, .int .i64 x, .int .i64 y, .int .i64 bw, .int .i64 bh] 31)).heap.size = w.heap.size + 2 := by simp only [World.size_alloc]
            have B2 := (Blk.new (w) 39 #[.int .i64 W, .int .i64 H, .slice A n c]).alloc (.cells #[.int .i64 l, .int .i64 o, .int .i64 x, .int .i64 y, .int .i64 bw, .int .i64 bh] 31)
            skip
            have B2 := Lib.hid B2
            have B3 := Blk.new (w.alloc (.cells #[.int .i64 W, .int .i64 H, .slice A n c] 39)) 31 #[.int .i64 l, .int .i64 o, .int .i64 x, .int .i64 y, .int .i64 bw, .int .i64 bh]
            rw [show (w.alloc (.cells #[.int .i64 W, .int .i64 H, .slice A n c] 39)).heap.size = w.heap.size + 1 by simp only [World.size_alloc]] at B3
            have B3 := Lib.hid B3
            generalize (w.alloc (.cells #[.int .i64 W, .int .i64 H, .slice A n c] 39)).alloc (.cells #[.int .i64 l, .int .i64 o, .int .i64 x, .int .i64 y, .int .i64 bw, .int .i64 bh] 31) = w1 at *
            clear hzw
            refine (pright_c W H A n c _ hn).mono ?_
            rintro e w2 ⟨rfl, hb'⟩
            have HB1 := Lib.hid ((HB1.out).trans (hb'.mono (HB1.out).size))
            have B2 := Lib.hid ((B2.out).below hb' (B2.out).lt)
            have B3 := Lib.hid ((B3.out).below hb' (B3.out).lt)
            clear hb'
            rw [HO.out]
            obtain ⟨zB20, zB21, zB22⟩ := (B2.out).cells3
            obtain ⟨zB30, zB31, zB32, zB33, zB34, zB35⟩ := (B3.out).cells6
            go_wp2_with fail
            clear zB20 zB21 zB22
            clear zB30 zB31 zB32 zB33 zB34 zB35
            go_ret
            exact ⟨ret_bool (by rw [HV.out] <;> first | rfl | (simp; omega)), HB1.out⟩
        · skip
          have HB1 := Lib.hid (Below.refl w.heap.size w)
          have HO := Lib.hid hok
          have HV := Lib.hid (show inB W H n ⟨l, o, x, y, bw, bh⟩ = false by simp [inB, hok] <;> omega)
          clear hok
          go_enter Try.func27, Try.ntmps27
          go_wp2_with fail
          have HB1 := Lib.hid (below_alloc_ (below_alloc_ (HB1.out) (.cells #[.int .i64 W, .int .i64 H, .slice A n c] 39)) (.cells #[.int .i64 l, .int .i64 o, .int .i64 x, .int .i64 y, .int .i64 bw, .int .i64 bh] 31))
          have hzw : ((w.alloc (.cells #[.int .i64 W, .int .i64 H, .slice A n c] 39)).alloc (.cells #[.int .i64 l, .int .i64 o, .int .i64 x, .int .i64 y, .int .i64 bw, .int .i64 bh] 31)).heap.size = w.heap.size + 2 := by simp only [World.size_alloc]
          have B2 := (Blk.new (w) 39 #[.int .i64 W, .int .i64 H, .slice A n c]).alloc (.cells #[.int .i64 l, .int .i64 o, .int .i64 x, .int .i64 y, .int .i64 bw, .int .i64 bh] 31)
          skip
          have B2 := Lib.hid B2
          have B3 := Blk.new (w.alloc (.cells #[.int .i64 W, .int .i64 H, .slice A n c] 39)) 31 #[.int .i64 l, .int .i64 o, .int .i64 x, .int .i64 y, .int .i64 bw, .int .i64 bh]
          rw [show (w.alloc (.cells #[.int .i64 W, .int .i64 H, .slice A n c] 39)).heap.size = w.heap.size + 1 by simp only [World.size_alloc]] at B3
          have B3 := Lib.hid B3
          generalize (w.alloc (.cells #[.int .i64 W, .int .i64 H, .slice A n c] 39)).alloc (.cells #[.int .i64 l, .int .i64 o, .int .i64 x, .int .i64 y, .int .i64 bw, .int .i64 bh] 31) = w1 at *
          clear hzw
          refine (pright_c W H A n c _ hn).mono ?_
          rintro e w2 ⟨rfl, hb'⟩
          have HB1 := Lib.hid ((HB1.out).trans (hb'.mono (HB1.out).size))
          have B2 := Lib.hid ((B2.out).below hb' (B2.out).lt)
          have B3 := Lib.hid ((B3.out).below hb' (B3.out).lt)
          clear hb'
          rw [HO.out]
          obtain ⟨zB20, zB21, zB22⟩ := (B2.out).cells3
          obtain ⟨zB30, zB31, zB32, zB33, zB34, zB35⟩ := (B3.out).cells6
          go_wp2_with fail
          clear zB20 zB21 zB22
          clear zB30 zB31 zB32 zB33 zB34 zB35
          go_ret
          exact ⟨ret_bool (by rw [HV.out] <;> first | rfl | (simp; omega)), HB1.out⟩
      · skip
        have HB1 := Lib.hid (Below.refl w.heap.size w)
        have HO := Lib.hid hok
        have HV := Lib.hid (show inB W H n ⟨l, o, x, y, bw, bh⟩ = false by simp [inB, hok] <;> omega)
        clear hok
        go_enter Try.func27, Try.ntmps27
        go_wp2_with fail
        have HB1 := Lib.hid (below_alloc_ (below_alloc_ (HB1.out) (.cells #[.int .i64 W, .int .i64 H, .slice A n c] 39)) (.cells #[.int .i64 l, .int .i64 o, .int .i64 x, .int .i64 y, .int .i64 bw, .int .i64 bh] 31))
        have hzw : ((w.alloc (.cells #[.int .i64 W, .int .i64 H, .slice A n c] 39)).alloc (.cells #[.int .i64 l, .int .i64 o, .int .i64 x, .int .i64 y, .int .i64 bw, .int .i64 bh] 31)).heap.size = w.heap.size + 2 := by simp only [World.size_alloc]
        have B2 := (Blk.new (w) 39 #[.int .i64 W, .int .i64 H, .slice A n c]).alloc (.cells #[.int .i64 l, .int .i64 o, .int .i64 x, .int .i64 y, .int .i64 bw, .int .i64 bh] 31)
        skip
        have B2 := Lib.hid B2
        have B3 := Blk.new (w.alloc (.cells #[.int .i64 W, .int .i64 H, .slice A n c] 39)) 31 #[.int .i64 l, .int .i64 o, .int .i64 x, .int .i64 y, .int .i64 bw, .int .i64 bh]
        rw [show (w.alloc (.cells #[.int .i64 W, .int .i64 H, .slice A n c] 39)).heap.size = w.heap.size + 1 by simp only [World.size_alloc]] at B3
        have B3 := Lib.hid B3
        generalize (w.alloc (.cells #[.int .i64 W, .int .i64 H, .slice A n c] 39)).alloc (.cells #[.int .i64 l, .int .i64 o, .int .i64 x, .int .i64 y, .int .i64 bw, .int .i64 bh] 31) = w1 at *
        clear hzw
        refine (pright_c W H A n c _ hn).mono ?_
        rintro e w2 ⟨rfl, hb'⟩
        have HB1 := Lib.hid ((HB1.out).trans (hb'.mono (HB1.out).size))
        have B2 := Lib.hid ((B2.out).below hb' (B2.out).lt)
        have B3 := Lib.hid ((B3.out).below hb' (B3.out).lt)
        clear hb'
        rw [HO.out]
        obtain ⟨zB20, zB21, zB22⟩ := (B2.out).cells3
        obtain ⟨zB30, zB31, zB32, zB33, zB34, zB35⟩ := (B3.out).cells6
        go_wp2_with fail
        clear zB20 zB21 zB22
        clear zB30 zB31 zB32 zB33 zB34 zB35
        go_ret
        exact ⟨ret_bool (by rw [HV.out] <;> first | rfl | (simp; omega)), HB1.out⟩
    · skip
      have HB1 := Lib.hid (Below.refl w.heap.size w)
      have HO := Lib.hid hok
      have HV := Lib.hid (show inB W H n ⟨l, o, x, y, bw, bh⟩ = false by simp [inB, hok] <;> omega)
      clear hok
      go_enter Try.func27, Try.ntmps27
      go_wp2_with fail
      have HB1 := Lib.hid (below_alloc_ (below_alloc_ (HB1.out) (.cells #[.int .i64 W, .int .i64 H, .slice A n c] 39)) (.cells #[.int .i64 l, .int .i64 o, .int .i64 x, .int .i64 y, .int .i64 bw, .int .i64 bh] 31))
      have hzw : ((w.alloc (.cells #[.int .i64 W, .int .i64 H, .slice A n c] 39)).alloc (.cells #[.int .i64 l, .int .i64 o, .int .i64 x, .int .i64 y, .int .i64 bw, .int .i64 bh] 31)).heap.size = w.heap.size + 2 := by simp only [World.size_alloc]
      have B2 := (Blk.new (w) 39 #[.int .i64 W, .int .i64 H, .slice A n c]).alloc (.cells #[.int .i64 l, .int .i64 o, .int .i64 x, .int .i64 y, .int .i64 bw, .int .i64 bh] 31)
      skip
      have B2 := Lib.hid B2
      have B3 := Blk.new (w.alloc (.cells #[.int .i64 W, .int .i64 H, .slice A n c] 39)) 31 #[.int .i64 l, .int .i64 o, .int .i64 x, .int .i64 y, .int .i64 bw, .int .i64 bh]
      rw [show (w.alloc (.cells #[.int .i64 W, .int .i64 H, .slice A n c] 39)).heap.size = w.heap.size + 1 by simp only [World.size_alloc]] at B3
      have B3 := Lib.hid B3
      generalize (w.alloc (.cells #[.int .i64 W, .int .i64 H, .slice A n c] 39)).alloc (.cells #[.int .i64 l, .int .i64 o, .int .i64 x, .int .i64 y, .int .i64 bw, .int .i64 bh] 31) = w1 at *
      clear hzw
      refine (pright_c W H A n c _ hn).mono ?_
      rintro e w2 ⟨rfl, hb'⟩
      have HB1 := Lib.hid ((HB1.out).trans (hb'.mono (HB1.out).size))
      have B2 := Lib.hid ((B2.out).below hb' (B2.out).lt)
      have B3 := Lib.hid ((B3.out).below hb' (B3.out).lt)
      clear hb'
      rw [HO.out]
      obtain ⟨zB20, zB21, zB22⟩ := (B2.out).cells3
      obtain ⟨zB30, zB31, zB32, zB33, zB34, zB35⟩ := (B3.out).cells6
      go_wp2_with fail
      clear zB20 zB21 zB22
      clear zB30 zB31 zB32 zB33 zB34 zB35
      go_ret
      exact ⟨ret_bool (by rw [HV.out] <;> first | rfl | (simp; omega)), HB1.out⟩
set_option maxRecDepth 100000 in
set_option maxHeartbeats 6400000 in
theorem r10within_c (W H : Int) (A : Option Addr) (n c : Nat) (b : Bd) (w : World) (hn : n ≤ 9223372036854775807) :
    Calls Try.prog 29 #[plV W H (.slice A n c), bdV b] w fun e w' => e = .returned (.bool (inB W H n b)) ∧ Below w.heap.size w w' := by
  obtain ⟨l, o, x, y, bw, bh⟩ := b
  cases hok : okB W H n with
  | false =>
    have HB1 := Lib.hid (Below.refl w.heap.size w)
    have HO := Lib.hid hok
    clear hok
    go_enter Try.func29, Try.ntmps29
    go_wp2_with fail
    have HB1 := Lib.hid (below_alloc_ (below_alloc_ (HB1.out) (.cells #[.int .i64 W, .int .i64 H, .slice A n c] 39)) (.cells #[.int .i64 l, .int .i64 o, .int .i64 x, .int .i64 y, .int .i64 bw, .int .i64 bh] 31))
    have hzw : ((w.alloc (.cells #[.int .i64 W, .int .i64 H, .slice A n c] 39)).alloc (.cells #[.int .i64 l, .int .i64 o, .int .i64 x, .int .i64 y, .int .i64 bw, .int .i64 bh] 31)).heap.size = w.heap.size + 2 := by simp only [World.size_alloc]
    have B2 := (Blk.new (w) 39 #[.int .i64 W, .int .i64 H, .slice A n c]).alloc (.cells #[.int .i64 l, .int .i64 o, .int .i64 x, .int .i64 y, .int .i64 bw, .int .i64 bh] 31)
    skip
    have B2 := Lib.hid B2
    have B3 := Blk.new (w.alloc (.cells #[.int .i64 W, .int .i64 H, .slice A n c] 39)) 31 #[.int .i64 l, .int .i64 o, .int .i64 x, .int .i64 y, .int .i64 bw, .int .i64 bh]
    rw [show (w.alloc (.cells #[.int .i64 W, .int .i64 H, .slice A n c] 39)).heap.size = w.heap.size + 1 by simp only [World.size_alloc]] at B3
    have B3 := Lib.hid B3
    generalize (w.alloc (.cells #[.int .i64 W, .int .i64 H, .slice A n c] 39)).alloc (.cells #[.int .i64 l, .int .i64 o, .int .i64 x, .int .i64 y, .int .i64 bw, .int .i64 bh] 31) = w1 at *
    clear hzw
    refine (rright_c W H A n c _ hn).mono ?_
    rintro e w2 ⟨rfl, hb'⟩
    have HB1 := Lib.hid ((HB1.out).trans (hb'.mono (HB1.out).size))
    have B2 := Lib.hid ((B2.out).below hb' (B2.out).lt)
    have B3 := Lib.hid ((B3.out).below hb' (B3.out).lt)
    clear hb'
    rw [HO.out]
    obtain ⟨zB20, zB21, zB22⟩ := (B2.out).cells3
    obtain ⟨zB30, zB31, zB32, zB33, zB34, zB35⟩ := (B3.out).cells6
    go_wp2_with fail
    clear zB20 zB21 zB22
    clear zB30 zB31 zB32 zB33 zB34 zB35
    go_ret
    exact ⟨ret_bool (by simp [inB, HO.out]), HB1.out⟩
  | true =>
    obtain ⟨s1, s2, s3, s4, _⟩ := okB_t hok
    by_cases c0 : 1 ≤ bw
    · skip
      by_cases c1 : 1 ≤ bh
      · skip
        by_cases c2 : 0 ≤ x
        · skip
          by_cases c3 : 0 ≤ y
          · skip
            by_cases c4 : x ≤ 1024
            · skip
              by_cases c5 : y ≤ 1024
              · skip
                by_cases c6 : bw ≤ 1024
                · skip
                  by_cases c7 : bh ≤ 1024
                  · skip
                    by_cases c8 : x + bw ≤ W
                    · skip
                      by_cases c9 : y + bh ≤ H
                      · skip
                        have HB1 := Lib.hid (Below.refl w.heap.size w)
                        have HO := Lib.hid hok
                        have HV := Lib.hid (show inB W H n ⟨l, o, x, y, bw, bh⟩ = true by simp [inB, hok] <;> omega)
                        clear hok
                        go_enter Try.func29, Try.ntmps29
                        go_wp2_with fail
                        have HB1 := Lib.hid (below_alloc_ (below_alloc_ (HB1.out) (.cells #[.int .i64 W, .int .i64 H, .slice A n c] 39)) (.cells #[.int .i64 l, .int .i64 o, .int .i64 x, .int .i64 y, .int .i64 bw, .int .i64 bh] 31))
                        have hzw : ((w.alloc (.cells #[.int .i64 W, .int .i64 H, .slice A n c] 39)).alloc (.cells #[.int .i64 l, .int .i64 o, .int .i64 x, .int .i64 y, .int .i64 bw, .int .i64 bh] 31)).heap.size = w.heap.size + 2 := by simp only [World.size_alloc]
                        have B2 := (Blk.new (w) 39 #[.int .i64 W, .int .i64 H, .slice A n c]).alloc (.cells #[.int .i64 l, .int .i64 o, .int .i64 x, .int .i64 y, .int .i64 bw, .int .i64 bh] 31)
                        skip
                        have B2 := Lib.hid B2
                        have B3 := Blk.new (w.alloc (.cells #[.int .i64 W, .int .i64 H, .slice A n c] 39)) 31 #[.int .i64 l, .int .i64 o, .int .i64 x, .int .i64 y, .int .i64 bw, .int .i64 bh]
                        rw [show (w.alloc (.cells #[.int .i64 W, .int .i64 H, .slice A n c] 39)).heap.size = w.heap.size + 1 by simp only [World.size_alloc]] at B3
                        have B3 := Lib.hid B3
                        generalize (w.alloc (.cells #[.int .i64 W, .int .i64 H, .slice A n c] 39)).alloc (.cells #[.int .i64 l, .int .i64 o, .int .i64 x, .int .i64 y, .int .i64 bw, .int .i64 bh] 31) = w1 at *
                        clear hzw
                        refine (rright_c W H A n c _ hn).mono ?_
                        rintro e w2 ⟨rfl, hb'⟩
                        have HB1 := Lib.hid ((HB1.out).trans (hb'.mono (HB1.out).size))
                        have B2 := Lib.hid ((B2.out).below hb' (B2.out).lt)
                        have B3 := Lib.hid ((B3.out).below hb' (B3.out).lt)
                        clear hb'
                        rw [HO.out]
                        obtain ⟨zB20, zB21, zB22⟩ := (B2.out).cells3
                        obtain ⟨zB30, zB31, zB32, zB33, zB34, zB35⟩ := (B3.out).cells6
                        go_wp2_with fail
                        clear zB20 zB21 zB22
                        clear zB30 zB31 zB32 zB33 zB34 zB35
                        go_ret
                        exact ⟨ret_bool (by rw [HV.out] <;> first | rfl | (simp; omega)), HB1.out⟩
                      · skip
                        have HB1 := Lib.hid (Below.refl w.heap.size w)
                        have HO := Lib.hid hok
                        have HV := Lib.hid (show inB W H n ⟨l, o, x, y, bw, bh⟩ = false by simp [inB, hok] <;> omega)
                        clear hok
                        go_enter Try.func29, Try.ntmps29
                        go_wp2_with fail
                        have HB1 := Lib.hid (below_alloc_ (below_alloc_ (HB1.out) (.cells #[.int .i64 W, .int .i64 H, .slice A n c] 39)) (.cells #[.int .i64 l, .int .i64 o, .int .i64 x, .int .i64 y, .int .i64 bw, .int .i64 bh] 31))
                        have hzw : ((w.alloc (.cells #[.int .i64 W, .int .i64 H, .slice A n c] 39)).alloc (.cells #[.int .i64 l, .int .i64 o, .int .i64 x, .int .i64 y, .int .i64 bw, .int .i64 bh] 31)).heap.size = w.heap.size + 2 := by simp only [World.size_alloc]
                        have B2 := (Blk.new (w) 39 #[.int .i64 W, .int .i64 H, .slice A n c]).alloc (.cells #[.int .i64 l, .int .i64 o, .int .i64 x, .int .i64 y, .int .i64 bw, .int .i64 bh] 31)
                        skip
                        have B2 := Lib.hid B2
                        have B3 := Blk.new (w.alloc (.cells #[.int .i64 W, .int .i64 H, .slice A n c] 39)) 31 #[.int .i64 l, .int .i64 o, .int .i64 x, .int .i64 y, .int .i64 bw, .int .i64 bh]
                        rw [show (w.alloc (.cells #[.int .i64 W, .int .i64 H, .slice A n c] 39)).heap.size = w.heap.size + 1 by simp only [World.size_alloc]] at B3
                        have B3 := Lib.hid B3
                        generalize (w.alloc (.cells #[.int .i64 W, .int .i64 H, .slice A n c] 39)).alloc (.cells #[.int .i64 l, .int .i64 o, .int .i64 x, .int .i64 y, .int .i64 bw, .int .i64 bh] 31) = w1 at *
                        clear hzw
                        refine (rright_c W H A n c _ hn).mono ?_
                        rintro e w2 ⟨rfl, hb'⟩
                        have HB1 := Lib.hid ((HB1.out).trans (hb'.mono (HB1.out).size))
                        have B2 := Lib.hid ((B2.out).below hb' (B2.out).lt)
                        have B3 := Lib.hid ((B3.out).below hb' (B3.out).lt)
                        clear hb'
                        rw [HO.out]
                        obtain ⟨zB20, zB21, zB22⟩ := (B2.out).cells3
                        obtain ⟨zB30, zB31, zB32, zB33, zB34, zB35⟩ := (B3.out).cells6
                        go_wp2_with fail
                        clear zB20 zB21 zB22
                        clear zB30 zB31 zB32 zB33 zB34 zB35
                        go_ret
                        exact ⟨ret_bool (by rw [HV.out] <;> first | rfl | (simp; omega)), HB1.out⟩
                    · skip
                      have HB1 := Lib.hid (Below.refl w.heap.size w)
                      have HO := Lib.hid hok
                      have HV := Lib.hid (show inB W H n ⟨l, o, x, y, bw, bh⟩ = false by simp [inB, hok] <;> omega)
                      clear hok
                      go_enter Try.func29, Try.ntmps29
                      go_wp2_with fail
                      have HB1 := Lib.hid (below_alloc_ (below_alloc_ (HB1.out) (.cells #[.int .i64 W, .int .i64 H, .slice A n c] 39)) (.cells #[.int .i64 l, .int .i64 o, .int .i64 x, .int .i64 y, .int .i64 bw, .int .i64 bh] 31))
                      have hzw : ((w.alloc (.cells #[.int .i64 W, .int .i64 H, .slice A n c] 39)).alloc (.cells #[.int .i64 l, .int .i64 o, .int .i64 x, .int .i64 y, .int .i64 bw, .int .i64 bh] 31)).heap.size = w.heap.size + 2 := by simp only [World.size_alloc]
                      have B2 := (Blk.new (w) 39 #[.int .i64 W, .int .i64 H, .slice A n c]).alloc (.cells #[.int .i64 l, .int .i64 o, .int .i64 x, .int .i64 y, .int .i64 bw, .int .i64 bh] 31)
                      skip
                      have B2 := Lib.hid B2
                      have B3 := Blk.new (w.alloc (.cells #[.int .i64 W, .int .i64 H, .slice A n c] 39)) 31 #[.int .i64 l, .int .i64 o, .int .i64 x, .int .i64 y, .int .i64 bw, .int .i64 bh]
                      rw [show (w.alloc (.cells #[.int .i64 W, .int .i64 H, .slice A n c] 39)).heap.size = w.heap.size + 1 by simp only [World.size_alloc]] at B3
                      have B3 := Lib.hid B3
                      generalize (w.alloc (.cells #[.int .i64 W, .int .i64 H, .slice A n c] 39)).alloc (.cells #[.int .i64 l, .int .i64 o, .int .i64 x, .int .i64 y, .int .i64 bw, .int .i64 bh] 31) = w1 at *
                      clear hzw
                      refine (rright_c W H A n c _ hn).mono ?_
                      rintro e w2 ⟨rfl, hb'⟩
                      have HB1 := Lib.hid ((HB1.out).trans (hb'.mono (HB1.out).size))
                      have B2 := Lib.hid ((B2.out).below hb' (B2.out).lt)
                      have B3 := Lib.hid ((B3.out).below hb' (B3.out).lt)
                      clear hb'
                      rw [HO.out]
                      obtain ⟨zB20, zB21, zB22⟩ := (B2.out).cells3
                      obtain ⟨zB30, zB31, zB32, zB33, zB34, zB35⟩ := (B3.out).cells6
                      go_wp2_with fail
                      clear zB20 zB21 zB22
                      clear zB30 zB31 zB32 zB33 zB34 zB35
                      go_ret
                      exact ⟨ret_bool (by rw [HV.out] <;> first | rfl | (simp; omega)), HB1.out⟩
                  · skip
                    have HB1 := Lib.hid (Below.refl w.heap.size w)
                    have HO := Lib.hid hok
                    have HV := Lib.hid (show inB W H n ⟨l, o, x, y, bw, bh⟩ = false by simp [inB, hok] <;> omega)
                    clear hok
                    go_enter Try.func29, Try.ntmps29
                    go_wp2_with fail
                    have HB1 := Lib.hid (below_alloc_ (below_alloc_ (HB1.out) (.cells #[.int .i64 W, .int .i64 H, .slice A n c] 39)) (.cells #[.int .i64 l, .int .i64 o, .int .i64 x, .int .i64 y, .int .i64 bw, .int .i64 bh] 31))
                    have hzw : ((w.alloc (.cells #[.int .i64 W, .int .i64 H, .slice A n c] 39)).alloc (.cells #[.int .i64 l, .int .i64 o, .int .i64 x, .int .i64 y, .int .i64 bw, .int .i64 bh] 31)).heap.size = w.heap.size + 2 := by simp only [World.size_alloc]
                    have B2 := (Blk.new (w) 39 #[.int .i64 W, .int .i64 H, .slice A n c]).alloc (.cells #[.int .i64 l, .int .i64 o, .int .i64 x, .int .i64 y, .int .i64 bw, .int .i64 bh] 31)
                    skip
                    have B2 := Lib.hid B2
                    have B3 := Blk.new (w.alloc (.cells #[.int .i64 W, .int .i64 H, .slice A n c] 39)) 31 #[.int .i64 l, .int .i64 o, .int .i64 x, .int .i64 y, .int .i64 bw, .int .i64 bh]
                    rw [show (w.alloc (.cells #[.int .i64 W, .int .i64 H, .slice A n c] 39)).heap.size = w.heap.size + 1 by simp only [World.size_alloc]] at B3
                    have B3 := Lib.hid B3
                    generalize (w.alloc (.cells #[.int .i64 W, .int .i64 H, .slice A n c] 39)).alloc (.cells #[.int .i64 l, .int .i64 o, .int .i64 x, .int .i64 y, .int .i64 bw, .int .i64 bh] 31) = w1 at *
                    clear hzw
                    refine (rright_c W H A n c _ hn).mono ?_
                    rintro e w2 ⟨rfl, hb'⟩
                    have HB1 := Lib.hid ((HB1.out).trans (hb'.mono (HB1.out).size))
                    have B2 := Lib.hid ((B2.out).below hb' (B2.out).lt)
                    have B3 := Lib.hid ((B3.out).below hb' (B3.out).lt)
                    clear hb'
                    rw [HO.out]
                    obtain ⟨zB20, zB21, zB22⟩ := (B2.out).cells3
                    obtain ⟨zB30, zB31, zB32, zB33, zB34, zB35⟩ := (B3.out).cells6
                    go_wp2_with fail
                    clear zB20 zB21 zB22
                    clear zB30 zB31 zB32 zB33 zB34 zB35
                    go_ret
                    exact ⟨ret_bool (by rw [HV.out] <;> first | rfl | (simp; omega)), HB1.out⟩
                · skip
                  have HB1 := Lib.hid (Below.refl w.heap.size w)
                  have HO := Lib.hid hok
                  have HV := Lib.hid (show inB W H n ⟨l, o, x, y, bw, bh⟩ = false by simp [inB, hok] <;> omega)
                  clear hok
                  go_enter Try.func29, Try.ntmps29
                  go_wp2_with fail
                  have HB1 := Lib.hid (below_alloc_ (below_alloc_ (HB1.out) (.cells #[.int .i64 W, .int .i64 H, .slice A n c] 39)) (.cells #[.int .i64 l, .int .i64 o, .int .i64 x, .int .i64 y, .int .i64 bw, .int .i64 bh] 31))
                  have hzw : ((w.alloc (.cells #[.int .i64 W, .int .i64 H, .slice A n c] 39)).alloc (.cells #[.int .i64 l, .int .i64 o, .int .i64 x, .int .i64 y, .int .i64 bw, .int .i64 bh] 31)).heap.size = w.heap.size + 2 := by simp only [World.size_alloc]
                  have B2 := (Blk.new (w) 39 #[.int .i64 W, .int .i64 H, .slice A n c]).alloc (.cells #[.int .i64 l, .int .i64 o, .int .i64 x, .int .i64 y, .int .i64 bw, .int .i64 bh] 31)
                  skip
                  have B2 := Lib.hid B2
                  have B3 := Blk.new (w.alloc (.cells #[.int .i64 W, .int .i64 H, .slice A n c] 39)) 31 #[.int .i64 l, .int .i64 o, .int .i64 x, .int .i64 y, .int .i64 bw, .int .i64 bh]
                  rw [show (w.alloc (.cells #[.int .i64 W, .int .i64 H, .slice A n c] 39)).heap.size = w.heap.size + 1 by simp only [World.size_alloc]] at B3
                  have B3 := Lib.hid B3
                  generalize (w.alloc (.cells #[.int .i64 W, .int .i64 H, .slice A n c] 39)).alloc (.cells #[.int .i64 l, .int .i64 o, .int .i64 x, .int .i64 y, .int .i64 bw, .int .i64 bh] 31) = w1 at *
                  clear hzw
                  refine (rright_c W H A n c _ hn).mono ?_
                  rintro e w2 ⟨rfl, hb'⟩
                  have HB1 := Lib.hid ((HB1.out).trans (hb'.mono (HB1.out).size))
                  have B2 := Lib.hid ((B2.out).below hb' (B2.out).lt)
                  have B3 := Lib.hid ((B3.out).below hb' (B3.out).lt)
                  clear hb'
                  rw [HO.out]
                  obtain ⟨zB20, zB21, zB22⟩ := (B2.out).cells3
                  obtain ⟨zB30, zB31, zB32, zB33, zB34, zB35⟩ := (B3.out).cells6
                  go_wp2_with fail
                  clear zB20 zB21 zB22
                  clear zB30 zB31 zB32 zB33 zB34 zB35
                  go_ret
                  exact ⟨ret_bool (by rw [HV.out] <;> first | rfl | (simp; omega)), HB1.out⟩
              · skip
                have HB1 := Lib.hid (Below.refl w.heap.size w)
                have HO := Lib.hid hok
                have HV := Lib.hid (show inB W H n ⟨l, o, x, y, bw, bh⟩ = false by simp [inB, hok] <;> omega)
                clear hok
                go_enter Try.func29, Try.ntmps29
                go_wp2_with fail
                have HB1 := Lib.hid (below_alloc_ (below_alloc_ (HB1.out) (.cells #[.int .i64 W, .int .i64 H, .slice A n c] 39)) (.cells #[.int .i64 l, .int .i64 o, .int .i64 x, .int .i64 y, .int .i64 bw, .int .i64 bh] 31))
                have hzw : ((w.alloc (.cells #[.int .i64 W, .int .i64 H, .slice A n c] 39)).alloc (.cells #[.int .i64 l, .int .i64 o, .int .i64 x, .int .i64 y, .int .i64 bw, .int .i64 bh] 31)).heap.size = w.heap.size + 2 := by simp only [World.size_alloc]
                have B2 := (Blk.new (w) 39 #[.int .i64 W, .int .i64 H, .slice A n c]).alloc (.cells #[.int .i64 l, .int .i64 o, .int .i64 x, .int .i64 y, .int .i64 bw, .int .i64 bh] 31)
                skip
                have B2 := Lib.hid B2
                have B3 := Blk.new (w.alloc (.cells #[.int .i64 W, .int .i64 H, .slice A n c] 39)) 31 #[.int .i64 l, .int .i64 o, .int .i64 x, .int .i64 y, .int .i64 bw, .int .i64 bh]
                rw [show (w.alloc (.cells #[.int .i64 W, .int .i64 H, .slice A n c] 39)).heap.size = w.heap.size + 1 by simp only [World.size_alloc]] at B3
                have B3 := Lib.hid B3
                generalize (w.alloc (.cells #[.int .i64 W, .int .i64 H, .slice A n c] 39)).alloc (.cells #[.int .i64 l, .int .i64 o, .int .i64 x, .int .i64 y, .int .i64 bw, .int .i64 bh] 31) = w1 at *
                clear hzw
                refine (rright_c W H A n c _ hn).mono ?_
                rintro e w2 ⟨rfl, hb'⟩
                have HB1 := Lib.hid ((HB1.out).trans (hb'.mono (HB1.out).size))
                have B2 := Lib.hid ((B2.out).below hb' (B2.out).lt)
                have B3 := Lib.hid ((B3.out).below hb' (B3.out).lt)
                clear hb'
                rw [HO.out]
                obtain ⟨zB20, zB21, zB22⟩ := (B2.out).cells3
                obtain ⟨zB30, zB31, zB32, zB33, zB34, zB35⟩ := (B3.out).cells6
                go_wp2_with fail
                clear zB20 zB21 zB22
                clear zB30 zB31 zB32 zB33 zB34 zB35
                go_ret
                exact ⟨ret_bool (by rw [HV.out] <;> first | rfl | (simp; omega)), HB1.out⟩
            · skip
              have HB1 := Lib.hid (Below.refl w.heap.size w)
              have HO := Lib.hid hok
              have HV := Lib.hid (show inB W H n ⟨l, o, x, y, bw, bh⟩ = false by simp [inB, hok] <;> omega)
              clear hok
              go_enter Try.func29, Try.ntmps29
              go_wp2_with fail
              have HB1 := Lib.hid (below_alloc_ (below_alloc_ (HB1.out) (.cells #[.int .i64 W, .int .i64 H, .slice A n c] 39)) (.cells #[.int .i64 l, .int .i64 o, .int .i64 x, .int .i64 y, .int .i64 bw, .int .i64 bh] 31))
              have hzw : ((w.alloc (.cells #[.int .i64 W, .int .i64 H, .slice A n c] 39)).alloc (.cells #[.int .i64 l, .int .i64 o, .int .i64 x, .int .i64 y, .int .i64 bw, .int .i64 bh] 31)).heap.size = w.heap.size + 2 := by simp only [World.size_alloc]
              have B2 := (Blk.new (w) 39 #[.int .i64 W, .int .i64 H, .slice A n c]).alloc (.cells #[.int .i64 l, .int .i64 o, .int .i64 x, .int .i64 y, .int .i64 bw, .int .i64 bh] 31)
              skip
              have B2 := Lib.hid B2
              have B3 := Blk.new (w.alloc (.cells #[.int .i64 W, .int .i64 H, .slice A n c] 39)) 31 #[.int .i64 l, .int .i64 o, .int .i64 x, .int .i64 y, .int .i64 bw, .int .i64 bh]
              rw [show (w.alloc (.cells #[.int .i64 W, .int .i64 H, .slice A n c] 39)).heap.size = w.heap.size + 1 by simp only [World.size_alloc]] at B3
              have B3 := Lib.hid B3
              generalize (w.alloc (.cells #[.int .i64 W, .int .i64 H, .slice A n c] 39)).alloc (.cells #[.int .i64 l, .int .i64 o, .int .i64 x, .int .i64 y, .int .i64 bw, .int .i64 bh] 31) = w1 at *
              clear hzw
              refine (rright_c W H A n c _ hn).mono ?_
              rintro e w2 ⟨rfl, hb'⟩
              have HB1 := Lib.hid ((HB1.out).trans (hb'.mono (HB1.out).size))
              have B2 := Lib.hid ((B2.out).below hb' (B2.out).lt)
              have B3 := Lib.hid ((B3.out).below hb' (B3.out).lt)
              clear hb'
              rw [HO.out]
              obtain ⟨zB20, zB21, zB22⟩ := (B2.out).cells3
              obtain ⟨zB30, zB31, zB32, zB33, zB34, zB35⟩ := (B3.out).cells6
              go_wp2_with fail
              clear zB20 zB21 zB22
              clear zB30 zB31 zB32 zB33 zB34 zB35
              go_ret
              exact ⟨ret_bool (by rw [HV.out] <;> first | rfl | (simp; omega)), HB1.out⟩
          · skip
            have HB1 := Lib.hid (Below.refl w.heap.size w)
            have HO := Lib.hid hok
            have HV := Lib.hid (show inB W H n ⟨l, o, x, y, bw, bh⟩ = false by simp [inB, hok] <;> omega)
            clear hok
            go_enter Try.func29, Try.ntmps29
            go_wp2_with fail
            have HB1 := Lib.hid (below_alloc_ (below_alloc_ (HB1.out) (.cells #[.int .i64 W, .int .i64 H, .slice A n c] 39)) (.cells #[.int .i64 l, .int .i64 o, .int .i64 x, .int .i64 y, .int .i64 bw, .int .i64 bh] 31))
            have hzw : ((w.alloc (.cells #[.int .i64 W, .int .i64 H, .slice A n c] 39)).alloc (.cells #[.int .i64 l, .int .i64 o, .int .i64 x, .int .i64 y, .int .i64 bw, .int .i64 bh] 31)).heap.size = w.heap.size + 2 := by simp only [World.size_alloc]
            have B2 := (Blk.new (w) 39 #[.int .i64 W, .int .i64 H, .slice A n c]).alloc (.cells #[.int .i64 l, .int .i64 o, .int .i64 x, .int .i64 y, .int .i64 bw, .int .i64 bh] 31)
            skip
            have B2 := Lib.hid B2
            have B3 := Blk.new (w.alloc (.cells #[.int .i64 W, .int .i64 H, .slice A n c] 39)) 31 #[.int .i64 l, .int .i64 o, .int .i64 x, .int .i64 y, .int .i64 bw, .int .i64 bh]
            rw [show (w.alloc (.cells #[.int .i64 W, .int .i64 H, .slice A n c] 39)).heap.size = w.heap.size + 1 by simp only [World.size_alloc]] at B3
            have B3 := Lib.hid B3
            generalize (w.alloc (.cells #[.int .i64 W, .int .i64 H, .slice A n c] 39)).alloc (.cells #[.int .i64 l, .int .i64 o, .int .i64 x, .int .i64 y, .int .i64 bw, .int .i64 bh] 31) = w1 at *
            clear hzw
            refine (rright_c W H A n c _ hn).mono ?_
            rintro e w2 ⟨rfl, hb'⟩
            have HB1 := Lib.hid ((HB1.out).trans (hb'.mono (HB1.out).size))
            have B2 := Lib.hid ((B2.out).below hb' (B2.out).lt)
            have B3 := Lib.hid ((B3.out).below hb' (B3.out).lt)
            clear hb'
            rw [HO.out]
            obtain ⟨zB20, zB21, zB22⟩ := (B2.out).cells3
            obtain ⟨zB30, zB31, zB32, zB33, zB34, zB35⟩ := (B3.out).cells6
            go_wp2_with fail
            clear zB20 zB21 zB22
            clear zB30 zB31 zB32 zB33 zB34 zB35
            go_ret
            exact ⟨ret_bool (by rw [HV.out] <;> first | rfl | (simp; omega)), HB1.out⟩
        · skip
          have HB1 := Lib.hid (Below.refl w.heap.size w)
          have HO := Lib.hid hok
          have HV := Lib.hid (show inB W H n ⟨l, o, x, y, bw, bh⟩ = false by simp [inB, hok] <;> omega)
          clear hok
          go_enter Try.func29, Try.ntmps29
          go_wp2_with fail
          have HB1 := Lib.hid (below_alloc_ (below_alloc_ (HB1.out) (.cells #[.int .i64 W, .int .i64 H, .slice A n c] 39)) (.cells #[.int .i64 l, .int .i64 o, .int .i64 x, .int .i64 y, .int .i64 bw, .int .i64 bh] 31))
          have hzw : ((w.alloc (.cells #[.int .i64 W, .int .i64 H, .slice A n c] 39)).alloc (.cells #[.int .i64 l, .int .i64 o, .int .i64 x, .int .i64 y, .int .i64 bw, .int .i64 bh] 31)).heap.size = w.heap.size + 2 := by simp only [World.size_alloc]
          have B2 := (Blk.new (w) 39 #[.int .i64 W, .int .i64 H, .slice A n c]).alloc (.cells #[.int .i64 l, .int .i64 o, .int .i64 x, .int .i64 y, .int .i64 bw, .int .i64 bh] 31)
          skip
          have B2 := Lib.hid B2
          have B3 := Blk.new (w.alloc (.cells #[.int .i64 W, .int .i64 H, .slice A n c] 39)) 31 #[.int .i64 l, .int .i64 o, .int .i64 x, .int .i64 y, .int .i64 bw, .int .i64 bh]
          rw [show (w.alloc (.cells #[.int .i64 W, .int .i64 H, .slice A n c] 39)).heap.size = w.heap.size + 1 by simp only [World.size_alloc]] at B3
          have B3 := Lib.hid B3
          generalize (w.alloc (.cells #[.int .i64 W, .int .i64 H, .slice A n c] 39)).alloc (.cells #[.int .i64 l, .int .i64 o, .int .i64 x, .int .i64 y, .int .i64 bw, .int .i64 bh] 31) = w1 at *
          clear hzw
          refine (rright_c W H A n c _ hn).mono ?_
          rintro e w2 ⟨rfl, hb'⟩
          have HB1 := Lib.hid ((HB1.out).trans (hb'.mono (HB1.out).size))
          have B2 := Lib.hid ((B2.out).below hb' (B2.out).lt)
          have B3 := Lib.hid ((B3.out).below hb' (B3.out).lt)
          clear hb'
          rw [HO.out]
          obtain ⟨zB20, zB21, zB22⟩ := (B2.out).cells3
          obtain ⟨zB30, zB31, zB32, zB33, zB34, zB35⟩ := (B3.out).cells6
          go_wp2_with fail
          clear zB20 zB21 zB22
          clear zB30 zB31 zB32 zB33 zB34 zB35
          go_ret
          exact ⟨ret_bool (by rw [HV.out] <;> first | rfl | (simp; omega)), HB1.out⟩
      · skip
        have HB1 := Lib.hid (Below.refl w.heap.size w)
        have HO := Lib.hid hok
        have HV := Lib.hid (show inB W H n ⟨l, o, x, y, bw, bh⟩ = false by simp [inB, hok] <;> omega)
        clear hok
        go_enter Try.func29, Try.ntmps29
        go_wp2_with fail
        have HB1 := Lib.hid (below_alloc_ (below_alloc_ (HB1.out) (.cells #[.int .i64 W, .int .i64 H, .slice A n c] 39)) (.cells #[.int .i64 l, .int .i64 o, .int .i64 x, .int .i64 y, .int .i64 bw, .int .i64 bh] 31))
        have hzw : ((w.alloc (.cells #[.int .i64 W, .int .i64 H, .slice A n c] 39)).alloc (.cells #[.int .i64 l, .int .i64 o, .int .i64 x, .int .i64 y, .int .i64 bw, .int .i64 bh] 31)).heap.size = w.heap.size + 2 := by simp only [World.size_alloc]
        have B2 := (Blk.new (w) 39 #[.int .i64 W, .int .i64 H, .slice A n c]).alloc (.cells #[.int .i64 l, .int .i64 o, .int .i64 x, .int .i64 y, .int .i64 bw, .int .i64 bh] 31)
        skip
        have B2 := Lib.hid B2
        have B3 := Blk.new (w.alloc (.cells #[.int .i64 W, .int .i64 H, .slice A n c] 39)) 31 #[.int .i64 l, .int .i64 o, .int .i64 x, .int .i64 y, .int .i64 bw, .int .i64 bh]
        rw [show (w.alloc (.cells #[.int .i64 W, .int .i64 H, .slice A n c] 39)).heap.size = w.heap.size + 1 by simp only [World.size_alloc]] at B3
        have B3 := Lib.hid B3
        generalize (w.alloc (.cells #[.int .i64 W, .int .i64 H, .slice A n c] 39)).alloc (.cells #[.int .i64 l, .int .i64 o, .int .i64 x, .int .i64 y, .int .i64 bw, .int .i64 bh] 31) = w1 at *
        clear hzw
        refine (rright_c W H A n c _ hn).mono ?_
        rintro e w2 ⟨rfl, hb'⟩
        have HB1 := Lib.hid ((HB1.out).trans (hb'.mono (HB1.out).size))
        have B2 := Lib.hid ((B2.out).below hb' (B2.out).lt)
        have B3 := Lib.hid ((B3.out).below hb' (B3.out).lt)
        clear hb'
        rw [HO.out]
        obtain ⟨zB20, zB21, zB22⟩ := (B2.out).cells3
        obtain ⟨zB30, zB31, zB32, zB33, zB34, zB35⟩ := (B3.out).cells6
        go_wp2_with fail
        clear zB20 zB21 zB22
        clear zB30 zB31 zB32 zB33 zB34 zB35
        go_ret
        exact ⟨ret_bool (by rw [HV.out] <;> first | rfl | (simp; omega)), HB1.out⟩
    · skip
      have HB1 := Lib.hid (Below.refl w.heap.size w)
      have HO := Lib.hid hok
      have HV := Lib.hid (show inB W H n ⟨l, o, x, y, bw, bh⟩ = false by simp [inB, hok] <;> omega)
      clear hok
      go_enter Try.func29, Try.ntmps29
      go_wp2_with fail
      have HB1 := Lib.hid (below_alloc_ (below_alloc_ (HB1.out) (.cells #[.int .i64 W, .int .i64 H, .slice A n c] 39)) (.cells #[.int .i64 l, .int .i64 o, .int .i64 x, .int .i64 y, .int .i64 bw, .int .i64 bh] 31))
      have hzw : ((w.alloc (.cells #[.int .i64 W, .int .i64 H, .slice A n c] 39)).alloc (.cells #[.int .i64 l, .int .i64 o, .int .i64 x, .int .i64 y, .int .i64 bw, .int .i64 bh] 31)).heap.size = w.heap.size + 2 := by simp only [World.size_alloc]
      have B2 := (Blk.new (w) 39 #[.int .i64 W, .int .i64 H, .slice A n c]).alloc (.cells #[.int .i64 l, .int .i64 o, .int .i64 x, .int .i64 y, .int .i64 bw, .int .i64 bh] 31)
      skip
      have B2 := Lib.hid B2
      have B3 := Blk.new (w.alloc (.cells #[.int .i64 W, .int .i64 H, .slice A n c] 39)) 31 #[.int .i64 l, .int .i64 o, .int .i64 x, .int .i64 y, .int .i64 bw, .int .i64 bh]
      rw [show (w.alloc (.cells #[.int .i64 W, .int .i64 H, .slice A n c] 39)).heap.size = w.heap.size + 1 by simp only [World.size_alloc]] at B3
      have B3 := Lib.hid B3
      generalize (w.alloc (.cells #[.int .i64 W, .int .i64 H, .slice A n c] 39)).alloc (.cells #[.int .i64 l, .int .i64 o, .int .i64 x, .int .i64 y, .int .i64 bw, .int .i64 bh] 31) = w1 at *
      clear hzw
      refine (rright_c W H A n c _ hn).mono ?_
      rintro e w2 ⟨rfl, hb'⟩
      have HB1 := Lib.hid ((HB1.out).trans (hb'.mono (HB1.out).size))
      have B2 := Lib.hid ((B2.out).below hb' (B2.out).lt)
      have B3 := Lib.hid ((B3.out).below hb' (B3.out).lt)
      clear hb'
      rw [HO.out]
      obtain ⟨zB20, zB21, zB22⟩ := (B2.out).cells3
      obtain ⟨zB30, zB31, zB32, zB33, zB34, zB35⟩ := (B3.out).cells6
      go_wp2_with fail
      clear zB20 zB21 zB22
      clear zB30 zB31 zB32 zB33 zB34 zB35
      go_ret
      exact ⟨ret_bool (by rw [HV.out] <;> first | rfl | (simp; omega)), HB1.out⟩
set_option maxRecDepth 100000 in
set_option maxHeartbeats 6400000 in
theorem brow_c (a : Nat) (H : Int) (ad : Addr) (n c : Nat) (l o : Int) (x y bw bh k : Nat) (w : World) (a1 : a ≤ 1024) (hx : x ≤ 1024) (hy : y + k ≤ 1024) (hw : bw ≤ 1024) (b1 : 1 ≤ bw) (hin : (y + k) * a + x + bw ≤ n) (hc : n ≤ c) (hc2 : c ≤ 9223372036854775807) :
    Calls Try.prog 28 #[plV a H (.slice (some ad) n c), .agg #[.int .i64 l, .int .i64 o, .int .i64 x, .int .i64 y, .int .i64 bw, .int .i64 bh], .int .i64 k] w fun e w' => e = .returned (.slice (some (ad.add ((y + k) * a + x))) bw (c - ((y + k) * a + x))) ∧ Below w.heap.size w w' := by
  have ha : ((y + k : Nat) : Int) * (a : Int) = (((y + k) * a : Nat) : Int) := (Int.natCast_mul _ _).symm
  have hm : (y + k) * a ≤ 1048576 := by have h1 : (y + k) * a ≤ 1024 * 1024 := Nat.mul_le_mul (by omega) (by omega); omega
  have E0 : (y : Int) + (k : Int) = ((y + k : Nat) : Int) := by omega
  generalize y + k = yy at *
  generalize hlo : yy * a = lo at *
  have E2 : (lo : Int) + (x : Int) = ((lo + x : Nat) : Int) := by omega
  generalize hat : lo + x = at_ at *
  obtain ⟨en, hen⟩ : ∃ en, at_ + bw = en := ⟨_, rfl⟩
  have E3 : (at_ : Int) + (bw : Int) = (en : Int) := by omega
  have E4 : en - at_ = bw := by omega
  have E5 : (en : Int) - (at_ : Int) = bw := by omega
  have L1 : (0 : Int) ≤ (at_ : Int) := by omega
  have L4 : at_ ≤ c := by omega
  have L5 : en ≤ c := by omega
  have L6 : ¬ c = at_ := by omega
  have L7 : at_ ≤ en := by omega
  have L8 : (at_ : Int) ≤ 2000000 := by omega
  have L9 : (en : Int) ≤ 2000000 := by omega
  clear hen
  clear hlo hat
  have HB1 := Lib.hid (Below.refl w.heap.size w)
  go_enter Try.func28, Try.ntmps28
  go_wp2_with fail
  go_ret
  exact ⟨rfl, below_alloc_ (below_alloc_ HB1.out _) _⟩

end Go.Proofs.Ytjlajggilcihoaa
