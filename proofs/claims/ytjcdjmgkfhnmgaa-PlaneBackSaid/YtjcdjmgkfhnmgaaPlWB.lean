/- What the law PlaneBack of layer 7 answers: true. -/
import Derived.Test.YtjcdjmgkfhnmgaaPlF
import Derived.Test.YtjcdjmgkfhnmgaaPl7
import Derived.Test.YtjcdjmgkfhnmgaaOpenPlane
import Derived.Deep.DeepCutAuto
import Derived.Deep.CutBlock
import Derived.Test.YtjcdjmgkfhnmgaaPl6
import Derived.Test.YtjcdjmgkfhnmgaaRef7b
import Derived.Test.YtjcdjmgkfhnmgaaWalk
namespace Go.Proofs.Ytjcdjmgkfhnmgaa
open Go.RowKit
set_option linter.unusedVariables false
set_option linter.unusedSimpArgs false

theorem pbig_c (W H : Int) (A : Option Addr) (n c : Nat) (w : World) (hn : n ≤ 9223372036854775807) :
    Calls Try.prog 7 #[plV W H (.slice A n c)] w fun e w' => e = .returned (.bool (decide (2000 < n))) ∧ Below w.heap.size w w' := by
  by_cases h : 2000 < n
  all_goals
    go_enter Try.func7, Try.ntmps7
    go_wp2_with fail
    go_ret
    exact ⟨ret_bool (by simp; omega), (Below.refl _ _).alloc (Nat.le_refl _) _⟩
set_option maxRecDepth 100000 in
set_option maxHeartbeats 16000000 in
theorem pback_1 (Wp Hp : Int) (Vp : List Int) (Ap : Option Addr) (cp : Nat) (Wq Hq : Int) (Vq : List Int) (Aq : Option Addr) (cq : Nat) (l m : Int) (w : World) (hp : ReadsI w Ap Vp) (hq : ReadsI w Aq Vq) (hnp : Vp.length ≤ 9223372036854775807) (hnq : Vq.length ≤ 9223372036854775807) (h1 : 2000 < Vp.length) :
    Calls Try.prog 3 #[plV Wp Hp (.slice Ap Vp.length cp), plV Wq Hq (.slice Aq Vq.length cq), .agg #[.int .u8 l, .int .u8 m]] w fun e w' => e = .returned (.bool true) ∧ Below w.heap.size w w' := by
  have RP := Lib.hid hp
  have RQ := Lib.hid hq
  have HB := Lib.hid (Below.refl w.heap.size w)
  have G1 := Lib.hid (decide_eq_true h1)
  clear h1
  clear hp hq
  go_enter Try.func3, Try.ntmps3
  go_wp2_with fail
  have RP := Lib.hid ((((RP.out).alloc (.cells #[.int .i64 Wp, .int .i64 Hp, .slice Ap Vp.length cp] 24)).alloc (.cells #[.int .i64 Wq, .int .i64 Hq, .slice Aq Vq.length cq] 24)).alloc (.cells #[.int .u8 l, .int .u8 m] 25))
  have RQ := Lib.hid ((((RQ.out).alloc (.cells #[.int .i64 Wp, .int .i64 Hp, .slice Ap Vp.length cp] 24)).alloc (.cells #[.int .i64 Wq, .int .i64 Hq, .slice Aq Vq.length cq] 24)).alloc (.cells #[.int .u8 l, .int .u8 m] 25))
  have HB := Lib.hid (below_alloc_ (below_alloc_ (below_alloc_ (HB.out) (.cells #[.int .i64 Wp, .int .i64 Hp, .slice Ap Vp.length cp] 24)) (.cells #[.int .i64 Wq, .int .i64 Hq, .slice Aq Vq.length cq] 24)) (.cells #[.int .u8 l, .int .u8 m] 25))
  have hzw : (((w.alloc (.cells #[.int .i64 Wp, .int .i64 Hp, .slice Ap Vp.length cp] 24)).alloc (.cells #[.int .i64 Wq, .int .i64 Hq, .slice Aq Vq.length cq] 24)).alloc (.cells #[.int .u8 l, .int .u8 m] 25)).heap.size = w.heap.size + 3 := by simp only [World.size_alloc]
  have B3 := ((Blk.new (w) 24 #[.int .i64 Wp, .int .i64 Hp, .slice Ap Vp.length cp]).alloc (.cells #[.int .i64 Wq, .int .i64 Hq, .slice Aq Vq.length cq] 24)).alloc (.cells #[.int .u8 l, .int .u8 m] 25)
  skip
  have B3 := Lib.hid B3
  have B4 := (Blk.new (w.alloc (.cells #[.int .i64 Wp, .int .i64 Hp, .slice Ap Vp.length cp] 24)) 24 #[.int .i64 Wq, .int .i64 Hq, .slice Aq Vq.length cq]).alloc (.cells #[.int .u8 l, .int .u8 m] 25)
  rw [show (w.alloc (.cells #[.int .i64 Wp, .int .i64 Hp, .slice Ap Vp.length cp] 24)).heap.size = w.heap.size + 1 by simp only [World.size_alloc]] at B4
  have B4 := Lib.hid B4
  have B5 := Blk.new ((w.alloc (.cells #[.int .i64 Wp, .int .i64 Hp, .slice Ap Vp.length cp] 24)).alloc (.cells #[.int .i64 Wq, .int .i64 Hq, .slice Aq Vq.length cq] 24)) 25 #[.int .u8 l, .int .u8 m]
  rw [show ((w.alloc (.cells #[.int .i64 Wp, .int .i64 Hp, .slice Ap Vp.length cp] 24)).alloc (.cells #[.int .i64 Wq, .int .i64 Hq, .slice Aq Vq.length cq] 24)).heap.size = w.heap.size + 1 + 1 by simp only [World.size_alloc]] at B5
  have B5 := Lib.hid B5
  generalize ((w.alloc (.cells #[.int .i64 Wp, .int .i64 Hp, .slice Ap Vp.length cp] 24)).alloc (.cells #[.int .i64 Wq, .int .i64 Hq, .slice Aq Vq.length cq] 24)).alloc (.cells #[.int .u8 l, .int .u8 m] 25) = w1 at *
  clear hzw
  have HB1 := Lib.hid (Below.refl w1.heap.size w1)
  refine (first_c _).mono ?_
  rintro e w2 ⟨rfl, hb'⟩
  have HB1 := Lib.hid ((HB1.out).trans (hb'.mono (HB1.out).size))
  clear hb'
  obtain ⟨zB30, zB31, zB32⟩ := (B3.out.below HB1.out B3.out.lt).cells3
  obtain ⟨zB40, zB41, zB42⟩ := (B4.out.below HB1.out B4.out.lt).cells3
  obtain ⟨zB50, zB51⟩ := (B5.out.below HB1.out B5.out.lt).cells2
  go_wp2_with fail
  refine (pbig_c Wp Hp Ap Vp.length cp _ hnp).mono ?_
  rintro e w3 ⟨rfl, hb'⟩
  have HB1 := Lib.hid ((HB1.out).trans (hb'.mono (HB1.out).size))
  clear hb'
  clear zB30 zB31 zB32
  clear zB40 zB41 zB42
  clear zB50 zB51
  rw [G1.out]
  go_wp2_with fail
  go_ret
  exact ⟨rfl, HB.out.trans (HB1.out.mono HB.out.size)⟩

set_option maxRecDepth 100000 in
set_option maxHeartbeats 16000000 in
theorem pback_2 (Wp Hp : Int) (Vp : List Int) (Ap : Option Addr) (cp : Nat) (Wq Hq : Int) (Vq : List Int) (Aq : Option Addr) (cq : Nat) (l m : Int) (w : World) (hp : ReadsI w Ap Vp) (hq : ReadsI w Aq Vq) (hnp : Vp.length ≤ 9223372036854775807) (hnq : Vq.length ≤ 9223372036854775807) (h1 : ¬ 2000 < Vp.length) (h2 : 2000 < Vq.length) :
    Calls Try.prog 3 #[plV Wp Hp (.slice Ap Vp.length cp), plV Wq Hq (.slice Aq Vq.length cq), .agg #[.int .u8 l, .int .u8 m]] w fun e w' => e = .returned (.bool true) ∧ Below w.heap.size w w' := by
  have RP := Lib.hid hp
  have RQ := Lib.hid hq
  have HB := Lib.hid (Below.refl w.heap.size w)
  have G1 := Lib.hid (decide_eq_false h1)
  have G2 := Lib.hid (decide_eq_true h2)
  clear h1 h2
  clear hp hq
  go_enter Try.func3, Try.ntmps3
  go_wp2_with fail
  have RP := Lib.hid ((((RP.out).alloc (.cells #[.int .i64 Wp, .int .i64 Hp, .slice Ap Vp.length cp] 24)).alloc (.cells #[.int .i64 Wq, .int .i64 Hq, .slice Aq Vq.length cq] 24)).alloc (.cells #[.int .u8 l, .int .u8 m] 25))
  have RQ := Lib.hid ((((RQ.out).alloc (.cells #[.int .i64 Wp, .int .i64 Hp, .slice Ap Vp.length cp] 24)).alloc (.cells #[.int .i64 Wq, .int .i64 Hq, .slice Aq Vq.length cq] 24)).alloc (.cells #[.int .u8 l, .int .u8 m] 25))
  have HB := Lib.hid (below_alloc_ (below_alloc_ (below_alloc_ (HB.out) (.cells #[.int .i64 Wp, .int .i64 Hp, .slice Ap Vp.length cp] 24)) (.cells #[.int .i64 Wq, .int .i64 Hq, .slice Aq Vq.length cq] 24)) (.cells #[.int .u8 l, .int .u8 m] 25))
  have hzw : (((w.alloc (.cells #[.int .i64 Wp, .int .i64 Hp, .slice Ap Vp.length cp] 24)).alloc (.cells #[.int .i64 Wq, .int .i64 Hq, .slice Aq Vq.length cq] 24)).alloc (.cells #[.int .u8 l, .int .u8 m] 25)).heap.size = w.heap.size + 3 := by simp only [World.size_alloc]
  have B3 := ((Blk.new (w) 24 #[.int .i64 Wp, .int .i64 Hp, .slice Ap Vp.length cp]).alloc (.cells #[.int .i64 Wq, .int .i64 Hq, .slice Aq Vq.length cq] 24)).alloc (.cells #[.int .u8 l, .int .u8 m] 25)
  skip
  have B3 := Lib.hid B3
  have B4 := (Blk.new (w.alloc (.cells #[.int .i64 Wp, .int .i64 Hp, .slice Ap Vp.length cp] 24)) 24 #[.int .i64 Wq, .int .i64 Hq, .slice Aq Vq.length cq]).alloc (.cells #[.int .u8 l, .int .u8 m] 25)
  rw [show (w.alloc (.cells #[.int .i64 Wp, .int .i64 Hp, .slice Ap Vp.length cp] 24)).heap.size = w.heap.size + 1 by simp only [World.size_alloc]] at B4
  have B4 := Lib.hid B4
  have B5 := Blk.new ((w.alloc (.cells #[.int .i64 Wp, .int .i64 Hp, .slice Ap Vp.length cp] 24)).alloc (.cells #[.int .i64 Wq, .int .i64 Hq, .slice Aq Vq.length cq] 24)) 25 #[.int .u8 l, .int .u8 m]
  rw [show ((w.alloc (.cells #[.int .i64 Wp, .int .i64 Hp, .slice Ap Vp.length cp] 24)).alloc (.cells #[.int .i64 Wq, .int .i64 Hq, .slice Aq Vq.length cq] 24)).heap.size = w.heap.size + 1 + 1 by simp only [World.size_alloc]] at B5
  have B5 := Lib.hid B5
  generalize ((w.alloc (.cells #[.int .i64 Wp, .int .i64 Hp, .slice Ap Vp.length cp] 24)).alloc (.cells #[.int .i64 Wq, .int .i64 Hq, .slice Aq Vq.length cq] 24)).alloc (.cells #[.int .u8 l, .int .u8 m] 25) = w1 at *
  clear hzw
  have HB1 := Lib.hid (Below.refl w1.heap.size w1)
  refine (first_c _).mono ?_
  rintro e w2 ⟨rfl, hb'⟩
  have HB1 := Lib.hid ((HB1.out).trans (hb'.mono (HB1.out).size))
  clear hb'
  obtain ⟨zB30, zB31, zB32⟩ := (B3.out.below HB1.out B3.out.lt).cells3
  obtain ⟨zB40, zB41, zB42⟩ := (B4.out.below HB1.out B4.out.lt).cells3
  obtain ⟨zB50, zB51⟩ := (B5.out.below HB1.out B5.out.lt).cells2
  go_wp2_with fail
  refine (pbig_c Wp Hp Ap Vp.length cp _ hnp).mono ?_
  rintro e w3 ⟨rfl, hb'⟩
  have HB1 := Lib.hid ((HB1.out).trans (hb'.mono (HB1.out).size))
  clear hb'
  clear zB30 zB31 zB32
  clear zB40 zB41 zB42
  clear zB50 zB51
  rw [G1.out]
  obtain ⟨zB30, zB31, zB32⟩ := (B3.out.below HB1.out B3.out.lt).cells3
  obtain ⟨zB40, zB41, zB42⟩ := (B4.out.below HB1.out B4.out.lt).cells3
  obtain ⟨zB50, zB51⟩ := (B5.out.below HB1.out B5.out.lt).cells2
  go_wp2_with fail
  refine (pbig_c Wq Hq Aq Vq.length cq _ hnq).mono ?_
  rintro e w4 ⟨rfl, hb'⟩
  have HB1 := Lib.hid ((HB1.out).trans (hb'.mono (HB1.out).size))
  clear hb'
  clear zB30 zB31 zB32
  clear zB40 zB41 zB42
  clear zB50 zB51
  rw [G2.out]
  go_wp2_with fail
  go_ret
  exact ⟨rfl, HB.out.trans (HB1.out.mono HB.out.size)⟩

set_option maxRecDepth 100000 in
set_option maxHeartbeats 16000000 in
theorem pback_3 (Wp Hp : Int) (Vp : List Int) (Ap : Option Addr) (cp : Nat) (Wq Hq : Int) (Vq : List Int) (Aq : Option Addr) (cq : Nat) (l m : Int) (w : World) (hp : ReadsI w Ap Vp) (hq : ReadsI w Aq Vq) (hnp : Vp.length ≤ 9223372036854775807) (hnq : Vq.length ≤ 9223372036854775807) (h1 : ¬ 2000 < Vp.length) (h2 : ¬ 2000 < Vq.length) (h3 : okB Wp Hp Vp.length = false) :
    Calls Try.prog 3 #[plV Wp Hp (.slice Ap Vp.length cp), plV Wq Hq (.slice Aq Vq.length cq), .agg #[.int .u8 l, .int .u8 m]] w fun e w' => e = .returned (.bool true) ∧ Below w.heap.size w w' := by
  have RP := Lib.hid hp
  have RQ := Lib.hid hq
  have HB := Lib.hid (Below.refl w.heap.size w)
  have G1 := Lib.hid (decide_eq_false h1)
  have G2 := Lib.hid (decide_eq_false h2)
  have G3 := Lib.hid h3
  clear h1 h2 h3
  clear hp hq
  go_enter Try.func3, Try.ntmps3
  go_wp2_with fail
  have RP := Lib.hid ((((RP.out).alloc (.cells #[.int .i64 Wp, .int .i64 Hp, .slice Ap Vp.length cp] 24)).alloc (.cells #[.int .i64 Wq, .int .i64 Hq, .slice Aq Vq.length cq] 24)).alloc (.cells #[.int .u8 l, .int .u8 m] 25))
  have RQ := Lib.hid ((((RQ.out).alloc (.cells #[.int .i64 Wp, .int .i64 Hp, .slice Ap Vp.length cp] 24)).alloc (.cells #[.int .i64 Wq, .int .i64 Hq, .slice Aq Vq.length cq] 24)).alloc (.cells #[.int .u8 l, .int .u8 m] 25))
  have HB := Lib.hid (below_alloc_ (below_alloc_ (below_alloc_ (HB.out) (.cells #[.int .i64 Wp, .int .i64 Hp, .slice Ap Vp.length cp] 24)) (.cells #[.int .i64 Wq, .int .i64 Hq, .slice Aq Vq.length cq] 24)) (.cells #[.int .u8 l, .int .u8 m] 25))
  have hzw : (((w.alloc (.cells #[.int .i64 Wp, .int .i64 Hp, .slice Ap Vp.length cp] 24)).alloc (.cells #[.int .i64 Wq, .int .i64 Hq, .slice Aq Vq.length cq] 24)).alloc (.cells #[.int .u8 l, .int .u8 m] 25)).heap.size = w.heap.size + 3 := by simp only [World.size_alloc]
  have B3 := ((Blk.new (w) 24 #[.int .i64 Wp, .int .i64 Hp, .slice Ap Vp.length cp]).alloc (.cells #[.int .i64 Wq, .int .i64 Hq, .slice Aq Vq.length cq] 24)).alloc (.cells #[.int .u8 l, .int .u8 m] 25)
  skip
  have B3 := Lib.hid B3
  have B4 := (Blk.new (w.alloc (.cells #[.int .i64 Wp, .int .i64 Hp, .slice Ap Vp.length cp] 24)) 24 #[.int .i64 Wq, .int .i64 Hq, .slice Aq Vq.length cq]).alloc (.cells #[.int .u8 l, .int .u8 m] 25)
  rw [show (w.alloc (.cells #[.int .i64 Wp, .int .i64 Hp, .slice Ap Vp.length cp] 24)).heap.size = w.heap.size + 1 by simp only [World.size_alloc]] at B4
  have B4 := Lib.hid B4
  have B5 := Blk.new ((w.alloc (.cells #[.int .i64 Wp, .int .i64 Hp, .slice Ap Vp.length cp] 24)).alloc (.cells #[.int .i64 Wq, .int .i64 Hq, .slice Aq Vq.length cq] 24)) 25 #[.int .u8 l, .int .u8 m]
  rw [show ((w.alloc (.cells #[.int .i64 Wp, .int .i64 Hp, .slice Ap Vp.length cp] 24)).alloc (.cells #[.int .i64 Wq, .int .i64 Hq, .slice Aq Vq.length cq] 24)).heap.size = w.heap.size + 1 + 1 by simp only [World.size_alloc]] at B5
  have B5 := Lib.hid B5
  generalize ((w.alloc (.cells #[.int .i64 Wp, .int .i64 Hp, .slice Ap Vp.length cp] 24)).alloc (.cells #[.int .i64 Wq, .int .i64 Hq, .slice Aq Vq.length cq] 24)).alloc (.cells #[.int .u8 l, .int .u8 m] 25) = w1 at *
  clear hzw
  have HB1 := Lib.hid (Below.refl w1.heap.size w1)
  refine (first_c _).mono ?_
  rintro e w2 ⟨rfl, hb'⟩
  have HB1 := Lib.hid ((HB1.out).trans (hb'.mono (HB1.out).size))
  clear hb'
  obtain ⟨zB30, zB31, zB32⟩ := (B3.out.below HB1.out B3.out.lt).cells3
  obtain ⟨zB40, zB41, zB42⟩ := (B4.out.below HB1.out B4.out.lt).cells3
  obtain ⟨zB50, zB51⟩ := (B5.out.below HB1.out B5.out.lt).cells2
  go_wp2_with fail
  refine (pbig_c Wp Hp Ap Vp.length cp _ hnp).mono ?_
  rintro e w3 ⟨rfl, hb'⟩
  have HB1 := Lib.hid ((HB1.out).trans (hb'.mono (HB1.out).size))
  clear hb'
  clear zB30 zB31 zB32
  clear zB40 zB41 zB42
  clear zB50 zB51
  rw [G1.out]
  obtain ⟨zB30, zB31, zB32⟩ := (B3.out.below HB1.out B3.out.lt).cells3
  obtain ⟨zB40, zB41, zB42⟩ := (B4.out.below HB1.out B4.out.lt).cells3
  obtain ⟨zB50, zB51⟩ := (B5.out.below HB1.out B5.out.lt).cells2
  go_wp2_with fail
  refine (pbig_c Wq Hq Aq Vq.length cq _ hnq).mono ?_
  rintro e w4 ⟨rfl, hb'⟩
  have HB1 := Lib.hid ((HB1.out).trans (hb'.mono (HB1.out).size))
  clear hb'
  clear zB30 zB31 zB32
  clear zB40 zB41 zB42
  clear zB50 zB51
  rw [G2.out]
  obtain ⟨zB30, zB31, zB32⟩ := (B3.out.below HB1.out B3.out.lt).cells3
  obtain ⟨zB40, zB41, zB42⟩ := (B4.out.below HB1.out B4.out.lt).cells3
  obtain ⟨zB50, zB51⟩ := (B5.out.below HB1.out B5.out.lt).cells2
  go_wp2_with fail
  refine (pright_c Wp Hp Ap Vp.length cp _ hnp).mono ?_
  rintro e w5 ⟨rfl, hb'⟩
  have HB1 := Lib.hid ((HB1.out).trans (hb'.mono (HB1.out).size))
  clear hb'
  clear zB30 zB31 zB32
  clear zB40 zB41 zB42
  clear zB50 zB51
  rw [G3.out]
  go_wp2_with fail
  go_ret
  exact ⟨rfl, HB.out.trans (HB1.out.mono HB.out.size)⟩

set_option maxRecDepth 100000 in
set_option maxHeartbeats 16000000 in
theorem pback_y (Wp Hp : Int) (Vp : List Int) (Ap : Option Addr) (cp : Nat) (Wq Hq : Int) (Vq : List Int) (Aq : Option Addr) (cq : Nat) (l m : Int) (w : World) (hp : ReadsI w Ap Vp) (hq : ReadsI w Aq Vq) (hnp : Vp.length ≤ 9223372036854775807) (hnq : Vq.length ≤ 9223372036854775807) (hbd : Hid (∀ z ∈ Vp, -9223372036854775808 ≤ z ∧ z ≤ 9223372036854775807)) (hl0 : 0 ≤ l) (hl1 : l ≤ 255) (hm0 : 0 ≤ m) (hm1 : m ≤ 255) (h1 : ¬ 2000 < Vp.length) (h2 : ¬ 2000 < Vq.length) (h3 : okB Wp Hp Vp.length = true) (h4 : okB Wq Hq Vq.length = true) :
    Calls Try.prog 3 #[plV Wp Hp (.slice Ap Vp.length cp), plV Wq Hq (.slice Aq Vq.length cq), .agg #[.int .u8 l, .int .u8 m]] w fun e w' => e = .returned (.bool true) ∧ Below w.heap.size w w' := by
  have RP := Lib.hid hp
  have RQ := Lib.hid hq
  have HB := Lib.hid (Below.refl w.heap.size w)
  have G1 := Lib.hid (decide_eq_false h1)
  have G2 := Lib.hid (decide_eq_false h2)
  have G3 := Lib.hid h3
  have G4 := Lib.hid h4
  have hnp2 : Vp.length ≤ 2000 := by omega
  have hnq2 : Vq.length ≤ 2000 := by omega
  obtain ⟨s1, s2, s3, s4, _⟩ := okB_t h3
  obtain ⟨r0, hr0⟩ : ∃ r : Nat, l.tmod 20 = r := ⟨(l.tmod 20).toNat, by rw [Int.tmod_eq_emod_of_nonneg hl0]; omega⟩
  obtain ⟨r1, hr1⟩ : ∃ r : Nat, m.tmod 20 = r := ⟨(m.tmod 20).toNat, by rw [Int.tmod_eq_emod_of_nonneg hm0]; omega⟩
  have hr2 : r0 < 20 := by rw [Int.tmod_eq_emod_of_nonneg hl0] at hr0; omega
  have hr3 : r1 < 20 := by rw [Int.tmod_eq_emod_of_nonneg hm0] at hr1; omega
  have Q0 := Lib.hid hr0
  have Q1 := Lib.hid hr1
  clear hr0 hr1 h1 h2 h3 h4
  clear hp hq
  go_enter Try.func3, Try.ntmps3
  go_wp2_with fail
  have RP := Lib.hid ((((RP.out).alloc (.cells #[.int .i64 Wp, .int .i64 Hp, .slice Ap Vp.length cp] 24)).alloc (.cells #[.int .i64 Wq, .int .i64 Hq, .slice Aq Vq.length cq] 24)).alloc (.cells #[.int .u8 l, .int .u8 m] 25))
  have RQ := Lib.hid ((((RQ.out).alloc (.cells #[.int .i64 Wp, .int .i64 Hp, .slice Ap Vp.length cp] 24)).alloc (.cells #[.int .i64 Wq, .int .i64 Hq, .slice Aq Vq.length cq] 24)).alloc (.cells #[.int .u8 l, .int .u8 m] 25))
  have HB := Lib.hid (below_alloc_ (below_alloc_ (below_alloc_ (HB.out) (.cells #[.int .i64 Wp, .int .i64 Hp, .slice Ap Vp.length cp] 24)) (.cells #[.int .i64 Wq, .int .i64 Hq, .slice Aq Vq.length cq] 24)) (.cells #[.int .u8 l, .int .u8 m] 25))
  have hzw : (((w.alloc (.cells #[.int .i64 Wp, .int .i64 Hp, .slice Ap Vp.length cp] 24)).alloc (.cells #[.int .i64 Wq, .int .i64 Hq, .slice Aq Vq.length cq] 24)).alloc (.cells #[.int .u8 l, .int .u8 m] 25)).heap.size = w.heap.size + 3 := by simp only [World.size_alloc]
  have B3 := ((Blk.new (w) 24 #[.int .i64 Wp, .int .i64 Hp, .slice Ap Vp.length cp]).alloc (.cells #[.int .i64 Wq, .int .i64 Hq, .slice Aq Vq.length cq] 24)).alloc (.cells #[.int .u8 l, .int .u8 m] 25)
  skip
  have B3 := Lib.hid B3
  have B4 := (Blk.new (w.alloc (.cells #[.int .i64 Wp, .int .i64 Hp, .slice Ap Vp.length cp] 24)) 24 #[.int .i64 Wq, .int .i64 Hq, .slice Aq Vq.length cq]).alloc (.cells #[.int .u8 l, .int .u8 m] 25)
  rw [show (w.alloc (.cells #[.int .i64 Wp, .int .i64 Hp, .slice Ap Vp.length cp] 24)).heap.size = w.heap.size + 1 by simp only [World.size_alloc]] at B4
  have B4 := Lib.hid B4
  have B5 := Blk.new ((w.alloc (.cells #[.int .i64 Wp, .int .i64 Hp, .slice Ap Vp.length cp] 24)).alloc (.cells #[.int .i64 Wq, .int .i64 Hq, .slice Aq Vq.length cq] 24)) 25 #[.int .u8 l, .int .u8 m]
  rw [show ((w.alloc (.cells #[.int .i64 Wp, .int .i64 Hp, .slice Ap Vp.length cp] 24)).alloc (.cells #[.int .i64 Wq, .int .i64 Hq, .slice Aq Vq.length cq] 24)).heap.size = w.heap.size + 1 + 1 by simp only [World.size_alloc]] at B5
  have B5 := Lib.hid B5
  generalize ((w.alloc (.cells #[.int .i64 Wp, .int .i64 Hp, .slice Ap Vp.length cp] 24)).alloc (.cells #[.int .i64 Wq, .int .i64 Hq, .slice Aq Vq.length cq] 24)).alloc (.cells #[.int .u8 l, .int .u8 m] 25) = w1 at *
  clear hzw
  have HB1 := Lib.hid (Below.refl w1.heap.size w1)
  refine (first_c _).mono ?_
  rintro e w2 ⟨rfl, hb'⟩
  have HB1 := Lib.hid ((HB1.out).trans (hb'.mono (HB1.out).size))
  clear hb'
  obtain ⟨zB30, zB31, zB32⟩ := (B3.out.below HB1.out B3.out.lt).cells3
  obtain ⟨zB40, zB41, zB42⟩ := (B4.out.below HB1.out B4.out.lt).cells3
  obtain ⟨zB50, zB51⟩ := (B5.out.below HB1.out B5.out.lt).cells2
  go_wp2_with fail
  refine (pbig_c Wp Hp Ap Vp.length cp _ hnp).mono ?_
  rintro e w3 ⟨rfl, hb'⟩
  have HB1 := Lib.hid ((HB1.out).trans (hb'.mono (HB1.out).size))
  clear hb'
  clear zB30 zB31 zB32
  clear zB40 zB41 zB42
  clear zB50 zB51
  rw [G1.out]
  obtain ⟨zB30, zB31, zB32⟩ := (B3.out.below HB1.out B3.out.lt).cells3
  obtain ⟨zB40, zB41, zB42⟩ := (B4.out.below HB1.out B4.out.lt).cells3
  obtain ⟨zB50, zB51⟩ := (B5.out.below HB1.out B5.out.lt).cells2
  go_wp2_with fail
  refine (pbig_c Wq Hq Aq Vq.length cq _ hnq).mono ?_
  rintro e w4 ⟨rfl, hb'⟩
  have HB1 := Lib.hid ((HB1.out).trans (hb'.mono (HB1.out).size))
  clear hb'
  clear zB30 zB31 zB32
  clear zB40 zB41 zB42
  clear zB50 zB51
  rw [G2.out]
  obtain ⟨zB30, zB31, zB32⟩ := (B3.out.below HB1.out B3.out.lt).cells3
  obtain ⟨zB40, zB41, zB42⟩ := (B4.out.below HB1.out B4.out.lt).cells3
  obtain ⟨zB50, zB51⟩ := (B5.out.below HB1.out B5.out.lt).cells2
  go_wp2_with fail
  refine (pright_c Wp Hp Ap Vp.length cp _ hnp).mono ?_
  rintro e w5 ⟨rfl, hb'⟩
  have HB1 := Lib.hid ((HB1.out).trans (hb'.mono (HB1.out).size))
  clear hb'
  clear zB30 zB31 zB32
  clear zB40 zB41 zB42
  clear zB50 zB51
  rw [G3.out]
  go_upto_region 5 with fail
  go_cut [7] (fun s wx => ∃ b7 A7 c7, s = .pointer (some ⟨b7, 0, none⟩) ∧ w1.heap.size ≤ b7 ∧ Blk wx b7 24 #[.int .i64 Wp, .int .i64 Hp, .slice A7 Vp.length c7] ∧ OwnI wx w1.heap.size (.slice A7 Vp.length c7) Vp ∧ Below w1.heap.size w1 wx)
  case first =>
    have F1 := Q0.out
    have F2 := Q1.out
    have F3 : IntKind.i64.wrap (r0 : Int) = r0 := IntWalk.i64_in _ (by omega)
    have F4 : IntKind.i64.wrap (r1 : Int) = r1 := IntWalk.i64_in _ (by omega)
    have F5 : IntKind.i64.wrap (Wp + (r0 : Int)) = Wp + r0 := IntWalk.i64_in _ (by omega)
    have F6 : IntKind.i64.wrap (Hp + (r1 : Int)) = Hp + r1 := IntWalk.i64_in _ (by omega)
    obtain ⟨x0, F7⟩ : ∃ x, (if Wp + (r0 : Int) < 1024 then Wp + (r0 : Int) else 1024) = x := ⟨_, rfl⟩
    obtain ⟨y0, F8⟩ : ∃ x, (if Hp + (r1 : Int) < 1024 then Hp + (r1 : Int) else 1024) = x := ⟨_, rfl⟩
    have X1 : Wp ≤ x0 ∧ x0 ≤ 1024 := by rw [← F7]; split <;> omega
    have X2 : Hp ≤ y0 ∧ y0 ≤ 1024 := by rw [← F8]; split <;> omega
    have XC := Lib.hid (crop_pad G3.out X1.1 X1.2 X2.1 X2.2)
    obtain ⟨p5, hp5⟩ : ∃ p, p = padP Wp Hp Vp x0 y0 := ⟨_, rfl⟩
    rw [← hp5] at XC
    have EP5 := Lib.hid hp5
    have hl5 : p5.V.length ≤ 1048576 := by have h := okB_t XC.out.1; have := area_bd h.1 h.2.1 h.2.2.1 h.2.2.2.1; omega
    clear hp5 X1 X2
    have HB1 := Lib.hid ((HB1.out).drew)
    refine wp_region_held_drew (S := (fun w' => w'.cell? ⟨w.heap.size, 0, none⟩ = some (.int .i64 Wp) ∧ w'.cell? ⟨w.heap.size, 1, none⟩ = some (.int .i64 Hp) ∧ w'.cell? ⟨w.heap.size, 2, none⟩ = some (.slice Ap Vp.length cp) ∧ w'.cell? ⟨w.heap.size + 1, 0, none⟩ = some (.int .i64 Wq) ∧ w'.cell? ⟨w.heap.size + 1, 1, none⟩ = some (.int .i64 Hq) ∧ w'.cell? ⟨w.heap.size + 1, 2, none⟩ = some (.slice Aq Vq.length cq) ∧ w'.cell? ⟨w.heap.size + 1 + 1, 0, none⟩ = some (.int .u8 l) ∧ w'.cell? ⟨w.heap.size + 1 + 1, 1, none⟩ = some (.int .u8 m))) (by kernel_rfl) ?hS0 (fun hHeld => ?_)
    case hS0 => exact ⟨(B3.out.below HB1.out B3.out.lt).cell 0, (B3.out.below HB1.out B3.out.lt).cell 1, (B3.out.below HB1.out B3.out.lt).cell 2, (B4.out.below HB1.out B4.out.lt).cell 0, (B4.out.below HB1.out B4.out.lt).cell 1, (B4.out.below HB1.out B4.out.lt).cell 2, (B5.out.below HB1.out B5.out.lt).cell 0, (B5.out.below HB1.out B5.out.lt).cell 1⟩
    refine wpAnyH_take (i := 0) (oi := ⟨some 22, _, _, _, _, _⟩) (v := ?v1) rfl (by kernel_rfl) (by kernel_rfl) (by kernel_rfl) (fun _ _ _ h => h) (Or.inl ⟨by rfl, ?h1⟩) (by assumption) ?r1
    case h1 => (intro w hSw; (try dsimp only at hSw); go_simp; try with_reducible rfl)
    try simp only [Act.put, List.setIfInBounds_toArray, List.set_cons_zero, List.set_cons_succ]
    refine wpAnyH_take (i := 1) (oi := ⟨some 23, _, _, _, _, _⟩) (v := ?v2) rfl (by kernel_rfl) (by kernel_rfl) (by kernel_rfl) (fun _ _ _ h => h) (Or.inl ⟨by rfl, ?h2⟩) (by assumption) ?r2
    case h2 => (intro w hSw; (try dsimp only at hSw); go_simp; try with_reducible rfl)
    try simp only [Act.put, List.setIfInBounds_toArray, List.set_cons_zero, List.set_cons_succ]
    refine wpAnyH_take (i := 2) (oi := ⟨some 24, _, _, _, _, _⟩) (v := ?v3) rfl (by kernel_rfl) (by kernel_rfl) (by kernel_rfl) (fun _ _ _ h => h) (Or.inl ⟨by rfl, ?h3⟩) (by assumption) ?r3
    case h3 => (intro w hSw; (try dsimp only at hSw); go_simp; try with_reducible rfl)
    try simp only [Act.put, List.setIfInBounds_toArray, List.set_cons_zero, List.set_cons_succ]
    refine wpAnyH_take (i := 3) (oi := ⟨some 25, _, _, _, _, _⟩) (v := ?v4) rfl (by kernel_rfl) (by kernel_rfl) (by kernel_rfl) (fun _ _ _ h => h) (Or.inl ⟨by rfl, ?h4⟩) (by assumption) ?r4
    case h4 => (intro w hSw; (try dsimp only at hSw); go_simp; try with_reducible rfl)
    try simp only [Act.put, List.setIfInBounds_toArray, List.set_cons_zero, List.set_cons_succ]
    refine wpAnyH_take (i := 4) (oi := ⟨some 26, _, _, _, _, _⟩) (v := ?v5) rfl (by kernel_rfl) (by kernel_rfl) (by kernel_rfl) (fun _ _ _ h => h) (Or.inl ⟨by rfl, ?h5⟩) (by assumption) ?r5
    case h5 => (intro w hSw; (try dsimp only at hSw); go_simp; try with_reducible rfl)
    try simp only [Act.put, List.setIfInBounds_toArray, List.set_cons_zero, List.set_cons_succ]
    refine wpAnyH_take (i := 5) (oi := ⟨some 27, _, _, _, _, _⟩) (v := ?v6) rfl (by kernel_rfl) (by kernel_rfl) (by kernel_rfl) (fun _ _ _ h => h) (Or.inl ⟨by rfl, ?h6⟩) (by assumption) ?r6
    case h6 => (intro w hSw; (try dsimp only at hSw); go_simp; try with_reducible rfl)
    try simp only [Act.put, List.setIfInBounds_toArray, List.set_cons_zero, List.set_cons_succ]
    refine wpAnyH_take (i := 6) (oi := ⟨some 28, _, _, _, _, _⟩) (v := ?v7) rfl (by kernel_rfl) (by kernel_rfl) (by kernel_rfl) (fun _ _ _ h => h) (Or.inl ⟨by rfl, ?h7⟩) (by assumption) ?r7
    case h7 => (intro w hSw; (try dsimp only at hSw); go_simp; try with_reducible rfl)
    try simp only [Act.put, List.setIfInBounds_toArray, List.set_cons_zero, List.set_cons_succ]
    refine wpAnyH_take (i := 7) (oi := ⟨some 29, _, _, _, _, _⟩) (v := ?v8) rfl (by kernel_rfl) (by kernel_rfl) (by kernel_rfl) (fun _ _ _ h => h) (Or.inl ⟨by rfl, ?h8⟩) (by assumption) ?r8
    case h8 => (intro w hSw; (try dsimp only at hSw); go_simp; try with_reducible rfl)
    try simp only [Act.put, List.setIfInBounds_toArray, List.set_cons_zero, List.set_cons_succ]
    refine wpAnyH_take (i := 8) (oi := ⟨some 30, _, _, _, _, _⟩) (v := ?v9) rfl (by kernel_rfl) (by kernel_rfl) (by kernel_rfl) (fun _ _ _ h => h) (Or.inl ⟨by rfl, ?h9⟩) (by assumption) ?r9
    case h9 => (intro w hSw; (try dsimp only at hSw); go_simp; try with_reducible rfl)
    try simp only [Act.put, List.setIfInBounds_toArray, List.set_cons_zero, List.set_cons_succ]
    refine wpAnyH_take (i := 9) (oi := ⟨some 31, _, _, _, _, _⟩) (v := ?v10) rfl (by kernel_rfl) (by kernel_rfl) (by kernel_rfl) (fun _ _ _ h => h) (Or.inl ⟨by rfl, ?h10⟩) (by assumption) ?r10
    case h10 => (intro w hSw; (try dsimp only at hSw); go_simp; try with_reducible rfl)
    try simp only [Act.put, List.setIfInBounds_toArray, List.set_cons_zero, List.set_cons_succ]
    refine wpAnyH_take (i := 10) (oi := ⟨some 32, _, _, _, _, _⟩) (v := ?v11) rfl (by kernel_rfl) (by kernel_rfl) (by kernel_rfl) (fun _ _ _ h => h) (Or.inl ⟨by rfl, ?h11⟩) (by assumption) ?r11
    case h11 => (intro w hSw; (try dsimp only at hSw); go_simp; try with_reducible rfl)
    try simp only [Act.put, List.setIfInBounds_toArray, List.set_cons_zero, List.set_cons_succ]
    refine wpAnyH_take (i := 11) (oi := ⟨some 33, _, _, _, _, _⟩) (v := ?v12) rfl (by kernel_rfl) (by kernel_rfl) (by kernel_rfl) (fun _ _ _ h => h) (Or.inl ⟨by rfl, ?h12⟩) (by assumption) ?r12
    case h12 => (intro w hSw; (try dsimp only at hSw); go_simp; try with_reducible rfl)
    try simp only [Act.put, List.setIfInBounds_toArray, List.set_cons_zero, List.set_cons_succ]
    refine wpAnyH_take (i := 12) (oi := ⟨some 34, _, _, _, _, _⟩) (v := ?v13) rfl (by kernel_rfl) (by kernel_rfl) (by kernel_rfl) (fun _ _ _ h => h) (Or.inl ⟨by rfl, ?h13⟩) (by assumption) ?r13
    case h13 => (intro w hSw; (try dsimp only at hSw); go_simp; try with_reducible rfl)
    try simp only [Act.put, List.setIfInBounds_toArray, List.set_cons_zero, List.set_cons_succ]
    refine wpAnyH_take (i := 13) (oi := ⟨some 35, _, _, _, _, _⟩) (v := ?v14) rfl (by kernel_rfl) (by kernel_rfl) (by kernel_rfl) (fun _ _ _ h => h) (Or.inl ⟨by rfl, ?h14⟩) (by assumption) ?r14
    case h14 => (intro w hSw; (try dsimp only at hSw); go_simp; try with_reducible rfl)
    try simp only [Act.put, List.setIfInBounds_toArray, List.set_cons_zero, List.set_cons_succ]
    refine wpAnyH_take (i := 14) (oi := ⟨some 36, _, _, _, _, _⟩) (v := ?v15) rfl (by kernel_rfl) (by kernel_rfl) (by kernel_rfl) (fun _ _ _ h => h) (Or.inl ⟨by rfl, ?h15⟩) (by assumption) ?r15
    case h15 => (intro w hSw; (try dsimp only at hSw); go_simp; try with_reducible rfl)
    try simp only [Act.put, List.setIfInBounds_toArray, List.set_cons_zero, List.set_cons_succ]
    refine wpAnyH_take (i := 15) (oi := ⟨some 37, _, _, _, _, _⟩) (v := ?v16) rfl (by kernel_rfl) (by kernel_rfl) (by kernel_rfl) (fun _ _ _ h => h) (Or.inl ⟨by rfl, ?h16⟩) (by assumption) ?r16
    case h16 => (intro w hSw; (try dsimp only at hSw); go_simp; try with_reducible rfl)
    try simp only [Act.put, List.setIfInBounds_toArray, List.set_cons_zero, List.set_cons_succ]
    refine wpAnyH_take (i := 16) (oi := ⟨some 38, _, _, _, _, _⟩) (v := ?v17) rfl (by kernel_rfl) (by kernel_rfl) (by kernel_rfl) (fun _ _ _ h => h) (Or.inl ⟨by rfl, ?h17⟩) (by assumption) ?r17
    case h17 => (intro w hSw; (try dsimp only at hSw); go_simp; try with_reducible rfl)
    try simp only [Act.put, List.setIfInBounds_toArray, List.set_cons_zero, List.set_cons_succ]
    refine wpAnyH_take (i := 18) (oi := ⟨some 40, _, _, _, _, _⟩) (v := ?v18) rfl (by kernel_rfl) (by kernel_rfl) (by kernel_rfl) (fun _ _ _ h => h) (Or.inl ⟨by rfl, ?h18⟩) (by assumption) ?r18
    case h18 => (intro w hSw; (try dsimp only at hSw); go_simp; try with_reducible rfl)
    try simp only [Act.put, List.setIfInBounds_toArray, List.set_cons_zero, List.set_cons_succ]
    refine wpAnyH_take (i := 19) (oi := ⟨some 41, _, _, _, _, _⟩) (v := ?v19) rfl (by kernel_rfl) (by kernel_rfl) (by kernel_rfl) (fun _ _ _ h => h) (Or.inl ⟨by rfl, ?h19⟩) (by assumption) ?r19
    case h19 => (intro w hSw; (try dsimp only at hSw); go_simp; try with_reducible rfl)
    try simp only [Act.put, List.setIfInBounds_toArray, List.set_cons_zero, List.set_cons_succ]
    refine wpAnyH_take (i := 20) (oi := ⟨some 42, _, _, _, _, _⟩) (v := ?v20) rfl (by kernel_rfl) (by kernel_rfl) (by kernel_rfl) (fun _ _ _ h => h) (Or.inl ⟨by rfl, ?h20⟩) (by assumption) ?r20
    case h20 => (intro w hSw; (try dsimp only at hSw); go_simp; try with_reducible rfl)
    try simp only [Act.put, List.setIfInBounds_toArray, List.set_cons_zero, List.set_cons_succ]
    refine wpAnyH_take (i := 21) (oi := ⟨some 43, _, _, _, _, _⟩) (v := ?v21) rfl (by kernel_rfl) (by kernel_rfl) (by kernel_rfl) (fun _ _ _ h => h) (Or.inl ⟨by rfl, ?h21⟩) (by assumption) ?r21
    case h21 => (intro w hSw; (try dsimp only at hSw); go_simp; try with_reducible rfl)
    try simp only [Act.put, List.setIfInBounds_toArray, List.set_cons_zero, List.set_cons_succ]
    refine wpAnyH_ready (rs := [17, 23]) (by kernel_rfl) (by simp) ?_
    refine (AllReadyH.cons (o := ⟨some 39, _, _, _, _, _⟩) rfl (fun K hK => ?_) (AllReadyH.cons (o := ⟨some 7, _, _, _, _, _⟩) rfl (fun K hK => ?_) AllReadyH.nil))
    · skip
      go_simp
      have HS1 := HB1
      refine (ppad_c Wp Hp Vp Ap cp x0 y0 _ (RP.out.kept HB1.out) (by omega)).mono ?_
      rintro e w6 ⟨v, rfl, ho, hb'⟩
      have HB1 := Lib.hid ((HB1.out).trans (hb'.mono (HB1.out).size))
      clear hb'
      rw [← EP5.out] at ho ⊢
      obtain ⟨A5, c5, rfl, hq⟩ := ho.slice
      have O5 := Lib.hid (ho.lower (B' := w1.heap.size) HS1.out.size)
      clear ho hq
      refine hK.out _ _ ?hS22 (fun hHeld => ?_)
      case hS22 => exact ⟨(B3.out.below HB1.out B3.out.lt).cell 0, (B3.out.below HB1.out B3.out.lt).cell 1, (B3.out.below HB1.out B3.out.lt).cell 2, (B4.out.below HB1.out B4.out.lt).cell 0, (B4.out.below HB1.out B4.out.lt).cell 1, (B4.out.below HB1.out B4.out.lt).cell 2, (B5.out.below HB1.out B5.out.lt).cell 0, (B5.out.below HB1.out B5.out.lt).cell 1⟩
      clear hK K
      try simp only [Act.put, List.setIfInBounds_toArray, List.set_cons_zero, List.set_cons_succ]
      refine wpAnyH_ready (rs := [22, 23]) (by kernel_rfl) (by simp) ?_
      refine (AllReadyH.cons (o := ⟨some 44, _, _, _, _, _⟩) rfl (fun K hK => ?_) (AllReadyH.cons (o := ⟨some 7, _, _, _, _, _⟩) rfl (fun K hK => ?_) AllReadyH.nil))
      · skip
        go_simp
        have HS1 := HB1
        refine (pcrop_c p5.W p5.H p5.V A5 c5 Wp Hp _ O5.out.reads (by omega)).mono ?_
        rintro e w7 ⟨v, rfl, ho, hb'⟩
        have HB1 := Lib.hid ((HB1.out).trans (hb'.mono (HB1.out).size))
        have O5 := Lib.hid ((O5.out).kept hb')
        clear hb'
        rw [XC.out.2] at ho ⊢
        obtain ⟨A7, c7, rfl, hq⟩ := ho.slice
        have O7 := Lib.hid (ho.lower (B' := w1.heap.size) HS1.out.size)
        clear ho hq
        refine hK.out _ _ ?hS23 (fun hHeld => ?_)
        case hS23 => exact ⟨(B3.out.below HB1.out B3.out.lt).cell 0, (B3.out.below HB1.out B3.out.lt).cell 1, (B3.out.below HB1.out B3.out.lt).cell 2, (B4.out.below HB1.out B4.out.lt).cell 0, (B4.out.below HB1.out B4.out.lt).cell 1, (B4.out.below HB1.out B4.out.lt).cell 2, (B5.out.below HB1.out B5.out.lt).cell 0, (B5.out.below HB1.out B5.out.lt).cell 1⟩
        clear hK K
        try simp only [Act.put, List.setIfInBounds_toArray, List.set_cons_zero, List.set_cons_succ]
        refine wpAnyH_ready (rs := [23]) (by kernel_rfl) (by simp) ?_
        refine (AllReadyH.cons (o := ⟨some 7, _, _, _, _, _⟩) rfl (fun K hK => ?_) AllReadyH.nil)
        go_simp
        have hlt := HB1.out.size
        have HB1 := Lib.hid (below_alloc_ (HB1.out) (.cells #[.int .i64 0, .int .i64 0, .slice none 0 0] 24))
        have O5 := Lib.hid ((O5.out).alloc (.cells #[.int .i64 0, .int .i64 0, .slice none 0 0] 24))
        have O7 := Lib.hid ((O7.out).alloc (.cells #[.int .i64 0, .int .i64 0, .slice none 0 0] 24))
        have hzw : (w7.alloc (.cells #[.int .i64 0, .int .i64 0, .slice none 0 0] 24)).heap.size = w7.heap.size + 1 := by simp only [World.size_alloc]
        have B7 := Blk.new (w7) 24 #[.int .i64 0, .int .i64 0, .slice none 0 0]
        skip
        have B7 := Lib.hid B7
        generalize w7.alloc (.cells #[.int .i64 0, .int .i64 0, .slice none 0 0] 24) = w8 at *
        have hgeB7 : w1.heap.size ≤ w7.heap.size := hlt
        clear hzw hlt
        refine hK.out _ _ ?hS24 (fun hHeld => ?_)
        case hS24 => exact ⟨(B3.out.below HB1.out B3.out.lt).cell 0, (B3.out.below HB1.out B3.out.lt).cell 1, (B3.out.below HB1.out B3.out.lt).cell 2, (B4.out.below HB1.out B4.out.lt).cell 0, (B4.out.below HB1.out B4.out.lt).cell 1, (B4.out.below HB1.out B4.out.lt).cell 2, (B5.out.below HB1.out B5.out.lt).cell 0, (B5.out.below HB1.out B5.out.lt).cell 1⟩
        clear hK K
        try simp only [Act.put, List.setIfInBounds_toArray, List.set_cons_zero, List.set_cons_succ]
        refine wpAnyH_ready (rs := [24]) (by kernel_rfl) (by simp) ?_
        refine (AllReadyH.cons (o := ⟨none, _, _, _, _, _⟩) rfl (fun K hK => ?_) AllReadyH.nil)
        obtain ⟨⟨q0, q1, q2⟩, f0, f1, f2⟩ := B7.out.three
        go_simp
        clear q0 q1 q2 f0 f1 f2
        obtain ⟨k1, k2, k3⟩ := ret_plane B7.out (.int .i64 Wp) (.int .i64 Hp) (.slice A7 Vp.length c7)
        have B7 := Lib.hid k1
        have O5 := Lib.hid (k2 _ _ _ O5.out)
        have O7 := Lib.hid (k2 _ _ _ O7.out)
        have HB1 := Lib.hid (k3 _ _ HB1.out hgeB7)
        clear k1 k2 k3
        refine hK.out _ _ ?hS25 (fun hHeld => ?_)
        case hS25 => exact ⟨(B3.out.below HB1.out B3.out.lt).cell 0, (B3.out.below HB1.out B3.out.lt).cell 1, (B3.out.below HB1.out B3.out.lt).cell 2, (B4.out.below HB1.out B4.out.lt).cell 0, (B4.out.below HB1.out B4.out.lt).cell 1, (B4.out.below HB1.out B4.out.lt).cell 2, (B5.out.below HB1.out B5.out.lt).cell 0, (B5.out.below HB1.out B5.out.lt).cell 1⟩
        clear hK K
        try simp only [Act.put, List.setIfInBounds_toArray, List.set_cons_zero, List.set_cons_succ]
        refine wpAnyH_done (by kernel_rfl) ?_ _
        clear hHeld
        go_wp2_with fail
        go_meet
        exact ⟨_, _, _, rfl, hgeB7, B7.out, O7.out, HB1.out⟩
      · skip
        go_simp
        have hlt := HB1.out.size
        have HB1 := Lib.hid (below_alloc_ (HB1.out) (.cells #[.int .i64 0, .int .i64 0, .slice none 0 0] 24))
        have O5 := Lib.hid ((O5.out).alloc (.cells #[.int .i64 0, .int .i64 0, .slice none 0 0] 24))
        have hzw : (w6.alloc (.cells #[.int .i64 0, .int .i64 0, .slice none 0 0] 24)).heap.size = w6.heap.size + 1 := by simp only [World.size_alloc]
        have B7 := Blk.new (w6) 24 #[.int .i64 0, .int .i64 0, .slice none 0 0]
        skip
        have B7 := Lib.hid B7
        generalize w6.alloc (.cells #[.int .i64 0, .int .i64 0, .slice none 0 0] 24) = w7 at *
        have hgeB7 : w1.heap.size ≤ w6.heap.size := hlt
        clear hzw hlt
        refine hK.out _ _ ?hS26 (fun hHeld => ?_)
        case hS26 => exact ⟨(B3.out.below HB1.out B3.out.lt).cell 0, (B3.out.below HB1.out B3.out.lt).cell 1, (B3.out.below HB1.out B3.out.lt).cell 2, (B4.out.below HB1.out B4.out.lt).cell 0, (B4.out.below HB1.out B4.out.lt).cell 1, (B4.out.below HB1.out B4.out.lt).cell 2, (B5.out.below HB1.out B5.out.lt).cell 0, (B5.out.below HB1.out B5.out.lt).cell 1⟩
        clear hK K
        try simp only [Act.put, List.setIfInBounds_toArray, List.set_cons_zero, List.set_cons_succ]
        refine wpAnyH_ready (rs := [22]) (by kernel_rfl) (by simp) ?_
        refine (AllReadyH.cons (o := ⟨some 44, _, _, _, _, _⟩) rfl (fun K hK => ?_) AllReadyH.nil)
        go_simp
        have HS1 := HB1
        refine (pcrop_c p5.W p5.H p5.V A5 c5 Wp Hp _ O5.out.reads (by omega)).mono ?_
        rintro e w8 ⟨v, rfl, ho, hb'⟩
        have HB1 := Lib.hid ((HB1.out).trans (hb'.mono (HB1.out).size))
        have O5 := Lib.hid ((O5.out).kept hb')
        have B7 := Lib.hid ((B7.out).below hb' (B7.out).lt)
        clear hb'
        rw [XC.out.2] at ho ⊢
        obtain ⟨A7, c7, rfl, hq⟩ := ho.slice
        have O7 := Lib.hid (ho.lower (B' := w1.heap.size) HS1.out.size)
        clear ho hq
        refine hK.out _ _ ?hS27 (fun hHeld => ?_)
        case hS27 => exact ⟨(B3.out.below HB1.out B3.out.lt).cell 0, (B3.out.below HB1.out B3.out.lt).cell 1, (B3.out.below HB1.out B3.out.lt).cell 2, (B4.out.below HB1.out B4.out.lt).cell 0, (B4.out.below HB1.out B4.out.lt).cell 1, (B4.out.below HB1.out B4.out.lt).cell 2, (B5.out.below HB1.out B5.out.lt).cell 0, (B5.out.below HB1.out B5.out.lt).cell 1⟩
        clear hK K
        try simp only [Act.put, List.setIfInBounds_toArray, List.set_cons_zero, List.set_cons_succ]
        refine wpAnyH_ready (rs := [24]) (by kernel_rfl) (by simp) ?_
        refine (AllReadyH.cons (o := ⟨none, _, _, _, _, _⟩) rfl (fun K hK => ?_) AllReadyH.nil)
        obtain ⟨⟨q0, q1, q2⟩, f0, f1, f2⟩ := B7.out.three
        go_simp
        clear q0 q1 q2 f0 f1 f2
        obtain ⟨k1, k2, k3⟩ := ret_plane B7.out (.int .i64 Wp) (.int .i64 Hp) (.slice A7 Vp.length c7)
        have B7 := Lib.hid k1
        have O5 := Lib.hid (k2 _ _ _ O5.out)
        have O7 := Lib.hid (k2 _ _ _ O7.out)
        have HB1 := Lib.hid (k3 _ _ HB1.out hgeB7)
        clear k1 k2 k3
        refine hK.out _ _ ?hS28 (fun hHeld => ?_)
        case hS28 => exact ⟨(B3.out.below HB1.out B3.out.lt).cell 0, (B3.out.below HB1.out B3.out.lt).cell 1, (B3.out.below HB1.out B3.out.lt).cell 2, (B4.out.below HB1.out B4.out.lt).cell 0, (B4.out.below HB1.out B4.out.lt).cell 1, (B4.out.below HB1.out B4.out.lt).cell 2, (B5.out.below HB1.out B5.out.lt).cell 0, (B5.out.below HB1.out B5.out.lt).cell 1⟩
        clear hK K
        try simp only [Act.put, List.setIfInBounds_toArray, List.set_cons_zero, List.set_cons_succ]
        refine wpAnyH_done (by kernel_rfl) ?_ _
        clear hHeld
        go_wp2_with fail
        go_meet
        exact ⟨_, _, _, rfl, hgeB7, B7.out, O7.out, HB1.out⟩
    · skip
      go_simp
      have hlt := HB1.out.size
      have HB1 := Lib.hid (below_alloc_ (HB1.out) (.cells #[.int .i64 0, .int .i64 0, .slice none 0 0] 24))
      have hzw : (w5.drew.alloc (.cells #[.int .i64 0, .int .i64 0, .slice none 0 0] 24)).heap.size = w5.drew.heap.size + 1 := by simp only [World.size_alloc]
      have B7 := Blk.new (w5.drew) 24 #[.int .i64 0, .int .i64 0, .slice none 0 0]
      skip
      have B7 := Lib.hid B7
      have B7 := Lib.hid (show Blk _ (w5.heap.size) _ _ from B7.out)
      try rw [show (w5.alloc (.cells #[.int .i64 0, .int .i64 0, .slice none 0 0] 24)).drew = w5.drew.alloc (.cells #[.int .i64 0, .int .i64 0, .slice none 0 0] 24) from rfl]
      generalize w5.drew.alloc (.cells #[.int .i64 0, .int .i64 0, .slice none 0 0] 24) = w6 at *
      have hgeB7 : w1.heap.size ≤ w5.heap.size := hlt
      clear hzw hlt
      refine hK.out _ _ ?hS29 (fun hHeld => ?_)
      case hS29 => exact ⟨(B3.out.below HB1.out B3.out.lt).cell 0, (B3.out.below HB1.out B3.out.lt).cell 1, (B3.out.below HB1.out B3.out.lt).cell 2, (B4.out.below HB1.out B4.out.lt).cell 0, (B4.out.below HB1.out B4.out.lt).cell 1, (B4.out.below HB1.out B4.out.lt).cell 2, (B5.out.below HB1.out B5.out.lt).cell 0, (B5.out.below HB1.out B5.out.lt).cell 1⟩
      clear hK K
      try simp only [Act.put, List.setIfInBounds_toArray, List.set_cons_zero, List.set_cons_succ]
      refine wpAnyH_ready (rs := [17]) (by kernel_rfl) (by simp) ?_
      refine (AllReadyH.cons (o := ⟨some 39, _, _, _, _, _⟩) rfl (fun K hK => ?_) AllReadyH.nil)
      go_simp
      have HS1 := HB1
      refine (ppad_c Wp Hp Vp Ap cp x0 y0 _ (RP.out.kept HB1.out) (by omega)).mono ?_
      rintro e w7 ⟨v, rfl, ho, hb'⟩
      have HB1 := Lib.hid ((HB1.out).trans (hb'.mono (HB1.out).size))
      have B7 := Lib.hid ((B7.out).below hb' (B7.out).lt)
      clear hb'
      rw [← EP5.out] at ho ⊢
      obtain ⟨A5, c5, rfl, hq⟩ := ho.slice
      have O5 := Lib.hid (ho.lower (B' := w1.heap.size) HS1.out.size)
      clear ho hq
      refine hK.out _ _ ?hS30 (fun hHeld => ?_)
      case hS30 => exact ⟨(B3.out.below HB1.out B3.out.lt).cell 0, (B3.out.below HB1.out B3.out.lt).cell 1, (B3.out.below HB1.out B3.out.lt).cell 2, (B4.out.below HB1.out B4.out.lt).cell 0, (B4.out.below HB1.out B4.out.lt).cell 1, (B4.out.below HB1.out B4.out.lt).cell 2, (B5.out.below HB1.out B5.out.lt).cell 0, (B5.out.below HB1.out B5.out.lt).cell 1⟩
      clear hK K
      try simp only [Act.put, List.setIfInBounds_toArray, List.set_cons_zero, List.set_cons_succ]
      refine wpAnyH_ready (rs := [22]) (by kernel_rfl) (by simp) ?_
      refine (AllReadyH.cons (o := ⟨some 44, _, _, _, _, _⟩) rfl (fun K hK => ?_) AllReadyH.nil)
      go_simp
      have HS1 := HB1
      refine (pcrop_c p5.W p5.H p5.V A5 c5 Wp Hp _ O5.out.reads (by omega)).mono ?_
      rintro e w8 ⟨v, rfl, ho, hb'⟩
      have HB1 := Lib.hid ((HB1.out).trans (hb'.mono (HB1.out).size))
      have B7 := Lib.hid ((B7.out).below hb' (B7.out).lt)
      have O5 := Lib.hid ((O5.out).kept hb')
      clear hb'
      rw [XC.out.2] at ho ⊢
      obtain ⟨A7, c7, rfl, hq⟩ := ho.slice
      have O7 := Lib.hid (ho.lower (B' := w1.heap.size) HS1.out.size)
      clear ho hq
      refine hK.out _ _ ?hS31 (fun hHeld => ?_)
      case hS31 => exact ⟨(B3.out.below HB1.out B3.out.lt).cell 0, (B3.out.below HB1.out B3.out.lt).cell 1, (B3.out.below HB1.out B3.out.lt).cell 2, (B4.out.below HB1.out B4.out.lt).cell 0, (B4.out.below HB1.out B4.out.lt).cell 1, (B4.out.below HB1.out B4.out.lt).cell 2, (B5.out.below HB1.out B5.out.lt).cell 0, (B5.out.below HB1.out B5.out.lt).cell 1⟩
      clear hK K
      try simp only [Act.put, List.setIfInBounds_toArray, List.set_cons_zero, List.set_cons_succ]
      refine wpAnyH_ready (rs := [24]) (by kernel_rfl) (by simp) ?_
      refine (AllReadyH.cons (o := ⟨none, _, _, _, _, _⟩) rfl (fun K hK => ?_) AllReadyH.nil)
      obtain ⟨⟨q0, q1, q2⟩, f0, f1, f2⟩ := B7.out.three
      go_simp
      clear q0 q1 q2 f0 f1 f2
      obtain ⟨k1, k2, k3⟩ := ret_plane B7.out (.int .i64 Wp) (.int .i64 Hp) (.slice A7 Vp.length c7)
      have B7 := Lib.hid k1
      have O5 := Lib.hid (k2 _ _ _ O5.out)
      have O7 := Lib.hid (k2 _ _ _ O7.out)
      have HB1 := Lib.hid (k3 _ _ HB1.out hgeB7)
      clear k1 k2 k3
      refine hK.out _ _ ?hS32 (fun hHeld => ?_)
      case hS32 => exact ⟨(B3.out.below HB1.out B3.out.lt).cell 0, (B3.out.below HB1.out B3.out.lt).cell 1, (B3.out.below HB1.out B3.out.lt).cell 2, (B4.out.below HB1.out B4.out.lt).cell 0, (B4.out.below HB1.out B4.out.lt).cell 1, (B4.out.below HB1.out B4.out.lt).cell 2, (B5.out.below HB1.out B5.out.lt).cell 0, (B5.out.below HB1.out B5.out.lt).cell 1⟩
      clear hK K
      try simp only [Act.put, List.setIfInBounds_toArray, List.set_cons_zero, List.set_cons_succ]
      refine wpAnyH_done (by kernel_rfl) ?_ _
      clear hHeld
      go_wp2_with fail
      go_meet
      exact ⟨_, _, _, rfl, hgeB7, B7.out, O7.out, HB1.out⟩
  case rest =>
    obtain ⟨b7, A7, c7, rfl, hb7, h7, ho7, hb⟩ := hcut
    have HB1 := Lib.hid hb
    have B7 := Lib.hid h7
    have O7 := Lib.hid ho7
    clear h7 ho7 hb
    go_upto_region 6 with fail
    go_cut [8] (fun s wx => ∃ (b8 : Nat) (A8 : Option Addr) (c8 : Nat) (ps : Pl), s = .pointer (some ⟨b8, 0, none⟩) ∧ w1.heap.size ≤ b8 ∧ Blk wx b8 24 #[.int .i64 ps.W, .int .i64 ps.H, .slice A8 ps.V.length c8] ∧ OwnI wx w1.heap.size (.slice A8 ps.V.length c8) ps.V ∧ Blk wx b7 24 #[.int .i64 Wp, .int .i64 Hp, .slice A7 Vp.length c7] ∧ OwnI wx w1.heap.size (.slice A7 Vp.length c7) Vp ∧ Below w1.heap.size w1 wx ∧ ∃ U, U.length = Vp.length ∧ ps = ⟨Wp, Hp, U⟩)
    case first =>
      obtain ⟨m1, E1⟩ : ∃ x, (if Wp < Wq then Wp else Wq) = x := ⟨_, rfl⟩
      obtain ⟨m2, E2⟩ : ∃ x, (if 1 < m1 then m1 else 1) = x := ⟨_, rfl⟩
      obtain ⟨n1, E3⟩ : ∃ x, (if Hp < Hq then Hp else Hq) = x := ⟨_, rfl⟩
      obtain ⟨n2, E4⟩ : ∃ x, (if 1 < n1 then n1 else 1) = x := ⟨_, rfl⟩
      have M2 : max 1 (min Wq Wp) = m2 := by rw [← E2, ← E1]; split <;> split <;> omega
      have N2 : max 1 (min Hq Hp) = n2 := by rw [← E4, ← E3]; split <;> split <;> omega
      obtain ⟨pc, hpc⟩ : ∃ p, p = cropP Wq Hq Vq m2 n2 := ⟨_, rfl⟩
      obtain ⟨ps, hps⟩ : ∃ p, p = padP pc.W pc.H pc.V Wp Hp := ⟨_, rfl⟩
      have hpp := pad_crop s1 s2 s3 s4 G4.out
      rw [M2, N2, ← hpc, ← hps] at hpp
      obtain ⟨U, hU1, hU2, hlc⟩ := hpp
      have hUl : U.length = Vp.length := by have := (okB_t G3.out).2.2.2.2; omega
      have HU := Lib.hid (show ∃ U : List Int, U.length = Vp.length ∧ ps = ⟨Wp, Hp, U⟩ from ⟨U, hUl, hU2⟩)
      clear hU1 hU2 hUl
      have EC := Lib.hid hpc
      have ES := Lib.hid hps
      clear M2 N2 hpc hps
      have HB1 := Lib.hid ((HB1.out).drew)
      have B7 := Lib.hid ((B7.out).drew)
      have O7 := Lib.hid ((O7.out).drew)
      refine wp_region_held_drew (S := (fun w' => w'.cell? ⟨w.heap.size, 0, none⟩ = some (.int .i64 Wp) ∧ w'.cell? ⟨w.heap.size, 1, none⟩ = some (.int .i64 Hp) ∧ w'.cell? ⟨w.heap.size, 2, none⟩ = some (.slice Ap Vp.length cp) ∧ w'.cell? ⟨w.heap.size + 1, 0, none⟩ = some (.int .i64 Wq) ∧ w'.cell? ⟨w.heap.size + 1, 1, none⟩ = some (.int .i64 Hq) ∧ w'.cell? ⟨w.heap.size + 1, 2, none⟩ = some (.slice Aq Vq.length cq))) (by kernel_rfl) ?hS0 (fun hHeld => ?_)
      case hS0 => exact ⟨(B3.out.below HB1.out B3.out.lt).cell 0, (B3.out.below HB1.out B3.out.lt).cell 1, (B3.out.below HB1.out B3.out.lt).cell 2, (B4.out.below HB1.out B4.out.lt).cell 0, (B4.out.below HB1.out B4.out.lt).cell 1, (B4.out.below HB1.out B4.out.lt).cell 2⟩
      refine wpAnyH_take (i := 0) (oi := ⟨some 45, _, _, _, _, _⟩) (v := ?v33) rfl (by kernel_rfl) (by kernel_rfl) (by kernel_rfl) (fun _ _ _ h => h) (Or.inl ⟨by rfl, ?h33⟩) (by assumption) ?r33
      case h33 => (intro w hSw; (try dsimp only at hSw); go_simp; try with_reducible rfl)
      try simp only [Act.put, List.setIfInBounds_toArray, List.set_cons_zero, List.set_cons_succ]
      refine wpAnyH_take (i := 1) (oi := ⟨some 46, _, _, _, _, _⟩) (v := ?v34) rfl (by kernel_rfl) (by kernel_rfl) (by kernel_rfl) (fun _ _ _ h => h) (Or.inl ⟨by rfl, ?h34⟩) (by assumption) ?r34
      case h34 => (intro w hSw; (try dsimp only at hSw); go_simp; try with_reducible rfl)
      try simp only [Act.put, List.setIfInBounds_toArray, List.set_cons_zero, List.set_cons_succ]
      refine wpAnyH_take (i := 2) (oi := ⟨some 47, _, _, _, _, _⟩) (v := ?v35) rfl (by kernel_rfl) (by kernel_rfl) (by kernel_rfl) (fun _ _ _ h => h) (Or.inl ⟨by rfl, ?h35⟩) (by assumption) ?r35
      case h35 => (intro w hSw; (try dsimp only at hSw); go_simp; try with_reducible rfl)
      try simp only [Act.put, List.setIfInBounds_toArray, List.set_cons_zero, List.set_cons_succ]
      refine wpAnyH_take (i := 3) (oi := ⟨some 48, _, _, _, _, _⟩) (v := ?v36) rfl (by kernel_rfl) (by kernel_rfl) (by kernel_rfl) (fun _ _ _ h => h) (Or.inl ⟨by rfl, ?h36⟩) (by assumption) ?r36
      case h36 => (intro w hSw; (try dsimp only at hSw); go_simp; try with_reducible rfl)
      try simp only [Act.put, List.setIfInBounds_toArray, List.set_cons_zero, List.set_cons_succ]
      refine wpAnyH_take (i := 4) (oi := ⟨some 49, _, _, _, _, _⟩) (v := ?v37) rfl (by kernel_rfl) (by kernel_rfl) (by kernel_rfl) (fun _ _ _ h => h) (Or.inl ⟨by rfl, ?h37⟩) (by assumption) ?r37
      case h37 => (intro w hSw; (try dsimp only at hSw); go_simp; try with_reducible rfl)
      try simp only [Act.put, List.setIfInBounds_toArray, List.set_cons_zero, List.set_cons_succ]
      refine wpAnyH_take (i := 5) (oi := ⟨some 50, _, _, _, _, _⟩) (v := ?v38) rfl (by kernel_rfl) (by kernel_rfl) (by kernel_rfl) (fun _ _ _ h => h) (Or.inl ⟨by rfl, ?h38⟩) (by assumption) ?r38
      case h38 => (intro w hSw; (try dsimp only at hSw); go_simp; try with_reducible rfl)
      try simp only [Act.put, List.setIfInBounds_toArray, List.set_cons_zero, List.set_cons_succ]
      refine wpAnyH_take (i := 6) (oi := ⟨some 51, _, _, _, _, _⟩) (v := ?v39) rfl (by kernel_rfl) (by kernel_rfl) (by kernel_rfl) (fun _ _ _ h => h) (Or.inl ⟨by rfl, ?h39⟩) (by assumption) ?r39
      case h39 => (intro w hSw; (try dsimp only at hSw); go_simp; try with_reducible rfl)
      try simp only [Act.put, List.setIfInBounds_toArray, List.set_cons_zero, List.set_cons_succ]
      refine wpAnyH_take (i := 7) (oi := ⟨some 52, _, _, _, _, _⟩) (v := ?v40) rfl (by kernel_rfl) (by kernel_rfl) (by kernel_rfl) (fun _ _ _ h => h) (Or.inl ⟨by rfl, ?h40⟩) (by assumption) ?r40
      case h40 => (intro w hSw; (try dsimp only at hSw); go_simp; try with_reducible rfl)
      try simp only [Act.put, List.setIfInBounds_toArray, List.set_cons_zero, List.set_cons_succ]
      refine wpAnyH_take (i := 8) (oi := ⟨some 53, _, _, _, _, _⟩) (v := ?v41) rfl (by kernel_rfl) (by kernel_rfl) (by kernel_rfl) (fun _ _ _ h => h) (Or.inl ⟨by rfl, ?h41⟩) (by assumption) ?r41
      case h41 => (intro w hSw; (try dsimp only at hSw); go_simp; try with_reducible rfl)
      try simp only [Act.put, List.setIfInBounds_toArray, List.set_cons_zero, List.set_cons_succ]
      refine wpAnyH_take (i := 9) (oi := ⟨some 54, _, _, _, _, _⟩) (v := ?v42) rfl (by kernel_rfl) (by kernel_rfl) (by kernel_rfl) (fun _ _ _ h => h) (Or.inl ⟨by rfl, ?h42⟩) (by assumption) ?r42
      case h42 => (intro w hSw; (try dsimp only at hSw); go_simp; try with_reducible rfl)
      try simp only [Act.put, List.setIfInBounds_toArray, List.set_cons_zero, List.set_cons_succ]
      refine wpAnyH_take (i := 10) (oi := ⟨some 55, _, _, _, _, _⟩) (v := ?v43) rfl (by kernel_rfl) (by kernel_rfl) (by kernel_rfl) (fun _ _ _ h => h) (Or.inl ⟨by rfl, ?h43⟩) (by assumption) ?r43
      case h43 => (intro w hSw; (try dsimp only at hSw); go_simp; try with_reducible rfl)
      try simp only [Act.put, List.setIfInBounds_toArray, List.set_cons_zero, List.set_cons_succ]
      refine wpAnyH_take (i := 11) (oi := ⟨some 56, _, _, _, _, _⟩) (v := ?v44) rfl (by kernel_rfl) (by kernel_rfl) (by kernel_rfl) (fun _ _ _ h => h) (Or.inl ⟨by rfl, ?h44⟩) (by assumption) ?r44
      case h44 => (intro w hSw; (try dsimp only at hSw); go_simp; try with_reducible rfl)
      try simp only [Act.put, List.setIfInBounds_toArray, List.set_cons_zero, List.set_cons_succ]
      refine wpAnyH_take (i := 12) (oi := ⟨some 57, _, _, _, _, _⟩) (v := ?v45) rfl (by kernel_rfl) (by kernel_rfl) (by kernel_rfl) (fun _ _ _ h => h) (Or.inl ⟨by rfl, ?h45⟩) (by assumption) ?r45
      case h45 => (intro w hSw; (try dsimp only at hSw); go_simp; try with_reducible rfl)
      try simp only [Act.put, List.setIfInBounds_toArray, List.set_cons_zero, List.set_cons_succ]
      refine wpAnyH_take (i := 14) (oi := ⟨some 59, _, _, _, _, _⟩) (v := ?v46) rfl (by kernel_rfl) (by kernel_rfl) (by kernel_rfl) (fun _ _ _ h => h) (Or.inl ⟨by rfl, ?h46⟩) (by assumption) ?r46
      case h46 => (intro w hSw; (try dsimp only at hSw); go_simp; try with_reducible rfl)
      try simp only [Act.put, List.setIfInBounds_toArray, List.set_cons_zero, List.set_cons_succ]
      refine wpAnyH_take (i := 15) (oi := ⟨some 60, _, _, _, _, _⟩) (v := ?v47) rfl (by kernel_rfl) (by kernel_rfl) (by kernel_rfl) (fun _ _ _ h => h) (Or.inl ⟨by rfl, ?h47⟩) (by assumption) ?r47
      case h47 => (intro w hSw; (try dsimp only at hSw); go_simp; try with_reducible rfl)
      try simp only [Act.put, List.setIfInBounds_toArray, List.set_cons_zero, List.set_cons_succ]
      refine wpAnyH_take (i := 16) (oi := ⟨some 61, _, _, _, _, _⟩) (v := ?v48) rfl (by kernel_rfl) (by kernel_rfl) (by kernel_rfl) (fun _ _ _ h => h) (Or.inl ⟨by rfl, ?h48⟩) (by assumption) ?r48
      case h48 => (intro w hSw; (try dsimp only at hSw); go_simp; try with_reducible rfl)
      try simp only [Act.put, List.setIfInBounds_toArray, List.set_cons_zero, List.set_cons_succ]
      refine wpAnyH_take (i := 17) (oi := ⟨some 62, _, _, _, _, _⟩) (v := ?v49) rfl (by kernel_rfl) (by kernel_rfl) (by kernel_rfl) (fun _ _ _ h => h) (Or.inl ⟨by rfl, ?h49⟩) (by assumption) ?r49
      case h49 => (intro w hSw; (try dsimp only at hSw); go_simp; try with_reducible rfl)
      try simp only [Act.put, List.setIfInBounds_toArray, List.set_cons_zero, List.set_cons_succ]
      refine wpAnyH_ready (rs := [13, 19]) (by kernel_rfl) (by simp) ?_
      refine (AllReadyH.cons (o := ⟨some 58, _, _, _, _, _⟩) rfl (fun K hK => ?_) (AllReadyH.cons (o := ⟨some 8, _, _, _, _, _⟩) rfl (fun K hK => ?_) AllReadyH.nil))
      · skip
        go_simp
        have HS1 := HB1
        refine (pcrop_c Wq Hq Vq Aq cq m2 n2 _ (RQ.out.kept HB1.out) (by omega)).mono ?_
        rintro e w6 ⟨v, rfl, ho, hb'⟩
        have HB1 := Lib.hid ((HB1.out).trans (hb'.mono (HB1.out).size))
        have B7 := Lib.hid ((B7.out).below hb' (B7.out).lt)
        have O7 := Lib.hid ((O7.out).kept hb')
        clear hb'
        rw [← EC.out] at ho ⊢
        obtain ⟨A9, c9, rfl, hq⟩ := ho.slice
        have O9 := Lib.hid (ho.lower (B' := w1.heap.size) HS1.out.size)
        clear ho hq
        refine hK.out _ _ ?hS50 (fun hHeld => ?_)
        case hS50 => exact ⟨(B3.out.below HB1.out B3.out.lt).cell 0, (B3.out.below HB1.out B3.out.lt).cell 1, (B3.out.below HB1.out B3.out.lt).cell 2, (B4.out.below HB1.out B4.out.lt).cell 0, (B4.out.below HB1.out B4.out.lt).cell 1, (B4.out.below HB1.out B4.out.lt).cell 2⟩
        clear hK K
        try simp only [Act.put, List.setIfInBounds_toArray, List.set_cons_zero, List.set_cons_succ]
        refine wpAnyH_ready (rs := [18, 19]) (by kernel_rfl) (by simp) ?_
        refine (AllReadyH.cons (o := ⟨some 63, _, _, _, _, _⟩) rfl (fun K hK => ?_) (AllReadyH.cons (o := ⟨some 8, _, _, _, _, _⟩) rfl (fun K hK => ?_) AllReadyH.nil))
        · skip
          go_simp
          have HS1 := HB1
          refine (ppad_c pc.W pc.H pc.V A9 c9 Wp Hp _ O9.out.reads (by omega)).mono ?_
          rintro e w7 ⟨v, rfl, ho, hb'⟩
          have HB1 := Lib.hid ((HB1.out).trans (hb'.mono (HB1.out).size))
          have B7 := Lib.hid ((B7.out).below hb' (B7.out).lt)
          have O7 := Lib.hid ((O7.out).kept hb')
          have O9 := Lib.hid ((O9.out).kept hb')
          clear hb'
          rw [← ES.out] at ho ⊢
          obtain ⟨A8, c8, rfl, hq⟩ := ho.slice
          have O8 := Lib.hid (ho.lower (B' := w1.heap.size) HS1.out.size)
          clear ho hq
          refine hK.out _ _ ?hS51 (fun hHeld => ?_)
          case hS51 => exact ⟨(B3.out.below HB1.out B3.out.lt).cell 0, (B3.out.below HB1.out B3.out.lt).cell 1, (B3.out.below HB1.out B3.out.lt).cell 2, (B4.out.below HB1.out B4.out.lt).cell 0, (B4.out.below HB1.out B4.out.lt).cell 1, (B4.out.below HB1.out B4.out.lt).cell 2⟩
          clear hK K
          try simp only [Act.put, List.setIfInBounds_toArray, List.set_cons_zero, List.set_cons_succ]
          refine wpAnyH_ready (rs := [19]) (by kernel_rfl) (by simp) ?_
          refine (AllReadyH.cons (o := ⟨some 8, _, _, _, _, _⟩) rfl (fun K hK => ?_) AllReadyH.nil)
          have b78 := Lib.hid B7.out.lt
          go_simp
          have hlt := HB1.out.size
          have HB1 := Lib.hid (below_alloc_ (HB1.out) (.cells #[.int .i64 0, .int .i64 0, .slice none 0 0] 24))
          have B7 := Lib.hid ((B7.out).alloc (.cells #[.int .i64 0, .int .i64 0, .slice none 0 0] 24))
          have O7 := Lib.hid ((O7.out).alloc (.cells #[.int .i64 0, .int .i64 0, .slice none 0 0] 24))
          have O9 := Lib.hid ((O9.out).alloc (.cells #[.int .i64 0, .int .i64 0, .slice none 0 0] 24))
          have O8 := Lib.hid ((O8.out).alloc (.cells #[.int .i64 0, .int .i64 0, .slice none 0 0] 24))
          have hzw : (w7.alloc (.cells #[.int .i64 0, .int .i64 0, .slice none 0 0] 24)).heap.size = w7.heap.size + 1 := by simp only [World.size_alloc]
          have B8 := Blk.new (w7) 24 #[.int .i64 0, .int .i64 0, .slice none 0 0]
          skip
          have B8 := Lib.hid B8
          generalize w7.alloc (.cells #[.int .i64 0, .int .i64 0, .slice none 0 0] 24) = w8 at *
          have hgeB8 : w1.heap.size ≤ w7.heap.size := hlt
          clear hzw hlt
          have b78 := Lib.hid (show b7 < w7.heap.size from b78.out)
          refine hK.out _ _ ?hS52 (fun hHeld => ?_)
          case hS52 => exact ⟨(B3.out.below HB1.out B3.out.lt).cell 0, (B3.out.below HB1.out B3.out.lt).cell 1, (B3.out.below HB1.out B3.out.lt).cell 2, (B4.out.below HB1.out B4.out.lt).cell 0, (B4.out.below HB1.out B4.out.lt).cell 1, (B4.out.below HB1.out B4.out.lt).cell 2⟩
          clear hK K
          try simp only [Act.put, List.setIfInBounds_toArray, List.set_cons_zero, List.set_cons_succ]
          refine wpAnyH_ready (rs := [20]) (by kernel_rfl) (by simp) ?_
          refine (AllReadyH.cons (o := ⟨none, _, _, _, _, _⟩) rfl (fun K hK => ?_) AllReadyH.nil)
          have n78 : b7 ≠ w7.heap.size := fun e => by have := b78.out; omega
          obtain ⟨⟨q0, q1, q2⟩, f0, f1, f2⟩ := B8.out.three
          go_simp
          clear q0 q1 q2 f0 f1 f2
          obtain ⟨k1, k2, k3⟩ := ret_plane B8.out (.int .i64 ps.W) (.int .i64 ps.H) (.slice A8 ps.V.length c8)
          have B8 := Lib.hid k1
          have O7 := Lib.hid (k2 _ _ _ O7.out)
          have O9 := Lib.hid (k2 _ _ _ O9.out)
          have O8 := Lib.hid (k2 _ _ _ O8.out)
          have HB1 := Lib.hid (k3 _ _ HB1.out hgeB8)
          clear k1 k2 k3
          have B7 := Lib.hid (((B7.out.far (p := ⟨w7.heap.size, 0, none⟩) n78 (.int .i64 ps.W)).far (p := ⟨w7.heap.size, 1, none⟩) n78 (.int .i64 ps.H)).far (p := ⟨w7.heap.size, 2, none⟩) n78 (.slice A8 ps.V.length c8))
          refine hK.out _ _ ?hS53 (fun hHeld => ?_)
          case hS53 => exact ⟨(B3.out.below HB1.out B3.out.lt).cell 0, (B3.out.below HB1.out B3.out.lt).cell 1, (B3.out.below HB1.out B3.out.lt).cell 2, (B4.out.below HB1.out B4.out.lt).cell 0, (B4.out.below HB1.out B4.out.lt).cell 1, (B4.out.below HB1.out B4.out.lt).cell 2⟩
          clear hK K
          try simp only [Act.put, List.setIfInBounds_toArray, List.set_cons_zero, List.set_cons_succ]
          refine wpAnyH_done (by kernel_rfl) ?_ _
          clear hHeld
          go_wp2_with fail
          go_meet
          exact ⟨_, _, _, ps, rfl, hgeB8, B8.out, O8.out, B7.out, O7.out, HB1.out, HU.out⟩
        · skip
          have b78 := Lib.hid B7.out.lt
          go_simp
          have hlt := HB1.out.size
          have HB1 := Lib.hid (below_alloc_ (HB1.out) (.cells #[.int .i64 0, .int .i64 0, .slice none 0 0] 24))
          have B7 := Lib.hid ((B7.out).alloc (.cells #[.int .i64 0, .int .i64 0, .slice none 0 0] 24))
          have O7 := Lib.hid ((O7.out).alloc (.cells #[.int .i64 0, .int .i64 0, .slice none 0 0] 24))
          have O9 := Lib.hid ((O9.out).alloc (.cells #[.int .i64 0, .int .i64 0, .slice none 0 0] 24))
          have hzw : (w6.alloc (.cells #[.int .i64 0, .int .i64 0, .slice none 0 0] 24)).heap.size = w6.heap.size + 1 := by simp only [World.size_alloc]
          have B8 := Blk.new (w6) 24 #[.int .i64 0, .int .i64 0, .slice none 0 0]
          skip
          have B8 := Lib.hid B8
          generalize w6.alloc (.cells #[.int .i64 0, .int .i64 0, .slice none 0 0] 24) = w7 at *
          have hgeB8 : w1.heap.size ≤ w6.heap.size := hlt
          clear hzw hlt
          have b78 := Lib.hid (show b7 < w6.heap.size from b78.out)
          refine hK.out _ _ ?hS54 (fun hHeld => ?_)
          case hS54 => exact ⟨(B3.out.below HB1.out B3.out.lt).cell 0, (B3.out.below HB1.out B3.out.lt).cell 1, (B3.out.below HB1.out B3.out.lt).cell 2, (B4.out.below HB1.out B4.out.lt).cell 0, (B4.out.below HB1.out B4.out.lt).cell 1, (B4.out.below HB1.out B4.out.lt).cell 2⟩
          clear hK K
          try simp only [Act.put, List.setIfInBounds_toArray, List.set_cons_zero, List.set_cons_succ]
          refine wpAnyH_ready (rs := [18]) (by kernel_rfl) (by simp) ?_
          refine (AllReadyH.cons (o := ⟨some 63, _, _, _, _, _⟩) rfl (fun K hK => ?_) AllReadyH.nil)
          go_simp
          have HS1 := HB1
          refine (ppad_c pc.W pc.H pc.V A9 c9 Wp Hp _ O9.out.reads (by omega)).mono ?_
          rintro e w8 ⟨v, rfl, ho, hb'⟩
          have HB1 := Lib.hid ((HB1.out).trans (hb'.mono (HB1.out).size))
          have B7 := Lib.hid ((B7.out).below hb' (B7.out).lt)
          have O7 := Lib.hid ((O7.out).kept hb')
          have O9 := Lib.hid ((O9.out).kept hb')
          have B8 := Lib.hid ((B8.out).below hb' (B8.out).lt)
          clear hb'
          rw [← ES.out] at ho ⊢
          obtain ⟨A8, c8, rfl, hq⟩ := ho.slice
          have O8 := Lib.hid (ho.lower (B' := w1.heap.size) HS1.out.size)
          clear ho hq
          refine hK.out _ _ ?hS55 (fun hHeld => ?_)
          case hS55 => exact ⟨(B3.out.below HB1.out B3.out.lt).cell 0, (B3.out.below HB1.out B3.out.lt).cell 1, (B3.out.below HB1.out B3.out.lt).cell 2, (B4.out.below HB1.out B4.out.lt).cell 0, (B4.out.below HB1.out B4.out.lt).cell 1, (B4.out.below HB1.out B4.out.lt).cell 2⟩
          clear hK K
          try simp only [Act.put, List.setIfInBounds_toArray, List.set_cons_zero, List.set_cons_succ]
          refine wpAnyH_ready (rs := [20]) (by kernel_rfl) (by simp) ?_
          refine (AllReadyH.cons (o := ⟨none, _, _, _, _, _⟩) rfl (fun K hK => ?_) AllReadyH.nil)
          have n78 : b7 ≠ w6.heap.size := fun e => by have := b78.out; omega
          obtain ⟨⟨q0, q1, q2⟩, f0, f1, f2⟩ := B8.out.three
          go_simp
          clear q0 q1 q2 f0 f1 f2
          obtain ⟨k1, k2, k3⟩ := ret_plane B8.out (.int .i64 ps.W) (.int .i64 ps.H) (.slice A8 ps.V.length c8)
          have B8 := Lib.hid k1
          have O7 := Lib.hid (k2 _ _ _ O7.out)
          have O9 := Lib.hid (k2 _ _ _ O9.out)
          have O8 := Lib.hid (k2 _ _ _ O8.out)
          have HB1 := Lib.hid (k3 _ _ HB1.out hgeB8)
          clear k1 k2 k3
          have B7 := Lib.hid (((B7.out.far (p := ⟨w6.heap.size, 0, none⟩) n78 (.int .i64 ps.W)).far (p := ⟨w6.heap.size, 1, none⟩) n78 (.int .i64 ps.H)).far (p := ⟨w6.heap.size, 2, none⟩) n78 (.slice A8 ps.V.length c8))
          refine hK.out _ _ ?hS56 (fun hHeld => ?_)
          case hS56 => exact ⟨(B3.out.below HB1.out B3.out.lt).cell 0, (B3.out.below HB1.out B3.out.lt).cell 1, (B3.out.below HB1.out B3.out.lt).cell 2, (B4.out.below HB1.out B4.out.lt).cell 0, (B4.out.below HB1.out B4.out.lt).cell 1, (B4.out.below HB1.out B4.out.lt).cell 2⟩
          clear hK K
          try simp only [Act.put, List.setIfInBounds_toArray, List.set_cons_zero, List.set_cons_succ]
          refine wpAnyH_done (by kernel_rfl) ?_ _
          clear hHeld
          go_wp2_with fail
          go_meet
          exact ⟨_, _, _, ps, rfl, hgeB8, B8.out, O8.out, B7.out, O7.out, HB1.out, HU.out⟩
      · skip
        have b78 := Lib.hid B7.out.lt
        go_simp
        have hlt := HB1.out.size
        have HB1 := Lib.hid (below_alloc_ (HB1.out) (.cells #[.int .i64 0, .int .i64 0, .slice none 0 0] 24))
        have B7 := Lib.hid ((B7.out).alloc (.cells #[.int .i64 0, .int .i64 0, .slice none 0 0] 24))
        have O7 := Lib.hid ((O7.out).alloc (.cells #[.int .i64 0, .int .i64 0, .slice none 0 0] 24))
        have hzw : (wc.drew.alloc (.cells #[.int .i64 0, .int .i64 0, .slice none 0 0] 24)).heap.size = wc.drew.heap.size + 1 := by simp only [World.size_alloc]
        have B8 := Blk.new (wc.drew) 24 #[.int .i64 0, .int .i64 0, .slice none 0 0]
        skip
        have B8 := Lib.hid B8
        have B8 := Lib.hid (show Blk _ (wc.heap.size) _ _ from B8.out)
        try rw [show (wc.alloc (.cells #[.int .i64 0, .int .i64 0, .slice none 0 0] 24)).drew = wc.drew.alloc (.cells #[.int .i64 0, .int .i64 0, .slice none 0 0] 24) from rfl]
        generalize wc.drew.alloc (.cells #[.int .i64 0, .int .i64 0, .slice none 0 0] 24) = w6 at *
        have hgeB8 : w1.heap.size ≤ wc.heap.size := hlt
        clear hzw hlt
        have b78 := Lib.hid (show b7 < wc.heap.size from b78.out)
        refine hK.out _ _ ?hS57 (fun hHeld => ?_)
        case hS57 => exact ⟨(B3.out.below HB1.out B3.out.lt).cell 0, (B3.out.below HB1.out B3.out.lt).cell 1, (B3.out.below HB1.out B3.out.lt).cell 2, (B4.out.below HB1.out B4.out.lt).cell 0, (B4.out.below HB1.out B4.out.lt).cell 1, (B4.out.below HB1.out B4.out.lt).cell 2⟩
        clear hK K
        try simp only [Act.put, List.setIfInBounds_toArray, List.set_cons_zero, List.set_cons_succ]
        refine wpAnyH_ready (rs := [13]) (by kernel_rfl) (by simp) ?_
        refine (AllReadyH.cons (o := ⟨some 58, _, _, _, _, _⟩) rfl (fun K hK => ?_) AllReadyH.nil)
        go_simp
        have HS1 := HB1
        refine (pcrop_c Wq Hq Vq Aq cq m2 n2 _ (RQ.out.kept HB1.out) (by omega)).mono ?_
        rintro e w7 ⟨v, rfl, ho, hb'⟩
        have HB1 := Lib.hid ((HB1.out).trans (hb'.mono (HB1.out).size))
        have B7 := Lib.hid ((B7.out).below hb' (B7.out).lt)
        have O7 := Lib.hid ((O7.out).kept hb')
        have B8 := Lib.hid ((B8.out).below hb' (B8.out).lt)
        clear hb'
        rw [← EC.out] at ho ⊢
        obtain ⟨A9, c9, rfl, hq⟩ := ho.slice
        have O9 := Lib.hid (ho.lower (B' := w1.heap.size) HS1.out.size)
        clear ho hq
        refine hK.out _ _ ?hS58 (fun hHeld => ?_)
        case hS58 => exact ⟨(B3.out.below HB1.out B3.out.lt).cell 0, (B3.out.below HB1.out B3.out.lt).cell 1, (B3.out.below HB1.out B3.out.lt).cell 2, (B4.out.below HB1.out B4.out.lt).cell 0, (B4.out.below HB1.out B4.out.lt).cell 1, (B4.out.below HB1.out B4.out.lt).cell 2⟩
        clear hK K
        try simp only [Act.put, List.setIfInBounds_toArray, List.set_cons_zero, List.set_cons_succ]
        refine wpAnyH_ready (rs := [18]) (by kernel_rfl) (by simp) ?_
        refine (AllReadyH.cons (o := ⟨some 63, _, _, _, _, _⟩) rfl (fun K hK => ?_) AllReadyH.nil)
        go_simp
        have HS1 := HB1
        refine (ppad_c pc.W pc.H pc.V A9 c9 Wp Hp _ O9.out.reads (by omega)).mono ?_
        rintro e w8 ⟨v, rfl, ho, hb'⟩
        have HB1 := Lib.hid ((HB1.out).trans (hb'.mono (HB1.out).size))
        have B7 := Lib.hid ((B7.out).below hb' (B7.out).lt)
        have O7 := Lib.hid ((O7.out).kept hb')
        have B8 := Lib.hid ((B8.out).below hb' (B8.out).lt)
        have O9 := Lib.hid ((O9.out).kept hb')
        clear hb'
        rw [← ES.out] at ho ⊢
        obtain ⟨A8, c8, rfl, hq⟩ := ho.slice
        have O8 := Lib.hid (ho.lower (B' := w1.heap.size) HS1.out.size)
        clear ho hq
        refine hK.out _ _ ?hS59 (fun hHeld => ?_)
        case hS59 => exact ⟨(B3.out.below HB1.out B3.out.lt).cell 0, (B3.out.below HB1.out B3.out.lt).cell 1, (B3.out.below HB1.out B3.out.lt).cell 2, (B4.out.below HB1.out B4.out.lt).cell 0, (B4.out.below HB1.out B4.out.lt).cell 1, (B4.out.below HB1.out B4.out.lt).cell 2⟩
        clear hK K
        try simp only [Act.put, List.setIfInBounds_toArray, List.set_cons_zero, List.set_cons_succ]
        refine wpAnyH_ready (rs := [20]) (by kernel_rfl) (by simp) ?_
        refine (AllReadyH.cons (o := ⟨none, _, _, _, _, _⟩) rfl (fun K hK => ?_) AllReadyH.nil)
        have n78 : b7 ≠ wc.heap.size := fun e => by have := b78.out; omega
        obtain ⟨⟨q0, q1, q2⟩, f0, f1, f2⟩ := B8.out.three
        go_simp
        clear q0 q1 q2 f0 f1 f2
        obtain ⟨k1, k2, k3⟩ := ret_plane B8.out (.int .i64 ps.W) (.int .i64 ps.H) (.slice A8 ps.V.length c8)
        have B8 := Lib.hid k1
        have O7 := Lib.hid (k2 _ _ _ O7.out)
        have O9 := Lib.hid (k2 _ _ _ O9.out)
        have O8 := Lib.hid (k2 _ _ _ O8.out)
        have HB1 := Lib.hid (k3 _ _ HB1.out hgeB8)
        clear k1 k2 k3
        have B7 := Lib.hid (((B7.out.far (p := ⟨wc.heap.size, 0, none⟩) n78 (.int .i64 ps.W)).far (p := ⟨wc.heap.size, 1, none⟩) n78 (.int .i64 ps.H)).far (p := ⟨wc.heap.size, 2, none⟩) n78 (.slice A8 ps.V.length c8))
        refine hK.out _ _ ?hS60 (fun hHeld => ?_)
        case hS60 => exact ⟨(B3.out.below HB1.out B3.out.lt).cell 0, (B3.out.below HB1.out B3.out.lt).cell 1, (B3.out.below HB1.out B3.out.lt).cell 2, (B4.out.below HB1.out B4.out.lt).cell 0, (B4.out.below HB1.out B4.out.lt).cell 1, (B4.out.below HB1.out B4.out.lt).cell 2⟩
        clear hK K
        try simp only [Act.put, List.setIfInBounds_toArray, List.set_cons_zero, List.set_cons_succ]
        refine wpAnyH_done (by kernel_rfl) ?_ _
        clear hHeld
        go_wp2_with fail
        go_meet
        exact ⟨_, _, _, ps, rfl, hgeB8, B8.out, O8.out, B7.out, O7.out, HB1.out, HU.out⟩
    case rest =>
      obtain ⟨b8, A8, c8, ps, rfl, hb8, h8, ho8, h7, ho7, hb, U, hU, rfl⟩ := hcut
      have HB1 := Lib.hid hb
      have B7 := Lib.hid h7
      have O7 := Lib.hid ho7
      have B8 := Lib.hid h8
      have O8 := Lib.hid ho8
      clear h7 ho7 hb h8 ho8
      have HU := Lib.hid hU
      have hUn : U.length ≤ 2000 := by omega
      clear hU
      have SS := Lib.hid (show sameB Wp Hp Vp Wp Hp Vp = true from same_of (p := ⟨Wp, Hp, Vp⟩) rfl G3.out)
      have TT := Lib.hid (turn_two G3.out)
      obtain ⟨pt, hpt⟩ : ∃ p, p = turnP Wp Hp Vp := ⟨_, rfl⟩
      rw [← hpt] at TT
      have hlt : pt.V.length ≤ 1048576 := by have h := okB_t TT.out.1; have := area_bd h.1 h.2.1 h.2.2.1 h.2.2.2.1; omega
      have ET := Lib.hid hpt
      clear hpt
      go_upto_region 7 with fail
      have HB1 := Lib.hid ((HB1.out).drew)
      have B7 := Lib.hid ((B7.out).drew)
      have O7 := Lib.hid ((O7.out).drew)
      have B8 := Lib.hid ((B8.out).drew)
      have O8 := Lib.hid ((O8.out).drew)
      refine wp_region_held_drew (S := (fun w' => w'.cell? ⟨w.heap.size, 0, none⟩ = some (.int .i64 Wp) ∧ w'.cell? ⟨w.heap.size, 1, none⟩ = some (.int .i64 Hp) ∧ w'.cell? ⟨w.heap.size, 2, none⟩ = some (.slice Ap Vp.length cp) ∧ w'.cell? ⟨b7, 0, none⟩ = some (.int .i64 Wp) ∧ w'.cell? ⟨b7, 1, none⟩ = some (.int .i64 Hp) ∧ w'.cell? ⟨b7, 2, none⟩ = some (.slice A7 Vp.length c7))) (by kernel_rfl) ?hS0 (fun hHeld => ?_)
      case hS0 => exact ⟨(B3.out.below HB1.out B3.out.lt).cell 0, (B3.out.below HB1.out B3.out.lt).cell 1, (B3.out.below HB1.out B3.out.lt).cell 2, (B7.out).cell 0, (B7.out).cell 1, (B7.out).cell 2⟩
      refine wpAnyH_take (i := 0) (oi := ⟨some 64, _, _, _, _, _⟩) (v := ?v61) rfl (by kernel_rfl) (by kernel_rfl) (by kernel_rfl) (fun _ _ _ h => h) (Or.inl ⟨by rfl, ?h61⟩) (by assumption) ?r61
      case h61 => (intro w hSw; (try dsimp only at hSw); go_simp; try with_reducible rfl)
      try simp only [Act.put, List.setIfInBounds_toArray, List.set_cons_zero, List.set_cons_succ]
      refine wpAnyH_take (i := 1) (oi := ⟨some 65, _, _, _, _, _⟩) (v := ?v62) rfl (by kernel_rfl) (by kernel_rfl) (by kernel_rfl) (fun _ _ _ h => h) (Or.inl ⟨by rfl, ?h62⟩) (by assumption) ?r62
      case h62 => (intro w hSw; (try dsimp only at hSw); go_simp; try with_reducible rfl)
      try simp only [Act.put, List.setIfInBounds_toArray, List.set_cons_zero, List.set_cons_succ]
      refine wpAnyH_ready (rs := [2]) (by kernel_rfl) (by simp) ?_
      refine (AllReadyH.cons (o := ⟨some 66, _, _, _, _, _⟩) rfl (fun K hK => ?_) AllReadyH.nil)
      go_simp
      have HS1 := HB1
      refine (psame_c Wp Hp Vp Wp Hp Vp A7 Ap c7 cp _ O7.out.reads (RP.out.kept HB1.out) (by omega) (by omega)).mono ?_
      rintro e w6 ⟨rfl, hb'⟩
      have HB1 := Lib.hid ((HB1.out).trans (hb'.mono (HB1.out).size))
      have B7 := Lib.hid ((B7.out).below hb' (B7.out).lt)
      have O7 := Lib.hid ((O7.out).kept hb')
      have B8 := Lib.hid ((B8.out).below hb' (B8.out).lt)
      have O8 := Lib.hid ((O8.out).kept hb')
      clear hb'
      rw [SS.out]
      refine hK.out _ _ ?hS63 (fun hHeld => ?_)
      case hS63 => exact ⟨(B3.out.below HB1.out B3.out.lt).cell 0, (B3.out.below HB1.out B3.out.lt).cell 1, (B3.out.below HB1.out B3.out.lt).cell 2, (B7.out).cell 0, (B7.out).cell 1, (B7.out).cell 2⟩
      clear hK K
      try simp only [Act.put, List.setIfInBounds_toArray, List.set_cons_zero, List.set_cons_succ]
      refine wpAnyH_take (i := 3) (oi := ⟨some 67, _, _, _, _, _⟩) (v := ?v64) rfl (by kernel_rfl) (by kernel_rfl) (by kernel_rfl) (fun _ _ _ h => h) (Or.inl ⟨by rfl, ?h64⟩) (by assumption) ?r64
      case h64 => (intro w hSw; (try dsimp only at hSw); go_simp; try with_reducible rfl)
      try simp only [Act.put, List.setIfInBounds_toArray, List.set_cons_zero, List.set_cons_succ]
      refine wpAnyH_take (i := 4) (oi := ⟨some 68, _, _, _, _, _⟩) (v := ?v65) rfl (by kernel_rfl) (by kernel_rfl) (by kernel_rfl) (fun _ _ _ h => h) (Or.inl ⟨by rfl, ?h65⟩) (by assumption) ?r65
      case h65 => (intro w hSw; (try dsimp only at hSw); go_simp; try with_reducible rfl)
      try simp only [Act.put, List.setIfInBounds_toArray, List.set_cons_zero, List.set_cons_succ]
      refine wpAnyH_take (i := 5) (oi := ⟨some 69, _, _, _, _, _⟩) (v := ?v66) rfl (by kernel_rfl) (by kernel_rfl) (by kernel_rfl) (fun _ _ _ h => h) (Or.inl ⟨by rfl, ?h66⟩) (by assumption) ?r66
      case h66 => (intro w hSw; (try dsimp only at hSw); go_simp; try with_reducible rfl)
      try simp only [Act.put, List.setIfInBounds_toArray, List.set_cons_zero, List.set_cons_succ]
      refine wpAnyH_take (i := 8) (oi := ⟨some 72, _, _, _, _, _⟩) (v := ?v67) rfl (by kernel_rfl) (by kernel_rfl) (by kernel_rfl) (fun _ _ _ h => h) (Or.inl ⟨by rfl, ?h67⟩) (by assumption) ?r67
      case h67 => (intro w hSw; (try dsimp only at hSw); go_simp; try with_reducible rfl)
      try simp only [Act.put, List.setIfInBounds_toArray, List.set_cons_zero, List.set_cons_succ]
      refine wpAnyH_ready (rs := [6]) (by kernel_rfl) (by simp) ?_
      refine (AllReadyH.cons (o := ⟨some 70, _, _, _, _, _⟩) rfl (fun K hK => ?_) AllReadyH.nil)
      go_simp
      have HS1 := HB1
      refine (pturn_c Wp Hp Vp Ap cp _ (RP.out.kept HB1.out) (by omega)).mono ?_
      rintro e w7 ⟨v, rfl, ho, hb'⟩
      have HB1 := Lib.hid ((HB1.out).trans (hb'.mono (HB1.out).size))
      have B7 := Lib.hid ((B7.out).below hb' (B7.out).lt)
      have O7 := Lib.hid ((O7.out).kept hb')
      have B8 := Lib.hid ((B8.out).below hb' (B8.out).lt)
      have O8 := Lib.hid ((O8.out).kept hb')
      clear hb'
      rw [← ET.out] at ho ⊢
      obtain ⟨A10, c10, rfl, hq⟩ := ho.slice
      have O10 := Lib.hid (ho.lower (B' := w1.heap.size) HS1.out.size)
      clear ho hq
      refine hK.out _ _ ?hS68 (fun hHeld => ?_)
      case hS68 => exact ⟨(B3.out.below HB1.out B3.out.lt).cell 0, (B3.out.below HB1.out B3.out.lt).cell 1, (B3.out.below HB1.out B3.out.lt).cell 2, (B7.out).cell 0, (B7.out).cell 1, (B7.out).cell 2⟩
      clear hK K
      try simp only [Act.put, List.setIfInBounds_toArray, List.set_cons_zero, List.set_cons_succ]
      refine wpAnyH_ready (rs := [7]) (by kernel_rfl) (by simp) ?_
      refine (AllReadyH.cons (o := ⟨some 71, _, _, _, _, _⟩) rfl (fun K hK => ?_) AllReadyH.nil)
      go_simp
      have HS1 := HB1
      refine (pturn_c pt.W pt.H pt.V A10 c10 _ O10.out.reads (by omega)).mono ?_
      rintro e w8 ⟨v, rfl, ho, hb'⟩
      have HB1 := Lib.hid ((HB1.out).trans (hb'.mono (HB1.out).size))
      have B7 := Lib.hid ((B7.out).below hb' (B7.out).lt)
      have O7 := Lib.hid ((O7.out).kept hb')
      have B8 := Lib.hid ((B8.out).below hb' (B8.out).lt)
      have O8 := Lib.hid ((O8.out).kept hb')
      have O10 := Lib.hid ((O10.out).kept hb')
      clear hb'
      rw [TT.out.2] at ho ⊢
      obtain ⟨A11, c11, rfl, hq⟩ := ho.slice
      have O11 := Lib.hid (ho.lower (B' := w1.heap.size) HS1.out.size)
      clear ho hq
      refine hK.out _ _ ?hS69 (fun hHeld => ?_)
      case hS69 => exact ⟨(B3.out.below HB1.out B3.out.lt).cell 0, (B3.out.below HB1.out B3.out.lt).cell 1, (B3.out.below HB1.out B3.out.lt).cell 2, (B7.out).cell 0, (B7.out).cell 1, (B7.out).cell 2⟩
      clear hK K
      try simp only [Act.put, List.setIfInBounds_toArray, List.set_cons_zero, List.set_cons_succ]
      refine wpAnyH_ready (rs := [9]) (by kernel_rfl) (by simp) ?_
      refine (AllReadyH.cons (o := ⟨some 73, _, _, _, _, _⟩) rfl (fun K hK => ?_) AllReadyH.nil)
      go_simp
      have HS1 := HB1
      refine (psame_c Wp Hp Vp Wp Hp Vp A11 Ap c11 cp _ O11.out.reads (RP.out.kept HB1.out) (by omega) (by omega)).mono ?_
      rintro e w9 ⟨rfl, hb'⟩
      have HB1 := Lib.hid ((HB1.out).trans (hb'.mono (HB1.out).size))
      have B7 := Lib.hid ((B7.out).below hb' (B7.out).lt)
      have O7 := Lib.hid ((O7.out).kept hb')
      have B8 := Lib.hid ((B8.out).below hb' (B8.out).lt)
      have O8 := Lib.hid ((O8.out).kept hb')
      have O10 := Lib.hid ((O10.out).kept hb')
      have O11 := Lib.hid ((O11.out).kept hb')
      clear hb'
      rw [SS.out]
      refine hK.out _ _ ?hS70 (fun hHeld => ?_)
      case hS70 => exact ⟨(B3.out.below HB1.out B3.out.lt).cell 0, (B3.out.below HB1.out B3.out.lt).cell 1, (B3.out.below HB1.out B3.out.lt).cell 2, (B7.out).cell 0, (B7.out).cell 1, (B7.out).cell 2⟩
      clear hK K
      try simp only [Act.put, List.setIfInBounds_toArray, List.set_cons_zero, List.set_cons_succ]
      refine wpAnyH_take (i := 10) (oi := ⟨some 74, _, _, _, _, _⟩) (v := ?v71) rfl (by kernel_rfl) (by kernel_rfl) (by kernel_rfl) (fun _ _ _ h => h) (Or.inl ⟨by rfl, ?h71⟩) (by assumption) ?r71
      case h71 => (intro w hSw; (try dsimp only at hSw); go_simp; try with_reducible rfl)
      try simp only [Act.put, List.setIfInBounds_toArray, List.set_cons_zero, List.set_cons_succ]
      refine wpAnyH_take (i := 11) (oi := ⟨some 75, _, _, _, _, _⟩) (v := ?v72) rfl (by kernel_rfl) (by kernel_rfl) (by kernel_rfl) (fun _ _ _ h => h) (Or.inl ⟨by rfl, ?h72⟩) (by assumption) ?r72
      case h72 => (intro w hSw; (try dsimp only at hSw); go_simp; try with_reducible rfl)
      try simp only [Act.put, List.setIfInBounds_toArray, List.set_cons_zero, List.set_cons_succ]
      refine wpAnyH_done (by kernel_rfl) ?_ _
      clear hHeld
      go_upto_region 9 with fail
      have SA := Lib.hid (sub_add G3.out HU.out hbd.out)
      obtain ⟨pa, hpa⟩ : ∃ p, p = fillL Vp.length (fun k => wrap64 (rdn Vp k + rdn U k)) Vp.length := ⟨_, rfl⟩
      rw [← hpa] at SA
      have hla : pa.length = Vp.length := by rw [hpa]; exact fillL_length _ _ _
      have hlb : pa.length ≤ 2000 := by omega
      clear hpa hla
      have HB1 := Lib.hid ((HB1.out).drew)
      have B7 := Lib.hid ((B7.out).drew)
      have O7 := Lib.hid ((O7.out).drew)
      have B8 := Lib.hid ((B8.out).drew)
      have O8 := Lib.hid ((O8.out).drew)
      have O10 := Lib.hid ((O10.out).drew)
      have O11 := Lib.hid ((O11.out).drew)
      refine wp_region_held_drew (S := (fun w' => w'.cell? ⟨w.heap.size, 0, none⟩ = some (.int .i64 Wp) ∧ w'.cell? ⟨w.heap.size, 1, none⟩ = some (.int .i64 Hp) ∧ w'.cell? ⟨w.heap.size, 2, none⟩ = some (.slice Ap Vp.length cp) ∧ w'.cell? ⟨w.heap.size + 1, 0, none⟩ = some (.int .i64 Wq) ∧ w'.cell? ⟨w.heap.size + 1, 1, none⟩ = some (.int .i64 Hq) ∧ w'.cell? ⟨w.heap.size + 1, 2, none⟩ = some (.slice Aq Vq.length cq) ∧ w'.cell? ⟨b8, 0, none⟩ = some (.int .i64 Wp) ∧ w'.cell? ⟨b8, 1, none⟩ = some (.int .i64 Hp) ∧ w'.cell? ⟨b8, 2, none⟩ = some (.slice A8 (U).length c8))) (by kernel_rfl) ?hS0 (fun hHeld => ?_)
      case hS0 => exact ⟨(B3.out.below HB1.out B3.out.lt).cell 0, (B3.out.below HB1.out B3.out.lt).cell 1, (B3.out.below HB1.out B3.out.lt).cell 2, (B4.out.below HB1.out B4.out.lt).cell 0, (B4.out.below HB1.out B4.out.lt).cell 1, (B4.out.below HB1.out B4.out.lt).cell 2, (B8.out).cell 0, (B8.out).cell 1, (B8.out).cell 2⟩
      refine wpAnyH_take (i := 0) (oi := ⟨some 76, _, _, _, _, _⟩) (v := ?v73) rfl (by kernel_rfl) (by kernel_rfl) (by kernel_rfl) (fun _ _ _ h => h) (Or.inl ⟨by rfl, ?h73⟩) (by assumption) ?r73
      case h73 => (intro w hSw; (try dsimp only at hSw); go_simp; try with_reducible rfl)
      try simp only [Act.put, List.setIfInBounds_toArray, List.set_cons_zero, List.set_cons_succ]
      refine wpAnyH_ready (rs := [1]) (by kernel_rfl) (by simp) ?_
      refine (AllReadyH.cons (o := ⟨some 77, _, _, _, _, _⟩) rfl (fun K hK => ?_) AllReadyH.nil)
      go_simp
      have HS1 := HB1
      refine (pright_c Wq Hq Aq Vq.length cq _ hnq).mono ?_
      rintro e w10 ⟨rfl, hb'⟩
      have HB1 := Lib.hid ((HB1.out).trans (hb'.mono (HB1.out).size))
      have B7 := Lib.hid ((B7.out).below hb' (B7.out).lt)
      have O7 := Lib.hid ((O7.out).kept hb')
      have B8 := Lib.hid ((B8.out).below hb' (B8.out).lt)
      have O8 := Lib.hid ((O8.out).kept hb')
      have O10 := Lib.hid ((O10.out).kept hb')
      have O11 := Lib.hid ((O11.out).kept hb')
      clear hb'
      rw [G4.out]
      refine hK.out _ _ ?hS74 (fun hHeld => ?_)
      case hS74 => exact ⟨(B3.out.below HB1.out B3.out.lt).cell 0, (B3.out.below HB1.out B3.out.lt).cell 1, (B3.out.below HB1.out B3.out.lt).cell 2, (B4.out.below HB1.out B4.out.lt).cell 0, (B4.out.below HB1.out B4.out.lt).cell 1, (B4.out.below HB1.out B4.out.lt).cell 2, (B8.out).cell 0, (B8.out).cell 1, (B8.out).cell 2⟩
      clear hK K
      try simp only [Act.put, List.setIfInBounds_toArray, List.set_cons_zero, List.set_cons_succ]
      refine wpAnyH_take (i := 2) (oi := ⟨some 78, _, _, _, _, _⟩) (v := ?v75) rfl (by kernel_rfl) (by kernel_rfl) (by kernel_rfl) (fun _ _ _ h => h) (Or.inl ⟨by rfl, ?h75⟩) (by assumption) ?r75
      case h75 => (intro w hSw; (try dsimp only at hSw); go_simp; try with_reducible rfl)
      try simp only [Act.put, List.setIfInBounds_toArray, List.set_cons_zero, List.set_cons_succ]
      refine wpAnyH_take (i := 3) (oi := ⟨some 79, _, _, _, _, _⟩) (v := ?v76) rfl (by kernel_rfl) (by kernel_rfl) (by kernel_rfl) (fun _ _ _ h => h) (Or.inl ⟨by rfl, ?h76⟩) (by assumption) ?r76
      case h76 => (intro w hSw; (try dsimp only at hSw); go_simp; try with_reducible rfl)
      try simp only [Act.put, List.setIfInBounds_toArray, List.set_cons_zero, List.set_cons_succ]
      refine wpAnyH_take (i := 4) (oi := ⟨some 80, _, _, _, _, _⟩) (v := ?v77) rfl (by kernel_rfl) (by kernel_rfl) (by kernel_rfl) (fun _ _ _ h => h) (Or.inl ⟨by rfl, ?h77⟩) (by assumption) ?r77
      case h77 => (intro w hSw; (try dsimp only at hSw); go_simp; try with_reducible rfl)
      try simp only [Act.put, List.setIfInBounds_toArray, List.set_cons_zero, List.set_cons_succ]
      refine wpAnyH_take (i := 5) (oi := ⟨some 81, _, _, _, _, _⟩) (v := ?v78) rfl (by kernel_rfl) (by kernel_rfl) (by kernel_rfl) (fun _ _ _ h => h) (Or.inl ⟨by rfl, ?h78⟩) (by assumption) ?r78
      case h78 => (intro w hSw; (try dsimp only at hSw); go_simp; try with_reducible rfl)
      try simp only [Act.put, List.setIfInBounds_toArray, List.set_cons_zero, List.set_cons_succ]
      refine wpAnyH_take (i := 7) (oi := ⟨some 83, _, _, _, _, _⟩) (v := ?v79) rfl (by kernel_rfl) (by kernel_rfl) (by kernel_rfl) (fun _ _ _ h => h) (Or.inl ⟨by rfl, ?h79⟩) (by assumption) ?r79
      case h79 => (intro w hSw; (try dsimp only at hSw); go_simp; try with_reducible rfl)
      try simp only [Act.put, List.setIfInBounds_toArray, List.set_cons_zero, List.set_cons_succ]
      refine wpAnyH_take (i := 9) (oi := ⟨some 85, _, _, _, _, _⟩) (v := ?v80) rfl (by kernel_rfl) (by kernel_rfl) (by kernel_rfl) (fun _ _ _ h => h) (Or.inl ⟨by rfl, ?h80⟩) (by assumption) ?r80
      case h80 => (intro w hSw; (try dsimp only at hSw); go_simp; try with_reducible rfl)
      try simp only [Act.put, List.setIfInBounds_toArray, List.set_cons_zero, List.set_cons_succ]
      refine wpAnyH_ready (rs := [6]) (by kernel_rfl) (by simp) ?_
      refine (AllReadyH.cons (o := ⟨some 82, _, _, _, _, _⟩) rfl (fun K hK => ?_) AllReadyH.nil)
      go_simp
      have HS1 := HB1
      refine (padd_c Wp Hp Vp Wp Hp U Ap A8 cp c8 _ (RP.out.kept HB1.out) O8.out.reads (by omega) (by omega)).mono ?_
      rintro e w11 ⟨v, rfl, ho, hb'⟩
      have HB1 := Lib.hid ((HB1.out).trans (hb'.mono (HB1.out).size))
      have B7 := Lib.hid ((B7.out).below hb' (B7.out).lt)
      have O7 := Lib.hid ((O7.out).kept hb')
      have B8 := Lib.hid ((B8.out).below hb' (B8.out).lt)
      have O8 := Lib.hid ((O8.out).kept hb')
      have O10 := Lib.hid ((O10.out).kept hb')
      have O11 := Lib.hid ((O11.out).kept hb')
      clear hb'
      rw [SA.out.1] at ho ⊢
      obtain ⟨A12, c12, rfl, hq⟩ := ho.slice
      have O12 := Lib.hid (ho.lower (B' := w1.heap.size) HS1.out.size)
      clear ho hq
      refine hK.out _ _ ?hS81 (fun hHeld => ?_)
      case hS81 => exact ⟨(B3.out.below HB1.out B3.out.lt).cell 0, (B3.out.below HB1.out B3.out.lt).cell 1, (B3.out.below HB1.out B3.out.lt).cell 2, (B4.out.below HB1.out B4.out.lt).cell 0, (B4.out.below HB1.out B4.out.lt).cell 1, (B4.out.below HB1.out B4.out.lt).cell 2, (B8.out).cell 0, (B8.out).cell 1, (B8.out).cell 2⟩
      clear hK K
      try simp only [Act.put, List.setIfInBounds_toArray, List.set_cons_zero, List.set_cons_succ]
      refine wpAnyH_ready (rs := [8]) (by kernel_rfl) (by simp) ?_
      refine (AllReadyH.cons (o := ⟨some 84, _, _, _, _, _⟩) rfl (fun K hK => ?_) AllReadyH.nil)
      go_simp
      have HS1 := HB1
      refine (psub_c Wp Hp pa Wp Hp U A12 A8 c12 c8 _ O12.out.reads O8.out.reads (by omega) (by omega)).mono ?_
      rintro e w12 ⟨v, rfl, ho, hb'⟩
      have HB1 := Lib.hid ((HB1.out).trans (hb'.mono (HB1.out).size))
      have B7 := Lib.hid ((B7.out).below hb' (B7.out).lt)
      have O7 := Lib.hid ((O7.out).kept hb')
      have B8 := Lib.hid ((B8.out).below hb' (B8.out).lt)
      have O8 := Lib.hid ((O8.out).kept hb')
      have O10 := Lib.hid ((O10.out).kept hb')
      have O11 := Lib.hid ((O11.out).kept hb')
      have O12 := Lib.hid ((O12.out).kept hb')
      clear hb'
      rw [SA.out.2] at ho ⊢
      obtain ⟨A13, c13, rfl, hq⟩ := ho.slice
      have O13 := Lib.hid (ho.lower (B' := w1.heap.size) HS1.out.size)
      clear ho hq
      refine hK.out _ _ ?hS82 (fun hHeld => ?_)
      case hS82 => exact ⟨(B3.out.below HB1.out B3.out.lt).cell 0, (B3.out.below HB1.out B3.out.lt).cell 1, (B3.out.below HB1.out B3.out.lt).cell 2, (B4.out.below HB1.out B4.out.lt).cell 0, (B4.out.below HB1.out B4.out.lt).cell 1, (B4.out.below HB1.out B4.out.lt).cell 2, (B8.out).cell 0, (B8.out).cell 1, (B8.out).cell 2⟩
      clear hK K
      try simp only [Act.put, List.setIfInBounds_toArray, List.set_cons_zero, List.set_cons_succ]
      refine wpAnyH_ready (rs := [10]) (by kernel_rfl) (by simp) ?_
      refine (AllReadyH.cons (o := ⟨some 86, _, _, _, _, _⟩) rfl (fun K hK => ?_) AllReadyH.nil)
      go_simp
      have HS1 := HB1
      refine (psame_c Wp Hp Vp Wp Hp Vp A13 Ap c13 cp _ O13.out.reads (RP.out.kept HB1.out) (by omega) (by omega)).mono ?_
      rintro e w13 ⟨rfl, hb'⟩
      have HB1 := Lib.hid ((HB1.out).trans (hb'.mono (HB1.out).size))
      have B7 := Lib.hid ((B7.out).below hb' (B7.out).lt)
      have O7 := Lib.hid ((O7.out).kept hb')
      have B8 := Lib.hid ((B8.out).below hb' (B8.out).lt)
      have O8 := Lib.hid ((O8.out).kept hb')
      have O10 := Lib.hid ((O10.out).kept hb')
      have O11 := Lib.hid ((O11.out).kept hb')
      have O12 := Lib.hid ((O12.out).kept hb')
      have O13 := Lib.hid ((O13.out).kept hb')
      clear hb'
      rw [SS.out]
      refine hK.out _ _ ?hS83 (fun hHeld => ?_)
      case hS83 => exact ⟨(B3.out.below HB1.out B3.out.lt).cell 0, (B3.out.below HB1.out B3.out.lt).cell 1, (B3.out.below HB1.out B3.out.lt).cell 2, (B4.out.below HB1.out B4.out.lt).cell 0, (B4.out.below HB1.out B4.out.lt).cell 1, (B4.out.below HB1.out B4.out.lt).cell 2, (B8.out).cell 0, (B8.out).cell 1, (B8.out).cell 2⟩
      clear hK K
      try simp only [Act.put, List.setIfInBounds_toArray, List.set_cons_zero, List.set_cons_succ]
      refine wpAnyH_take (i := 11) (oi := ⟨some 87, _, _, _, _, _⟩) (v := ?v84) rfl (by kernel_rfl) (by kernel_rfl) (by kernel_rfl) (fun _ _ _ h => h) (Or.inl ⟨by rfl, ?h84⟩) (by assumption) ?r84
      case h84 => (intro w hSw; (try dsimp only at hSw); go_simp; try with_reducible rfl)
      try simp only [Act.put, List.setIfInBounds_toArray, List.set_cons_zero, List.set_cons_succ]
      refine wpAnyH_take (i := 12) (oi := ⟨some 6, _, _, _, _, _⟩) (v := ?v85) rfl (by kernel_rfl) (by kernel_rfl) (by kernel_rfl) (fun _ _ _ h => h) (Or.inl ⟨by rfl, ?h85⟩) (by assumption) ?r85
      case h85 => (intro w hSw; (try dsimp only at hSw); go_simp; try with_reducible rfl)
      try simp only [Act.put, List.setIfInBounds_toArray, List.set_cons_zero, List.set_cons_succ]
      refine wpAnyH_done (by kernel_rfl) ?_ _
      clear hHeld
      go_wp2_with fail
      go_ret
      exact ⟨rfl, HB.out.trans (HB1.out.mono HB.out.size)⟩

set_option maxRecDepth 100000 in
set_option maxHeartbeats 16000000 in
theorem pback_n (Wp Hp : Int) (Vp : List Int) (Ap : Option Addr) (cp : Nat) (Wq Hq : Int) (Vq : List Int) (Aq : Option Addr) (cq : Nat) (l m : Int) (w : World) (hp : ReadsI w Ap Vp) (hq : ReadsI w Aq Vq) (hnp : Vp.length ≤ 9223372036854775807) (hnq : Vq.length ≤ 9223372036854775807) (hbd : Hid (∀ z ∈ Vp, -9223372036854775808 ≤ z ∧ z ≤ 9223372036854775807)) (hl0 : 0 ≤ l) (hl1 : l ≤ 255) (hm0 : 0 ≤ m) (hm1 : m ≤ 255) (h1 : ¬ 2000 < Vp.length) (h2 : ¬ 2000 < Vq.length) (h3 : okB Wp Hp Vp.length = true) (h4 : okB Wq Hq Vq.length = false) :
    Calls Try.prog 3 #[plV Wp Hp (.slice Ap Vp.length cp), plV Wq Hq (.slice Aq Vq.length cq), .agg #[.int .u8 l, .int .u8 m]] w fun e w' => e = .returned (.bool true) ∧ Below w.heap.size w w' := by
  have RP := Lib.hid hp
  have RQ := Lib.hid hq
  have HB := Lib.hid (Below.refl w.heap.size w)
  have G1 := Lib.hid (decide_eq_false h1)
  have G2 := Lib.hid (decide_eq_false h2)
  have G3 := Lib.hid h3
  have G4 := Lib.hid h4
  have hnp2 : Vp.length ≤ 2000 := by omega
  have hnq2 : Vq.length ≤ 2000 := by omega
  obtain ⟨s1, s2, s3, s4, _⟩ := okB_t h3
  obtain ⟨r0, hr0⟩ : ∃ r : Nat, l.tmod 20 = r := ⟨(l.tmod 20).toNat, by rw [Int.tmod_eq_emod_of_nonneg hl0]; omega⟩
  obtain ⟨r1, hr1⟩ : ∃ r : Nat, m.tmod 20 = r := ⟨(m.tmod 20).toNat, by rw [Int.tmod_eq_emod_of_nonneg hm0]; omega⟩
  have hr2 : r0 < 20 := by rw [Int.tmod_eq_emod_of_nonneg hl0] at hr0; omega
  have hr3 : r1 < 20 := by rw [Int.tmod_eq_emod_of_nonneg hm0] at hr1; omega
  have Q0 := Lib.hid hr0
  have Q1 := Lib.hid hr1
  clear hr0 hr1 h1 h2 h3 h4
  clear hp hq
  go_enter Try.func3, Try.ntmps3
  go_wp2_with fail
  have RP := Lib.hid ((((RP.out).alloc (.cells #[.int .i64 Wp, .int .i64 Hp, .slice Ap Vp.length cp] 24)).alloc (.cells #[.int .i64 Wq, .int .i64 Hq, .slice Aq Vq.length cq] 24)).alloc (.cells #[.int .u8 l, .int .u8 m] 25))
  have RQ := Lib.hid ((((RQ.out).alloc (.cells #[.int .i64 Wp, .int .i64 Hp, .slice Ap Vp.length cp] 24)).alloc (.cells #[.int .i64 Wq, .int .i64 Hq, .slice Aq Vq.length cq] 24)).alloc (.cells #[.int .u8 l, .int .u8 m] 25))
  have HB := Lib.hid (below_alloc_ (below_alloc_ (below_alloc_ (HB.out) (.cells #[.int .i64 Wp, .int .i64 Hp, .slice Ap Vp.length cp] 24)) (.cells #[.int .i64 Wq, .int .i64 Hq, .slice Aq Vq.length cq] 24)) (.cells #[.int .u8 l, .int .u8 m] 25))
  have hzw : (((w.alloc (.cells #[.int .i64 Wp, .int .i64 Hp, .slice Ap Vp.length cp] 24)).alloc (.cells #[.int .i64 Wq, .int .i64 Hq, .slice Aq Vq.length cq] 24)).alloc (.cells #[.int .u8 l, .int .u8 m] 25)).heap.size = w.heap.size + 3 := by simp only [World.size_alloc]
  have B3 := ((Blk.new (w) 24 #[.int .i64 Wp, .int .i64 Hp, .slice Ap Vp.length cp]).alloc (.cells #[.int .i64 Wq, .int .i64 Hq, .slice Aq Vq.length cq] 24)).alloc (.cells #[.int .u8 l, .int .u8 m] 25)
  skip
  have B3 := Lib.hid B3
  have B4 := (Blk.new (w.alloc (.cells #[.int .i64 Wp, .int .i64 Hp, .slice Ap Vp.length cp] 24)) 24 #[.int .i64 Wq, .int .i64 Hq, .slice Aq Vq.length cq]).alloc (.cells #[.int .u8 l, .int .u8 m] 25)
  rw [show (w.alloc (.cells #[.int .i64 Wp, .int .i64 Hp, .slice Ap Vp.length cp] 24)).heap.size = w.heap.size + 1 by simp only [World.size_alloc]] at B4
  have B4 := Lib.hid B4
  have B5 := Blk.new ((w.alloc (.cells #[.int .i64 Wp, .int .i64 Hp, .slice Ap Vp.length cp] 24)).alloc (.cells #[.int .i64 Wq, .int .i64 Hq, .slice Aq Vq.length cq] 24)) 25 #[.int .u8 l, .int .u8 m]
  rw [show ((w.alloc (.cells #[.int .i64 Wp, .int .i64 Hp, .slice Ap Vp.length cp] 24)).alloc (.cells #[.int .i64 Wq, .int .i64 Hq, .slice Aq Vq.length cq] 24)).heap.size = w.heap.size + 1 + 1 by simp only [World.size_alloc]] at B5
  have B5 := Lib.hid B5
  generalize ((w.alloc (.cells #[.int .i64 Wp, .int .i64 Hp, .slice Ap Vp.length cp] 24)).alloc (.cells #[.int .i64 Wq, .int .i64 Hq, .slice Aq Vq.length cq] 24)).alloc (.cells #[.int .u8 l, .int .u8 m] 25) = w1 at *
  clear hzw
  have HB1 := Lib.hid (Below.refl w1.heap.size w1)
  refine (first_c _).mono ?_
  rintro e w2 ⟨rfl, hb'⟩
  have HB1 := Lib.hid ((HB1.out).trans (hb'.mono (HB1.out).size))
  clear hb'
  obtain ⟨zB30, zB31, zB32⟩ := (B3.out.below HB1.out B3.out.lt).cells3
  obtain ⟨zB40, zB41, zB42⟩ := (B4.out.below HB1.out B4.out.lt).cells3
  obtain ⟨zB50, zB51⟩ := (B5.out.below HB1.out B5.out.lt).cells2
  go_wp2_with fail
  refine (pbig_c Wp Hp Ap Vp.length cp _ hnp).mono ?_
  rintro e w3 ⟨rfl, hb'⟩
  have HB1 := Lib.hid ((HB1.out).trans (hb'.mono (HB1.out).size))
  clear hb'
  clear zB30 zB31 zB32
  clear zB40 zB41 zB42
  clear zB50 zB51
  rw [G1.out]
  obtain ⟨zB30, zB31, zB32⟩ := (B3.out.below HB1.out B3.out.lt).cells3
  obtain ⟨zB40, zB41, zB42⟩ := (B4.out.below HB1.out B4.out.lt).cells3
  obtain ⟨zB50, zB51⟩ := (B5.out.below HB1.out B5.out.lt).cells2
  go_wp2_with fail
  refine (pbig_c Wq Hq Aq Vq.length cq _ hnq).mono ?_
  rintro e w4 ⟨rfl, hb'⟩
  have HB1 := Lib.hid ((HB1.out).trans (hb'.mono (HB1.out).size))
  clear hb'
  clear zB30 zB31 zB32
  clear zB40 zB41 zB42
  clear zB50 zB51
  rw [G2.out]
  obtain ⟨zB30, zB31, zB32⟩ := (B3.out.below HB1.out B3.out.lt).cells3
  obtain ⟨zB40, zB41, zB42⟩ := (B4.out.below HB1.out B4.out.lt).cells3
  obtain ⟨zB50, zB51⟩ := (B5.out.below HB1.out B5.out.lt).cells2
  go_wp2_with fail
  refine (pright_c Wp Hp Ap Vp.length cp _ hnp).mono ?_
  rintro e w5 ⟨rfl, hb'⟩
  have HB1 := Lib.hid ((HB1.out).trans (hb'.mono (HB1.out).size))
  clear hb'
  clear zB30 zB31 zB32
  clear zB40 zB41 zB42
  clear zB50 zB51
  rw [G3.out]
  go_upto_region 5 with fail
  go_cut [7] (fun s wx => ∃ b7 A7 c7, s = .pointer (some ⟨b7, 0, none⟩) ∧ w1.heap.size ≤ b7 ∧ Blk wx b7 24 #[.int .i64 Wp, .int .i64 Hp, .slice A7 Vp.length c7] ∧ OwnI wx w1.heap.size (.slice A7 Vp.length c7) Vp ∧ Below w1.heap.size w1 wx)
  case first =>
    have F1 := Q0.out
    have F2 := Q1.out
    have F3 : IntKind.i64.wrap (r0 : Int) = r0 := IntWalk.i64_in _ (by omega)
    have F4 : IntKind.i64.wrap (r1 : Int) = r1 := IntWalk.i64_in _ (by omega)
    have F5 : IntKind.i64.wrap (Wp + (r0 : Int)) = Wp + r0 := IntWalk.i64_in _ (by omega)
    have F6 : IntKind.i64.wrap (Hp + (r1 : Int)) = Hp + r1 := IntWalk.i64_in _ (by omega)
    obtain ⟨x0, F7⟩ : ∃ x, (if Wp + (r0 : Int) < 1024 then Wp + (r0 : Int) else 1024) = x := ⟨_, rfl⟩
    obtain ⟨y0, F8⟩ : ∃ x, (if Hp + (r1 : Int) < 1024 then Hp + (r1 : Int) else 1024) = x := ⟨_, rfl⟩
    have X1 : Wp ≤ x0 ∧ x0 ≤ 1024 := by rw [← F7]; split <;> omega
    have X2 : Hp ≤ y0 ∧ y0 ≤ 1024 := by rw [← F8]; split <;> omega
    have XC := Lib.hid (crop_pad G3.out X1.1 X1.2 X2.1 X2.2)
    obtain ⟨p5, hp5⟩ : ∃ p, p = padP Wp Hp Vp x0 y0 := ⟨_, rfl⟩
    rw [← hp5] at XC
    have EP5 := Lib.hid hp5
    have hl5 : p5.V.length ≤ 1048576 := by have h := okB_t XC.out.1; have := area_bd h.1 h.2.1 h.2.2.1 h.2.2.2.1; omega
    clear hp5 X1 X2
    have HB1 := Lib.hid ((HB1.out).drew)
    refine wp_region_held_drew (S := (fun w' => w'.cell? ⟨w.heap.size, 0, none⟩ = some (.int .i64 Wp) ∧ w'.cell? ⟨w.heap.size, 1, none⟩ = some (.int .i64 Hp) ∧ w'.cell? ⟨w.heap.size, 2, none⟩ = some (.slice Ap Vp.length cp) ∧ w'.cell? ⟨w.heap.size + 1, 0, none⟩ = some (.int .i64 Wq) ∧ w'.cell? ⟨w.heap.size + 1, 1, none⟩ = some (.int .i64 Hq) ∧ w'.cell? ⟨w.heap.size + 1, 2, none⟩ = some (.slice Aq Vq.length cq) ∧ w'.cell? ⟨w.heap.size + 1 + 1, 0, none⟩ = some (.int .u8 l) ∧ w'.cell? ⟨w.heap.size + 1 + 1, 1, none⟩ = some (.int .u8 m))) (by kernel_rfl) ?hS0 (fun hHeld => ?_)
    case hS0 => exact ⟨(B3.out.below HB1.out B3.out.lt).cell 0, (B3.out.below HB1.out B3.out.lt).cell 1, (B3.out.below HB1.out B3.out.lt).cell 2, (B4.out.below HB1.out B4.out.lt).cell 0, (B4.out.below HB1.out B4.out.lt).cell 1, (B4.out.below HB1.out B4.out.lt).cell 2, (B5.out.below HB1.out B5.out.lt).cell 0, (B5.out.below HB1.out B5.out.lt).cell 1⟩
    refine wpAnyH_take (i := 0) (oi := ⟨some 22, _, _, _, _, _⟩) (v := ?v86) rfl (by kernel_rfl) (by kernel_rfl) (by kernel_rfl) (fun _ _ _ h => h) (Or.inl ⟨by rfl, ?h86⟩) (by assumption) ?r86
    case h86 => (intro w hSw; (try dsimp only at hSw); go_simp; try with_reducible rfl)
    try simp only [Act.put, List.setIfInBounds_toArray, List.set_cons_zero, List.set_cons_succ]
    refine wpAnyH_take (i := 1) (oi := ⟨some 23, _, _, _, _, _⟩) (v := ?v87) rfl (by kernel_rfl) (by kernel_rfl) (by kernel_rfl) (fun _ _ _ h => h) (Or.inl ⟨by rfl, ?h87⟩) (by assumption) ?r87
    case h87 => (intro w hSw; (try dsimp only at hSw); go_simp; try with_reducible rfl)
    try simp only [Act.put, List.setIfInBounds_toArray, List.set_cons_zero, List.set_cons_succ]
    refine wpAnyH_take (i := 2) (oi := ⟨some 24, _, _, _, _, _⟩) (v := ?v88) rfl (by kernel_rfl) (by kernel_rfl) (by kernel_rfl) (fun _ _ _ h => h) (Or.inl ⟨by rfl, ?h88⟩) (by assumption) ?r88
    case h88 => (intro w hSw; (try dsimp only at hSw); go_simp; try with_reducible rfl)
    try simp only [Act.put, List.setIfInBounds_toArray, List.set_cons_zero, List.set_cons_succ]
    refine wpAnyH_take (i := 3) (oi := ⟨some 25, _, _, _, _, _⟩) (v := ?v89) rfl (by kernel_rfl) (by kernel_rfl) (by kernel_rfl) (fun _ _ _ h => h) (Or.inl ⟨by rfl, ?h89⟩) (by assumption) ?r89
    case h89 => (intro w hSw; (try dsimp only at hSw); go_simp; try with_reducible rfl)
    try simp only [Act.put, List.setIfInBounds_toArray, List.set_cons_zero, List.set_cons_succ]
    refine wpAnyH_take (i := 4) (oi := ⟨some 26, _, _, _, _, _⟩) (v := ?v90) rfl (by kernel_rfl) (by kernel_rfl) (by kernel_rfl) (fun _ _ _ h => h) (Or.inl ⟨by rfl, ?h90⟩) (by assumption) ?r90
    case h90 => (intro w hSw; (try dsimp only at hSw); go_simp; try with_reducible rfl)
    try simp only [Act.put, List.setIfInBounds_toArray, List.set_cons_zero, List.set_cons_succ]
    refine wpAnyH_take (i := 5) (oi := ⟨some 27, _, _, _, _, _⟩) (v := ?v91) rfl (by kernel_rfl) (by kernel_rfl) (by kernel_rfl) (fun _ _ _ h => h) (Or.inl ⟨by rfl, ?h91⟩) (by assumption) ?r91
    case h91 => (intro w hSw; (try dsimp only at hSw); go_simp; try with_reducible rfl)
    try simp only [Act.put, List.setIfInBounds_toArray, List.set_cons_zero, List.set_cons_succ]
    refine wpAnyH_take (i := 6) (oi := ⟨some 28, _, _, _, _, _⟩) (v := ?v92) rfl (by kernel_rfl) (by kernel_rfl) (by kernel_rfl) (fun _ _ _ h => h) (Or.inl ⟨by rfl, ?h92⟩) (by assumption) ?r92
    case h92 => (intro w hSw; (try dsimp only at hSw); go_simp; try with_reducible rfl)
    try simp only [Act.put, List.setIfInBounds_toArray, List.set_cons_zero, List.set_cons_succ]
    refine wpAnyH_take (i := 7) (oi := ⟨some 29, _, _, _, _, _⟩) (v := ?v93) rfl (by kernel_rfl) (by kernel_rfl) (by kernel_rfl) (fun _ _ _ h => h) (Or.inl ⟨by rfl, ?h93⟩) (by assumption) ?r93
    case h93 => (intro w hSw; (try dsimp only at hSw); go_simp; try with_reducible rfl)
    try simp only [Act.put, List.setIfInBounds_toArray, List.set_cons_zero, List.set_cons_succ]
    refine wpAnyH_take (i := 8) (oi := ⟨some 30, _, _, _, _, _⟩) (v := ?v94) rfl (by kernel_rfl) (by kernel_rfl) (by kernel_rfl) (fun _ _ _ h => h) (Or.inl ⟨by rfl, ?h94⟩) (by assumption) ?r94
    case h94 => (intro w hSw; (try dsimp only at hSw); go_simp; try with_reducible rfl)
    try simp only [Act.put, List.setIfInBounds_toArray, List.set_cons_zero, List.set_cons_succ]
    refine wpAnyH_take (i := 9) (oi := ⟨some 31, _, _, _, _, _⟩) (v := ?v95) rfl (by kernel_rfl) (by kernel_rfl) (by kernel_rfl) (fun _ _ _ h => h) (Or.inl ⟨by rfl, ?h95⟩) (by assumption) ?r95
    case h95 => (intro w hSw; (try dsimp only at hSw); go_simp; try with_reducible rfl)
    try simp only [Act.put, List.setIfInBounds_toArray, List.set_cons_zero, List.set_cons_succ]
    refine wpAnyH_take (i := 10) (oi := ⟨some 32, _, _, _, _, _⟩) (v := ?v96) rfl (by kernel_rfl) (by kernel_rfl) (by kernel_rfl) (fun _ _ _ h => h) (Or.inl ⟨by rfl, ?h96⟩) (by assumption) ?r96
    case h96 => (intro w hSw; (try dsimp only at hSw); go_simp; try with_reducible rfl)
    try simp only [Act.put, List.setIfInBounds_toArray, List.set_cons_zero, List.set_cons_succ]
    refine wpAnyH_take (i := 11) (oi := ⟨some 33, _, _, _, _, _⟩) (v := ?v97) rfl (by kernel_rfl) (by kernel_rfl) (by kernel_rfl) (fun _ _ _ h => h) (Or.inl ⟨by rfl, ?h97⟩) (by assumption) ?r97
    case h97 => (intro w hSw; (try dsimp only at hSw); go_simp; try with_reducible rfl)
    try simp only [Act.put, List.setIfInBounds_toArray, List.set_cons_zero, List.set_cons_succ]
    refine wpAnyH_take (i := 12) (oi := ⟨some 34, _, _, _, _, _⟩) (v := ?v98) rfl (by kernel_rfl) (by kernel_rfl) (by kernel_rfl) (fun _ _ _ h => h) (Or.inl ⟨by rfl, ?h98⟩) (by assumption) ?r98
    case h98 => (intro w hSw; (try dsimp only at hSw); go_simp; try with_reducible rfl)
    try simp only [Act.put, List.setIfInBounds_toArray, List.set_cons_zero, List.set_cons_succ]
    refine wpAnyH_take (i := 13) (oi := ⟨some 35, _, _, _, _, _⟩) (v := ?v99) rfl (by kernel_rfl) (by kernel_rfl) (by kernel_rfl) (fun _ _ _ h => h) (Or.inl ⟨by rfl, ?h99⟩) (by assumption) ?r99
    case h99 => (intro w hSw; (try dsimp only at hSw); go_simp; try with_reducible rfl)
    try simp only [Act.put, List.setIfInBounds_toArray, List.set_cons_zero, List.set_cons_succ]
    refine wpAnyH_take (i := 14) (oi := ⟨some 36, _, _, _, _, _⟩) (v := ?v100) rfl (by kernel_rfl) (by kernel_rfl) (by kernel_rfl) (fun _ _ _ h => h) (Or.inl ⟨by rfl, ?h100⟩) (by assumption) ?r100
    case h100 => (intro w hSw; (try dsimp only at hSw); go_simp; try with_reducible rfl)
    try simp only [Act.put, List.setIfInBounds_toArray, List.set_cons_zero, List.set_cons_succ]
    refine wpAnyH_take (i := 15) (oi := ⟨some 37, _, _, _, _, _⟩) (v := ?v101) rfl (by kernel_rfl) (by kernel_rfl) (by kernel_rfl) (fun _ _ _ h => h) (Or.inl ⟨by rfl, ?h101⟩) (by assumption) ?r101
    case h101 => (intro w hSw; (try dsimp only at hSw); go_simp; try with_reducible rfl)
    try simp only [Act.put, List.setIfInBounds_toArray, List.set_cons_zero, List.set_cons_succ]
    refine wpAnyH_take (i := 16) (oi := ⟨some 38, _, _, _, _, _⟩) (v := ?v102) rfl (by kernel_rfl) (by kernel_rfl) (by kernel_rfl) (fun _ _ _ h => h) (Or.inl ⟨by rfl, ?h102⟩) (by assumption) ?r102
    case h102 => (intro w hSw; (try dsimp only at hSw); go_simp; try with_reducible rfl)
    try simp only [Act.put, List.setIfInBounds_toArray, List.set_cons_zero, List.set_cons_succ]
    refine wpAnyH_take (i := 18) (oi := ⟨some 40, _, _, _, _, _⟩) (v := ?v103) rfl (by kernel_rfl) (by kernel_rfl) (by kernel_rfl) (fun _ _ _ h => h) (Or.inl ⟨by rfl, ?h103⟩) (by assumption) ?r103
    case h103 => (intro w hSw; (try dsimp only at hSw); go_simp; try with_reducible rfl)
    try simp only [Act.put, List.setIfInBounds_toArray, List.set_cons_zero, List.set_cons_succ]
    refine wpAnyH_take (i := 19) (oi := ⟨some 41, _, _, _, _, _⟩) (v := ?v104) rfl (by kernel_rfl) (by kernel_rfl) (by kernel_rfl) (fun _ _ _ h => h) (Or.inl ⟨by rfl, ?h104⟩) (by assumption) ?r104
    case h104 => (intro w hSw; (try dsimp only at hSw); go_simp; try with_reducible rfl)
    try simp only [Act.put, List.setIfInBounds_toArray, List.set_cons_zero, List.set_cons_succ]
    refine wpAnyH_take (i := 20) (oi := ⟨some 42, _, _, _, _, _⟩) (v := ?v105) rfl (by kernel_rfl) (by kernel_rfl) (by kernel_rfl) (fun _ _ _ h => h) (Or.inl ⟨by rfl, ?h105⟩) (by assumption) ?r105
    case h105 => (intro w hSw; (try dsimp only at hSw); go_simp; try with_reducible rfl)
    try simp only [Act.put, List.setIfInBounds_toArray, List.set_cons_zero, List.set_cons_succ]
    refine wpAnyH_take (i := 21) (oi := ⟨some 43, _, _, _, _, _⟩) (v := ?v106) rfl (by kernel_rfl) (by kernel_rfl) (by kernel_rfl) (fun _ _ _ h => h) (Or.inl ⟨by rfl, ?h106⟩) (by assumption) ?r106
    case h106 => (intro w hSw; (try dsimp only at hSw); go_simp; try with_reducible rfl)
    try simp only [Act.put, List.setIfInBounds_toArray, List.set_cons_zero, List.set_cons_succ]
    refine wpAnyH_ready (rs := [17, 23]) (by kernel_rfl) (by simp) ?_
    refine (AllReadyH.cons (o := ⟨some 39, _, _, _, _, _⟩) rfl (fun K hK => ?_) (AllReadyH.cons (o := ⟨some 7, _, _, _, _, _⟩) rfl (fun K hK => ?_) AllReadyH.nil))
    · skip
      go_simp
      have HS1 := HB1
      refine (ppad_c Wp Hp Vp Ap cp x0 y0 _ (RP.out.kept HB1.out) (by omega)).mono ?_
      rintro e w6 ⟨v, rfl, ho, hb'⟩
      have HB1 := Lib.hid ((HB1.out).trans (hb'.mono (HB1.out).size))
      clear hb'
      rw [← EP5.out] at ho ⊢
      obtain ⟨A5, c5, rfl, hq⟩ := ho.slice
      have O5 := Lib.hid (ho.lower (B' := w1.heap.size) HS1.out.size)
      clear ho hq
      refine hK.out _ _ ?hS107 (fun hHeld => ?_)
      case hS107 => exact ⟨(B3.out.below HB1.out B3.out.lt).cell 0, (B3.out.below HB1.out B3.out.lt).cell 1, (B3.out.below HB1.out B3.out.lt).cell 2, (B4.out.below HB1.out B4.out.lt).cell 0, (B4.out.below HB1.out B4.out.lt).cell 1, (B4.out.below HB1.out B4.out.lt).cell 2, (B5.out.below HB1.out B5.out.lt).cell 0, (B5.out.below HB1.out B5.out.lt).cell 1⟩
      clear hK K
      try simp only [Act.put, List.setIfInBounds_toArray, List.set_cons_zero, List.set_cons_succ]
      refine wpAnyH_ready (rs := [22, 23]) (by kernel_rfl) (by simp) ?_
      refine (AllReadyH.cons (o := ⟨some 44, _, _, _, _, _⟩) rfl (fun K hK => ?_) (AllReadyH.cons (o := ⟨some 7, _, _, _, _, _⟩) rfl (fun K hK => ?_) AllReadyH.nil))
      · skip
        go_simp
        have HS1 := HB1
        refine (pcrop_c p5.W p5.H p5.V A5 c5 Wp Hp _ O5.out.reads (by omega)).mono ?_
        rintro e w7 ⟨v, rfl, ho, hb'⟩
        have HB1 := Lib.hid ((HB1.out).trans (hb'.mono (HB1.out).size))
        have O5 := Lib.hid ((O5.out).kept hb')
        clear hb'
        rw [XC.out.2] at ho ⊢
        obtain ⟨A7, c7, rfl, hq⟩ := ho.slice
        have O7 := Lib.hid (ho.lower (B' := w1.heap.size) HS1.out.size)
        clear ho hq
        refine hK.out _ _ ?hS108 (fun hHeld => ?_)
        case hS108 => exact ⟨(B3.out.below HB1.out B3.out.lt).cell 0, (B3.out.below HB1.out B3.out.lt).cell 1, (B3.out.below HB1.out B3.out.lt).cell 2, (B4.out.below HB1.out B4.out.lt).cell 0, (B4.out.below HB1.out B4.out.lt).cell 1, (B4.out.below HB1.out B4.out.lt).cell 2, (B5.out.below HB1.out B5.out.lt).cell 0, (B5.out.below HB1.out B5.out.lt).cell 1⟩
        clear hK K
        try simp only [Act.put, List.setIfInBounds_toArray, List.set_cons_zero, List.set_cons_succ]
        refine wpAnyH_ready (rs := [23]) (by kernel_rfl) (by simp) ?_
        refine (AllReadyH.cons (o := ⟨some 7, _, _, _, _, _⟩) rfl (fun K hK => ?_) AllReadyH.nil)
        go_simp
        have hlt := HB1.out.size
        have HB1 := Lib.hid (below_alloc_ (HB1.out) (.cells #[.int .i64 0, .int .i64 0, .slice none 0 0] 24))
        have O5 := Lib.hid ((O5.out).alloc (.cells #[.int .i64 0, .int .i64 0, .slice none 0 0] 24))
        have O7 := Lib.hid ((O7.out).alloc (.cells #[.int .i64 0, .int .i64 0, .slice none 0 0] 24))
        have hzw : (w7.alloc (.cells #[.int .i64 0, .int .i64 0, .slice none 0 0] 24)).heap.size = w7.heap.size + 1 := by simp only [World.size_alloc]
        have B7 := Blk.new (w7) 24 #[.int .i64 0, .int .i64 0, .slice none 0 0]
        skip
        have B7 := Lib.hid B7
        generalize w7.alloc (.cells #[.int .i64 0, .int .i64 0, .slice none 0 0] 24) = w8 at *
        have hgeB7 : w1.heap.size ≤ w7.heap.size := hlt
        clear hzw hlt
        refine hK.out _ _ ?hS109 (fun hHeld => ?_)
        case hS109 => exact ⟨(B3.out.below HB1.out B3.out.lt).cell 0, (B3.out.below HB1.out B3.out.lt).cell 1, (B3.out.below HB1.out B3.out.lt).cell 2, (B4.out.below HB1.out B4.out.lt).cell 0, (B4.out.below HB1.out B4.out.lt).cell 1, (B4.out.below HB1.out B4.out.lt).cell 2, (B5.out.below HB1.out B5.out.lt).cell 0, (B5.out.below HB1.out B5.out.lt).cell 1⟩
        clear hK K
        try simp only [Act.put, List.setIfInBounds_toArray, List.set_cons_zero, List.set_cons_succ]
        refine wpAnyH_ready (rs := [24]) (by kernel_rfl) (by simp) ?_
        refine (AllReadyH.cons (o := ⟨none, _, _, _, _, _⟩) rfl (fun K hK => ?_) AllReadyH.nil)
        obtain ⟨⟨q0, q1, q2⟩, f0, f1, f2⟩ := B7.out.three
        go_simp
        clear q0 q1 q2 f0 f1 f2
        obtain ⟨k1, k2, k3⟩ := ret_plane B7.out (.int .i64 Wp) (.int .i64 Hp) (.slice A7 Vp.length c7)
        have B7 := Lib.hid k1
        have O5 := Lib.hid (k2 _ _ _ O5.out)
        have O7 := Lib.hid (k2 _ _ _ O7.out)
        have HB1 := Lib.hid (k3 _ _ HB1.out hgeB7)
        clear k1 k2 k3
        refine hK.out _ _ ?hS110 (fun hHeld => ?_)
        case hS110 => exact ⟨(B3.out.below HB1.out B3.out.lt).cell 0, (B3.out.below HB1.out B3.out.lt).cell 1, (B3.out.below HB1.out B3.out.lt).cell 2, (B4.out.below HB1.out B4.out.lt).cell 0, (B4.out.below HB1.out B4.out.lt).cell 1, (B4.out.below HB1.out B4.out.lt).cell 2, (B5.out.below HB1.out B5.out.lt).cell 0, (B5.out.below HB1.out B5.out.lt).cell 1⟩
        clear hK K
        try simp only [Act.put, List.setIfInBounds_toArray, List.set_cons_zero, List.set_cons_succ]
        refine wpAnyH_done (by kernel_rfl) ?_ _
        clear hHeld
        go_wp2_with fail
        go_meet
        exact ⟨_, _, _, rfl, hgeB7, B7.out, O7.out, HB1.out⟩
      · skip
        go_simp
        have hlt := HB1.out.size
        have HB1 := Lib.hid (below_alloc_ (HB1.out) (.cells #[.int .i64 0, .int .i64 0, .slice none 0 0] 24))
        have O5 := Lib.hid ((O5.out).alloc (.cells #[.int .i64 0, .int .i64 0, .slice none 0 0] 24))
        have hzw : (w6.alloc (.cells #[.int .i64 0, .int .i64 0, .slice none 0 0] 24)).heap.size = w6.heap.size + 1 := by simp only [World.size_alloc]
        have B7 := Blk.new (w6) 24 #[.int .i64 0, .int .i64 0, .slice none 0 0]
        skip
        have B7 := Lib.hid B7
        generalize w6.alloc (.cells #[.int .i64 0, .int .i64 0, .slice none 0 0] 24) = w7 at *
        have hgeB7 : w1.heap.size ≤ w6.heap.size := hlt
        clear hzw hlt
        refine hK.out _ _ ?hS111 (fun hHeld => ?_)
        case hS111 => exact ⟨(B3.out.below HB1.out B3.out.lt).cell 0, (B3.out.below HB1.out B3.out.lt).cell 1, (B3.out.below HB1.out B3.out.lt).cell 2, (B4.out.below HB1.out B4.out.lt).cell 0, (B4.out.below HB1.out B4.out.lt).cell 1, (B4.out.below HB1.out B4.out.lt).cell 2, (B5.out.below HB1.out B5.out.lt).cell 0, (B5.out.below HB1.out B5.out.lt).cell 1⟩
        clear hK K
        try simp only [Act.put, List.setIfInBounds_toArray, List.set_cons_zero, List.set_cons_succ]
        refine wpAnyH_ready (rs := [22]) (by kernel_rfl) (by simp) ?_
        refine (AllReadyH.cons (o := ⟨some 44, _, _, _, _, _⟩) rfl (fun K hK => ?_) AllReadyH.nil)
        go_simp
        have HS1 := HB1
        refine (pcrop_c p5.W p5.H p5.V A5 c5 Wp Hp _ O5.out.reads (by omega)).mono ?_
        rintro e w8 ⟨v, rfl, ho, hb'⟩
        have HB1 := Lib.hid ((HB1.out).trans (hb'.mono (HB1.out).size))
        have O5 := Lib.hid ((O5.out).kept hb')
        have B7 := Lib.hid ((B7.out).below hb' (B7.out).lt)
        clear hb'
        rw [XC.out.2] at ho ⊢
        obtain ⟨A7, c7, rfl, hq⟩ := ho.slice
        have O7 := Lib.hid (ho.lower (B' := w1.heap.size) HS1.out.size)
        clear ho hq
        refine hK.out _ _ ?hS112 (fun hHeld => ?_)
        case hS112 => exact ⟨(B3.out.below HB1.out B3.out.lt).cell 0, (B3.out.below HB1.out B3.out.lt).cell 1, (B3.out.below HB1.out B3.out.lt).cell 2, (B4.out.below HB1.out B4.out.lt).cell 0, (B4.out.below HB1.out B4.out.lt).cell 1, (B4.out.below HB1.out B4.out.lt).cell 2, (B5.out.below HB1.out B5.out.lt).cell 0, (B5.out.below HB1.out B5.out.lt).cell 1⟩
        clear hK K
        try simp only [Act.put, List.setIfInBounds_toArray, List.set_cons_zero, List.set_cons_succ]
        refine wpAnyH_ready (rs := [24]) (by kernel_rfl) (by simp) ?_
        refine (AllReadyH.cons (o := ⟨none, _, _, _, _, _⟩) rfl (fun K hK => ?_) AllReadyH.nil)
        obtain ⟨⟨q0, q1, q2⟩, f0, f1, f2⟩ := B7.out.three
        go_simp
        clear q0 q1 q2 f0 f1 f2
        obtain ⟨k1, k2, k3⟩ := ret_plane B7.out (.int .i64 Wp) (.int .i64 Hp) (.slice A7 Vp.length c7)
        have B7 := Lib.hid k1
        have O5 := Lib.hid (k2 _ _ _ O5.out)
        have O7 := Lib.hid (k2 _ _ _ O7.out)
        have HB1 := Lib.hid (k3 _ _ HB1.out hgeB7)
        clear k1 k2 k3
        refine hK.out _ _ ?hS113 (fun hHeld => ?_)
        case hS113 => exact ⟨(B3.out.below HB1.out B3.out.lt).cell 0, (B3.out.below HB1.out B3.out.lt).cell 1, (B3.out.below HB1.out B3.out.lt).cell 2, (B4.out.below HB1.out B4.out.lt).cell 0, (B4.out.below HB1.out B4.out.lt).cell 1, (B4.out.below HB1.out B4.out.lt).cell 2, (B5.out.below HB1.out B5.out.lt).cell 0, (B5.out.below HB1.out B5.out.lt).cell 1⟩
        clear hK K
        try simp only [Act.put, List.setIfInBounds_toArray, List.set_cons_zero, List.set_cons_succ]
        refine wpAnyH_done (by kernel_rfl) ?_ _
        clear hHeld
        go_wp2_with fail
        go_meet
        exact ⟨_, _, _, rfl, hgeB7, B7.out, O7.out, HB1.out⟩
    · skip
      go_simp
      have hlt := HB1.out.size
      have HB1 := Lib.hid (below_alloc_ (HB1.out) (.cells #[.int .i64 0, .int .i64 0, .slice none 0 0] 24))
      have hzw : (w5.drew.alloc (.cells #[.int .i64 0, .int .i64 0, .slice none 0 0] 24)).heap.size = w5.drew.heap.size + 1 := by simp only [World.size_alloc]
      have B7 := Blk.new (w5.drew) 24 #[.int .i64 0, .int .i64 0, .slice none 0 0]
      skip
      have B7 := Lib.hid B7
      have B7 := Lib.hid (show Blk _ (w5.heap.size) _ _ from B7.out)
      try rw [show (w5.alloc (.cells #[.int .i64 0, .int .i64 0, .slice none 0 0] 24)).drew = w5.drew.alloc (.cells #[.int .i64 0, .int .i64 0, .slice none 0 0] 24) from rfl]
      generalize w5.drew.alloc (.cells #[.int .i64 0, .int .i64 0, .slice none 0 0] 24) = w6 at *
      have hgeB7 : w1.heap.size ≤ w5.heap.size := hlt
      clear hzw hlt
      refine hK.out _ _ ?hS114 (fun hHeld => ?_)
      case hS114 => exact ⟨(B3.out.below HB1.out B3.out.lt).cell 0, (B3.out.below HB1.out B3.out.lt).cell 1, (B3.out.below HB1.out B3.out.lt).cell 2, (B4.out.below HB1.out B4.out.lt).cell 0, (B4.out.below HB1.out B4.out.lt).cell 1, (B4.out.below HB1.out B4.out.lt).cell 2, (B5.out.below HB1.out B5.out.lt).cell 0, (B5.out.below HB1.out B5.out.lt).cell 1⟩
      clear hK K
      try simp only [Act.put, List.setIfInBounds_toArray, List.set_cons_zero, List.set_cons_succ]
      refine wpAnyH_ready (rs := [17]) (by kernel_rfl) (by simp) ?_
      refine (AllReadyH.cons (o := ⟨some 39, _, _, _, _, _⟩) rfl (fun K hK => ?_) AllReadyH.nil)
      go_simp
      have HS1 := HB1
      refine (ppad_c Wp Hp Vp Ap cp x0 y0 _ (RP.out.kept HB1.out) (by omega)).mono ?_
      rintro e w7 ⟨v, rfl, ho, hb'⟩
      have HB1 := Lib.hid ((HB1.out).trans (hb'.mono (HB1.out).size))
      have B7 := Lib.hid ((B7.out).below hb' (B7.out).lt)
      clear hb'
      rw [← EP5.out] at ho ⊢
      obtain ⟨A5, c5, rfl, hq⟩ := ho.slice
      have O5 := Lib.hid (ho.lower (B' := w1.heap.size) HS1.out.size)
      clear ho hq
      refine hK.out _ _ ?hS115 (fun hHeld => ?_)
      case hS115 => exact ⟨(B3.out.below HB1.out B3.out.lt).cell 0, (B3.out.below HB1.out B3.out.lt).cell 1, (B3.out.below HB1.out B3.out.lt).cell 2, (B4.out.below HB1.out B4.out.lt).cell 0, (B4.out.below HB1.out B4.out.lt).cell 1, (B4.out.below HB1.out B4.out.lt).cell 2, (B5.out.below HB1.out B5.out.lt).cell 0, (B5.out.below HB1.out B5.out.lt).cell 1⟩
      clear hK K
      try simp only [Act.put, List.setIfInBounds_toArray, List.set_cons_zero, List.set_cons_succ]
      refine wpAnyH_ready (rs := [22]) (by kernel_rfl) (by simp) ?_
      refine (AllReadyH.cons (o := ⟨some 44, _, _, _, _, _⟩) rfl (fun K hK => ?_) AllReadyH.nil)
      go_simp
      have HS1 := HB1
      refine (pcrop_c p5.W p5.H p5.V A5 c5 Wp Hp _ O5.out.reads (by omega)).mono ?_
      rintro e w8 ⟨v, rfl, ho, hb'⟩
      have HB1 := Lib.hid ((HB1.out).trans (hb'.mono (HB1.out).size))
      have B7 := Lib.hid ((B7.out).below hb' (B7.out).lt)
      have O5 := Lib.hid ((O5.out).kept hb')
      clear hb'
      rw [XC.out.2] at ho ⊢
      obtain ⟨A7, c7, rfl, hq⟩ := ho.slice
      have O7 := Lib.hid (ho.lower (B' := w1.heap.size) HS1.out.size)
      clear ho hq
      refine hK.out _ _ ?hS116 (fun hHeld => ?_)
      case hS116 => exact ⟨(B3.out.below HB1.out B3.out.lt).cell 0, (B3.out.below HB1.out B3.out.lt).cell 1, (B3.out.below HB1.out B3.out.lt).cell 2, (B4.out.below HB1.out B4.out.lt).cell 0, (B4.out.below HB1.out B4.out.lt).cell 1, (B4.out.below HB1.out B4.out.lt).cell 2, (B5.out.below HB1.out B5.out.lt).cell 0, (B5.out.below HB1.out B5.out.lt).cell 1⟩
      clear hK K
      try simp only [Act.put, List.setIfInBounds_toArray, List.set_cons_zero, List.set_cons_succ]
      refine wpAnyH_ready (rs := [24]) (by kernel_rfl) (by simp) ?_
      refine (AllReadyH.cons (o := ⟨none, _, _, _, _, _⟩) rfl (fun K hK => ?_) AllReadyH.nil)
      obtain ⟨⟨q0, q1, q2⟩, f0, f1, f2⟩ := B7.out.three
      go_simp
      clear q0 q1 q2 f0 f1 f2
      obtain ⟨k1, k2, k3⟩ := ret_plane B7.out (.int .i64 Wp) (.int .i64 Hp) (.slice A7 Vp.length c7)
      have B7 := Lib.hid k1
      have O5 := Lib.hid (k2 _ _ _ O5.out)
      have O7 := Lib.hid (k2 _ _ _ O7.out)
      have HB1 := Lib.hid (k3 _ _ HB1.out hgeB7)
      clear k1 k2 k3
      refine hK.out _ _ ?hS117 (fun hHeld => ?_)
      case hS117 => exact ⟨(B3.out.below HB1.out B3.out.lt).cell 0, (B3.out.below HB1.out B3.out.lt).cell 1, (B3.out.below HB1.out B3.out.lt).cell 2, (B4.out.below HB1.out B4.out.lt).cell 0, (B4.out.below HB1.out B4.out.lt).cell 1, (B4.out.below HB1.out B4.out.lt).cell 2, (B5.out.below HB1.out B5.out.lt).cell 0, (B5.out.below HB1.out B5.out.lt).cell 1⟩
      clear hK K
      try simp only [Act.put, List.setIfInBounds_toArray, List.set_cons_zero, List.set_cons_succ]
      refine wpAnyH_done (by kernel_rfl) ?_ _
      clear hHeld
      go_wp2_with fail
      go_meet
      exact ⟨_, _, _, rfl, hgeB7, B7.out, O7.out, HB1.out⟩
  case rest =>
    obtain ⟨b7, A7, c7, rfl, hb7, h7, ho7, hb⟩ := hcut
    have HB1 := Lib.hid hb
    have B7 := Lib.hid h7
    have O7 := Lib.hid ho7
    clear h7 ho7 hb
    go_upto_region 6 with fail
    go_cut [8] (fun s wx => ∃ (b8 : Nat) (A8 : Option Addr) (c8 : Nat) (ps : Pl), s = .pointer (some ⟨b8, 0, none⟩) ∧ w1.heap.size ≤ b8 ∧ Blk wx b8 24 #[.int .i64 ps.W, .int .i64 ps.H, .slice A8 ps.V.length c8] ∧ OwnI wx w1.heap.size (.slice A8 ps.V.length c8) ps.V ∧ Blk wx b7 24 #[.int .i64 Wp, .int .i64 Hp, .slice A7 Vp.length c7] ∧ OwnI wx w1.heap.size (.slice A7 Vp.length c7) Vp ∧ Below w1.heap.size w1 wx)
    case first =>
      obtain ⟨m1, E1⟩ : ∃ x, (if Wp < Wq then Wp else Wq) = x := ⟨_, rfl⟩
      obtain ⟨m2, E2⟩ : ∃ x, (if 1 < m1 then m1 else 1) = x := ⟨_, rfl⟩
      obtain ⟨n1, E3⟩ : ∃ x, (if Hp < Hq then Hp else Hq) = x := ⟨_, rfl⟩
      obtain ⟨n2, E4⟩ : ∃ x, (if 1 < n1 then n1 else 1) = x := ⟨_, rfl⟩
      have M2 : max 1 (min Wq Wp) = m2 := by rw [← E2, ← E1]; split <;> split <;> omega
      have N2 : max 1 (min Hq Hp) = n2 := by rw [← E4, ← E3]; split <;> split <;> omega
      obtain ⟨pc, hpc⟩ : ∃ p, p = cropP Wq Hq Vq m2 n2 := ⟨_, rfl⟩
      obtain ⟨ps, hps⟩ : ∃ p, p = padP pc.W pc.H pc.V Wp Hp := ⟨_, rfl⟩
      have hlc : pc.V.length ≤ 1048576 := by rw [hpc]; unfold cropP; rw [if_neg (by rw [G4.out]; simp)]; simp [Pl.none_]
      have EC := Lib.hid hpc
      have ES := Lib.hid hps
      clear M2 N2 hpc hps
      have HB1 := Lib.hid ((HB1.out).drew)
      have B7 := Lib.hid ((B7.out).drew)
      have O7 := Lib.hid ((O7.out).drew)
      refine wp_region_held_drew (S := (fun w' => w'.cell? ⟨w.heap.size, 0, none⟩ = some (.int .i64 Wp) ∧ w'.cell? ⟨w.heap.size, 1, none⟩ = some (.int .i64 Hp) ∧ w'.cell? ⟨w.heap.size, 2, none⟩ = some (.slice Ap Vp.length cp) ∧ w'.cell? ⟨w.heap.size + 1, 0, none⟩ = some (.int .i64 Wq) ∧ w'.cell? ⟨w.heap.size + 1, 1, none⟩ = some (.int .i64 Hq) ∧ w'.cell? ⟨w.heap.size + 1, 2, none⟩ = some (.slice Aq Vq.length cq))) (by kernel_rfl) ?hS0 (fun hHeld => ?_)
      case hS0 => exact ⟨(B3.out.below HB1.out B3.out.lt).cell 0, (B3.out.below HB1.out B3.out.lt).cell 1, (B3.out.below HB1.out B3.out.lt).cell 2, (B4.out.below HB1.out B4.out.lt).cell 0, (B4.out.below HB1.out B4.out.lt).cell 1, (B4.out.below HB1.out B4.out.lt).cell 2⟩
      refine wpAnyH_take (i := 0) (oi := ⟨some 45, _, _, _, _, _⟩) (v := ?v118) rfl (by kernel_rfl) (by kernel_rfl) (by kernel_rfl) (fun _ _ _ h => h) (Or.inl ⟨by rfl, ?h118⟩) (by assumption) ?r118
      case h118 => (intro w hSw; (try dsimp only at hSw); go_simp; try with_reducible rfl)
      try simp only [Act.put, List.setIfInBounds_toArray, List.set_cons_zero, List.set_cons_succ]
      refine wpAnyH_take (i := 1) (oi := ⟨some 46, _, _, _, _, _⟩) (v := ?v119) rfl (by kernel_rfl) (by kernel_rfl) (by kernel_rfl) (fun _ _ _ h => h) (Or.inl ⟨by rfl, ?h119⟩) (by assumption) ?r119
      case h119 => (intro w hSw; (try dsimp only at hSw); go_simp; try with_reducible rfl)
      try simp only [Act.put, List.setIfInBounds_toArray, List.set_cons_zero, List.set_cons_succ]
      refine wpAnyH_take (i := 2) (oi := ⟨some 47, _, _, _, _, _⟩) (v := ?v120) rfl (by kernel_rfl) (by kernel_rfl) (by kernel_rfl) (fun _ _ _ h => h) (Or.inl ⟨by rfl, ?h120⟩) (by assumption) ?r120
      case h120 => (intro w hSw; (try dsimp only at hSw); go_simp; try with_reducible rfl)
      try simp only [Act.put, List.setIfInBounds_toArray, List.set_cons_zero, List.set_cons_succ]
      refine wpAnyH_take (i := 3) (oi := ⟨some 48, _, _, _, _, _⟩) (v := ?v121) rfl (by kernel_rfl) (by kernel_rfl) (by kernel_rfl) (fun _ _ _ h => h) (Or.inl ⟨by rfl, ?h121⟩) (by assumption) ?r121
      case h121 => (intro w hSw; (try dsimp only at hSw); go_simp; try with_reducible rfl)
      try simp only [Act.put, List.setIfInBounds_toArray, List.set_cons_zero, List.set_cons_succ]
      refine wpAnyH_take (i := 4) (oi := ⟨some 49, _, _, _, _, _⟩) (v := ?v122) rfl (by kernel_rfl) (by kernel_rfl) (by kernel_rfl) (fun _ _ _ h => h) (Or.inl ⟨by rfl, ?h122⟩) (by assumption) ?r122
      case h122 => (intro w hSw; (try dsimp only at hSw); go_simp; try with_reducible rfl)
      try simp only [Act.put, List.setIfInBounds_toArray, List.set_cons_zero, List.set_cons_succ]
      refine wpAnyH_take (i := 5) (oi := ⟨some 50, _, _, _, _, _⟩) (v := ?v123) rfl (by kernel_rfl) (by kernel_rfl) (by kernel_rfl) (fun _ _ _ h => h) (Or.inl ⟨by rfl, ?h123⟩) (by assumption) ?r123
      case h123 => (intro w hSw; (try dsimp only at hSw); go_simp; try with_reducible rfl)
      try simp only [Act.put, List.setIfInBounds_toArray, List.set_cons_zero, List.set_cons_succ]
      refine wpAnyH_take (i := 6) (oi := ⟨some 51, _, _, _, _, _⟩) (v := ?v124) rfl (by kernel_rfl) (by kernel_rfl) (by kernel_rfl) (fun _ _ _ h => h) (Or.inl ⟨by rfl, ?h124⟩) (by assumption) ?r124
      case h124 => (intro w hSw; (try dsimp only at hSw); go_simp; try with_reducible rfl)
      try simp only [Act.put, List.setIfInBounds_toArray, List.set_cons_zero, List.set_cons_succ]
      refine wpAnyH_take (i := 7) (oi := ⟨some 52, _, _, _, _, _⟩) (v := ?v125) rfl (by kernel_rfl) (by kernel_rfl) (by kernel_rfl) (fun _ _ _ h => h) (Or.inl ⟨by rfl, ?h125⟩) (by assumption) ?r125
      case h125 => (intro w hSw; (try dsimp only at hSw); go_simp; try with_reducible rfl)
      try simp only [Act.put, List.setIfInBounds_toArray, List.set_cons_zero, List.set_cons_succ]
      refine wpAnyH_take (i := 8) (oi := ⟨some 53, _, _, _, _, _⟩) (v := ?v126) rfl (by kernel_rfl) (by kernel_rfl) (by kernel_rfl) (fun _ _ _ h => h) (Or.inl ⟨by rfl, ?h126⟩) (by assumption) ?r126
      case h126 => (intro w hSw; (try dsimp only at hSw); go_simp; try with_reducible rfl)
      try simp only [Act.put, List.setIfInBounds_toArray, List.set_cons_zero, List.set_cons_succ]
      refine wpAnyH_take (i := 9) (oi := ⟨some 54, _, _, _, _, _⟩) (v := ?v127) rfl (by kernel_rfl) (by kernel_rfl) (by kernel_rfl) (fun _ _ _ h => h) (Or.inl ⟨by rfl, ?h127⟩) (by assumption) ?r127
      case h127 => (intro w hSw; (try dsimp only at hSw); go_simp; try with_reducible rfl)
      try simp only [Act.put, List.setIfInBounds_toArray, List.set_cons_zero, List.set_cons_succ]
      refine wpAnyH_take (i := 10) (oi := ⟨some 55, _, _, _, _, _⟩) (v := ?v128) rfl (by kernel_rfl) (by kernel_rfl) (by kernel_rfl) (fun _ _ _ h => h) (Or.inl ⟨by rfl, ?h128⟩) (by assumption) ?r128
      case h128 => (intro w hSw; (try dsimp only at hSw); go_simp; try with_reducible rfl)
      try simp only [Act.put, List.setIfInBounds_toArray, List.set_cons_zero, List.set_cons_succ]
      refine wpAnyH_take (i := 11) (oi := ⟨some 56, _, _, _, _, _⟩) (v := ?v129) rfl (by kernel_rfl) (by kernel_rfl) (by kernel_rfl) (fun _ _ _ h => h) (Or.inl ⟨by rfl, ?h129⟩) (by assumption) ?r129
      case h129 => (intro w hSw; (try dsimp only at hSw); go_simp; try with_reducible rfl)
      try simp only [Act.put, List.setIfInBounds_toArray, List.set_cons_zero, List.set_cons_succ]
      refine wpAnyH_take (i := 12) (oi := ⟨some 57, _, _, _, _, _⟩) (v := ?v130) rfl (by kernel_rfl) (by kernel_rfl) (by kernel_rfl) (fun _ _ _ h => h) (Or.inl ⟨by rfl, ?h130⟩) (by assumption) ?r130
      case h130 => (intro w hSw; (try dsimp only at hSw); go_simp; try with_reducible rfl)
      try simp only [Act.put, List.setIfInBounds_toArray, List.set_cons_zero, List.set_cons_succ]
      refine wpAnyH_take (i := 14) (oi := ⟨some 59, _, _, _, _, _⟩) (v := ?v131) rfl (by kernel_rfl) (by kernel_rfl) (by kernel_rfl) (fun _ _ _ h => h) (Or.inl ⟨by rfl, ?h131⟩) (by assumption) ?r131
      case h131 => (intro w hSw; (try dsimp only at hSw); go_simp; try with_reducible rfl)
      try simp only [Act.put, List.setIfInBounds_toArray, List.set_cons_zero, List.set_cons_succ]
      refine wpAnyH_take (i := 15) (oi := ⟨some 60, _, _, _, _, _⟩) (v := ?v132) rfl (by kernel_rfl) (by kernel_rfl) (by kernel_rfl) (fun _ _ _ h => h) (Or.inl ⟨by rfl, ?h132⟩) (by assumption) ?r132
      case h132 => (intro w hSw; (try dsimp only at hSw); go_simp; try with_reducible rfl)
      try simp only [Act.put, List.setIfInBounds_toArray, List.set_cons_zero, List.set_cons_succ]
      refine wpAnyH_take (i := 16) (oi := ⟨some 61, _, _, _, _, _⟩) (v := ?v133) rfl (by kernel_rfl) (by kernel_rfl) (by kernel_rfl) (fun _ _ _ h => h) (Or.inl ⟨by rfl, ?h133⟩) (by assumption) ?r133
      case h133 => (intro w hSw; (try dsimp only at hSw); go_simp; try with_reducible rfl)
      try simp only [Act.put, List.setIfInBounds_toArray, List.set_cons_zero, List.set_cons_succ]
      refine wpAnyH_take (i := 17) (oi := ⟨some 62, _, _, _, _, _⟩) (v := ?v134) rfl (by kernel_rfl) (by kernel_rfl) (by kernel_rfl) (fun _ _ _ h => h) (Or.inl ⟨by rfl, ?h134⟩) (by assumption) ?r134
      case h134 => (intro w hSw; (try dsimp only at hSw); go_simp; try with_reducible rfl)
      try simp only [Act.put, List.setIfInBounds_toArray, List.set_cons_zero, List.set_cons_succ]
      refine wpAnyH_ready (rs := [13, 19]) (by kernel_rfl) (by simp) ?_
      refine (AllReadyH.cons (o := ⟨some 58, _, _, _, _, _⟩) rfl (fun K hK => ?_) (AllReadyH.cons (o := ⟨some 8, _, _, _, _, _⟩) rfl (fun K hK => ?_) AllReadyH.nil))
      · skip
        go_simp
        have HS1 := HB1
        refine (pcrop_c Wq Hq Vq Aq cq m2 n2 _ (RQ.out.kept HB1.out) (by omega)).mono ?_
        rintro e w6 ⟨v, rfl, ho, hb'⟩
        have HB1 := Lib.hid ((HB1.out).trans (hb'.mono (HB1.out).size))
        have B7 := Lib.hid ((B7.out).below hb' (B7.out).lt)
        have O7 := Lib.hid ((O7.out).kept hb')
        clear hb'
        rw [← EC.out] at ho ⊢
        obtain ⟨A9, c9, rfl, hq⟩ := ho.slice
        have O9 := Lib.hid (ho.lower (B' := w1.heap.size) HS1.out.size)
        clear ho hq
        refine hK.out _ _ ?hS135 (fun hHeld => ?_)
        case hS135 => exact ⟨(B3.out.below HB1.out B3.out.lt).cell 0, (B3.out.below HB1.out B3.out.lt).cell 1, (B3.out.below HB1.out B3.out.lt).cell 2, (B4.out.below HB1.out B4.out.lt).cell 0, (B4.out.below HB1.out B4.out.lt).cell 1, (B4.out.below HB1.out B4.out.lt).cell 2⟩
        clear hK K
        try simp only [Act.put, List.setIfInBounds_toArray, List.set_cons_zero, List.set_cons_succ]
        refine wpAnyH_ready (rs := [18, 19]) (by kernel_rfl) (by simp) ?_
        refine (AllReadyH.cons (o := ⟨some 63, _, _, _, _, _⟩) rfl (fun K hK => ?_) (AllReadyH.cons (o := ⟨some 8, _, _, _, _, _⟩) rfl (fun K hK => ?_) AllReadyH.nil))
        · skip
          go_simp
          have HS1 := HB1
          refine (ppad_c pc.W pc.H pc.V A9 c9 Wp Hp _ O9.out.reads (by omega)).mono ?_
          rintro e w7 ⟨v, rfl, ho, hb'⟩
          have HB1 := Lib.hid ((HB1.out).trans (hb'.mono (HB1.out).size))
          have B7 := Lib.hid ((B7.out).below hb' (B7.out).lt)
          have O7 := Lib.hid ((O7.out).kept hb')
          have O9 := Lib.hid ((O9.out).kept hb')
          clear hb'
          rw [← ES.out] at ho ⊢
          obtain ⟨A8, c8, rfl, hq⟩ := ho.slice
          have O8 := Lib.hid (ho.lower (B' := w1.heap.size) HS1.out.size)
          clear ho hq
          refine hK.out _ _ ?hS136 (fun hHeld => ?_)
          case hS136 => exact ⟨(B3.out.below HB1.out B3.out.lt).cell 0, (B3.out.below HB1.out B3.out.lt).cell 1, (B3.out.below HB1.out B3.out.lt).cell 2, (B4.out.below HB1.out B4.out.lt).cell 0, (B4.out.below HB1.out B4.out.lt).cell 1, (B4.out.below HB1.out B4.out.lt).cell 2⟩
          clear hK K
          try simp only [Act.put, List.setIfInBounds_toArray, List.set_cons_zero, List.set_cons_succ]
          refine wpAnyH_ready (rs := [19]) (by kernel_rfl) (by simp) ?_
          refine (AllReadyH.cons (o := ⟨some 8, _, _, _, _, _⟩) rfl (fun K hK => ?_) AllReadyH.nil)
          have b78 := Lib.hid B7.out.lt
          go_simp
          have hlt := HB1.out.size
          have HB1 := Lib.hid (below_alloc_ (HB1.out) (.cells #[.int .i64 0, .int .i64 0, .slice none 0 0] 24))
          have B7 := Lib.hid ((B7.out).alloc (.cells #[.int .i64 0, .int .i64 0, .slice none 0 0] 24))
          have O7 := Lib.hid ((O7.out).alloc (.cells #[.int .i64 0, .int .i64 0, .slice none 0 0] 24))
          have O9 := Lib.hid ((O9.out).alloc (.cells #[.int .i64 0, .int .i64 0, .slice none 0 0] 24))
          have O8 := Lib.hid ((O8.out).alloc (.cells #[.int .i64 0, .int .i64 0, .slice none 0 0] 24))
          have hzw : (w7.alloc (.cells #[.int .i64 0, .int .i64 0, .slice none 0 0] 24)).heap.size = w7.heap.size + 1 := by simp only [World.size_alloc]
          have B8 := Blk.new (w7) 24 #[.int .i64 0, .int .i64 0, .slice none 0 0]
          skip
          have B8 := Lib.hid B8
          generalize w7.alloc (.cells #[.int .i64 0, .int .i64 0, .slice none 0 0] 24) = w8 at *
          have hgeB8 : w1.heap.size ≤ w7.heap.size := hlt
          clear hzw hlt
          have b78 := Lib.hid (show b7 < w7.heap.size from b78.out)
          refine hK.out _ _ ?hS137 (fun hHeld => ?_)
          case hS137 => exact ⟨(B3.out.below HB1.out B3.out.lt).cell 0, (B3.out.below HB1.out B3.out.lt).cell 1, (B3.out.below HB1.out B3.out.lt).cell 2, (B4.out.below HB1.out B4.out.lt).cell 0, (B4.out.below HB1.out B4.out.lt).cell 1, (B4.out.below HB1.out B4.out.lt).cell 2⟩
          clear hK K
          try simp only [Act.put, List.setIfInBounds_toArray, List.set_cons_zero, List.set_cons_succ]
          refine wpAnyH_ready (rs := [20]) (by kernel_rfl) (by simp) ?_
          refine (AllReadyH.cons (o := ⟨none, _, _, _, _, _⟩) rfl (fun K hK => ?_) AllReadyH.nil)
          have n78 : b7 ≠ w7.heap.size := fun e => by have := b78.out; omega
          obtain ⟨⟨q0, q1, q2⟩, f0, f1, f2⟩ := B8.out.three
          go_simp
          clear q0 q1 q2 f0 f1 f2
          obtain ⟨k1, k2, k3⟩ := ret_plane B8.out (.int .i64 ps.W) (.int .i64 ps.H) (.slice A8 ps.V.length c8)
          have B8 := Lib.hid k1
          have O7 := Lib.hid (k2 _ _ _ O7.out)
          have O9 := Lib.hid (k2 _ _ _ O9.out)
          have O8 := Lib.hid (k2 _ _ _ O8.out)
          have HB1 := Lib.hid (k3 _ _ HB1.out hgeB8)
          clear k1 k2 k3
          have B7 := Lib.hid (((B7.out.far (p := ⟨w7.heap.size, 0, none⟩) n78 (.int .i64 ps.W)).far (p := ⟨w7.heap.size, 1, none⟩) n78 (.int .i64 ps.H)).far (p := ⟨w7.heap.size, 2, none⟩) n78 (.slice A8 ps.V.length c8))
          refine hK.out _ _ ?hS138 (fun hHeld => ?_)
          case hS138 => exact ⟨(B3.out.below HB1.out B3.out.lt).cell 0, (B3.out.below HB1.out B3.out.lt).cell 1, (B3.out.below HB1.out B3.out.lt).cell 2, (B4.out.below HB1.out B4.out.lt).cell 0, (B4.out.below HB1.out B4.out.lt).cell 1, (B4.out.below HB1.out B4.out.lt).cell 2⟩
          clear hK K
          try simp only [Act.put, List.setIfInBounds_toArray, List.set_cons_zero, List.set_cons_succ]
          refine wpAnyH_done (by kernel_rfl) ?_ _
          clear hHeld
          go_wp2_with fail
          go_meet
          exact ⟨_, _, _, ps, rfl, hgeB8, B8.out, O8.out, B7.out, O7.out, HB1.out⟩
        · skip
          have b78 := Lib.hid B7.out.lt
          go_simp
          have hlt := HB1.out.size
          have HB1 := Lib.hid (below_alloc_ (HB1.out) (.cells #[.int .i64 0, .int .i64 0, .slice none 0 0] 24))
          have B7 := Lib.hid ((B7.out).alloc (.cells #[.int .i64 0, .int .i64 0, .slice none 0 0] 24))
          have O7 := Lib.hid ((O7.out).alloc (.cells #[.int .i64 0, .int .i64 0, .slice none 0 0] 24))
          have O9 := Lib.hid ((O9.out).alloc (.cells #[.int .i64 0, .int .i64 0, .slice none 0 0] 24))
          have hzw : (w6.alloc (.cells #[.int .i64 0, .int .i64 0, .slice none 0 0] 24)).heap.size = w6.heap.size + 1 := by simp only [World.size_alloc]
          have B8 := Blk.new (w6) 24 #[.int .i64 0, .int .i64 0, .slice none 0 0]
          skip
          have B8 := Lib.hid B8
          generalize w6.alloc (.cells #[.int .i64 0, .int .i64 0, .slice none 0 0] 24) = w7 at *
          have hgeB8 : w1.heap.size ≤ w6.heap.size := hlt
          clear hzw hlt
          have b78 := Lib.hid (show b7 < w6.heap.size from b78.out)
          refine hK.out _ _ ?hS139 (fun hHeld => ?_)
          case hS139 => exact ⟨(B3.out.below HB1.out B3.out.lt).cell 0, (B3.out.below HB1.out B3.out.lt).cell 1, (B3.out.below HB1.out B3.out.lt).cell 2, (B4.out.below HB1.out B4.out.lt).cell 0, (B4.out.below HB1.out B4.out.lt).cell 1, (B4.out.below HB1.out B4.out.lt).cell 2⟩
          clear hK K
          try simp only [Act.put, List.setIfInBounds_toArray, List.set_cons_zero, List.set_cons_succ]
          refine wpAnyH_ready (rs := [18]) (by kernel_rfl) (by simp) ?_
          refine (AllReadyH.cons (o := ⟨some 63, _, _, _, _, _⟩) rfl (fun K hK => ?_) AllReadyH.nil)
          go_simp
          have HS1 := HB1
          refine (ppad_c pc.W pc.H pc.V A9 c9 Wp Hp _ O9.out.reads (by omega)).mono ?_
          rintro e w8 ⟨v, rfl, ho, hb'⟩
          have HB1 := Lib.hid ((HB1.out).trans (hb'.mono (HB1.out).size))
          have B7 := Lib.hid ((B7.out).below hb' (B7.out).lt)
          have O7 := Lib.hid ((O7.out).kept hb')
          have O9 := Lib.hid ((O9.out).kept hb')
          have B8 := Lib.hid ((B8.out).below hb' (B8.out).lt)
          clear hb'
          rw [← ES.out] at ho ⊢
          obtain ⟨A8, c8, rfl, hq⟩ := ho.slice
          have O8 := Lib.hid (ho.lower (B' := w1.heap.size) HS1.out.size)
          clear ho hq
          refine hK.out _ _ ?hS140 (fun hHeld => ?_)
          case hS140 => exact ⟨(B3.out.below HB1.out B3.out.lt).cell 0, (B3.out.below HB1.out B3.out.lt).cell 1, (B3.out.below HB1.out B3.out.lt).cell 2, (B4.out.below HB1.out B4.out.lt).cell 0, (B4.out.below HB1.out B4.out.lt).cell 1, (B4.out.below HB1.out B4.out.lt).cell 2⟩
          clear hK K
          try simp only [Act.put, List.setIfInBounds_toArray, List.set_cons_zero, List.set_cons_succ]
          refine wpAnyH_ready (rs := [20]) (by kernel_rfl) (by simp) ?_
          refine (AllReadyH.cons (o := ⟨none, _, _, _, _, _⟩) rfl (fun K hK => ?_) AllReadyH.nil)
          have n78 : b7 ≠ w6.heap.size := fun e => by have := b78.out; omega
          obtain ⟨⟨q0, q1, q2⟩, f0, f1, f2⟩ := B8.out.three
          go_simp
          clear q0 q1 q2 f0 f1 f2
          obtain ⟨k1, k2, k3⟩ := ret_plane B8.out (.int .i64 ps.W) (.int .i64 ps.H) (.slice A8 ps.V.length c8)
          have B8 := Lib.hid k1
          have O7 := Lib.hid (k2 _ _ _ O7.out)
          have O9 := Lib.hid (k2 _ _ _ O9.out)
          have O8 := Lib.hid (k2 _ _ _ O8.out)
          have HB1 := Lib.hid (k3 _ _ HB1.out hgeB8)
          clear k1 k2 k3
          have B7 := Lib.hid (((B7.out.far (p := ⟨w6.heap.size, 0, none⟩) n78 (.int .i64 ps.W)).far (p := ⟨w6.heap.size, 1, none⟩) n78 (.int .i64 ps.H)).far (p := ⟨w6.heap.size, 2, none⟩) n78 (.slice A8 ps.V.length c8))
          refine hK.out _ _ ?hS141 (fun hHeld => ?_)
          case hS141 => exact ⟨(B3.out.below HB1.out B3.out.lt).cell 0, (B3.out.below HB1.out B3.out.lt).cell 1, (B3.out.below HB1.out B3.out.lt).cell 2, (B4.out.below HB1.out B4.out.lt).cell 0, (B4.out.below HB1.out B4.out.lt).cell 1, (B4.out.below HB1.out B4.out.lt).cell 2⟩
          clear hK K
          try simp only [Act.put, List.setIfInBounds_toArray, List.set_cons_zero, List.set_cons_succ]
          refine wpAnyH_done (by kernel_rfl) ?_ _
          clear hHeld
          go_wp2_with fail
          go_meet
          exact ⟨_, _, _, ps, rfl, hgeB8, B8.out, O8.out, B7.out, O7.out, HB1.out⟩
      · skip
        have b78 := Lib.hid B7.out.lt
        go_simp
        have hlt := HB1.out.size
        have HB1 := Lib.hid (below_alloc_ (HB1.out) (.cells #[.int .i64 0, .int .i64 0, .slice none 0 0] 24))
        have B7 := Lib.hid ((B7.out).alloc (.cells #[.int .i64 0, .int .i64 0, .slice none 0 0] 24))
        have O7 := Lib.hid ((O7.out).alloc (.cells #[.int .i64 0, .int .i64 0, .slice none 0 0] 24))
        have hzw : (wc.drew.alloc (.cells #[.int .i64 0, .int .i64 0, .slice none 0 0] 24)).heap.size = wc.drew.heap.size + 1 := by simp only [World.size_alloc]
        have B8 := Blk.new (wc.drew) 24 #[.int .i64 0, .int .i64 0, .slice none 0 0]
        skip
        have B8 := Lib.hid B8
        have B8 := Lib.hid (show Blk _ (wc.heap.size) _ _ from B8.out)
        try rw [show (wc.alloc (.cells #[.int .i64 0, .int .i64 0, .slice none 0 0] 24)).drew = wc.drew.alloc (.cells #[.int .i64 0, .int .i64 0, .slice none 0 0] 24) from rfl]
        generalize wc.drew.alloc (.cells #[.int .i64 0, .int .i64 0, .slice none 0 0] 24) = w6 at *
        have hgeB8 : w1.heap.size ≤ wc.heap.size := hlt
        clear hzw hlt
        have b78 := Lib.hid (show b7 < wc.heap.size from b78.out)
        refine hK.out _ _ ?hS142 (fun hHeld => ?_)
        case hS142 => exact ⟨(B3.out.below HB1.out B3.out.lt).cell 0, (B3.out.below HB1.out B3.out.lt).cell 1, (B3.out.below HB1.out B3.out.lt).cell 2, (B4.out.below HB1.out B4.out.lt).cell 0, (B4.out.below HB1.out B4.out.lt).cell 1, (B4.out.below HB1.out B4.out.lt).cell 2⟩
        clear hK K
        try simp only [Act.put, List.setIfInBounds_toArray, List.set_cons_zero, List.set_cons_succ]
        refine wpAnyH_ready (rs := [13]) (by kernel_rfl) (by simp) ?_
        refine (AllReadyH.cons (o := ⟨some 58, _, _, _, _, _⟩) rfl (fun K hK => ?_) AllReadyH.nil)
        go_simp
        have HS1 := HB1
        refine (pcrop_c Wq Hq Vq Aq cq m2 n2 _ (RQ.out.kept HB1.out) (by omega)).mono ?_
        rintro e w7 ⟨v, rfl, ho, hb'⟩
        have HB1 := Lib.hid ((HB1.out).trans (hb'.mono (HB1.out).size))
        have B7 := Lib.hid ((B7.out).below hb' (B7.out).lt)
        have O7 := Lib.hid ((O7.out).kept hb')
        have B8 := Lib.hid ((B8.out).below hb' (B8.out).lt)
        clear hb'
        rw [← EC.out] at ho ⊢
        obtain ⟨A9, c9, rfl, hq⟩ := ho.slice
        have O9 := Lib.hid (ho.lower (B' := w1.heap.size) HS1.out.size)
        clear ho hq
        refine hK.out _ _ ?hS143 (fun hHeld => ?_)
        case hS143 => exact ⟨(B3.out.below HB1.out B3.out.lt).cell 0, (B3.out.below HB1.out B3.out.lt).cell 1, (B3.out.below HB1.out B3.out.lt).cell 2, (B4.out.below HB1.out B4.out.lt).cell 0, (B4.out.below HB1.out B4.out.lt).cell 1, (B4.out.below HB1.out B4.out.lt).cell 2⟩
        clear hK K
        try simp only [Act.put, List.setIfInBounds_toArray, List.set_cons_zero, List.set_cons_succ]
        refine wpAnyH_ready (rs := [18]) (by kernel_rfl) (by simp) ?_
        refine (AllReadyH.cons (o := ⟨some 63, _, _, _, _, _⟩) rfl (fun K hK => ?_) AllReadyH.nil)
        go_simp
        have HS1 := HB1
        refine (ppad_c pc.W pc.H pc.V A9 c9 Wp Hp _ O9.out.reads (by omega)).mono ?_
        rintro e w8 ⟨v, rfl, ho, hb'⟩
        have HB1 := Lib.hid ((HB1.out).trans (hb'.mono (HB1.out).size))
        have B7 := Lib.hid ((B7.out).below hb' (B7.out).lt)
        have O7 := Lib.hid ((O7.out).kept hb')
        have B8 := Lib.hid ((B8.out).below hb' (B8.out).lt)
        have O9 := Lib.hid ((O9.out).kept hb')
        clear hb'
        rw [← ES.out] at ho ⊢
        obtain ⟨A8, c8, rfl, hq⟩ := ho.slice
        have O8 := Lib.hid (ho.lower (B' := w1.heap.size) HS1.out.size)
        clear ho hq
        refine hK.out _ _ ?hS144 (fun hHeld => ?_)
        case hS144 => exact ⟨(B3.out.below HB1.out B3.out.lt).cell 0, (B3.out.below HB1.out B3.out.lt).cell 1, (B3.out.below HB1.out B3.out.lt).cell 2, (B4.out.below HB1.out B4.out.lt).cell 0, (B4.out.below HB1.out B4.out.lt).cell 1, (B4.out.below HB1.out B4.out.lt).cell 2⟩
        clear hK K
        try simp only [Act.put, List.setIfInBounds_toArray, List.set_cons_zero, List.set_cons_succ]
        refine wpAnyH_ready (rs := [20]) (by kernel_rfl) (by simp) ?_
        refine (AllReadyH.cons (o := ⟨none, _, _, _, _, _⟩) rfl (fun K hK => ?_) AllReadyH.nil)
        have n78 : b7 ≠ wc.heap.size := fun e => by have := b78.out; omega
        obtain ⟨⟨q0, q1, q2⟩, f0, f1, f2⟩ := B8.out.three
        go_simp
        clear q0 q1 q2 f0 f1 f2
        obtain ⟨k1, k2, k3⟩ := ret_plane B8.out (.int .i64 ps.W) (.int .i64 ps.H) (.slice A8 ps.V.length c8)
        have B8 := Lib.hid k1
        have O7 := Lib.hid (k2 _ _ _ O7.out)
        have O9 := Lib.hid (k2 _ _ _ O9.out)
        have O8 := Lib.hid (k2 _ _ _ O8.out)
        have HB1 := Lib.hid (k3 _ _ HB1.out hgeB8)
        clear k1 k2 k3
        have B7 := Lib.hid (((B7.out.far (p := ⟨wc.heap.size, 0, none⟩) n78 (.int .i64 ps.W)).far (p := ⟨wc.heap.size, 1, none⟩) n78 (.int .i64 ps.H)).far (p := ⟨wc.heap.size, 2, none⟩) n78 (.slice A8 ps.V.length c8))
        refine hK.out _ _ ?hS145 (fun hHeld => ?_)
        case hS145 => exact ⟨(B3.out.below HB1.out B3.out.lt).cell 0, (B3.out.below HB1.out B3.out.lt).cell 1, (B3.out.below HB1.out B3.out.lt).cell 2, (B4.out.below HB1.out B4.out.lt).cell 0, (B4.out.below HB1.out B4.out.lt).cell 1, (B4.out.below HB1.out B4.out.lt).cell 2⟩
        clear hK K
        try simp only [Act.put, List.setIfInBounds_toArray, List.set_cons_zero, List.set_cons_succ]
        refine wpAnyH_done (by kernel_rfl) ?_ _
        clear hHeld
        go_wp2_with fail
        go_meet
        exact ⟨_, _, _, ps, rfl, hgeB8, B8.out, O8.out, B7.out, O7.out, HB1.out⟩
    case rest =>
      obtain ⟨b8, A8, c8, ps, rfl, hb8, h8, ho8, h7, ho7, hb⟩ := hcut
      have HB1 := Lib.hid hb
      have B7 := Lib.hid h7
      have O7 := Lib.hid ho7
      have B8 := Lib.hid h8
      have O8 := Lib.hid ho8
      clear h7 ho7 hb h8 ho8
      have SS := Lib.hid (show sameB Wp Hp Vp Wp Hp Vp = true from same_of (p := ⟨Wp, Hp, Vp⟩) rfl G3.out)
      have TT := Lib.hid (turn_two G3.out)
      obtain ⟨pt, hpt⟩ : ∃ p, p = turnP Wp Hp Vp := ⟨_, rfl⟩
      rw [← hpt] at TT
      have hlt : pt.V.length ≤ 1048576 := by have h := okB_t TT.out.1; have := area_bd h.1 h.2.1 h.2.2.1 h.2.2.2.1; omega
      have ET := Lib.hid hpt
      clear hpt
      go_upto_region 7 with fail
      have HB1 := Lib.hid ((HB1.out).drew)
      have B7 := Lib.hid ((B7.out).drew)
      have O7 := Lib.hid ((O7.out).drew)
      have B8 := Lib.hid ((B8.out).drew)
      have O8 := Lib.hid ((O8.out).drew)
      refine wp_region_held_drew (S := (fun w' => w'.cell? ⟨w.heap.size, 0, none⟩ = some (.int .i64 Wp) ∧ w'.cell? ⟨w.heap.size, 1, none⟩ = some (.int .i64 Hp) ∧ w'.cell? ⟨w.heap.size, 2, none⟩ = some (.slice Ap Vp.length cp) ∧ w'.cell? ⟨b7, 0, none⟩ = some (.int .i64 Wp) ∧ w'.cell? ⟨b7, 1, none⟩ = some (.int .i64 Hp) ∧ w'.cell? ⟨b7, 2, none⟩ = some (.slice A7 Vp.length c7))) (by kernel_rfl) ?hS0 (fun hHeld => ?_)
      case hS0 => exact ⟨(B3.out.below HB1.out B3.out.lt).cell 0, (B3.out.below HB1.out B3.out.lt).cell 1, (B3.out.below HB1.out B3.out.lt).cell 2, (B7.out).cell 0, (B7.out).cell 1, (B7.out).cell 2⟩
      refine wpAnyH_take (i := 0) (oi := ⟨some 64, _, _, _, _, _⟩) (v := ?v146) rfl (by kernel_rfl) (by kernel_rfl) (by kernel_rfl) (fun _ _ _ h => h) (Or.inl ⟨by rfl, ?h146⟩) (by assumption) ?r146
      case h146 => (intro w hSw; (try dsimp only at hSw); go_simp; try with_reducible rfl)
      try simp only [Act.put, List.setIfInBounds_toArray, List.set_cons_zero, List.set_cons_succ]
      refine wpAnyH_take (i := 1) (oi := ⟨some 65, _, _, _, _, _⟩) (v := ?v147) rfl (by kernel_rfl) (by kernel_rfl) (by kernel_rfl) (fun _ _ _ h => h) (Or.inl ⟨by rfl, ?h147⟩) (by assumption) ?r147
      case h147 => (intro w hSw; (try dsimp only at hSw); go_simp; try with_reducible rfl)
      try simp only [Act.put, List.setIfInBounds_toArray, List.set_cons_zero, List.set_cons_succ]
      refine wpAnyH_ready (rs := [2]) (by kernel_rfl) (by simp) ?_
      refine (AllReadyH.cons (o := ⟨some 66, _, _, _, _, _⟩) rfl (fun K hK => ?_) AllReadyH.nil)
      go_simp
      have HS1 := HB1
      refine (psame_c Wp Hp Vp Wp Hp Vp A7 Ap c7 cp _ O7.out.reads (RP.out.kept HB1.out) (by omega) (by omega)).mono ?_
      rintro e w6 ⟨rfl, hb'⟩
      have HB1 := Lib.hid ((HB1.out).trans (hb'.mono (HB1.out).size))
      have B7 := Lib.hid ((B7.out).below hb' (B7.out).lt)
      have O7 := Lib.hid ((O7.out).kept hb')
      have B8 := Lib.hid ((B8.out).below hb' (B8.out).lt)
      have O8 := Lib.hid ((O8.out).kept hb')
      clear hb'
      rw [SS.out]
      refine hK.out _ _ ?hS148 (fun hHeld => ?_)
      case hS148 => exact ⟨(B3.out.below HB1.out B3.out.lt).cell 0, (B3.out.below HB1.out B3.out.lt).cell 1, (B3.out.below HB1.out B3.out.lt).cell 2, (B7.out).cell 0, (B7.out).cell 1, (B7.out).cell 2⟩
      clear hK K
      try simp only [Act.put, List.setIfInBounds_toArray, List.set_cons_zero, List.set_cons_succ]
      refine wpAnyH_take (i := 3) (oi := ⟨some 67, _, _, _, _, _⟩) (v := ?v149) rfl (by kernel_rfl) (by kernel_rfl) (by kernel_rfl) (fun _ _ _ h => h) (Or.inl ⟨by rfl, ?h149⟩) (by assumption) ?r149
      case h149 => (intro w hSw; (try dsimp only at hSw); go_simp; try with_reducible rfl)
      try simp only [Act.put, List.setIfInBounds_toArray, List.set_cons_zero, List.set_cons_succ]
      refine wpAnyH_take (i := 4) (oi := ⟨some 68, _, _, _, _, _⟩) (v := ?v150) rfl (by kernel_rfl) (by kernel_rfl) (by kernel_rfl) (fun _ _ _ h => h) (Or.inl ⟨by rfl, ?h150⟩) (by assumption) ?r150
      case h150 => (intro w hSw; (try dsimp only at hSw); go_simp; try with_reducible rfl)
      try simp only [Act.put, List.setIfInBounds_toArray, List.set_cons_zero, List.set_cons_succ]
      refine wpAnyH_take (i := 5) (oi := ⟨some 69, _, _, _, _, _⟩) (v := ?v151) rfl (by kernel_rfl) (by kernel_rfl) (by kernel_rfl) (fun _ _ _ h => h) (Or.inl ⟨by rfl, ?h151⟩) (by assumption) ?r151
      case h151 => (intro w hSw; (try dsimp only at hSw); go_simp; try with_reducible rfl)
      try simp only [Act.put, List.setIfInBounds_toArray, List.set_cons_zero, List.set_cons_succ]
      refine wpAnyH_take (i := 8) (oi := ⟨some 72, _, _, _, _, _⟩) (v := ?v152) rfl (by kernel_rfl) (by kernel_rfl) (by kernel_rfl) (fun _ _ _ h => h) (Or.inl ⟨by rfl, ?h152⟩) (by assumption) ?r152
      case h152 => (intro w hSw; (try dsimp only at hSw); go_simp; try with_reducible rfl)
      try simp only [Act.put, List.setIfInBounds_toArray, List.set_cons_zero, List.set_cons_succ]
      refine wpAnyH_ready (rs := [6]) (by kernel_rfl) (by simp) ?_
      refine (AllReadyH.cons (o := ⟨some 70, _, _, _, _, _⟩) rfl (fun K hK => ?_) AllReadyH.nil)
      go_simp
      have HS1 := HB1
      refine (pturn_c Wp Hp Vp Ap cp _ (RP.out.kept HB1.out) (by omega)).mono ?_
      rintro e w7 ⟨v, rfl, ho, hb'⟩
      have HB1 := Lib.hid ((HB1.out).trans (hb'.mono (HB1.out).size))
      have B7 := Lib.hid ((B7.out).below hb' (B7.out).lt)
      have O7 := Lib.hid ((O7.out).kept hb')
      have B8 := Lib.hid ((B8.out).below hb' (B8.out).lt)
      have O8 := Lib.hid ((O8.out).kept hb')
      clear hb'
      rw [← ET.out] at ho ⊢
      obtain ⟨A10, c10, rfl, hq⟩ := ho.slice
      have O10 := Lib.hid (ho.lower (B' := w1.heap.size) HS1.out.size)
      clear ho hq
      refine hK.out _ _ ?hS153 (fun hHeld => ?_)
      case hS153 => exact ⟨(B3.out.below HB1.out B3.out.lt).cell 0, (B3.out.below HB1.out B3.out.lt).cell 1, (B3.out.below HB1.out B3.out.lt).cell 2, (B7.out).cell 0, (B7.out).cell 1, (B7.out).cell 2⟩
      clear hK K
      try simp only [Act.put, List.setIfInBounds_toArray, List.set_cons_zero, List.set_cons_succ]
      refine wpAnyH_ready (rs := [7]) (by kernel_rfl) (by simp) ?_
      refine (AllReadyH.cons (o := ⟨some 71, _, _, _, _, _⟩) rfl (fun K hK => ?_) AllReadyH.nil)
      go_simp
      have HS1 := HB1
      refine (pturn_c pt.W pt.H pt.V A10 c10 _ O10.out.reads (by omega)).mono ?_
      rintro e w8 ⟨v, rfl, ho, hb'⟩
      have HB1 := Lib.hid ((HB1.out).trans (hb'.mono (HB1.out).size))
      have B7 := Lib.hid ((B7.out).below hb' (B7.out).lt)
      have O7 := Lib.hid ((O7.out).kept hb')
      have B8 := Lib.hid ((B8.out).below hb' (B8.out).lt)
      have O8 := Lib.hid ((O8.out).kept hb')
      have O10 := Lib.hid ((O10.out).kept hb')
      clear hb'
      rw [TT.out.2] at ho ⊢
      obtain ⟨A11, c11, rfl, hq⟩ := ho.slice
      have O11 := Lib.hid (ho.lower (B' := w1.heap.size) HS1.out.size)
      clear ho hq
      refine hK.out _ _ ?hS154 (fun hHeld => ?_)
      case hS154 => exact ⟨(B3.out.below HB1.out B3.out.lt).cell 0, (B3.out.below HB1.out B3.out.lt).cell 1, (B3.out.below HB1.out B3.out.lt).cell 2, (B7.out).cell 0, (B7.out).cell 1, (B7.out).cell 2⟩
      clear hK K
      try simp only [Act.put, List.setIfInBounds_toArray, List.set_cons_zero, List.set_cons_succ]
      refine wpAnyH_ready (rs := [9]) (by kernel_rfl) (by simp) ?_
      refine (AllReadyH.cons (o := ⟨some 73, _, _, _, _, _⟩) rfl (fun K hK => ?_) AllReadyH.nil)
      go_simp
      have HS1 := HB1
      refine (psame_c Wp Hp Vp Wp Hp Vp A11 Ap c11 cp _ O11.out.reads (RP.out.kept HB1.out) (by omega) (by omega)).mono ?_
      rintro e w9 ⟨rfl, hb'⟩
      have HB1 := Lib.hid ((HB1.out).trans (hb'.mono (HB1.out).size))
      have B7 := Lib.hid ((B7.out).below hb' (B7.out).lt)
      have O7 := Lib.hid ((O7.out).kept hb')
      have B8 := Lib.hid ((B8.out).below hb' (B8.out).lt)
      have O8 := Lib.hid ((O8.out).kept hb')
      have O10 := Lib.hid ((O10.out).kept hb')
      have O11 := Lib.hid ((O11.out).kept hb')
      clear hb'
      rw [SS.out]
      refine hK.out _ _ ?hS155 (fun hHeld => ?_)
      case hS155 => exact ⟨(B3.out.below HB1.out B3.out.lt).cell 0, (B3.out.below HB1.out B3.out.lt).cell 1, (B3.out.below HB1.out B3.out.lt).cell 2, (B7.out).cell 0, (B7.out).cell 1, (B7.out).cell 2⟩
      clear hK K
      try simp only [Act.put, List.setIfInBounds_toArray, List.set_cons_zero, List.set_cons_succ]
      refine wpAnyH_take (i := 10) (oi := ⟨some 74, _, _, _, _, _⟩) (v := ?v156) rfl (by kernel_rfl) (by kernel_rfl) (by kernel_rfl) (fun _ _ _ h => h) (Or.inl ⟨by rfl, ?h156⟩) (by assumption) ?r156
      case h156 => (intro w hSw; (try dsimp only at hSw); go_simp; try with_reducible rfl)
      try simp only [Act.put, List.setIfInBounds_toArray, List.set_cons_zero, List.set_cons_succ]
      refine wpAnyH_take (i := 11) (oi := ⟨some 75, _, _, _, _, _⟩) (v := ?v157) rfl (by kernel_rfl) (by kernel_rfl) (by kernel_rfl) (fun _ _ _ h => h) (Or.inl ⟨by rfl, ?h157⟩) (by assumption) ?r157
      case h157 => (intro w hSw; (try dsimp only at hSw); go_simp; try with_reducible rfl)
      try simp only [Act.put, List.setIfInBounds_toArray, List.set_cons_zero, List.set_cons_succ]
      refine wpAnyH_done (by kernel_rfl) ?_ _
      clear hHeld
      go_upto_region 9 with fail
      have HB1 := Lib.hid ((HB1.out).drew)
      have B7 := Lib.hid ((B7.out).drew)
      have O7 := Lib.hid ((O7.out).drew)
      have B8 := Lib.hid ((B8.out).drew)
      have O8 := Lib.hid ((O8.out).drew)
      have O10 := Lib.hid ((O10.out).drew)
      have O11 := Lib.hid ((O11.out).drew)
      refine wp_region_held_drew (S := (fun w' => w'.cell? ⟨w.heap.size, 0, none⟩ = some (.int .i64 Wp) ∧ w'.cell? ⟨w.heap.size, 1, none⟩ = some (.int .i64 Hp) ∧ w'.cell? ⟨w.heap.size, 2, none⟩ = some (.slice Ap Vp.length cp) ∧ w'.cell? ⟨w.heap.size + 1, 0, none⟩ = some (.int .i64 Wq) ∧ w'.cell? ⟨w.heap.size + 1, 1, none⟩ = some (.int .i64 Hq) ∧ w'.cell? ⟨w.heap.size + 1, 2, none⟩ = some (.slice Aq Vq.length cq) ∧ w'.cell? ⟨b8, 0, none⟩ = some (.int .i64 ps.W) ∧ w'.cell? ⟨b8, 1, none⟩ = some (.int .i64 ps.H) ∧ w'.cell? ⟨b8, 2, none⟩ = some (.slice A8 (ps.V).length c8))) (by kernel_rfl) ?hS0 (fun hHeld => ?_)
      case hS0 => exact ⟨(B3.out.below HB1.out B3.out.lt).cell 0, (B3.out.below HB1.out B3.out.lt).cell 1, (B3.out.below HB1.out B3.out.lt).cell 2, (B4.out.below HB1.out B4.out.lt).cell 0, (B4.out.below HB1.out B4.out.lt).cell 1, (B4.out.below HB1.out B4.out.lt).cell 2, (B8.out).cell 0, (B8.out).cell 1, (B8.out).cell 2⟩
      refine wpAnyH_take (i := 0) (oi := ⟨some 76, _, _, _, _, _⟩) (v := ?v158) rfl (by kernel_rfl) (by kernel_rfl) (by kernel_rfl) (fun _ _ _ h => h) (Or.inl ⟨by rfl, ?h158⟩) (by assumption) ?r158
      case h158 => (intro w hSw; (try dsimp only at hSw); go_simp; try with_reducible rfl)
      try simp only [Act.put, List.setIfInBounds_toArray, List.set_cons_zero, List.set_cons_succ]
      refine wpAnyH_ready (rs := [1]) (by kernel_rfl) (by simp) ?_
      refine (AllReadyH.cons (o := ⟨some 77, _, _, _, _, _⟩) rfl (fun K hK => ?_) AllReadyH.nil)
      go_simp
      have HS1 := HB1
      refine (pright_c Wq Hq Aq Vq.length cq _ hnq).mono ?_
      rintro e w10 ⟨rfl, hb'⟩
      have HB1 := Lib.hid ((HB1.out).trans (hb'.mono (HB1.out).size))
      have B7 := Lib.hid ((B7.out).below hb' (B7.out).lt)
      have O7 := Lib.hid ((O7.out).kept hb')
      have B8 := Lib.hid ((B8.out).below hb' (B8.out).lt)
      have O8 := Lib.hid ((O8.out).kept hb')
      have O10 := Lib.hid ((O10.out).kept hb')
      have O11 := Lib.hid ((O11.out).kept hb')
      clear hb'
      rw [G4.out]
      refine hK.out _ _ ?hS159 (fun hHeld => ?_)
      case hS159 => exact ⟨(B3.out.below HB1.out B3.out.lt).cell 0, (B3.out.below HB1.out B3.out.lt).cell 1, (B3.out.below HB1.out B3.out.lt).cell 2, (B4.out.below HB1.out B4.out.lt).cell 0, (B4.out.below HB1.out B4.out.lt).cell 1, (B4.out.below HB1.out B4.out.lt).cell 2, (B8.out).cell 0, (B8.out).cell 1, (B8.out).cell 2⟩
      clear hK K
      try simp only [Act.put, List.setIfInBounds_toArray, List.set_cons_zero, List.set_cons_succ]
      refine wpAnyH_take (i := 2) (oi := ⟨some 78, _, _, _, _, _⟩) (v := ?v160) rfl (by kernel_rfl) (by kernel_rfl) (by kernel_rfl) (fun _ _ _ h => h) (Or.inl ⟨by rfl, ?h160⟩) (by assumption) ?r160
      case h160 => (intro w hSw; (try dsimp only at hSw); go_simp; try with_reducible rfl)
      try simp only [Act.put, List.setIfInBounds_toArray, List.set_cons_zero, List.set_cons_succ]
      refine wpAnyH_take (i := 3) (oi := ⟨some 79, _, _, _, _, _⟩) (v := ?v161) rfl (by kernel_rfl) (by kernel_rfl) (by kernel_rfl) (fun _ _ _ h => h) (Or.inl ⟨by rfl, ?h161⟩) (by assumption) ?r161
      case h161 => (intro w hSw; (try dsimp only at hSw); go_simp; try with_reducible rfl)
      try simp only [Act.put, List.setIfInBounds_toArray, List.set_cons_zero, List.set_cons_succ]
      refine wpAnyH_take (i := 4) (oi := ⟨some 80, _, _, _, _, _⟩) (v := undef) rfl (by kernel_rfl) (by kernel_rfl) (by kernel_rfl) (fun _ _ _ h => h) (Or.inr ⟨by rfl, rfl⟩) (by assumption) ?r162
      try simp only [Act.put, List.setIfInBounds_toArray, List.set_cons_zero, List.set_cons_succ]
      refine wpAnyH_take (i := 5) (oi := ⟨some 81, _, _, _, _, _⟩) (v := undef) rfl (by kernel_rfl) (by kernel_rfl) (by kernel_rfl) (fun _ _ _ h => h) (Or.inr ⟨by rfl, rfl⟩) (by assumption) ?r163
      try simp only [Act.put, List.setIfInBounds_toArray, List.set_cons_zero, List.set_cons_succ]
      refine wpAnyH_take (i := 6) (oi := ⟨some 82, _, _, _, _, _⟩) (v := undef) rfl (by kernel_rfl) (by kernel_rfl) (by kernel_rfl) (fun _ _ _ h => h) (Or.inr ⟨by rfl, rfl⟩) (by assumption) ?r164
      try simp only [Act.put, List.setIfInBounds_toArray, List.set_cons_zero, List.set_cons_succ]
      refine wpAnyH_take (i := 7) (oi := ⟨some 83, _, _, _, _, _⟩) (v := undef) rfl (by kernel_rfl) (by kernel_rfl) (by kernel_rfl) (fun _ _ _ h => h) (Or.inr ⟨by rfl, rfl⟩) (by assumption) ?r165
      try simp only [Act.put, List.setIfInBounds_toArray, List.set_cons_zero, List.set_cons_succ]
      refine wpAnyH_take (i := 8) (oi := ⟨some 84, _, _, _, _, _⟩) (v := undef) rfl (by kernel_rfl) (by kernel_rfl) (by kernel_rfl) (fun _ _ _ h => h) (Or.inr ⟨by rfl, rfl⟩) (by assumption) ?r166
      try simp only [Act.put, List.setIfInBounds_toArray, List.set_cons_zero, List.set_cons_succ]
      refine wpAnyH_take (i := 9) (oi := ⟨some 85, _, _, _, _, _⟩) (v := undef) rfl (by kernel_rfl) (by kernel_rfl) (by kernel_rfl) (fun _ _ _ h => h) (Or.inr ⟨by rfl, rfl⟩) (by assumption) ?r167
      try simp only [Act.put, List.setIfInBounds_toArray, List.set_cons_zero, List.set_cons_succ]
      refine wpAnyH_take (i := 10) (oi := ⟨some 86, _, _, _, _, _⟩) (v := undef) rfl (by kernel_rfl) (by kernel_rfl) (by kernel_rfl) (fun _ _ _ h => h) (Or.inr ⟨by rfl, rfl⟩) (by assumption) ?r168
      try simp only [Act.put, List.setIfInBounds_toArray, List.set_cons_zero, List.set_cons_succ]
      refine wpAnyH_take (i := 11) (oi := ⟨some 87, _, _, _, _, _⟩) (v := ?v169) rfl (by kernel_rfl) (by kernel_rfl) (by kernel_rfl) (fun _ _ _ h => h) (Or.inl ⟨by rfl, ?h169⟩) (by assumption) ?r169
      case h169 => (intro w hSw; (try dsimp only at hSw); go_simp; try with_reducible rfl)
      try simp only [Act.put, List.setIfInBounds_toArray, List.set_cons_zero, List.set_cons_succ]
      refine wpAnyH_take (i := 12) (oi := ⟨some 6, _, _, _, _, _⟩) (v := ?v170) rfl (by kernel_rfl) (by kernel_rfl) (by kernel_rfl) (fun _ _ _ h => h) (Or.inl ⟨by rfl, ?h170⟩) (by assumption) ?r170
      case h170 => (intro w hSw; (try dsimp only at hSw); go_simp; try with_reducible rfl)
      try simp only [Act.put, List.setIfInBounds_toArray, List.set_cons_zero, List.set_cons_succ]
      refine wpAnyH_done (by kernel_rfl) ?_ _
      clear hHeld
      go_wp2_with fail
      go_ret
      exact ⟨rfl, HB.out.trans (HB1.out.mono HB.out.size)⟩


theorem planeBack_walk (x0 x1 : Int × Int × List Int) (x2 : Int × Int) (v0 v1 v2 : Value) (w : World) (k0 : IsPlane w v0 x0) (k1 : IsPlane w v1 x1) (k2 : IsArr2 .u8 v2 x2) :
    Calls Try.prog 3 #[v0, v1, v2] w fun e w' => e = .returned (.bool true) ∧ Below w.heap.size w w' := by
  obtain ⟨Wp, Hp, Vp⟩ := x0
  obtain ⟨Wq, Hq, Vq⟩ := x1
  obtain ⟨l, m⟩ := x2
  obtain ⟨Ap, cp, rfl, hp, hnp, _, _, hbd⟩ := k0.form
  obtain ⟨Aq, cq, rfl, hq, hnq, _⟩ := k1.form
  obtain ⟨u0, u1, rfl, hu0, hu1⟩ := k2
  have b0 := hu0.bd8
  have b1 := hu1.bd8
  obtain ⟨rfl, _⟩ := hu0
  obtain ⟨rfl, _⟩ := hu1
  by_cases h1 : 2000 < Vp.length
  · exact pback_1 Wp Hp Vp Ap cp Wq Hq Vq Aq cq l m w hp hq hnp hnq h1
  by_cases h2 : 2000 < Vq.length
  · exact pback_2 Wp Hp Vp Ap cp Wq Hq Vq Aq cq l m w hp hq hnp hnq h1 h2
  cases h3 : okB Wp Hp Vp.length with
  | false => exact pback_3 Wp Hp Vp Ap cp Wq Hq Vq Aq cq l m w hp hq hnp hnq h1 h2 h3
  | true =>
    cases h4 : okB Wq Hq Vq.length with
    | true => exact pback_y Wp Hp Vp Ap cp Wq Hq Vq Aq cq l m w hp hq hnp hnq (Lib.hid hbd) b0.1 b0.2 b1.1 b1.2 h1 h2 h3 h4
    | false => exact pback_n Wp Hp Vp Ap cp Wq Hq Vq Aq cq l m w hp hq hnp hnq (Lib.hid hbd) b0.1 b0.2 b1.1 b1.2 h1 h2 h3 h4

end Go.Proofs.Ytjcdjmgkfhnmgaa
