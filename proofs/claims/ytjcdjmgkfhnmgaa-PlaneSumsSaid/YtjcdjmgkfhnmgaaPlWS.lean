/- What the law PlaneSums of layer 7 answers: true. -/
import Derived.Test.YtjcdjmgkfhnmgaaPlF
import Derived.Test.YtjcdjmgkfhnmgaaOpenPlane
import Derived.Test.YtjcdjmgkfhnmgaaPl6
import Derived.Test.YtjcdjmgkfhnmgaaRef7b
import Derived.Test.YtjcdjmgkfhnmgaaWalk
namespace Go.Proofs.Ytjcdjmgkfhnmgaa
open Go.RowKit
set_option linter.unusedVariables false
set_option linter.unusedSimpArgs false

theorem pbig_c (W H : Int) (A : Option Addr) (n c : Nat) (w : World) (hn : n ≤ 9223372036854775807) :
    Calls Try.prog 7 #[plV W H (.slice A n c)] w fun e w' => e = .returned (.bool (decide (2000 < n))) ∧ Below w.heap.size w w' := by
  by_cases h : 2000 < n
  all_goals
    go_enter Try.func7, Try.ntmps7
    go_wp2_with fail
    go_ret
    exact ⟨ret_bool (by simp; omega), (Below.refl _ _).alloc (Nat.le_refl _) _⟩
theorem eqB_of {p q : Pl} (h : p = q) : eqB p.W p.H p.V q.W q.H q.V = true := by subst h; simp [eqB]
theorem add_sum (W H : Int) (V : List Int) (W' H' : Int) (V' : List Int) : joinP (fun x y => wrap64 (x + y)) W H V W' H' V' = joinP (fun x y => wrap64 (x + wrap64 (1 * y))) W H V W' H' V' := by
  congr 1; funext x y; rw [Int.one_mul, wrap64_add_r]
theorem sub_sum (W H : Int) (V : List Int) (W' H' : Int) (V' : List Int) : joinP (fun x y => wrap64 (x - y)) W H V W' H' V' = joinP (fun x y => wrap64 (x + wrap64 (-1 * y))) W H V W' H' V' := by
  congr 1; funext x y; rw [wrap64_add_r]; congr 1; omega
set_option maxRecDepth 100000 in
set_option maxHeartbeats 16000000 in
theorem psums_1 (Wp Hp : Int) (Vp : List Int) (Ap : Option Addr) (cp : Nat) (Wq Hq : Int) (Vq : List Int) (Aq : Option Addr) (cq : Nat) (l m : Int) (w : World) (hp : ReadsI w Ap Vp) (hq : ReadsI w Aq Vq) (hnp : Vp.length ≤ 9223372036854775807) (hnq : Vq.length ≤ 9223372036854775807) (h1 : 2000 < Vp.length) :
    Calls Try.prog 4 #[plV Wp Hp (.slice Ap Vp.length cp), plV Wq Hq (.slice Aq Vq.length cq), .agg #[.int .i64 l, .int .i64 m]] w fun e w' => e = .returned (.bool true) ∧ Below w.heap.size w w' := by
  have RP := Lib.hid hp
  have RQ := Lib.hid hq
  have HB := Lib.hid (Below.refl w.heap.size w)
  have G1 := Lib.hid (decide_eq_true h1)
  clear h1
  clear hp hq
  go_enter Try.func4, Try.ntmps4
  go_wp2_with fail
  have RP := Lib.hid ((((RP.out).alloc (.cells #[.int .i64 Wp, .int .i64 Hp, .slice Ap Vp.length cp] 24)).alloc (.cells #[.int .i64 Wq, .int .i64 Hq, .slice Aq Vq.length cq] 24)).alloc (.cells #[.int .i64 l, .int .i64 m] 33))
  have RQ := Lib.hid ((((RQ.out).alloc (.cells #[.int .i64 Wp, .int .i64 Hp, .slice Ap Vp.length cp] 24)).alloc (.cells #[.int .i64 Wq, .int .i64 Hq, .slice Aq Vq.length cq] 24)).alloc (.cells #[.int .i64 l, .int .i64 m] 33))
  have HB := Lib.hid (below_alloc_ (below_alloc_ (below_alloc_ (HB.out) (.cells #[.int .i64 Wp, .int .i64 Hp, .slice Ap Vp.length cp] 24)) (.cells #[.int .i64 Wq, .int .i64 Hq, .slice Aq Vq.length cq] 24)) (.cells #[.int .i64 l, .int .i64 m] 33))
  have hzw : (((w.alloc (.cells #[.int .i64 Wp, .int .i64 Hp, .slice Ap Vp.length cp] 24)).alloc (.cells #[.int .i64 Wq, .int .i64 Hq, .slice Aq Vq.length cq] 24)).alloc (.cells #[.int .i64 l, .int .i64 m] 33)).heap.size = w.heap.size + 3 := by simp only [World.size_alloc]
  have B3 := ((Blk.new (w) 24 #[.int .i64 Wp, .int .i64 Hp, .slice Ap Vp.length cp]).alloc (.cells #[.int .i64 Wq, .int .i64 Hq, .slice Aq Vq.length cq] 24)).alloc (.cells #[.int .i64 l, .int .i64 m] 33)
  skip
  have B3 := Lib.hid B3
  have B4 := (Blk.new (w.alloc (.cells #[.int .i64 Wp, .int .i64 Hp, .slice Ap Vp.length cp] 24)) 24 #[.int .i64 Wq, .int .i64 Hq, .slice Aq Vq.length cq]).alloc (.cells #[.int .i64 l, .int .i64 m] 33)
  rw [show (w.alloc (.cells #[.int .i64 Wp, .int .i64 Hp, .slice Ap Vp.length cp] 24)).heap.size = w.heap.size + 1 by simp only [World.size_alloc]] at B4
  have B4 := Lib.hid B4
  have B5 := Blk.new ((w.alloc (.cells #[.int .i64 Wp, .int .i64 Hp, .slice Ap Vp.length cp] 24)).alloc (.cells #[.int .i64 Wq, .int .i64 Hq, .slice Aq Vq.length cq] 24)) 33 #[.int .i64 l, .int .i64 m]
  rw [show ((w.alloc (.cells #[.int .i64 Wp, .int .i64 Hp, .slice Ap Vp.length cp] 24)).alloc (.cells #[.int .i64 Wq, .int .i64 Hq, .slice Aq Vq.length cq] 24)).heap.size = w.heap.size + 1 + 1 by simp only [World.size_alloc]] at B5
  have B5 := Lib.hid B5
  generalize ((w.alloc (.cells #[.int .i64 Wp, .int .i64 Hp, .slice Ap Vp.length cp] 24)).alloc (.cells #[.int .i64 Wq, .int .i64 Hq, .slice Aq Vq.length cq] 24)).alloc (.cells #[.int .i64 l, .int .i64 m] 33) = w1 at *
  clear hzw
  refine (first_c _).mono ?_
  rintro e w2 ⟨rfl, hb'⟩
  have RP := Lib.hid ((RP.out).kept hb')
  have RQ := Lib.hid ((RQ.out).kept hb')
  have HB := Lib.hid ((HB.out).trans (hb'.mono (HB.out).size))
  have B3 := Lib.hid ((B3.out).below hb' (B3.out).lt)
  have B4 := Lib.hid ((B4.out).below hb' (B4.out).lt)
  have B5 := Lib.hid ((B5.out).below hb' (B5.out).lt)
  clear hb'
  obtain ⟨zB30, zB31, zB32⟩ := (B3.out).cells3
  obtain ⟨zB40, zB41, zB42⟩ := (B4.out).cells3
  obtain ⟨zB50, zB51⟩ := (B5.out).cells2
  go_wp2_with fail
  refine (pbig_c Wp Hp Ap Vp.length cp _ hnp).mono ?_
  rintro e w3 ⟨rfl, hb'⟩
  have RP := Lib.hid ((RP.out).kept hb')
  have RQ := Lib.hid ((RQ.out).kept hb')
  have HB := Lib.hid ((HB.out).trans (hb'.mono (HB.out).size))
  have B3 := Lib.hid ((B3.out).below hb' (B3.out).lt)
  have B4 := Lib.hid ((B4.out).below hb' (B4.out).lt)
  have B5 := Lib.hid ((B5.out).below hb' (B5.out).lt)
  clear hb'
  clear zB30 zB31 zB32
  clear zB40 zB41 zB42
  clear zB50 zB51
  rw [G1.out]
  go_wp2_with fail
  go_ret
  exact ⟨rfl, HB.out⟩

set_option maxRecDepth 100000 in
set_option maxHeartbeats 16000000 in
theorem psums_2 (Wp Hp : Int) (Vp : List Int) (Ap : Option Addr) (cp : Nat) (Wq Hq : Int) (Vq : List Int) (Aq : Option Addr) (cq : Nat) (l m : Int) (w : World) (hp : ReadsI w Ap Vp) (hq : ReadsI w Aq Vq) (hnp : Vp.length ≤ 9223372036854775807) (hnq : Vq.length ≤ 9223372036854775807) (h1 : ¬ 2000 < Vp.length) (h2 : 2000 < Vq.length) :
    Calls Try.prog 4 #[plV Wp Hp (.slice Ap Vp.length cp), plV Wq Hq (.slice Aq Vq.length cq), .agg #[.int .i64 l, .int .i64 m]] w fun e w' => e = .returned (.bool true) ∧ Below w.heap.size w w' := by
  have RP := Lib.hid hp
  have RQ := Lib.hid hq
  have HB := Lib.hid (Below.refl w.heap.size w)
  have G1 := Lib.hid (decide_eq_false h1)
  have G2 := Lib.hid (decide_eq_true h2)
  clear h1 h2
  clear hp hq
  go_enter Try.func4, Try.ntmps4
  go_wp2_with fail
  have RP := Lib.hid ((((RP.out).alloc (.cells #[.int .i64 Wp, .int .i64 Hp, .slice Ap Vp.length cp] 24)).alloc (.cells #[.int .i64 Wq, .int .i64 Hq, .slice Aq Vq.length cq] 24)).alloc (.cells #[.int .i64 l, .int .i64 m] 33))
  have RQ := Lib.hid ((((RQ.out).alloc (.cells #[.int .i64 Wp, .int .i64 Hp, .slice Ap Vp.length cp] 24)).alloc (.cells #[.int .i64 Wq, .int .i64 Hq, .slice Aq Vq.length cq] 24)).alloc (.cells #[.int .i64 l, .int .i64 m] 33))
  have HB := Lib.hid (below_alloc_ (below_alloc_ (below_alloc_ (HB.out) (.cells #[.int .i64 Wp, .int .i64 Hp, .slice Ap Vp.length cp] 24)) (.cells #[.int .i64 Wq, .int .i64 Hq, .slice Aq Vq.length cq] 24)) (.cells #[.int .i64 l, .int .i64 m] 33))
  have hzw : (((w.alloc (.cells #[.int .i64 Wp, .int .i64 Hp, .slice Ap Vp.length cp] 24)).alloc (.cells #[.int .i64 Wq, .int .i64 Hq, .slice Aq Vq.length cq] 24)).alloc (.cells #[.int .i64 l, .int .i64 m] 33)).heap.size = w.heap.size + 3 := by simp only [World.size_alloc]
  have B3 := ((Blk.new (w) 24 #[.int .i64 Wp, .int .i64 Hp, .slice Ap Vp.length cp]).alloc (.cells #[.int .i64 Wq, .int .i64 Hq, .slice Aq Vq.length cq] 24)).alloc (.cells #[.int .i64 l, .int .i64 m] 33)
  skip
  have B3 := Lib.hid B3
  have B4 := (Blk.new (w.alloc (.cells #[.int .i64 Wp, .int .i64 Hp, .slice Ap Vp.length cp] 24)) 24 #[.int .i64 Wq, .int .i64 Hq, .slice Aq Vq.length cq]).alloc (.cells #[.int .i64 l, .int .i64 m] 33)
  rw [show (w.alloc (.cells #[.int .i64 Wp, .int .i64 Hp, .slice Ap Vp.length cp] 24)).heap.size = w.heap.size + 1 by simp only [World.size_alloc]] at B4
  have B4 := Lib.hid B4
  have B5 := Blk.new ((w.alloc (.cells #[.int .i64 Wp, .int .i64 Hp, .slice Ap Vp.length cp] 24)).alloc (.cells #[.int .i64 Wq, .int .i64 Hq, .slice Aq Vq.length cq] 24)) 33 #[.int .i64 l, .int .i64 m]
  rw [show ((w.alloc (.cells #[.int .i64 Wp, .int .i64 Hp, .slice Ap Vp.length cp] 24)).alloc (.cells #[.int .i64 Wq, .int .i64 Hq, .slice Aq Vq.length cq] 24)).heap.size = w.heap.size + 1 + 1 by simp only [World.size_alloc]] at B5
  have B5 := Lib.hid B5
  generalize ((w.alloc (.cells #[.int .i64 Wp, .int .i64 Hp, .slice Ap Vp.length cp] 24)).alloc (.cells #[.int .i64 Wq, .int .i64 Hq, .slice Aq Vq.length cq] 24)).alloc (.cells #[.int .i64 l, .int .i64 m] 33) = w1 at *
  clear hzw
  refine (first_c _).mono ?_
  rintro e w2 ⟨rfl, hb'⟩
  have RP := Lib.hid ((RP.out).kept hb')
  have RQ := Lib.hid ((RQ.out).kept hb')
  have HB := Lib.hid ((HB.out).trans (hb'.mono (HB.out).size))
  have B3 := Lib.hid ((B3.out).below hb' (B3.out).lt)
  have B4 := Lib.hid ((B4.out).below hb' (B4.out).lt)
  have B5 := Lib.hid ((B5.out).below hb' (B5.out).lt)
  clear hb'
  obtain ⟨zB30, zB31, zB32⟩ := (B3.out).cells3
  obtain ⟨zB40, zB41, zB42⟩ := (B4.out).cells3
  obtain ⟨zB50, zB51⟩ := (B5.out).cells2
  go_wp2_with fail
  refine (pbig_c Wp Hp Ap Vp.length cp _ hnp).mono ?_
  rintro e w3 ⟨rfl, hb'⟩
  have RP := Lib.hid ((RP.out).kept hb')
  have RQ := Lib.hid ((RQ.out).kept hb')
  have HB := Lib.hid ((HB.out).trans (hb'.mono (HB.out).size))
  have B3 := Lib.hid ((B3.out).below hb' (B3.out).lt)
  have B4 := Lib.hid ((B4.out).below hb' (B4.out).lt)
  have B5 := Lib.hid ((B5.out).below hb' (B5.out).lt)
  clear hb'
  clear zB30 zB31 zB32
  clear zB40 zB41 zB42
  clear zB50 zB51
  rw [G1.out]
  obtain ⟨zB30, zB31, zB32⟩ := (B3.out).cells3
  obtain ⟨zB40, zB41, zB42⟩ := (B4.out).cells3
  obtain ⟨zB50, zB51⟩ := (B5.out).cells2
  go_wp2_with fail
  refine (pbig_c Wq Hq Aq Vq.length cq _ hnq).mono ?_
  rintro e w4 ⟨rfl, hb'⟩
  have RP := Lib.hid ((RP.out).kept hb')
  have RQ := Lib.hid ((RQ.out).kept hb')
  have HB := Lib.hid ((HB.out).trans (hb'.mono (HB.out).size))
  have B3 := Lib.hid ((B3.out).below hb' (B3.out).lt)
  have B4 := Lib.hid ((B4.out).below hb' (B4.out).lt)
  have B5 := Lib.hid ((B5.out).below hb' (B5.out).lt)
  clear hb'
  clear zB30 zB31 zB32
  clear zB40 zB41 zB42
  clear zB50 zB51
  rw [G2.out]
  go_wp2_with fail
  go_ret
  exact ⟨rfl, HB.out⟩

set_option maxRecDepth 100000 in
set_option maxHeartbeats 16000000 in
theorem psums_a (Wp Hp : Int) (Vp : List Int) (Ap : Option Addr) (cp : Nat) (Wq Hq : Int) (Vq : List Int) (Aq : Option Addr) (cq : Nat) (l m : Int) (w : World) (hp : ReadsI w Ap Vp) (hq : ReadsI w Aq Vq) (hnp : Vp.length ≤ 9223372036854775807) (hnq : Vq.length ≤ 9223372036854775807) (h1 : ¬ 2000 < Vp.length) (h2 : ¬ 2000 < Vq.length) (hbo : bothB Wp Hp Vp.length Wq Hq Vq.length = true) (hok : okB Wp Hp Vp.length = true) (hv : decide (Vp = Vq) = true) :
    Calls Try.prog 4 #[plV Wp Hp (.slice Ap Vp.length cp), plV Wq Hq (.slice Aq Vq.length cq), .agg #[.int .i64 l, .int .i64 m]] w fun e w' => e = .returned (.bool true) ∧ Below w.heap.size w w' := by
  have RP := Lib.hid hp
  have RQ := Lib.hid hq
  have HB := Lib.hid (Below.refl w.heap.size w)
  have G1 := Lib.hid (decide_eq_false h1)
  have G2 := Lib.hid (decide_eq_false h2)
  have GB := Lib.hid hbo
  have GK := Lib.hid hok
  have GS := Lib.hid (show sameB Wp Hp Vp Wq Hq Vq = true by simp [sameB, hbo, hv])
  have GP := Lib.hid (show sameB Wp Hp Vp Wp Hp Vp = true by simp [sameB, bothB, hok])
  have GE := Lib.hid (show eqB Wp Hp Vp Wq Hq Vq = true by obtain ⟨a, b, rfl, rfl, rfl, rfl, _⟩ := bothB_t hbo; simpa [eqB] using hv)
  clear hv
  have hnp2 : Vp.length ≤ 2000 := by omega
  have hnq2 : Vq.length ≤ 2000 := by omega
  clear h1 h2 hbo hok
  clear hp hq
  go_enter Try.func4, Try.ntmps4
  go_wp2_with fail
  have RP := Lib.hid ((((RP.out).alloc (.cells #[.int .i64 Wp, .int .i64 Hp, .slice Ap Vp.length cp] 24)).alloc (.cells #[.int .i64 Wq, .int .i64 Hq, .slice Aq Vq.length cq] 24)).alloc (.cells #[.int .i64 l, .int .i64 m] 33))
  have RQ := Lib.hid ((((RQ.out).alloc (.cells #[.int .i64 Wp, .int .i64 Hp, .slice Ap Vp.length cp] 24)).alloc (.cells #[.int .i64 Wq, .int .i64 Hq, .slice Aq Vq.length cq] 24)).alloc (.cells #[.int .i64 l, .int .i64 m] 33))
  have HB := Lib.hid (below_alloc_ (below_alloc_ (below_alloc_ (HB.out) (.cells #[.int .i64 Wp, .int .i64 Hp, .slice Ap Vp.length cp] 24)) (.cells #[.int .i64 Wq, .int .i64 Hq, .slice Aq Vq.length cq] 24)) (.cells #[.int .i64 l, .int .i64 m] 33))
  have hzw : (((w.alloc (.cells #[.int .i64 Wp, .int .i64 Hp, .slice Ap Vp.length cp] 24)).alloc (.cells #[.int .i64 Wq, .int .i64 Hq, .slice Aq Vq.length cq] 24)).alloc (.cells #[.int .i64 l, .int .i64 m] 33)).heap.size = w.heap.size + 3 := by simp only [World.size_alloc]
  have B3 := ((Blk.new (w) 24 #[.int .i64 Wp, .int .i64 Hp, .slice Ap Vp.length cp]).alloc (.cells #[.int .i64 Wq, .int .i64 Hq, .slice Aq Vq.length cq] 24)).alloc (.cells #[.int .i64 l, .int .i64 m] 33)
  skip
  have B3 := Lib.hid B3
  have B4 := (Blk.new (w.alloc (.cells #[.int .i64 Wp, .int .i64 Hp, .slice Ap Vp.length cp] 24)) 24 #[.int .i64 Wq, .int .i64 Hq, .slice Aq Vq.length cq]).alloc (.cells #[.int .i64 l, .int .i64 m] 33)
  rw [show (w.alloc (.cells #[.int .i64 Wp, .int .i64 Hp, .slice Ap Vp.length cp] 24)).heap.size = w.heap.size + 1 by simp only [World.size_alloc]] at B4
  have B4 := Lib.hid B4
  have B5 := Blk.new ((w.alloc (.cells #[.int .i64 Wp, .int .i64 Hp, .slice Ap Vp.length cp] 24)).alloc (.cells #[.int .i64 Wq, .int .i64 Hq, .slice Aq Vq.length cq] 24)) 33 #[.int .i64 l, .int .i64 m]
  rw [show ((w.alloc (.cells #[.int .i64 Wp, .int .i64 Hp, .slice Ap Vp.length cp] 24)).alloc (.cells #[.int .i64 Wq, .int .i64 Hq, .slice Aq Vq.length cq] 24)).heap.size = w.heap.size + 1 + 1 by simp only [World.size_alloc]] at B5
  have B5 := Lib.hid B5
  generalize ((w.alloc (.cells #[.int .i64 Wp, .int .i64 Hp, .slice Ap Vp.length cp] 24)).alloc (.cells #[.int .i64 Wq, .int .i64 Hq, .slice Aq Vq.length cq] 24)).alloc (.cells #[.int .i64 l, .int .i64 m] 33) = w1 at *
  clear hzw
  refine (first_c _).mono ?_
  rintro e w2 ⟨rfl, hb'⟩
  have RP := Lib.hid ((RP.out).kept hb')
  have RQ := Lib.hid ((RQ.out).kept hb')
  have HB := Lib.hid ((HB.out).trans (hb'.mono (HB.out).size))
  have B3 := Lib.hid ((B3.out).below hb' (B3.out).lt)
  have B4 := Lib.hid ((B4.out).below hb' (B4.out).lt)
  have B5 := Lib.hid ((B5.out).below hb' (B5.out).lt)
  clear hb'
  obtain ⟨zB30, zB31, zB32⟩ := (B3.out).cells3
  obtain ⟨zB40, zB41, zB42⟩ := (B4.out).cells3
  obtain ⟨zB50, zB51⟩ := (B5.out).cells2
  go_wp2_with fail
  refine (pbig_c Wp Hp Ap Vp.length cp _ hnp).mono ?_
  rintro e w3 ⟨rfl, hb'⟩
  have RP := Lib.hid ((RP.out).kept hb')
  have RQ := Lib.hid ((RQ.out).kept hb')
  have HB := Lib.hid ((HB.out).trans (hb'.mono (HB.out).size))
  have B3 := Lib.hid ((B3.out).below hb' (B3.out).lt)
  have B4 := Lib.hid ((B4.out).below hb' (B4.out).lt)
  have B5 := Lib.hid ((B5.out).below hb' (B5.out).lt)
  clear hb'
  clear zB30 zB31 zB32
  clear zB40 zB41 zB42
  clear zB50 zB51
  rw [G1.out]
  obtain ⟨zB30, zB31, zB32⟩ := (B3.out).cells3
  obtain ⟨zB40, zB41, zB42⟩ := (B4.out).cells3
  obtain ⟨zB50, zB51⟩ := (B5.out).cells2
  go_wp2_with fail
  refine (pbig_c Wq Hq Aq Vq.length cq _ hnq).mono ?_
  rintro e w4 ⟨rfl, hb'⟩
  have RP := Lib.hid ((RP.out).kept hb')
  have RQ := Lib.hid ((RQ.out).kept hb')
  have HB := Lib.hid ((HB.out).trans (hb'.mono (HB.out).size))
  have B3 := Lib.hid ((B3.out).below hb' (B3.out).lt)
  have B4 := Lib.hid ((B4.out).below hb' (B4.out).lt)
  have B5 := Lib.hid ((B5.out).below hb' (B5.out).lt)
  clear hb'
  clear zB30 zB31 zB32
  clear zB40 zB41 zB42
  clear zB50 zB51
  rw [G2.out]
  go_wp2_with fail
  have RP := Lib.hid ((RP.out).drew)
  have RQ := Lib.hid ((RQ.out).drew)
  have HB := Lib.hid ((HB.out).drew)
  have B3 := Lib.hid ((B3.out).drew)
  have B4 := Lib.hid ((B4.out).drew)
  have B5 := Lib.hid ((B5.out).drew)
  refine wp_region_held_drew (S := (fun w' => w'.cell? ⟨w.heap.size, 0, none⟩ = some (.int .i64 Wp) ∧ w'.cell? ⟨w.heap.size, 1, none⟩ = some (.int .i64 Hp) ∧ w'.cell? ⟨w.heap.size, 2, none⟩ = some (.slice Ap Vp.length cp) ∧ w'.cell? ⟨w.heap.size + 1, 0, none⟩ = some (.int .i64 Wq) ∧ w'.cell? ⟨w.heap.size + 1, 1, none⟩ = some (.int .i64 Hq) ∧ w'.cell? ⟨w.heap.size + 1, 2, none⟩ = some (.slice Aq Vq.length cq) ∧ w'.cell? ⟨w.heap.size + 1 + 1, 0, none⟩ = some (.int .i64 l) ∧ w'.cell? ⟨w.heap.size + 1 + 1, 1, none⟩ = some (.int .i64 m))) (by kernel_rfl) ?hS0 (fun hHeld => ?_)
  case hS0 => exact ⟨(B3.out).cell 0, (B3.out).cell 1, (B3.out).cell 2, (B4.out).cell 0, (B4.out).cell 1, (B4.out).cell 2, (B5.out).cell 0, (B5.out).cell 1⟩
  refine wpAnyH_take (i := 0) (oi := ⟨some 15, _, _, _, _, _⟩) (v := ?v51) rfl (by kernel_rfl) (by kernel_rfl) (by kernel_rfl) (fun _ _ _ h => h) (Or.inl ⟨by rfl, ?h51⟩) (by assumption) ?r51
  case h51 => (intro w hSw; (try dsimp only at hSw); go_simp; try with_reducible rfl)
  try simp only [Act.put, List.setIfInBounds_toArray, List.set_cons_zero, List.set_cons_succ]
  refine wpAnyH_take (i := 1) (oi := ⟨some 16, _, _, _, _, _⟩) (v := ?v52) rfl (by kernel_rfl) (by kernel_rfl) (by kernel_rfl) (fun _ _ _ h => h) (Or.inl ⟨by rfl, ?h52⟩) (by assumption) ?r52
  case h52 => (intro w hSw; (try dsimp only at hSw); go_simp; try with_reducible rfl)
  try simp only [Act.put, List.setIfInBounds_toArray, List.set_cons_zero, List.set_cons_succ]
  refine wpAnyH_take (i := 3) (oi := ⟨some 18, _, _, _, _, _⟩) (v := ?v53) rfl (by kernel_rfl) (by kernel_rfl) (by kernel_rfl) (fun _ _ _ h => h) (Or.inl ⟨by rfl, ?h53⟩) (by assumption) ?r53
  case h53 => (intro w hSw; (try dsimp only at hSw); go_simp; try with_reducible rfl)
  try simp only [Act.put, List.setIfInBounds_toArray, List.set_cons_zero, List.set_cons_succ]
  refine wpAnyH_take (i := 4) (oi := ⟨some 19, _, _, _, _, _⟩) (v := ?v54) rfl (by kernel_rfl) (by kernel_rfl) (by kernel_rfl) (fun _ _ _ h => h) (Or.inl ⟨by rfl, ?h54⟩) (by assumption) ?r54
  case h54 => (intro w hSw; (try dsimp only at hSw); go_simp; try with_reducible rfl)
  try simp only [Act.put, List.setIfInBounds_toArray, List.set_cons_zero, List.set_cons_succ]
  refine wpAnyH_ready (rs := [2]) (by kernel_rfl) (by simp) ?_
  refine (AllReadyH.cons (o := ⟨some 17, _, _, _, _, _⟩) rfl (fun K hK => ?_) AllReadyH.nil)
  go_simp
  refine (padd_c Wp Hp Vp Wq Hq Vq Ap Aq cp cq _ RP.out RQ.out (by omega) (by omega)).mono ?_
  rintro e w5 ⟨v, rfl, ho, hb'⟩
  have RP := Lib.hid ((RP.out).kept hb')
  have RQ := Lib.hid ((RQ.out).kept hb')
  have HB := Lib.hid ((HB.out).trans (hb'.mono (HB.out).size))
  have B3 := Lib.hid ((B3.out).below hb' (B3.out).lt)
  have B4 := Lib.hid ((B4.out).below hb' (B4.out).lt)
  have B5 := Lib.hid ((B5.out).below hb' (B5.out).lt)
  clear hb'
  obtain ⟨p1, hp1⟩ : ∃ p, p = joinP (fun x y => wrap64 (x + y)) Wp Hp Vp Wq Hq Vq := ⟨_, rfl⟩
  rw [← hp1] at ho ⊢
  have EP1 := Lib.hid hp1
  have hl1 : p1.V.length ≤ Vp.length := by rw [hp1]; exact joinP_length _ _ _ _ _ _ _
  obtain ⟨A1, c1, rfl, hq⟩ := ho.slice
  have R1 := Lib.hid hq
  clear ho hq hp1
  refine hK.out _ _ ?hS55 (fun hHeld => ?_)
  case hS55 => exact ⟨(B3.out).cell 0, (B3.out).cell 1, (B3.out).cell 2, (B4.out).cell 0, (B4.out).cell 1, (B4.out).cell 2, (B5.out).cell 0, (B5.out).cell 1⟩
  clear hK K
  try simp only [Act.put, List.setIfInBounds_toArray, List.set_cons_zero, List.set_cons_succ]
  refine wpAnyH_ready (rs := [5]) (by kernel_rfl) (by simp) ?_
  refine (AllReadyH.cons (o := ⟨some 20, _, _, _, _, _⟩) rfl (fun K hK => ?_) AllReadyH.nil)
  go_simp
  refine (rsum_c 1 Wp Hp Vp Wq Hq Vq Ap Aq cp cq _ RP.out RQ.out (by omega) (by omega)).mono ?_
  rintro e w6 ⟨v, rfl, ho, hb'⟩
  have RP := Lib.hid ((RP.out).kept hb')
  have RQ := Lib.hid ((RQ.out).kept hb')
  have HB := Lib.hid ((HB.out).trans (hb'.mono (HB.out).size))
  have B3 := Lib.hid ((B3.out).below hb' (B3.out).lt)
  have B4 := Lib.hid ((B4.out).below hb' (B4.out).lt)
  have B5 := Lib.hid ((B5.out).below hb' (B5.out).lt)
  have R1 := Lib.hid ((R1.out).kept hb')
  clear hb'
  obtain ⟨p2, hp2⟩ : ∃ p, p = joinP (fun x y => wrap64 (x + wrap64 (1 * y))) Wp Hp Vp Wq Hq Vq := ⟨_, rfl⟩
  rw [← hp2] at ho ⊢
  have EP2 := Lib.hid hp2
  have hl2 : p2.V.length ≤ Vp.length := by rw [hp2]; exact joinP_length _ _ _ _ _ _ _
  obtain ⟨A2, c2, rfl, hq⟩ := ho.slice
  have R2 := Lib.hid hq
  clear ho hq hp2
  refine hK.out _ _ ?hS56 (fun hHeld => ?_)
  case hS56 => exact ⟨(B3.out).cell 0, (B3.out).cell 1, (B3.out).cell 2, (B4.out).cell 0, (B4.out).cell 1, (B4.out).cell 2, (B5.out).cell 0, (B5.out).cell 1⟩
  clear hK K
  try simp only [Act.put, List.setIfInBounds_toArray, List.set_cons_zero, List.set_cons_succ]
  refine wpAnyH_ready (rs := [6]) (by kernel_rfl) (by simp) ?_
  refine (AllReadyH.cons (o := ⟨some 21, _, _, _, _, _⟩) rfl (fun K hK => ?_) AllReadyH.nil)
  go_simp
  refine (rsame_c p1.W p1.H p1.V p2.W p2.H p2.V A1 A2 c1 c2 _ R1.out R2.out (by omega) (by omega)).mono ?_
  rintro e w7 ⟨rfl, hb'⟩
  have RP := Lib.hid ((RP.out).kept hb')
  have RQ := Lib.hid ((RQ.out).kept hb')
  have HB := Lib.hid ((HB.out).trans (hb'.mono (HB.out).size))
  have B3 := Lib.hid ((B3.out).below hb' (B3.out).lt)
  have B4 := Lib.hid ((B4.out).below hb' (B4.out).lt)
  have B5 := Lib.hid ((B5.out).below hb' (B5.out).lt)
  have R1 := Lib.hid ((R1.out).kept hb')
  have R2 := Lib.hid ((R2.out).kept hb')
  clear hb'
  rw [eqB_of (show p1 = p2 by rw [EP1.out, EP2.out]; exact add_sum _ _ _ _ _ _)]
  refine hK.out _ _ ?hS57 (fun hHeld => ?_)
  case hS57 => exact ⟨(B3.out).cell 0, (B3.out).cell 1, (B3.out).cell 2, (B4.out).cell 0, (B4.out).cell 1, (B4.out).cell 2, (B5.out).cell 0, (B5.out).cell 1⟩
  clear hK K
  try simp only [Act.put, List.setIfInBounds_toArray, List.set_cons_zero, List.set_cons_succ]
  refine wpAnyH_take (i := 7) (oi := ⟨some 22, _, _, _, _, _⟩) (v := ?v58) rfl (by kernel_rfl) (by kernel_rfl) (by kernel_rfl) (fun _ _ _ h => h) (Or.inl ⟨by rfl, ?h58⟩) (by assumption) ?r58
  case h58 => (intro w hSw; (try dsimp only at hSw); go_simp; try with_reducible rfl)
  try simp only [Act.put, List.setIfInBounds_toArray, List.set_cons_zero, List.set_cons_succ]
  refine wpAnyH_take (i := 8) (oi := ⟨some 23, _, _, _, _, _⟩) (v := ?v59) rfl (by kernel_rfl) (by kernel_rfl) (by kernel_rfl) (fun _ _ _ h => h) (Or.inl ⟨by rfl, ?h59⟩) (by assumption) ?r59
  case h59 => (intro w hSw; (try dsimp only at hSw); go_simp; try with_reducible rfl)
  try simp only [Act.put, List.setIfInBounds_toArray, List.set_cons_zero, List.set_cons_succ]
  refine wpAnyH_take (i := 9) (oi := ⟨some 24, _, _, _, _, _⟩) (v := ?v60) rfl (by kernel_rfl) (by kernel_rfl) (by kernel_rfl) (fun _ _ _ h => h) (Or.inl ⟨by rfl, ?h60⟩) (by assumption) ?r60
  case h60 => (intro w hSw; (try dsimp only at hSw); go_simp; try with_reducible rfl)
  try simp only [Act.put, List.setIfInBounds_toArray, List.set_cons_zero, List.set_cons_succ]
  refine wpAnyH_take (i := 11) (oi := ⟨some 26, _, _, _, _, _⟩) (v := ?v61) rfl (by kernel_rfl) (by kernel_rfl) (by kernel_rfl) (fun _ _ _ h => h) (Or.inl ⟨by rfl, ?h61⟩) (by assumption) ?r61
  case h61 => (intro w hSw; (try dsimp only at hSw); go_simp; try with_reducible rfl)
  try simp only [Act.put, List.setIfInBounds_toArray, List.set_cons_zero, List.set_cons_succ]
  refine wpAnyH_take (i := 12) (oi := ⟨some 27, _, _, _, _, _⟩) (v := ?v62) rfl (by kernel_rfl) (by kernel_rfl) (by kernel_rfl) (fun _ _ _ h => h) (Or.inl ⟨by rfl, ?h62⟩) (by assumption) ?r62
  case h62 => (intro w hSw; (try dsimp only at hSw); go_simp; try with_reducible rfl)
  try simp only [Act.put, List.setIfInBounds_toArray, List.set_cons_zero, List.set_cons_succ]
  refine wpAnyH_ready (rs := [10]) (by kernel_rfl) (by simp) ?_
  refine (AllReadyH.cons (o := ⟨some 25, _, _, _, _, _⟩) rfl (fun K hK => ?_) AllReadyH.nil)
  go_simp
  refine (psub_c Wp Hp Vp Wq Hq Vq Ap Aq cp cq _ RP.out RQ.out (by omega) (by omega)).mono ?_
  rintro e w8 ⟨v, rfl, ho, hb'⟩
  have RP := Lib.hid ((RP.out).kept hb')
  have RQ := Lib.hid ((RQ.out).kept hb')
  have HB := Lib.hid ((HB.out).trans (hb'.mono (HB.out).size))
  have B3 := Lib.hid ((B3.out).below hb' (B3.out).lt)
  have B4 := Lib.hid ((B4.out).below hb' (B4.out).lt)
  have B5 := Lib.hid ((B5.out).below hb' (B5.out).lt)
  have R1 := Lib.hid ((R1.out).kept hb')
  have R2 := Lib.hid ((R2.out).kept hb')
  clear hb'
  obtain ⟨p3, hp3⟩ : ∃ p, p = joinP (fun x y => wrap64 (x - y)) Wp Hp Vp Wq Hq Vq := ⟨_, rfl⟩
  rw [← hp3] at ho ⊢
  have EP3 := Lib.hid hp3
  have hl3 : p3.V.length ≤ Vp.length := by rw [hp3]; exact joinP_length _ _ _ _ _ _ _
  obtain ⟨A3, c3, rfl, hq⟩ := ho.slice
  have R3 := Lib.hid hq
  clear ho hq hp3
  refine hK.out _ _ ?hS63 (fun hHeld => ?_)
  case hS63 => exact ⟨(B3.out).cell 0, (B3.out).cell 1, (B3.out).cell 2, (B4.out).cell 0, (B4.out).cell 1, (B4.out).cell 2, (B5.out).cell 0, (B5.out).cell 1⟩
  clear hK K
  try simp only [Act.put, List.setIfInBounds_toArray, List.set_cons_zero, List.set_cons_succ]
  refine wpAnyH_ready (rs := [13]) (by kernel_rfl) (by simp) ?_
  refine (AllReadyH.cons (o := ⟨some 28, _, _, _, _, _⟩) rfl (fun K hK => ?_) AllReadyH.nil)
  go_simp
  refine (rsum_c (-1) Wp Hp Vp Wq Hq Vq Ap Aq cp cq _ RP.out RQ.out (by omega) (by omega)).mono ?_
  rintro e w9 ⟨v, rfl, ho, hb'⟩
  have RP := Lib.hid ((RP.out).kept hb')
  have RQ := Lib.hid ((RQ.out).kept hb')
  have HB := Lib.hid ((HB.out).trans (hb'.mono (HB.out).size))
  have B3 := Lib.hid ((B3.out).below hb' (B3.out).lt)
  have B4 := Lib.hid ((B4.out).below hb' (B4.out).lt)
  have B5 := Lib.hid ((B5.out).below hb' (B5.out).lt)
  have R1 := Lib.hid ((R1.out).kept hb')
  have R2 := Lib.hid ((R2.out).kept hb')
  have R3 := Lib.hid ((R3.out).kept hb')
  clear hb'
  obtain ⟨p4, hp4⟩ : ∃ p, p = joinP (fun x y => wrap64 (x + wrap64 (-1 * y))) Wp Hp Vp Wq Hq Vq := ⟨_, rfl⟩
  rw [← hp4] at ho ⊢
  have EP4 := Lib.hid hp4
  have hl4 : p4.V.length ≤ Vp.length := by rw [hp4]; exact joinP_length _ _ _ _ _ _ _
  obtain ⟨A4, c4, rfl, hq⟩ := ho.slice
  have R4 := Lib.hid hq
  clear ho hq hp4
  refine hK.out _ _ ?hS64 (fun hHeld => ?_)
  case hS64 => exact ⟨(B3.out).cell 0, (B3.out).cell 1, (B3.out).cell 2, (B4.out).cell 0, (B4.out).cell 1, (B4.out).cell 2, (B5.out).cell 0, (B5.out).cell 1⟩
  clear hK K
  try simp only [Act.put, List.setIfInBounds_toArray, List.set_cons_zero, List.set_cons_succ]
  refine wpAnyH_ready (rs := [14]) (by kernel_rfl) (by simp) ?_
  refine (AllReadyH.cons (o := ⟨some 29, _, _, _, _, _⟩) rfl (fun K hK => ?_) AllReadyH.nil)
  go_simp
  refine (rsame_c p3.W p3.H p3.V p4.W p4.H p4.V A3 A4 c3 c4 _ R3.out R4.out (by omega) (by omega)).mono ?_
  rintro e w10 ⟨rfl, hb'⟩
  have RP := Lib.hid ((RP.out).kept hb')
  have RQ := Lib.hid ((RQ.out).kept hb')
  have HB := Lib.hid ((HB.out).trans (hb'.mono (HB.out).size))
  have B3 := Lib.hid ((B3.out).below hb' (B3.out).lt)
  have B4 := Lib.hid ((B4.out).below hb' (B4.out).lt)
  have B5 := Lib.hid ((B5.out).below hb' (B5.out).lt)
  have R1 := Lib.hid ((R1.out).kept hb')
  have R2 := Lib.hid ((R2.out).kept hb')
  have R3 := Lib.hid ((R3.out).kept hb')
  have R4 := Lib.hid ((R4.out).kept hb')
  clear hb'
  rw [eqB_of (show p3 = p4 by rw [EP3.out, EP4.out]; exact sub_sum _ _ _ _ _ _)]
  refine hK.out _ _ ?hS65 (fun hHeld => ?_)
  case hS65 => exact ⟨(B3.out).cell 0, (B3.out).cell 1, (B3.out).cell 2, (B4.out).cell 0, (B4.out).cell 1, (B4.out).cell 2, (B5.out).cell 0, (B5.out).cell 1⟩
  clear hK K
  try simp only [Act.put, List.setIfInBounds_toArray, List.set_cons_zero, List.set_cons_succ]
  refine wpAnyH_take (i := 15) (oi := ⟨some 30, _, _, _, _, _⟩) (v := ?v66) rfl (by kernel_rfl) (by kernel_rfl) (by kernel_rfl) (fun _ _ _ h => h) (Or.inl ⟨by rfl, ?h66⟩) (by assumption) ?r66
  case h66 => (intro w hSw; (try dsimp only at hSw); go_simp; try with_reducible rfl)
  try simp only [Act.put, List.setIfInBounds_toArray, List.set_cons_zero, List.set_cons_succ]
  refine wpAnyH_take (i := 16) (oi := ⟨some 31, _, _, _, _, _⟩) (v := ?v67) rfl (by kernel_rfl) (by kernel_rfl) (by kernel_rfl) (fun _ _ _ h => h) (Or.inl ⟨by rfl, ?h67⟩) (by assumption) ?r67
  case h67 => (intro w hSw; (try dsimp only at hSw); go_simp; try with_reducible rfl)
  try simp only [Act.put, List.setIfInBounds_toArray, List.set_cons_zero, List.set_cons_succ]
  refine wpAnyH_take (i := 17) (oi := ⟨some 32, _, _, _, _, _⟩) (v := ?v68) rfl (by kernel_rfl) (by kernel_rfl) (by kernel_rfl) (fun _ _ _ h => h) (Or.inl ⟨by rfl, ?h68⟩) (by assumption) ?r68
  case h68 => (intro w hSw; (try dsimp only at hSw); go_simp; try with_reducible rfl)
  try simp only [Act.put, List.setIfInBounds_toArray, List.set_cons_zero, List.set_cons_succ]
  refine wpAnyH_take (i := 18) (oi := ⟨some 33, _, _, _, _, _⟩) (v := ?v69) rfl (by kernel_rfl) (by kernel_rfl) (by kernel_rfl) (fun _ _ _ h => h) (Or.inl ⟨by rfl, ?h69⟩) (by assumption) ?r69
  case h69 => (intro w hSw; (try dsimp only at hSw); go_simp; try with_reducible rfl)
  try simp only [Act.put, List.setIfInBounds_toArray, List.set_cons_zero, List.set_cons_succ]
  refine wpAnyH_take (i := 19) (oi := ⟨some 34, _, _, _, _, _⟩) (v := ?v70) rfl (by kernel_rfl) (by kernel_rfl) (by kernel_rfl) (fun _ _ _ h => h) (Or.inl ⟨by rfl, ?h70⟩) (by assumption) ?r70
  case h70 => (intro w hSw; (try dsimp only at hSw); go_simp; try with_reducible rfl)
  try simp only [Act.put, List.setIfInBounds_toArray, List.set_cons_zero, List.set_cons_succ]
  refine wpAnyH_take (i := 20) (oi := ⟨some 35, _, _, _, _, _⟩) (v := ?v71) rfl (by kernel_rfl) (by kernel_rfl) (by kernel_rfl) (fun _ _ _ h => h) (Or.inl ⟨by rfl, ?h71⟩) (by assumption) ?r71
  case h71 => (intro w hSw; (try dsimp only at hSw); go_simp; try with_reducible rfl)
  try simp only [Act.put, List.setIfInBounds_toArray, List.set_cons_zero, List.set_cons_succ]
  refine wpAnyH_take (i := 21) (oi := ⟨some 36, _, _, _, _, _⟩) (v := ?v72) rfl (by kernel_rfl) (by kernel_rfl) (by kernel_rfl) (fun _ _ _ h => h) (Or.inl ⟨by rfl, ?h72⟩) (by assumption) ?r72
  case h72 => (intro w hSw; (try dsimp only at hSw); go_simp; try with_reducible rfl)
  try simp only [Act.put, List.setIfInBounds_toArray, List.set_cons_zero, List.set_cons_succ]
  refine wpAnyH_take (i := 23) (oi := ⟨some 38, _, _, _, _, _⟩) (v := ?v73) rfl (by kernel_rfl) (by kernel_rfl) (by kernel_rfl) (fun _ _ _ h => h) (Or.inl ⟨by rfl, ?h73⟩) (by assumption) ?r73
  case h73 => (intro w hSw; (try dsimp only at hSw); go_simp; try with_reducible rfl)
  try simp only [Act.put, List.setIfInBounds_toArray, List.set_cons_zero, List.set_cons_succ]
  refine wpAnyH_take (i := 24) (oi := ⟨some 39, _, _, _, _, _⟩) (v := ?v74) rfl (by kernel_rfl) (by kernel_rfl) (by kernel_rfl) (fun _ _ _ h => h) (Or.inl ⟨by rfl, ?h74⟩) (by assumption) ?r74
  case h74 => (intro w hSw; (try dsimp only at hSw); go_simp; try with_reducible rfl)
  try simp only [Act.put, List.setIfInBounds_toArray, List.set_cons_zero, List.set_cons_succ]
  refine wpAnyH_take (i := 25) (oi := ⟨some 40, _, _, _, _, _⟩) (v := ?v75) rfl (by kernel_rfl) (by kernel_rfl) (by kernel_rfl) (fun _ _ _ h => h) (Or.inl ⟨by rfl, ?h75⟩) (by assumption) ?r75
  case h75 => (intro w hSw; (try dsimp only at hSw); go_simp; try with_reducible rfl)
  try simp only [Act.put, List.setIfInBounds_toArray, List.set_cons_zero, List.set_cons_succ]
  refine wpAnyH_take (i := 26) (oi := ⟨some 41, _, _, _, _, _⟩) (v := ?v76) rfl (by kernel_rfl) (by kernel_rfl) (by kernel_rfl) (fun _ _ _ h => h) (Or.inl ⟨by rfl, ?h76⟩) (by assumption) ?r76
  case h76 => (intro w hSw; (try dsimp only at hSw); go_simp; try with_reducible rfl)
  try simp only [Act.put, List.setIfInBounds_toArray, List.set_cons_zero, List.set_cons_succ]
  refine wpAnyH_take (i := 27) (oi := ⟨some 42, _, _, _, _, _⟩) (v := ?v77) rfl (by kernel_rfl) (by kernel_rfl) (by kernel_rfl) (fun _ _ _ h => h) (Or.inl ⟨by rfl, ?h77⟩) (by assumption) ?r77
  case h77 => (intro w hSw; (try dsimp only at hSw); go_simp; try with_reducible rfl)
  try simp only [Act.put, List.setIfInBounds_toArray, List.set_cons_zero, List.set_cons_succ]
  refine wpAnyH_ready (rs := [22]) (by kernel_rfl) (by simp) ?_
  refine (AllReadyH.cons (o := ⟨some 37, _, _, _, _, _⟩) rfl (fun K hK => ?_) AllReadyH.nil)
  go_simp
  refine (pclip_c Wp Hp Vp Ap cp l m _ RP.out (by omega)).mono ?_
  rintro e w11 ⟨v, rfl, ho, hb'⟩
  have RP := Lib.hid ((RP.out).kept hb')
  have RQ := Lib.hid ((RQ.out).kept hb')
  have HB := Lib.hid ((HB.out).trans (hb'.mono (HB.out).size))
  have B3 := Lib.hid ((B3.out).below hb' (B3.out).lt)
  have B4 := Lib.hid ((B4.out).below hb' (B4.out).lt)
  have B5 := Lib.hid ((B5.out).below hb' (B5.out).lt)
  have R1 := Lib.hid ((R1.out).kept hb')
  have R2 := Lib.hid ((R2.out).kept hb')
  have R3 := Lib.hid ((R3.out).kept hb')
  have R4 := Lib.hid ((R4.out).kept hb')
  clear hb'
  obtain ⟨p5, hp5⟩ : ∃ p, p = joinP (fun x _ => min (max x l) m) Wp Hp Vp Wp Hp Vp := ⟨_, rfl⟩
  rw [← hp5] at ho ⊢
  have EP5 := Lib.hid hp5
  have hl5 : p5.V.length ≤ Vp.length := by rw [hp5]; exact joinP_length _ _ _ _ _ _ _
  obtain ⟨A5, c5, rfl, hq⟩ := ho.slice
  have R5 := Lib.hid hq
  clear ho hq hp5
  refine hK.out _ _ ?hS78 (fun hHeld => ?_)
  case hS78 => exact ⟨(B3.out).cell 0, (B3.out).cell 1, (B3.out).cell 2, (B4.out).cell 0, (B4.out).cell 1, (B4.out).cell 2, (B5.out).cell 0, (B5.out).cell 1⟩
  clear hK K
  try simp only [Act.put, List.setIfInBounds_toArray, List.set_cons_zero, List.set_cons_succ]
  refine wpAnyH_ready (rs := [28]) (by kernel_rfl) (by simp) ?_
  refine (AllReadyH.cons (o := ⟨some 43, _, _, _, _, _⟩) rfl (fun K hK => ?_) AllReadyH.nil)
  go_simp
  refine (rclip_c l m Wp Hp Vp Ap cp _ RP.out (by omega)).mono ?_
  rintro e w12 ⟨v, rfl, ho, hb'⟩
  have RP := Lib.hid ((RP.out).kept hb')
  have RQ := Lib.hid ((RQ.out).kept hb')
  have HB := Lib.hid ((HB.out).trans (hb'.mono (HB.out).size))
  have B3 := Lib.hid ((B3.out).below hb' (B3.out).lt)
  have B4 := Lib.hid ((B4.out).below hb' (B4.out).lt)
  have B5 := Lib.hid ((B5.out).below hb' (B5.out).lt)
  have R1 := Lib.hid ((R1.out).kept hb')
  have R2 := Lib.hid ((R2.out).kept hb')
  have R3 := Lib.hid ((R3.out).kept hb')
  have R4 := Lib.hid ((R4.out).kept hb')
  have R5 := Lib.hid ((R5.out).kept hb')
  clear hb'
  obtain ⟨p6, hp6⟩ : ∃ p, p = joinP (fun x _ => min (max x l) m) Wp Hp Vp Wp Hp Vp := ⟨_, rfl⟩
  rw [← hp6] at ho ⊢
  have EP6 := Lib.hid hp6
  have hl6 : p6.V.length ≤ Vp.length := by rw [hp6]; exact joinP_length _ _ _ _ _ _ _
  obtain ⟨A6, c6, rfl, hq⟩ := ho.slice
  have R6 := Lib.hid hq
  clear ho hq hp6
  refine hK.out _ _ ?hS79 (fun hHeld => ?_)
  case hS79 => exact ⟨(B3.out).cell 0, (B3.out).cell 1, (B3.out).cell 2, (B4.out).cell 0, (B4.out).cell 1, (B4.out).cell 2, (B5.out).cell 0, (B5.out).cell 1⟩
  clear hK K
  try simp only [Act.put, List.setIfInBounds_toArray, List.set_cons_zero, List.set_cons_succ]
  refine wpAnyH_ready (rs := [29]) (by kernel_rfl) (by simp) ?_
  refine (AllReadyH.cons (o := ⟨some 44, _, _, _, _, _⟩) rfl (fun K hK => ?_) AllReadyH.nil)
  go_simp
  refine (rsame_c p5.W p5.H p5.V p6.W p6.H p6.V A5 A6 c5 c6 _ R5.out R6.out (by omega) (by omega)).mono ?_
  rintro e w13 ⟨rfl, hb'⟩
  have RP := Lib.hid ((RP.out).kept hb')
  have RQ := Lib.hid ((RQ.out).kept hb')
  have HB := Lib.hid ((HB.out).trans (hb'.mono (HB.out).size))
  have B3 := Lib.hid ((B3.out).below hb' (B3.out).lt)
  have B4 := Lib.hid ((B4.out).below hb' (B4.out).lt)
  have B5 := Lib.hid ((B5.out).below hb' (B5.out).lt)
  have R1 := Lib.hid ((R1.out).kept hb')
  have R2 := Lib.hid ((R2.out).kept hb')
  have R3 := Lib.hid ((R3.out).kept hb')
  have R4 := Lib.hid ((R4.out).kept hb')
  have R5 := Lib.hid ((R5.out).kept hb')
  have R6 := Lib.hid ((R6.out).kept hb')
  clear hb'
  rw [eqB_of (show p5 = p6 by rw [EP5.out, EP6.out])]
  refine hK.out _ _ ?hS80 (fun hHeld => ?_)
  case hS80 => exact ⟨(B3.out).cell 0, (B3.out).cell 1, (B3.out).cell 2, (B4.out).cell 0, (B4.out).cell 1, (B4.out).cell 2, (B5.out).cell 0, (B5.out).cell 1⟩
  clear hK K
  try simp only [Act.put, List.setIfInBounds_toArray, List.set_cons_zero, List.set_cons_succ]
  refine wpAnyH_take (i := 30) (oi := ⟨some 45, _, _, _, _, _⟩) (v := ?v81) rfl (by kernel_rfl) (by kernel_rfl) (by kernel_rfl) (fun _ _ _ h => h) (Or.inl ⟨by rfl, ?h81⟩) (by assumption) ?r81
  case h81 => (intro w hSw; (try dsimp only at hSw); go_simp; try with_reducible rfl)
  try simp only [Act.put, List.setIfInBounds_toArray, List.set_cons_zero, List.set_cons_succ]
  refine wpAnyH_take (i := 31) (oi := ⟨some 46, _, _, _, _, _⟩) (v := ?v82) rfl (by kernel_rfl) (by kernel_rfl) (by kernel_rfl) (fun _ _ _ h => h) (Or.inl ⟨by rfl, ?h82⟩) (by assumption) ?r82
  case h82 => (intro w hSw; (try dsimp only at hSw); go_simp; try with_reducible rfl)
  try simp only [Act.put, List.setIfInBounds_toArray, List.set_cons_zero, List.set_cons_succ]
  refine wpAnyH_take (i := 32) (oi := ⟨some 47, _, _, _, _, _⟩) (v := ?v83) rfl (by kernel_rfl) (by kernel_rfl) (by kernel_rfl) (fun _ _ _ h => h) (Or.inl ⟨by rfl, ?h83⟩) (by assumption) ?r83
  case h83 => (intro w hSw; (try dsimp only at hSw); go_simp; try with_reducible rfl)
  try simp only [Act.put, List.setIfInBounds_toArray, List.set_cons_zero, List.set_cons_succ]
  refine wpAnyH_take (i := 33) (oi := ⟨some 48, _, _, _, _, _⟩) (v := ?v84) rfl (by kernel_rfl) (by kernel_rfl) (by kernel_rfl) (fun _ _ _ h => h) (Or.inl ⟨by rfl, ?h84⟩) (by assumption) ?r84
  case h84 => (intro w hSw; (try dsimp only at hSw); go_simp; try with_reducible rfl)
  try simp only [Act.put, List.setIfInBounds_toArray, List.set_cons_zero, List.set_cons_succ]
  refine wpAnyH_take (i := 35) (oi := ⟨some 50, _, _, _, _, _⟩) (v := ?v85) rfl (by kernel_rfl) (by kernel_rfl) (by kernel_rfl) (fun _ _ _ h => h) (Or.inl ⟨by rfl, ?h85⟩) (by assumption) ?r85
  case h85 => (intro w hSw; (try dsimp only at hSw); go_simp; try with_reducible rfl)
  try simp only [Act.put, List.setIfInBounds_toArray, List.set_cons_zero, List.set_cons_succ]
  refine wpAnyH_take (i := 36) (oi := ⟨some 51, _, _, _, _, _⟩) (v := ?v86) rfl (by kernel_rfl) (by kernel_rfl) (by kernel_rfl) (fun _ _ _ h => h) (Or.inl ⟨by rfl, ?h86⟩) (by assumption) ?r86
  case h86 => (intro w hSw; (try dsimp only at hSw); go_simp; try with_reducible rfl)
  try simp only [Act.put, List.setIfInBounds_toArray, List.set_cons_zero, List.set_cons_succ]
  refine wpAnyH_ready (rs := [34]) (by kernel_rfl) (by simp) ?_
  refine (AllReadyH.cons (o := ⟨some 49, _, _, _, _, _⟩) rfl (fun K hK => ?_) AllReadyH.nil)
  go_simp
  refine (psame_c Wp Hp Vp Wq Hq Vq Ap Aq cp cq _ RP.out RQ.out (by omega) (by omega)).mono ?_
  rintro e w14 ⟨rfl, hb'⟩
  have RP := Lib.hid ((RP.out).kept hb')
  have RQ := Lib.hid ((RQ.out).kept hb')
  have HB := Lib.hid ((HB.out).trans (hb'.mono (HB.out).size))
  have B3 := Lib.hid ((B3.out).below hb' (B3.out).lt)
  have B4 := Lib.hid ((B4.out).below hb' (B4.out).lt)
  have B5 := Lib.hid ((B5.out).below hb' (B5.out).lt)
  have R1 := Lib.hid ((R1.out).kept hb')
  have R2 := Lib.hid ((R2.out).kept hb')
  have R3 := Lib.hid ((R3.out).kept hb')
  have R4 := Lib.hid ((R4.out).kept hb')
  have R5 := Lib.hid ((R5.out).kept hb')
  have R6 := Lib.hid ((R6.out).kept hb')
  clear hb'
  rw [GS.out]
  refine hK.out _ _ ?hS87 (fun hHeld => ?_)
  case hS87 => exact ⟨(B3.out).cell 0, (B3.out).cell 1, (B3.out).cell 2, (B4.out).cell 0, (B4.out).cell 1, (B4.out).cell 2, (B5.out).cell 0, (B5.out).cell 1⟩
  clear hK K
  try simp only [Act.put, List.setIfInBounds_toArray, List.set_cons_zero, List.set_cons_succ]
  refine wpAnyH_ready (rs := [37]) (by kernel_rfl) (by simp) ?_
  refine (AllReadyH.cons (o := ⟨some 52, _, _, _, _, _⟩) rfl (fun K hK => ?_) AllReadyH.nil)
  go_simp
  refine (rlike_c Wp Hp Ap Vp.length cp Wq Hq Aq Vq.length cq _ (by omega) (by omega)).mono ?_
  rintro e w15 ⟨rfl, hb'⟩
  have RP := Lib.hid ((RP.out).kept hb')
  have RQ := Lib.hid ((RQ.out).kept hb')
  have HB := Lib.hid ((HB.out).trans (hb'.mono (HB.out).size))
  have B3 := Lib.hid ((B3.out).below hb' (B3.out).lt)
  have B4 := Lib.hid ((B4.out).below hb' (B4.out).lt)
  have B5 := Lib.hid ((B5.out).below hb' (B5.out).lt)
  have R1 := Lib.hid ((R1.out).kept hb')
  have R2 := Lib.hid ((R2.out).kept hb')
  have R3 := Lib.hid ((R3.out).kept hb')
  have R4 := Lib.hid ((R4.out).kept hb')
  have R5 := Lib.hid ((R5.out).kept hb')
  have R6 := Lib.hid ((R6.out).kept hb')
  clear hb'
  rw [GB.out]
  refine hK.out _ _ ?hS88 (fun hHeld => ?_)
  case hS88 => exact ⟨(B3.out).cell 0, (B3.out).cell 1, (B3.out).cell 2, (B4.out).cell 0, (B4.out).cell 1, (B4.out).cell 2, (B5.out).cell 0, (B5.out).cell 1⟩
  clear hK K
  try simp only [Act.put, List.setIfInBounds_toArray, List.set_cons_zero, List.set_cons_succ]
  refine wpAnyH_take (i := 38) (oi := ⟨some 53, _, _, _, _, _⟩) (v := ?v89) rfl (by kernel_rfl) (by kernel_rfl) (by kernel_rfl) (fun _ _ _ h => h) (Or.inl ⟨by rfl, ?h89⟩) (by assumption) ?r89
  case h89 => (intro w hSw; (try dsimp only at hSw); go_simp; try with_reducible rfl)
  try simp only [Act.put, List.setIfInBounds_toArray, List.set_cons_zero, List.set_cons_succ]
  refine wpAnyH_take (i := 39) (oi := ⟨some 54, _, _, _, _, _⟩) (v := ?v90) rfl (by kernel_rfl) (by kernel_rfl) (by kernel_rfl) (fun _ _ _ h => h) (Or.inl ⟨by rfl, ?h90⟩) (by assumption) ?r90
  case h90 => (intro w hSw; (try dsimp only at hSw); go_simp; try with_reducible rfl)
  try simp only [Act.put, List.setIfInBounds_toArray, List.set_cons_zero, List.set_cons_succ]
  refine wpAnyH_take (i := 40) (oi := ⟨some 55, _, _, _, _, _⟩) (v := ?v91) rfl (by kernel_rfl) (by kernel_rfl) (by kernel_rfl) (fun _ _ _ h => h) (Or.inl ⟨by rfl, ?h91⟩) (by assumption) ?r91
  case h91 => (intro w hSw; (try dsimp only at hSw); go_simp; try with_reducible rfl)
  try simp only [Act.put, List.setIfInBounds_toArray, List.set_cons_zero, List.set_cons_succ]
  refine wpAnyH_ready (rs := [41]) (by kernel_rfl) (by simp) ?_
  refine (AllReadyH.cons (o := ⟨some 56, _, _, _, _, _⟩) rfl (fun K hK => ?_) AllReadyH.nil)
  go_simp
  refine (rsame_c Wp Hp Vp Wq Hq Vq Ap Aq cp cq _ RP.out RQ.out (by omega) (by omega)).mono ?_
  rintro e w16 ⟨rfl, hb'⟩
  have RP := Lib.hid ((RP.out).kept hb')
  have RQ := Lib.hid ((RQ.out).kept hb')
  have HB := Lib.hid ((HB.out).trans (hb'.mono (HB.out).size))
  have B3 := Lib.hid ((B3.out).below hb' (B3.out).lt)
  have B4 := Lib.hid ((B4.out).below hb' (B4.out).lt)
  have B5 := Lib.hid ((B5.out).below hb' (B5.out).lt)
  have R1 := Lib.hid ((R1.out).kept hb')
  have R2 := Lib.hid ((R2.out).kept hb')
  have R3 := Lib.hid ((R3.out).kept hb')
  have R4 := Lib.hid ((R4.out).kept hb')
  have R5 := Lib.hid ((R5.out).kept hb')
  have R6 := Lib.hid ((R6.out).kept hb')
  clear hb'
  rw [GE.out]
  refine hK.out _ _ ?hS92 (fun hHeld => ?_)
  case hS92 => exact ⟨(B3.out).cell 0, (B3.out).cell 1, (B3.out).cell 2, (B4.out).cell 0, (B4.out).cell 1, (B4.out).cell 2, (B5.out).cell 0, (B5.out).cell 1⟩
  clear hK K
  try simp only [Act.put, List.setIfInBounds_toArray, List.set_cons_zero, List.set_cons_succ]
  refine wpAnyH_take (i := 42) (oi := ⟨some 57, _, _, _, _, _⟩) (v := ?v93) rfl (by kernel_rfl) (by kernel_rfl) (by kernel_rfl) (fun _ _ _ h => h) (Or.inl ⟨by rfl, ?h93⟩) (by assumption) ?r93
  case h93 => (intro w hSw; (try dsimp only at hSw); go_simp; try with_reducible rfl)
  try simp only [Act.put, List.setIfInBounds_toArray, List.set_cons_zero, List.set_cons_succ]
  refine wpAnyH_take (i := 43) (oi := ⟨some 58, _, _, _, _, _⟩) (v := ?v94) rfl (by kernel_rfl) (by kernel_rfl) (by kernel_rfl) (fun _ _ _ h => h) (Or.inl ⟨by rfl, ?h94⟩) (by assumption) ?r94
  case h94 => (intro w hSw; (try dsimp only at hSw); go_simp; try with_reducible rfl)
  try simp only [Act.put, List.setIfInBounds_toArray, List.set_cons_zero, List.set_cons_succ]
  refine wpAnyH_take (i := 44) (oi := ⟨some 59, _, _, _, _, _⟩) (v := ?v95) rfl (by kernel_rfl) (by kernel_rfl) (by kernel_rfl) (fun _ _ _ h => h) (Or.inl ⟨by rfl, ?h95⟩) (by assumption) ?r95
  case h95 => (intro w hSw; (try dsimp only at hSw); go_simp; try with_reducible rfl)
  try simp only [Act.put, List.setIfInBounds_toArray, List.set_cons_zero, List.set_cons_succ]
  refine wpAnyH_take (i := 45) (oi := ⟨some 60, _, _, _, _, _⟩) (v := ?v96) rfl (by kernel_rfl) (by kernel_rfl) (by kernel_rfl) (fun _ _ _ h => h) (Or.inl ⟨by rfl, ?h96⟩) (by assumption) ?r96
  case h96 => (intro w hSw; (try dsimp only at hSw); go_simp; try with_reducible rfl)
  try simp only [Act.put, List.setIfInBounds_toArray, List.set_cons_zero, List.set_cons_succ]
  refine wpAnyH_take (i := 46) (oi := ⟨some 61, _, _, _, _, _⟩) (v := ?v97) rfl (by kernel_rfl) (by kernel_rfl) (by kernel_rfl) (fun _ _ _ h => h) (Or.inl ⟨by rfl, ?h97⟩) (by assumption) ?r97
  case h97 => (intro w hSw; (try dsimp only at hSw); go_simp; try with_reducible rfl)
  try simp only [Act.put, List.setIfInBounds_toArray, List.set_cons_zero, List.set_cons_succ]
  refine wpAnyH_take (i := 47) (oi := ⟨some 62, _, _, _, _, _⟩) (v := ?v98) rfl (by kernel_rfl) (by kernel_rfl) (by kernel_rfl) (fun _ _ _ h => h) (Or.inl ⟨by rfl, ?h98⟩) (by assumption) ?r98
  case h98 => (intro w hSw; (try dsimp only at hSw); go_simp; try with_reducible rfl)
  try simp only [Act.put, List.setIfInBounds_toArray, List.set_cons_zero, List.set_cons_succ]
  refine wpAnyH_take (i := 49) (oi := ⟨some 64, _, _, _, _, _⟩) (v := ?v99) rfl (by kernel_rfl) (by kernel_rfl) (by kernel_rfl) (fun _ _ _ h => h) (Or.inl ⟨by rfl, ?h99⟩) (by assumption) ?r99
  case h99 => (intro w hSw; (try dsimp only at hSw); go_simp; try with_reducible rfl)
  try simp only [Act.put, List.setIfInBounds_toArray, List.set_cons_zero, List.set_cons_succ]
  refine wpAnyH_ready (rs := [48]) (by kernel_rfl) (by simp) ?_
  refine (AllReadyH.cons (o := ⟨some 63, _, _, _, _, _⟩) rfl (fun K hK => ?_) AllReadyH.nil)
  go_simp
  refine (psame_c Wp Hp Vp Wp Hp Vp Ap Ap cp cp _ RP.out RP.out (by omega) (by omega)).mono ?_
  rintro e w17 ⟨rfl, hb'⟩
  have RP := Lib.hid ((RP.out).kept hb')
  have RQ := Lib.hid ((RQ.out).kept hb')
  have HB := Lib.hid ((HB.out).trans (hb'.mono (HB.out).size))
  have B3 := Lib.hid ((B3.out).below hb' (B3.out).lt)
  have B4 := Lib.hid ((B4.out).below hb' (B4.out).lt)
  have B5 := Lib.hid ((B5.out).below hb' (B5.out).lt)
  have R1 := Lib.hid ((R1.out).kept hb')
  have R2 := Lib.hid ((R2.out).kept hb')
  have R3 := Lib.hid ((R3.out).kept hb')
  have R4 := Lib.hid ((R4.out).kept hb')
  have R5 := Lib.hid ((R5.out).kept hb')
  have R6 := Lib.hid ((R6.out).kept hb')
  clear hb'
  rw [GP.out]
  refine hK.out _ _ ?hS100 (fun hHeld => ?_)
  case hS100 => exact ⟨(B3.out).cell 0, (B3.out).cell 1, (B3.out).cell 2, (B4.out).cell 0, (B4.out).cell 1, (B4.out).cell 2, (B5.out).cell 0, (B5.out).cell 1⟩
  clear hK K
  try simp only [Act.put, List.setIfInBounds_toArray, List.set_cons_zero, List.set_cons_succ]
  refine wpAnyH_ready (rs := [50]) (by kernel_rfl) (by simp) ?_
  refine (AllReadyH.cons (o := ⟨some 65, _, _, _, _, _⟩) rfl (fun K hK => ?_) AllReadyH.nil)
  go_simp
  refine (rright_c Wp Hp Ap Vp.length cp _ (by omega)).mono ?_
  rintro e w18 ⟨rfl, hb'⟩
  have RP := Lib.hid ((RP.out).kept hb')
  have RQ := Lib.hid ((RQ.out).kept hb')
  have HB := Lib.hid ((HB.out).trans (hb'.mono (HB.out).size))
  have B3 := Lib.hid ((B3.out).below hb' (B3.out).lt)
  have B4 := Lib.hid ((B4.out).below hb' (B4.out).lt)
  have B5 := Lib.hid ((B5.out).below hb' (B5.out).lt)
  have R1 := Lib.hid ((R1.out).kept hb')
  have R2 := Lib.hid ((R2.out).kept hb')
  have R3 := Lib.hid ((R3.out).kept hb')
  have R4 := Lib.hid ((R4.out).kept hb')
  have R5 := Lib.hid ((R5.out).kept hb')
  have R6 := Lib.hid ((R6.out).kept hb')
  clear hb'
  rw [GK.out]
  refine hK.out _ _ ?hS101 (fun hHeld => ?_)
  case hS101 => exact ⟨(B3.out).cell 0, (B3.out).cell 1, (B3.out).cell 2, (B4.out).cell 0, (B4.out).cell 1, (B4.out).cell 2, (B5.out).cell 0, (B5.out).cell 1⟩
  clear hK K
  try simp only [Act.put, List.setIfInBounds_toArray, List.set_cons_zero, List.set_cons_succ]
  refine wpAnyH_take (i := 51) (oi := ⟨some 66, _, _, _, _, _⟩) (v := ?v102) rfl (by kernel_rfl) (by kernel_rfl) (by kernel_rfl) (fun _ _ _ h => h) (Or.inl ⟨by rfl, ?h102⟩) (by assumption) ?r102
  case h102 => (intro w hSw; (try dsimp only at hSw); go_simp; try with_reducible rfl)
  try simp only [Act.put, List.setIfInBounds_toArray, List.set_cons_zero, List.set_cons_succ]
  refine wpAnyH_take (i := 52) (oi := ⟨some 67, _, _, _, _, _⟩) (v := ?v103) rfl (by kernel_rfl) (by kernel_rfl) (by kernel_rfl) (fun _ _ _ h => h) (Or.inl ⟨by rfl, ?h103⟩) (by assumption) ?r103
  case h103 => (intro w hSw; (try dsimp only at hSw); go_simp; try with_reducible rfl)
  try simp only [Act.put, List.setIfInBounds_toArray, List.set_cons_zero, List.set_cons_succ]
  refine wpAnyH_take (i := 53) (oi := ⟨some 6, _, _, _, _, _⟩) (v := ?v104) rfl (by kernel_rfl) (by kernel_rfl) (by kernel_rfl) (fun _ _ _ h => h) (Or.inl ⟨by rfl, ?h104⟩) (by assumption) ?r104
  case h104 => (intro w hSw; (try dsimp only at hSw); go_simp; try with_reducible rfl)
  try simp only [Act.put, List.setIfInBounds_toArray, List.set_cons_zero, List.set_cons_succ]
  refine wpAnyH_done (by kernel_rfl) ?_ _
  clear hHeld
  go_wp2_with fail
  go_ret
  exact ⟨rfl, HB.out⟩

set_option maxRecDepth 100000 in
set_option maxHeartbeats 16000000 in
theorem psums_b (Wp Hp : Int) (Vp : List Int) (Ap : Option Addr) (cp : Nat) (Wq Hq : Int) (Vq : List Int) (Aq : Option Addr) (cq : Nat) (l m : Int) (w : World) (hp : ReadsI w Ap Vp) (hq : ReadsI w Aq Vq) (hnp : Vp.length ≤ 9223372036854775807) (hnq : Vq.length ≤ 9223372036854775807) (h1 : ¬ 2000 < Vp.length) (h2 : ¬ 2000 < Vq.length) (hbo : bothB Wp Hp Vp.length Wq Hq Vq.length = true) (hok : okB Wp Hp Vp.length = true) (hv : decide (Vp = Vq) = false) :
    Calls Try.prog 4 #[plV Wp Hp (.slice Ap Vp.length cp), plV Wq Hq (.slice Aq Vq.length cq), .agg #[.int .i64 l, .int .i64 m]] w fun e w' => e = .returned (.bool true) ∧ Below w.heap.size w w' := by
  have RP := Lib.hid hp
  have RQ := Lib.hid hq
  have HB := Lib.hid (Below.refl w.heap.size w)
  have G1 := Lib.hid (decide_eq_false h1)
  have G2 := Lib.hid (decide_eq_false h2)
  have GB := Lib.hid hbo
  have GK := Lib.hid hok
  have GS := Lib.hid (show sameB Wp Hp Vp Wq Hq Vq = false by simp [sameB, hbo, hv])
  have GP := Lib.hid (show sameB Wp Hp Vp Wp Hp Vp = true by simp [sameB, bothB, hok])
  have GE := Lib.hid (show eqB Wp Hp Vp Wq Hq Vq = false by obtain ⟨a, b, rfl, rfl, rfl, rfl, _⟩ := bothB_t hbo; simpa [eqB] using hv)
  clear hv
  have hnp2 : Vp.length ≤ 2000 := by omega
  have hnq2 : Vq.length ≤ 2000 := by omega
  clear h1 h2 hbo hok
  clear hp hq
  go_enter Try.func4, Try.ntmps4
  go_wp2_with fail
  have RP := Lib.hid ((((RP.out).alloc (.cells #[.int .i64 Wp, .int .i64 Hp, .slice Ap Vp.length cp] 24)).alloc (.cells #[.int .i64 Wq, .int .i64 Hq, .slice Aq Vq.length cq] 24)).alloc (.cells #[.int .i64 l, .int .i64 m] 33))
  have RQ := Lib.hid ((((RQ.out).alloc (.cells #[.int .i64 Wp, .int .i64 Hp, .slice Ap Vp.length cp] 24)).alloc (.cells #[.int .i64 Wq, .int .i64 Hq, .slice Aq Vq.length cq] 24)).alloc (.cells #[.int .i64 l, .int .i64 m] 33))
  have HB := Lib.hid (below_alloc_ (below_alloc_ (below_alloc_ (HB.out) (.cells #[.int .i64 Wp, .int .i64 Hp, .slice Ap Vp.length cp] 24)) (.cells #[.int .i64 Wq, .int .i64 Hq, .slice Aq Vq.length cq] 24)) (.cells #[.int .i64 l, .int .i64 m] 33))
  have hzw : (((w.alloc (.cells #[.int .i64 Wp, .int .i64 Hp, .slice Ap Vp.length cp] 24)).alloc (.cells #[.int .i64 Wq, .int .i64 Hq, .slice Aq Vq.length cq] 24)).alloc (.cells #[.int .i64 l, .int .i64 m] 33)).heap.size = w.heap.size + 3 := by simp only [World.size_alloc]
  have B3 := ((Blk.new (w) 24 #[.int .i64 Wp, .int .i64 Hp, .slice Ap Vp.length cp]).alloc (.cells #[.int .i64 Wq, .int .i64 Hq, .slice Aq Vq.length cq] 24)).alloc (.cells #[.int .i64 l, .int .i64 m] 33)
  skip
  have B3 := Lib.hid B3
  have B4 := (Blk.new (w.alloc (.cells #[.int .i64 Wp, .int .i64 Hp, .slice Ap Vp.length cp] 24)) 24 #[.int .i64 Wq, .int .i64 Hq, .slice Aq Vq.length cq]).alloc (.cells #[.int .i64 l, .int .i64 m] 33)
  rw [show (w.alloc (.cells #[.int .i64 Wp, .int .i64 Hp, .slice Ap Vp.length cp] 24)).heap.size = w.heap.size + 1 by simp only [World.size_alloc]] at B4
  have B4 := Lib.hid B4
  have B5 := Blk.new ((w.alloc (.cells #[.int .i64 Wp, .int .i64 Hp, .slice Ap Vp.length cp] 24)).alloc (.cells #[.int .i64 Wq, .int .i64 Hq, .slice Aq Vq.length cq] 24)) 33 #[.int .i64 l, .int .i64 m]
  rw [show ((w.alloc (.cells #[.int .i64 Wp, .int .i64 Hp, .slice Ap Vp.length cp] 24)).alloc (.cells #[.int .i64 Wq, .int .i64 Hq, .slice Aq Vq.length cq] 24)).heap.size = w.heap.size + 1 + 1 by simp only [World.size_alloc]] at B5
  have B5 := Lib.hid B5
  generalize ((w.alloc (.cells #[.int .i64 Wp, .int .i64 Hp, .slice Ap Vp.length cp] 24)).alloc (.cells #[.int .i64 Wq, .int .i64 Hq, .slice Aq Vq.length cq] 24)).alloc (.cells #[.int .i64 l, .int .i64 m] 33) = w1 at *
  clear hzw
  refine (first_c _).mono ?_
  rintro e w2 ⟨rfl, hb'⟩
  have RP := Lib.hid ((RP.out).kept hb')
  have RQ := Lib.hid ((RQ.out).kept hb')
  have HB := Lib.hid ((HB.out).trans (hb'.mono (HB.out).size))
  have B3 := Lib.hid ((B3.out).below hb' (B3.out).lt)
  have B4 := Lib.hid ((B4.out).below hb' (B4.out).lt)
  have B5 := Lib.hid ((B5.out).below hb' (B5.out).lt)
  clear hb'
  obtain ⟨zB30, zB31, zB32⟩ := (B3.out).cells3
  obtain ⟨zB40, zB41, zB42⟩ := (B4.out).cells3
  obtain ⟨zB50, zB51⟩ := (B5.out).cells2
  go_wp2_with fail
  refine (pbig_c Wp Hp Ap Vp.length cp _ hnp).mono ?_
  rintro e w3 ⟨rfl, hb'⟩
  have RP := Lib.hid ((RP.out).kept hb')
  have RQ := Lib.hid ((RQ.out).kept hb')
  have HB := Lib.hid ((HB.out).trans (hb'.mono (HB.out).size))
  have B3 := Lib.hid ((B3.out).below hb' (B3.out).lt)
  have B4 := Lib.hid ((B4.out).below hb' (B4.out).lt)
  have B5 := Lib.hid ((B5.out).below hb' (B5.out).lt)
  clear hb'
  clear zB30 zB31 zB32
  clear zB40 zB41 zB42
  clear zB50 zB51
  rw [G1.out]
  obtain ⟨zB30, zB31, zB32⟩ := (B3.out).cells3
  obtain ⟨zB40, zB41, zB42⟩ := (B4.out).cells3
  obtain ⟨zB50, zB51⟩ := (B5.out).cells2
  go_wp2_with fail
  refine (pbig_c Wq Hq Aq Vq.length cq _ hnq).mono ?_
  rintro e w4 ⟨rfl, hb'⟩
  have RP := Lib.hid ((RP.out).kept hb')
  have RQ := Lib.hid ((RQ.out).kept hb')
  have HB := Lib.hid ((HB.out).trans (hb'.mono (HB.out).size))
  have B3 := Lib.hid ((B3.out).below hb' (B3.out).lt)
  have B4 := Lib.hid ((B4.out).below hb' (B4.out).lt)
  have B5 := Lib.hid ((B5.out).below hb' (B5.out).lt)
  clear hb'
  clear zB30 zB31 zB32
  clear zB40 zB41 zB42
  clear zB50 zB51
  rw [G2.out]
  go_wp2_with fail
  have RP := Lib.hid ((RP.out).drew)
  have RQ := Lib.hid ((RQ.out).drew)
  have HB := Lib.hid ((HB.out).drew)
  have B3 := Lib.hid ((B3.out).drew)
  have B4 := Lib.hid ((B4.out).drew)
  have B5 := Lib.hid ((B5.out).drew)
  refine wp_region_held_drew (S := (fun w' => w'.cell? ⟨w.heap.size, 0, none⟩ = some (.int .i64 Wp) ∧ w'.cell? ⟨w.heap.size, 1, none⟩ = some (.int .i64 Hp) ∧ w'.cell? ⟨w.heap.size, 2, none⟩ = some (.slice Ap Vp.length cp) ∧ w'.cell? ⟨w.heap.size + 1, 0, none⟩ = some (.int .i64 Wq) ∧ w'.cell? ⟨w.heap.size + 1, 1, none⟩ = some (.int .i64 Hq) ∧ w'.cell? ⟨w.heap.size + 1, 2, none⟩ = some (.slice Aq Vq.length cq) ∧ w'.cell? ⟨w.heap.size + 1 + 1, 0, none⟩ = some (.int .i64 l) ∧ w'.cell? ⟨w.heap.size + 1 + 1, 1, none⟩ = some (.int .i64 m))) (by kernel_rfl) ?hS0 (fun hHeld => ?_)
  case hS0 => exact ⟨(B3.out).cell 0, (B3.out).cell 1, (B3.out).cell 2, (B4.out).cell 0, (B4.out).cell 1, (B4.out).cell 2, (B5.out).cell 0, (B5.out).cell 1⟩
  refine wpAnyH_take (i := 0) (oi := ⟨some 15, _, _, _, _, _⟩) (v := ?v105) rfl (by kernel_rfl) (by kernel_rfl) (by kernel_rfl) (fun _ _ _ h => h) (Or.inl ⟨by rfl, ?h105⟩) (by assumption) ?r105
  case h105 => (intro w hSw; (try dsimp only at hSw); go_simp; try with_reducible rfl)
  try simp only [Act.put, List.setIfInBounds_toArray, List.set_cons_zero, List.set_cons_succ]
  refine wpAnyH_take (i := 1) (oi := ⟨some 16, _, _, _, _, _⟩) (v := ?v106) rfl (by kernel_rfl) (by kernel_rfl) (by kernel_rfl) (fun _ _ _ h => h) (Or.inl ⟨by rfl, ?h106⟩) (by assumption) ?r106
  case h106 => (intro w hSw; (try dsimp only at hSw); go_simp; try with_reducible rfl)
  try simp only [Act.put, List.setIfInBounds_toArray, List.set_cons_zero, List.set_cons_succ]
  refine wpAnyH_take (i := 3) (oi := ⟨some 18, _, _, _, _, _⟩) (v := ?v107) rfl (by kernel_rfl) (by kernel_rfl) (by kernel_rfl) (fun _ _ _ h => h) (Or.inl ⟨by rfl, ?h107⟩) (by assumption) ?r107
  case h107 => (intro w hSw; (try dsimp only at hSw); go_simp; try with_reducible rfl)
  try simp only [Act.put, List.setIfInBounds_toArray, List.set_cons_zero, List.set_cons_succ]
  refine wpAnyH_take (i := 4) (oi := ⟨some 19, _, _, _, _, _⟩) (v := ?v108) rfl (by kernel_rfl) (by kernel_rfl) (by kernel_rfl) (fun _ _ _ h => h) (Or.inl ⟨by rfl, ?h108⟩) (by assumption) ?r108
  case h108 => (intro w hSw; (try dsimp only at hSw); go_simp; try with_reducible rfl)
  try simp only [Act.put, List.setIfInBounds_toArray, List.set_cons_zero, List.set_cons_succ]
  refine wpAnyH_ready (rs := [2]) (by kernel_rfl) (by simp) ?_
  refine (AllReadyH.cons (o := ⟨some 17, _, _, _, _, _⟩) rfl (fun K hK => ?_) AllReadyH.nil)
  go_simp
  refine (padd_c Wp Hp Vp Wq Hq Vq Ap Aq cp cq _ RP.out RQ.out (by omega) (by omega)).mono ?_
  rintro e w5 ⟨v, rfl, ho, hb'⟩
  have RP := Lib.hid ((RP.out).kept hb')
  have RQ := Lib.hid ((RQ.out).kept hb')
  have HB := Lib.hid ((HB.out).trans (hb'.mono (HB.out).size))
  have B3 := Lib.hid ((B3.out).below hb' (B3.out).lt)
  have B4 := Lib.hid ((B4.out).below hb' (B4.out).lt)
  have B5 := Lib.hid ((B5.out).below hb' (B5.out).lt)
  clear hb'
  obtain ⟨p1, hp1⟩ : ∃ p, p = joinP (fun x y => wrap64 (x + y)) Wp Hp Vp Wq Hq Vq := ⟨_, rfl⟩
  rw [← hp1] at ho ⊢
  have EP1 := Lib.hid hp1
  have hl1 : p1.V.length ≤ Vp.length := by rw [hp1]; exact joinP_length _ _ _ _ _ _ _
  obtain ⟨A1, c1, rfl, hq⟩ := ho.slice
  have R1 := Lib.hid hq
  clear ho hq hp1
  refine hK.out _ _ ?hS109 (fun hHeld => ?_)
  case hS109 => exact ⟨(B3.out).cell 0, (B3.out).cell 1, (B3.out).cell 2, (B4.out).cell 0, (B4.out).cell 1, (B4.out).cell 2, (B5.out).cell 0, (B5.out).cell 1⟩
  clear hK K
  try simp only [Act.put, List.setIfInBounds_toArray, List.set_cons_zero, List.set_cons_succ]
  refine wpAnyH_ready (rs := [5]) (by kernel_rfl) (by simp) ?_
  refine (AllReadyH.cons (o := ⟨some 20, _, _, _, _, _⟩) rfl (fun K hK => ?_) AllReadyH.nil)
  go_simp
  refine (rsum_c 1 Wp Hp Vp Wq Hq Vq Ap Aq cp cq _ RP.out RQ.out (by omega) (by omega)).mono ?_
  rintro e w6 ⟨v, rfl, ho, hb'⟩
  have RP := Lib.hid ((RP.out).kept hb')
  have RQ := Lib.hid ((RQ.out).kept hb')
  have HB := Lib.hid ((HB.out).trans (hb'.mono (HB.out).size))
  have B3 := Lib.hid ((B3.out).below hb' (B3.out).lt)
  have B4 := Lib.hid ((B4.out).below hb' (B4.out).lt)
  have B5 := Lib.hid ((B5.out).below hb' (B5.out).lt)
  have R1 := Lib.hid ((R1.out).kept hb')
  clear hb'
  obtain ⟨p2, hp2⟩ : ∃ p, p = joinP (fun x y => wrap64 (x + wrap64 (1 * y))) Wp Hp Vp Wq Hq Vq := ⟨_, rfl⟩
  rw [← hp2] at ho ⊢
  have EP2 := Lib.hid hp2
  have hl2 : p2.V.length ≤ Vp.length := by rw [hp2]; exact joinP_length _ _ _ _ _ _ _
  obtain ⟨A2, c2, rfl, hq⟩ := ho.slice
  have R2 := Lib.hid hq
  clear ho hq hp2
  refine hK.out _ _ ?hS110 (fun hHeld => ?_)
  case hS110 => exact ⟨(B3.out).cell 0, (B3.out).cell 1, (B3.out).cell 2, (B4.out).cell 0, (B4.out).cell 1, (B4.out).cell 2, (B5.out).cell 0, (B5.out).cell 1⟩
  clear hK K
  try simp only [Act.put, List.setIfInBounds_toArray, List.set_cons_zero, List.set_cons_succ]
  refine wpAnyH_ready (rs := [6]) (by kernel_rfl) (by simp) ?_
  refine (AllReadyH.cons (o := ⟨some 21, _, _, _, _, _⟩) rfl (fun K hK => ?_) AllReadyH.nil)
  go_simp
  refine (rsame_c p1.W p1.H p1.V p2.W p2.H p2.V A1 A2 c1 c2 _ R1.out R2.out (by omega) (by omega)).mono ?_
  rintro e w7 ⟨rfl, hb'⟩
  have RP := Lib.hid ((RP.out).kept hb')
  have RQ := Lib.hid ((RQ.out).kept hb')
  have HB := Lib.hid ((HB.out).trans (hb'.mono (HB.out).size))
  have B3 := Lib.hid ((B3.out).below hb' (B3.out).lt)
  have B4 := Lib.hid ((B4.out).below hb' (B4.out).lt)
  have B5 := Lib.hid ((B5.out).below hb' (B5.out).lt)
  have R1 := Lib.hid ((R1.out).kept hb')
  have R2 := Lib.hid ((R2.out).kept hb')
  clear hb'
  rw [eqB_of (show p1 = p2 by rw [EP1.out, EP2.out]; exact add_sum _ _ _ _ _ _)]
  refine hK.out _ _ ?hS111 (fun hHeld => ?_)
  case hS111 => exact ⟨(B3.out).cell 0, (B3.out).cell 1, (B3.out).cell 2, (B4.out).cell 0, (B4.out).cell 1, (B4.out).cell 2, (B5.out).cell 0, (B5.out).cell 1⟩
  clear hK K
  try simp only [Act.put, List.setIfInBounds_toArray, List.set_cons_zero, List.set_cons_succ]
  refine wpAnyH_take (i := 7) (oi := ⟨some 22, _, _, _, _, _⟩) (v := ?v112) rfl (by kernel_rfl) (by kernel_rfl) (by kernel_rfl) (fun _ _ _ h => h) (Or.inl ⟨by rfl, ?h112⟩) (by assumption) ?r112
  case h112 => (intro w hSw; (try dsimp only at hSw); go_simp; try with_reducible rfl)
  try simp only [Act.put, List.setIfInBounds_toArray, List.set_cons_zero, List.set_cons_succ]
  refine wpAnyH_take (i := 8) (oi := ⟨some 23, _, _, _, _, _⟩) (v := ?v113) rfl (by kernel_rfl) (by kernel_rfl) (by kernel_rfl) (fun _ _ _ h => h) (Or.inl ⟨by rfl, ?h113⟩) (by assumption) ?r113
  case h113 => (intro w hSw; (try dsimp only at hSw); go_simp; try with_reducible rfl)
  try simp only [Act.put, List.setIfInBounds_toArray, List.set_cons_zero, List.set_cons_succ]
  refine wpAnyH_take (i := 9) (oi := ⟨some 24, _, _, _, _, _⟩) (v := ?v114) rfl (by kernel_rfl) (by kernel_rfl) (by kernel_rfl) (fun _ _ _ h => h) (Or.inl ⟨by rfl, ?h114⟩) (by assumption) ?r114
  case h114 => (intro w hSw; (try dsimp only at hSw); go_simp; try with_reducible rfl)
  try simp only [Act.put, List.setIfInBounds_toArray, List.set_cons_zero, List.set_cons_succ]
  refine wpAnyH_take (i := 11) (oi := ⟨some 26, _, _, _, _, _⟩) (v := ?v115) rfl (by kernel_rfl) (by kernel_rfl) (by kernel_rfl) (fun _ _ _ h => h) (Or.inl ⟨by rfl, ?h115⟩) (by assumption) ?r115
  case h115 => (intro w hSw; (try dsimp only at hSw); go_simp; try with_reducible rfl)
  try simp only [Act.put, List.setIfInBounds_toArray, List.set_cons_zero, List.set_cons_succ]
  refine wpAnyH_take (i := 12) (oi := ⟨some 27, _, _, _, _, _⟩) (v := ?v116) rfl (by kernel_rfl) (by kernel_rfl) (by kernel_rfl) (fun _ _ _ h => h) (Or.inl ⟨by rfl, ?h116⟩) (by assumption) ?r116
  case h116 => (intro w hSw; (try dsimp only at hSw); go_simp; try with_reducible rfl)
  try simp only [Act.put, List.setIfInBounds_toArray, List.set_cons_zero, List.set_cons_succ]
  refine wpAnyH_ready (rs := [10]) (by kernel_rfl) (by simp) ?_
  refine (AllReadyH.cons (o := ⟨some 25, _, _, _, _, _⟩) rfl (fun K hK => ?_) AllReadyH.nil)
  go_simp
  refine (psub_c Wp Hp Vp Wq Hq Vq Ap Aq cp cq _ RP.out RQ.out (by omega) (by omega)).mono ?_
  rintro e w8 ⟨v, rfl, ho, hb'⟩
  have RP := Lib.hid ((RP.out).kept hb')
  have RQ := Lib.hid ((RQ.out).kept hb')
  have HB := Lib.hid ((HB.out).trans (hb'.mono (HB.out).size))
  have B3 := Lib.hid ((B3.out).below hb' (B3.out).lt)
  have B4 := Lib.hid ((B4.out).below hb' (B4.out).lt)
  have B5 := Lib.hid ((B5.out).below hb' (B5.out).lt)
  have R1 := Lib.hid ((R1.out).kept hb')
  have R2 := Lib.hid ((R2.out).kept hb')
  clear hb'
  obtain ⟨p3, hp3⟩ : ∃ p, p = joinP (fun x y => wrap64 (x - y)) Wp Hp Vp Wq Hq Vq := ⟨_, rfl⟩
  rw [← hp3] at ho ⊢
  have EP3 := Lib.hid hp3
  have hl3 : p3.V.length ≤ Vp.length := by rw [hp3]; exact joinP_length _ _ _ _ _ _ _
  obtain ⟨A3, c3, rfl, hq⟩ := ho.slice
  have R3 := Lib.hid hq
  clear ho hq hp3
  refine hK.out _ _ ?hS117 (fun hHeld => ?_)
  case hS117 => exact ⟨(B3.out).cell 0, (B3.out).cell 1, (B3.out).cell 2, (B4.out).cell 0, (B4.out).cell 1, (B4.out).cell 2, (B5.out).cell 0, (B5.out).cell 1⟩
  clear hK K
  try simp only [Act.put, List.setIfInBounds_toArray, List.set_cons_zero, List.set_cons_succ]
  refine wpAnyH_ready (rs := [13]) (by kernel_rfl) (by simp) ?_
  refine (AllReadyH.cons (o := ⟨some 28, _, _, _, _, _⟩) rfl (fun K hK => ?_) AllReadyH.nil)
  go_simp
  refine (rsum_c (-1) Wp Hp Vp Wq Hq Vq Ap Aq cp cq _ RP.out RQ.out (by omega) (by omega)).mono ?_
  rintro e w9 ⟨v, rfl, ho, hb'⟩
  have RP := Lib.hid ((RP.out).kept hb')
  have RQ := Lib.hid ((RQ.out).kept hb')
  have HB := Lib.hid ((HB.out).trans (hb'.mono (HB.out).size))
  have B3 := Lib.hid ((B3.out).below hb' (B3.out).lt)
  have B4 := Lib.hid ((B4.out).below hb' (B4.out).lt)
  have B5 := Lib.hid ((B5.out).below hb' (B5.out).lt)
  have R1 := Lib.hid ((R1.out).kept hb')
  have R2 := Lib.hid ((R2.out).kept hb')
  have R3 := Lib.hid ((R3.out).kept hb')
  clear hb'
  obtain ⟨p4, hp4⟩ : ∃ p, p = joinP (fun x y => wrap64 (x + wrap64 (-1 * y))) Wp Hp Vp Wq Hq Vq := ⟨_, rfl⟩
  rw [← hp4] at ho ⊢
  have EP4 := Lib.hid hp4
  have hl4 : p4.V.length ≤ Vp.length := by rw [hp4]; exact joinP_length _ _ _ _ _ _ _
  obtain ⟨A4, c4, rfl, hq⟩ := ho.slice
  have R4 := Lib.hid hq
  clear ho hq hp4
  refine hK.out _ _ ?hS118 (fun hHeld => ?_)
  case hS118 => exact ⟨(B3.out).cell 0, (B3.out).cell 1, (B3.out).cell 2, (B4.out).cell 0, (B4.out).cell 1, (B4.out).cell 2, (B5.out).cell 0, (B5.out).cell 1⟩
  clear hK K
  try simp only [Act.put, List.setIfInBounds_toArray, List.set_cons_zero, List.set_cons_succ]
  refine wpAnyH_ready (rs := [14]) (by kernel_rfl) (by simp) ?_
  refine (AllReadyH.cons (o := ⟨some 29, _, _, _, _, _⟩) rfl (fun K hK => ?_) AllReadyH.nil)
  go_simp
  refine (rsame_c p3.W p3.H p3.V p4.W p4.H p4.V A3 A4 c3 c4 _ R3.out R4.out (by omega) (by omega)).mono ?_
  rintro e w10 ⟨rfl, hb'⟩
  have RP := Lib.hid ((RP.out).kept hb')
  have RQ := Lib.hid ((RQ.out).kept hb')
  have HB := Lib.hid ((HB.out).trans (hb'.mono (HB.out).size))
  have B3 := Lib.hid ((B3.out).below hb' (B3.out).lt)
  have B4 := Lib.hid ((B4.out).below hb' (B4.out).lt)
  have B5 := Lib.hid ((B5.out).below hb' (B5.out).lt)
  have R1 := Lib.hid ((R1.out).kept hb')
  have R2 := Lib.hid ((R2.out).kept hb')
  have R3 := Lib.hid ((R3.out).kept hb')
  have R4 := Lib.hid ((R4.out).kept hb')
  clear hb'
  rw [eqB_of (show p3 = p4 by rw [EP3.out, EP4.out]; exact sub_sum _ _ _ _ _ _)]
  refine hK.out _ _ ?hS119 (fun hHeld => ?_)
  case hS119 => exact ⟨(B3.out).cell 0, (B3.out).cell 1, (B3.out).cell 2, (B4.out).cell 0, (B4.out).cell 1, (B4.out).cell 2, (B5.out).cell 0, (B5.out).cell 1⟩
  clear hK K
  try simp only [Act.put, List.setIfInBounds_toArray, List.set_cons_zero, List.set_cons_succ]
  refine wpAnyH_take (i := 15) (oi := ⟨some 30, _, _, _, _, _⟩) (v := ?v120) rfl (by kernel_rfl) (by kernel_rfl) (by kernel_rfl) (fun _ _ _ h => h) (Or.inl ⟨by rfl, ?h120⟩) (by assumption) ?r120
  case h120 => (intro w hSw; (try dsimp only at hSw); go_simp; try with_reducible rfl)
  try simp only [Act.put, List.setIfInBounds_toArray, List.set_cons_zero, List.set_cons_succ]
  refine wpAnyH_take (i := 16) (oi := ⟨some 31, _, _, _, _, _⟩) (v := ?v121) rfl (by kernel_rfl) (by kernel_rfl) (by kernel_rfl) (fun _ _ _ h => h) (Or.inl ⟨by rfl, ?h121⟩) (by assumption) ?r121
  case h121 => (intro w hSw; (try dsimp only at hSw); go_simp; try with_reducible rfl)
  try simp only [Act.put, List.setIfInBounds_toArray, List.set_cons_zero, List.set_cons_succ]
  refine wpAnyH_take (i := 17) (oi := ⟨some 32, _, _, _, _, _⟩) (v := ?v122) rfl (by kernel_rfl) (by kernel_rfl) (by kernel_rfl) (fun _ _ _ h => h) (Or.inl ⟨by rfl, ?h122⟩) (by assumption) ?r122
  case h122 => (intro w hSw; (try dsimp only at hSw); go_simp; try with_reducible rfl)
  try simp only [Act.put, List.setIfInBounds_toArray, List.set_cons_zero, List.set_cons_succ]
  refine wpAnyH_take (i := 18) (oi := ⟨some 33, _, _, _, _, _⟩) (v := ?v123) rfl (by kernel_rfl) (by kernel_rfl) (by kernel_rfl) (fun _ _ _ h => h) (Or.inl ⟨by rfl, ?h123⟩) (by assumption) ?r123
  case h123 => (intro w hSw; (try dsimp only at hSw); go_simp; try with_reducible rfl)
  try simp only [Act.put, List.setIfInBounds_toArray, List.set_cons_zero, List.set_cons_succ]
  refine wpAnyH_take (i := 19) (oi := ⟨some 34, _, _, _, _, _⟩) (v := ?v124) rfl (by kernel_rfl) (by kernel_rfl) (by kernel_rfl) (fun _ _ _ h => h) (Or.inl ⟨by rfl, ?h124⟩) (by assumption) ?r124
  case h124 => (intro w hSw; (try dsimp only at hSw); go_simp; try with_reducible rfl)
  try simp only [Act.put, List.setIfInBounds_toArray, List.set_cons_zero, List.set_cons_succ]
  refine wpAnyH_take (i := 20) (oi := ⟨some 35, _, _, _, _, _⟩) (v := ?v125) rfl (by kernel_rfl) (by kernel_rfl) (by kernel_rfl) (fun _ _ _ h => h) (Or.inl ⟨by rfl, ?h125⟩) (by assumption) ?r125
  case h125 => (intro w hSw; (try dsimp only at hSw); go_simp; try with_reducible rfl)
  try simp only [Act.put, List.setIfInBounds_toArray, List.set_cons_zero, List.set_cons_succ]
  refine wpAnyH_take (i := 21) (oi := ⟨some 36, _, _, _, _, _⟩) (v := ?v126) rfl (by kernel_rfl) (by kernel_rfl) (by kernel_rfl) (fun _ _ _ h => h) (Or.inl ⟨by rfl, ?h126⟩) (by assumption) ?r126
  case h126 => (intro w hSw; (try dsimp only at hSw); go_simp; try with_reducible rfl)
  try simp only [Act.put, List.setIfInBounds_toArray, List.set_cons_zero, List.set_cons_succ]
  refine wpAnyH_take (i := 23) (oi := ⟨some 38, _, _, _, _, _⟩) (v := ?v127) rfl (by kernel_rfl) (by kernel_rfl) (by kernel_rfl) (fun _ _ _ h => h) (Or.inl ⟨by rfl, ?h127⟩) (by assumption) ?r127
  case h127 => (intro w hSw; (try dsimp only at hSw); go_simp; try with_reducible rfl)
  try simp only [Act.put, List.setIfInBounds_toArray, List.set_cons_zero, List.set_cons_succ]
  refine wpAnyH_take (i := 24) (oi := ⟨some 39, _, _, _, _, _⟩) (v := ?v128) rfl (by kernel_rfl) (by kernel_rfl) (by kernel_rfl) (fun _ _ _ h => h) (Or.inl ⟨by rfl, ?h128⟩) (by assumption) ?r128
  case h128 => (intro w hSw; (try dsimp only at hSw); go_simp; try with_reducible rfl)
  try simp only [Act.put, List.setIfInBounds_toArray, List.set_cons_zero, List.set_cons_succ]
  refine wpAnyH_take (i := 25) (oi := ⟨some 40, _, _, _, _, _⟩) (v := ?v129) rfl (by kernel_rfl) (by kernel_rfl) (by kernel_rfl) (fun _ _ _ h => h) (Or.inl ⟨by rfl, ?h129⟩) (by assumption) ?r129
  case h129 => (intro w hSw; (try dsimp only at hSw); go_simp; try with_reducible rfl)
  try simp only [Act.put, List.setIfInBounds_toArray, List.set_cons_zero, List.set_cons_succ]
  refine wpAnyH_take (i := 26) (oi := ⟨some 41, _, _, _, _, _⟩) (v := ?v130) rfl (by kernel_rfl) (by kernel_rfl) (by kernel_rfl) (fun _ _ _ h => h) (Or.inl ⟨by rfl, ?h130⟩) (by assumption) ?r130
  case h130 => (intro w hSw; (try dsimp only at hSw); go_simp; try with_reducible rfl)
  try simp only [Act.put, List.setIfInBounds_toArray, List.set_cons_zero, List.set_cons_succ]
  refine wpAnyH_take (i := 27) (oi := ⟨some 42, _, _, _, _, _⟩) (v := ?v131) rfl (by kernel_rfl) (by kernel_rfl) (by kernel_rfl) (fun _ _ _ h => h) (Or.inl ⟨by rfl, ?h131⟩) (by assumption) ?r131
  case h131 => (intro w hSw; (try dsimp only at hSw); go_simp; try with_reducible rfl)
  try simp only [Act.put, List.setIfInBounds_toArray, List.set_cons_zero, List.set_cons_succ]
  refine wpAnyH_ready (rs := [22]) (by kernel_rfl) (by simp) ?_
  refine (AllReadyH.cons (o := ⟨some 37, _, _, _, _, _⟩) rfl (fun K hK => ?_) AllReadyH.nil)
  go_simp
  refine (pclip_c Wp Hp Vp Ap cp l m _ RP.out (by omega)).mono ?_
  rintro e w11 ⟨v, rfl, ho, hb'⟩
  have RP := Lib.hid ((RP.out).kept hb')
  have RQ := Lib.hid ((RQ.out).kept hb')
  have HB := Lib.hid ((HB.out).trans (hb'.mono (HB.out).size))
  have B3 := Lib.hid ((B3.out).below hb' (B3.out).lt)
  have B4 := Lib.hid ((B4.out).below hb' (B4.out).lt)
  have B5 := Lib.hid ((B5.out).below hb' (B5.out).lt)
  have R1 := Lib.hid ((R1.out).kept hb')
  have R2 := Lib.hid ((R2.out).kept hb')
  have R3 := Lib.hid ((R3.out).kept hb')
  have R4 := Lib.hid ((R4.out).kept hb')
  clear hb'
  obtain ⟨p5, hp5⟩ : ∃ p, p = joinP (fun x _ => min (max x l) m) Wp Hp Vp Wp Hp Vp := ⟨_, rfl⟩
  rw [← hp5] at ho ⊢
  have EP5 := Lib.hid hp5
  have hl5 : p5.V.length ≤ Vp.length := by rw [hp5]; exact joinP_length _ _ _ _ _ _ _
  obtain ⟨A5, c5, rfl, hq⟩ := ho.slice
  have R5 := Lib.hid hq
  clear ho hq hp5
  refine hK.out _ _ ?hS132 (fun hHeld => ?_)
  case hS132 => exact ⟨(B3.out).cell 0, (B3.out).cell 1, (B3.out).cell 2, (B4.out).cell 0, (B4.out).cell 1, (B4.out).cell 2, (B5.out).cell 0, (B5.out).cell 1⟩
  clear hK K
  try simp only [Act.put, List.setIfInBounds_toArray, List.set_cons_zero, List.set_cons_succ]
  refine wpAnyH_ready (rs := [28]) (by kernel_rfl) (by simp) ?_
  refine (AllReadyH.cons (o := ⟨some 43, _, _, _, _, _⟩) rfl (fun K hK => ?_) AllReadyH.nil)
  go_simp
  refine (rclip_c l m Wp Hp Vp Ap cp _ RP.out (by omega)).mono ?_
  rintro e w12 ⟨v, rfl, ho, hb'⟩
  have RP := Lib.hid ((RP.out).kept hb')
  have RQ := Lib.hid ((RQ.out).kept hb')
  have HB := Lib.hid ((HB.out).trans (hb'.mono (HB.out).size))
  have B3 := Lib.hid ((B3.out).below hb' (B3.out).lt)
  have B4 := Lib.hid ((B4.out).below hb' (B4.out).lt)
  have B5 := Lib.hid ((B5.out).below hb' (B5.out).lt)
  have R1 := Lib.hid ((R1.out).kept hb')
  have R2 := Lib.hid ((R2.out).kept hb')
  have R3 := Lib.hid ((R3.out).kept hb')
  have R4 := Lib.hid ((R4.out).kept hb')
  have R5 := Lib.hid ((R5.out).kept hb')
  clear hb'
  obtain ⟨p6, hp6⟩ : ∃ p, p = joinP (fun x _ => min (max x l) m) Wp Hp Vp Wp Hp Vp := ⟨_, rfl⟩
  rw [← hp6] at ho ⊢
  have EP6 := Lib.hid hp6
  have hl6 : p6.V.length ≤ Vp.length := by rw [hp6]; exact joinP_length _ _ _ _ _ _ _
  obtain ⟨A6, c6, rfl, hq⟩ := ho.slice
  have R6 := Lib.hid hq
  clear ho hq hp6
  refine hK.out _ _ ?hS133 (fun hHeld => ?_)
  case hS133 => exact ⟨(B3.out).cell 0, (B3.out).cell 1, (B3.out).cell 2, (B4.out).cell 0, (B4.out).cell 1, (B4.out).cell 2, (B5.out).cell 0, (B5.out).cell 1⟩
  clear hK K
  try simp only [Act.put, List.setIfInBounds_toArray, List.set_cons_zero, List.set_cons_succ]
  refine wpAnyH_ready (rs := [29]) (by kernel_rfl) (by simp) ?_
  refine (AllReadyH.cons (o := ⟨some 44, _, _, _, _, _⟩) rfl (fun K hK => ?_) AllReadyH.nil)
  go_simp
  refine (rsame_c p5.W p5.H p5.V p6.W p6.H p6.V A5 A6 c5 c6 _ R5.out R6.out (by omega) (by omega)).mono ?_
  rintro e w13 ⟨rfl, hb'⟩
  have RP := Lib.hid ((RP.out).kept hb')
  have RQ := Lib.hid ((RQ.out).kept hb')
  have HB := Lib.hid ((HB.out).trans (hb'.mono (HB.out).size))
  have B3 := Lib.hid ((B3.out).below hb' (B3.out).lt)
  have B4 := Lib.hid ((B4.out).below hb' (B4.out).lt)
  have B5 := Lib.hid ((B5.out).below hb' (B5.out).lt)
  have R1 := Lib.hid ((R1.out).kept hb')
  have R2 := Lib.hid ((R2.out).kept hb')
  have R3 := Lib.hid ((R3.out).kept hb')
  have R4 := Lib.hid ((R4.out).kept hb')
  have R5 := Lib.hid ((R5.out).kept hb')
  have R6 := Lib.hid ((R6.out).kept hb')
  clear hb'
  rw [eqB_of (show p5 = p6 by rw [EP5.out, EP6.out])]
  refine hK.out _ _ ?hS134 (fun hHeld => ?_)
  case hS134 => exact ⟨(B3.out).cell 0, (B3.out).cell 1, (B3.out).cell 2, (B4.out).cell 0, (B4.out).cell 1, (B4.out).cell 2, (B5.out).cell 0, (B5.out).cell 1⟩
  clear hK K
  try simp only [Act.put, List.setIfInBounds_toArray, List.set_cons_zero, List.set_cons_succ]
  refine wpAnyH_take (i := 30) (oi := ⟨some 45, _, _, _, _, _⟩) (v := ?v135) rfl (by kernel_rfl) (by kernel_rfl) (by kernel_rfl) (fun _ _ _ h => h) (Or.inl ⟨by rfl, ?h135⟩) (by assumption) ?r135
  case h135 => (intro w hSw; (try dsimp only at hSw); go_simp; try with_reducible rfl)
  try simp only [Act.put, List.setIfInBounds_toArray, List.set_cons_zero, List.set_cons_succ]
  refine wpAnyH_take (i := 31) (oi := ⟨some 46, _, _, _, _, _⟩) (v := ?v136) rfl (by kernel_rfl) (by kernel_rfl) (by kernel_rfl) (fun _ _ _ h => h) (Or.inl ⟨by rfl, ?h136⟩) (by assumption) ?r136
  case h136 => (intro w hSw; (try dsimp only at hSw); go_simp; try with_reducible rfl)
  try simp only [Act.put, List.setIfInBounds_toArray, List.set_cons_zero, List.set_cons_succ]
  refine wpAnyH_take (i := 32) (oi := ⟨some 47, _, _, _, _, _⟩) (v := ?v137) rfl (by kernel_rfl) (by kernel_rfl) (by kernel_rfl) (fun _ _ _ h => h) (Or.inl ⟨by rfl, ?h137⟩) (by assumption) ?r137
  case h137 => (intro w hSw; (try dsimp only at hSw); go_simp; try with_reducible rfl)
  try simp only [Act.put, List.setIfInBounds_toArray, List.set_cons_zero, List.set_cons_succ]
  refine wpAnyH_take (i := 33) (oi := ⟨some 48, _, _, _, _, _⟩) (v := ?v138) rfl (by kernel_rfl) (by kernel_rfl) (by kernel_rfl) (fun _ _ _ h => h) (Or.inl ⟨by rfl, ?h138⟩) (by assumption) ?r138
  case h138 => (intro w hSw; (try dsimp only at hSw); go_simp; try with_reducible rfl)
  try simp only [Act.put, List.setIfInBounds_toArray, List.set_cons_zero, List.set_cons_succ]
  refine wpAnyH_take (i := 35) (oi := ⟨some 50, _, _, _, _, _⟩) (v := ?v139) rfl (by kernel_rfl) (by kernel_rfl) (by kernel_rfl) (fun _ _ _ h => h) (Or.inl ⟨by rfl, ?h139⟩) (by assumption) ?r139
  case h139 => (intro w hSw; (try dsimp only at hSw); go_simp; try with_reducible rfl)
  try simp only [Act.put, List.setIfInBounds_toArray, List.set_cons_zero, List.set_cons_succ]
  refine wpAnyH_take (i := 36) (oi := ⟨some 51, _, _, _, _, _⟩) (v := ?v140) rfl (by kernel_rfl) (by kernel_rfl) (by kernel_rfl) (fun _ _ _ h => h) (Or.inl ⟨by rfl, ?h140⟩) (by assumption) ?r140
  case h140 => (intro w hSw; (try dsimp only at hSw); go_simp; try with_reducible rfl)
  try simp only [Act.put, List.setIfInBounds_toArray, List.set_cons_zero, List.set_cons_succ]
  refine wpAnyH_ready (rs := [34]) (by kernel_rfl) (by simp) ?_
  refine (AllReadyH.cons (o := ⟨some 49, _, _, _, _, _⟩) rfl (fun K hK => ?_) AllReadyH.nil)
  go_simp
  refine (psame_c Wp Hp Vp Wq Hq Vq Ap Aq cp cq _ RP.out RQ.out (by omega) (by omega)).mono ?_
  rintro e w14 ⟨rfl, hb'⟩
  have RP := Lib.hid ((RP.out).kept hb')
  have RQ := Lib.hid ((RQ.out).kept hb')
  have HB := Lib.hid ((HB.out).trans (hb'.mono (HB.out).size))
  have B3 := Lib.hid ((B3.out).below hb' (B3.out).lt)
  have B4 := Lib.hid ((B4.out).below hb' (B4.out).lt)
  have B5 := Lib.hid ((B5.out).below hb' (B5.out).lt)
  have R1 := Lib.hid ((R1.out).kept hb')
  have R2 := Lib.hid ((R2.out).kept hb')
  have R3 := Lib.hid ((R3.out).kept hb')
  have R4 := Lib.hid ((R4.out).kept hb')
  have R5 := Lib.hid ((R5.out).kept hb')
  have R6 := Lib.hid ((R6.out).kept hb')
  clear hb'
  rw [GS.out]
  refine hK.out _ _ ?hS141 (fun hHeld => ?_)
  case hS141 => exact ⟨(B3.out).cell 0, (B3.out).cell 1, (B3.out).cell 2, (B4.out).cell 0, (B4.out).cell 1, (B4.out).cell 2, (B5.out).cell 0, (B5.out).cell 1⟩
  clear hK K
  try simp only [Act.put, List.setIfInBounds_toArray, List.set_cons_zero, List.set_cons_succ]
  refine wpAnyH_ready (rs := [37]) (by kernel_rfl) (by simp) ?_
  refine (AllReadyH.cons (o := ⟨some 52, _, _, _, _, _⟩) rfl (fun K hK => ?_) AllReadyH.nil)
  go_simp
  refine (rlike_c Wp Hp Ap Vp.length cp Wq Hq Aq Vq.length cq _ (by omega) (by omega)).mono ?_
  rintro e w15 ⟨rfl, hb'⟩
  have RP := Lib.hid ((RP.out).kept hb')
  have RQ := Lib.hid ((RQ.out).kept hb')
  have HB := Lib.hid ((HB.out).trans (hb'.mono (HB.out).size))
  have B3 := Lib.hid ((B3.out).below hb' (B3.out).lt)
  have B4 := Lib.hid ((B4.out).below hb' (B4.out).lt)
  have B5 := Lib.hid ((B5.out).below hb' (B5.out).lt)
  have R1 := Lib.hid ((R1.out).kept hb')
  have R2 := Lib.hid ((R2.out).kept hb')
  have R3 := Lib.hid ((R3.out).kept hb')
  have R4 := Lib.hid ((R4.out).kept hb')
  have R5 := Lib.hid ((R5.out).kept hb')
  have R6 := Lib.hid ((R6.out).kept hb')
  clear hb'
  rw [GB.out]
  refine hK.out _ _ ?hS142 (fun hHeld => ?_)
  case hS142 => exact ⟨(B3.out).cell 0, (B3.out).cell 1, (B3.out).cell 2, (B4.out).cell 0, (B4.out).cell 1, (B4.out).cell 2, (B5.out).cell 0, (B5.out).cell 1⟩
  clear hK K
  try simp only [Act.put, List.setIfInBounds_toArray, List.set_cons_zero, List.set_cons_succ]
  refine wpAnyH_take (i := 38) (oi := ⟨some 53, _, _, _, _, _⟩) (v := ?v143) rfl (by kernel_rfl) (by kernel_rfl) (by kernel_rfl) (fun _ _ _ h => h) (Or.inl ⟨by rfl, ?h143⟩) (by assumption) ?r143
  case h143 => (intro w hSw; (try dsimp only at hSw); go_simp; try with_reducible rfl)
  try simp only [Act.put, List.setIfInBounds_toArray, List.set_cons_zero, List.set_cons_succ]
  refine wpAnyH_take (i := 39) (oi := ⟨some 54, _, _, _, _, _⟩) (v := ?v144) rfl (by kernel_rfl) (by kernel_rfl) (by kernel_rfl) (fun _ _ _ h => h) (Or.inl ⟨by rfl, ?h144⟩) (by assumption) ?r144
  case h144 => (intro w hSw; (try dsimp only at hSw); go_simp; try with_reducible rfl)
  try simp only [Act.put, List.setIfInBounds_toArray, List.set_cons_zero, List.set_cons_succ]
  refine wpAnyH_take (i := 40) (oi := ⟨some 55, _, _, _, _, _⟩) (v := ?v145) rfl (by kernel_rfl) (by kernel_rfl) (by kernel_rfl) (fun _ _ _ h => h) (Or.inl ⟨by rfl, ?h145⟩) (by assumption) ?r145
  case h145 => (intro w hSw; (try dsimp only at hSw); go_simp; try with_reducible rfl)
  try simp only [Act.put, List.setIfInBounds_toArray, List.set_cons_zero, List.set_cons_succ]
  refine wpAnyH_ready (rs := [41]) (by kernel_rfl) (by simp) ?_
  refine (AllReadyH.cons (o := ⟨some 56, _, _, _, _, _⟩) rfl (fun K hK => ?_) AllReadyH.nil)
  go_simp
  refine (rsame_c Wp Hp Vp Wq Hq Vq Ap Aq cp cq _ RP.out RQ.out (by omega) (by omega)).mono ?_
  rintro e w16 ⟨rfl, hb'⟩
  have RP := Lib.hid ((RP.out).kept hb')
  have RQ := Lib.hid ((RQ.out).kept hb')
  have HB := Lib.hid ((HB.out).trans (hb'.mono (HB.out).size))
  have B3 := Lib.hid ((B3.out).below hb' (B3.out).lt)
  have B4 := Lib.hid ((B4.out).below hb' (B4.out).lt)
  have B5 := Lib.hid ((B5.out).below hb' (B5.out).lt)
  have R1 := Lib.hid ((R1.out).kept hb')
  have R2 := Lib.hid ((R2.out).kept hb')
  have R3 := Lib.hid ((R3.out).kept hb')
  have R4 := Lib.hid ((R4.out).kept hb')
  have R5 := Lib.hid ((R5.out).kept hb')
  have R6 := Lib.hid ((R6.out).kept hb')
  clear hb'
  rw [GE.out]
  refine hK.out _ _ ?hS146 (fun hHeld => ?_)
  case hS146 => exact ⟨(B3.out).cell 0, (B3.out).cell 1, (B3.out).cell 2, (B4.out).cell 0, (B4.out).cell 1, (B4.out).cell 2, (B5.out).cell 0, (B5.out).cell 1⟩
  clear hK K
  try simp only [Act.put, List.setIfInBounds_toArray, List.set_cons_zero, List.set_cons_succ]
  refine wpAnyH_take (i := 42) (oi := ⟨some 57, _, _, _, _, _⟩) (v := ?v147) rfl (by kernel_rfl) (by kernel_rfl) (by kernel_rfl) (fun _ _ _ h => h) (Or.inl ⟨by rfl, ?h147⟩) (by assumption) ?r147
  case h147 => (intro w hSw; (try dsimp only at hSw); go_simp; try with_reducible rfl)
  try simp only [Act.put, List.setIfInBounds_toArray, List.set_cons_zero, List.set_cons_succ]
  refine wpAnyH_take (i := 43) (oi := ⟨some 58, _, _, _, _, _⟩) (v := ?v148) rfl (by kernel_rfl) (by kernel_rfl) (by kernel_rfl) (fun _ _ _ h => h) (Or.inl ⟨by rfl, ?h148⟩) (by assumption) ?r148
  case h148 => (intro w hSw; (try dsimp only at hSw); go_simp; try with_reducible rfl)
  try simp only [Act.put, List.setIfInBounds_toArray, List.set_cons_zero, List.set_cons_succ]
  refine wpAnyH_take (i := 44) (oi := ⟨some 59, _, _, _, _, _⟩) (v := ?v149) rfl (by kernel_rfl) (by kernel_rfl) (by kernel_rfl) (fun _ _ _ h => h) (Or.inl ⟨by rfl, ?h149⟩) (by assumption) ?r149
  case h149 => (intro w hSw; (try dsimp only at hSw); go_simp; try with_reducible rfl)
  try simp only [Act.put, List.setIfInBounds_toArray, List.set_cons_zero, List.set_cons_succ]
  refine wpAnyH_take (i := 45) (oi := ⟨some 60, _, _, _, _, _⟩) (v := ?v150) rfl (by kernel_rfl) (by kernel_rfl) (by kernel_rfl) (fun _ _ _ h => h) (Or.inl ⟨by rfl, ?h150⟩) (by assumption) ?r150
  case h150 => (intro w hSw; (try dsimp only at hSw); go_simp; try with_reducible rfl)
  try simp only [Act.put, List.setIfInBounds_toArray, List.set_cons_zero, List.set_cons_succ]
  refine wpAnyH_take (i := 46) (oi := ⟨some 61, _, _, _, _, _⟩) (v := ?v151) rfl (by kernel_rfl) (by kernel_rfl) (by kernel_rfl) (fun _ _ _ h => h) (Or.inl ⟨by rfl, ?h151⟩) (by assumption) ?r151
  case h151 => (intro w hSw; (try dsimp only at hSw); go_simp; try with_reducible rfl)
  try simp only [Act.put, List.setIfInBounds_toArray, List.set_cons_zero, List.set_cons_succ]
  refine wpAnyH_take (i := 47) (oi := ⟨some 62, _, _, _, _, _⟩) (v := ?v152) rfl (by kernel_rfl) (by kernel_rfl) (by kernel_rfl) (fun _ _ _ h => h) (Or.inl ⟨by rfl, ?h152⟩) (by assumption) ?r152
  case h152 => (intro w hSw; (try dsimp only at hSw); go_simp; try with_reducible rfl)
  try simp only [Act.put, List.setIfInBounds_toArray, List.set_cons_zero, List.set_cons_succ]
  refine wpAnyH_take (i := 49) (oi := ⟨some 64, _, _, _, _, _⟩) (v := ?v153) rfl (by kernel_rfl) (by kernel_rfl) (by kernel_rfl) (fun _ _ _ h => h) (Or.inl ⟨by rfl, ?h153⟩) (by assumption) ?r153
  case h153 => (intro w hSw; (try dsimp only at hSw); go_simp; try with_reducible rfl)
  try simp only [Act.put, List.setIfInBounds_toArray, List.set_cons_zero, List.set_cons_succ]
  refine wpAnyH_ready (rs := [48]) (by kernel_rfl) (by simp) ?_
  refine (AllReadyH.cons (o := ⟨some 63, _, _, _, _, _⟩) rfl (fun K hK => ?_) AllReadyH.nil)
  go_simp
  refine (psame_c Wp Hp Vp Wp Hp Vp Ap Ap cp cp _ RP.out RP.out (by omega) (by omega)).mono ?_
  rintro e w17 ⟨rfl, hb'⟩
  have RP := Lib.hid ((RP.out).kept hb')
  have RQ := Lib.hid ((RQ.out).kept hb')
  have HB := Lib.hid ((HB.out).trans (hb'.mono (HB.out).size))
  have B3 := Lib.hid ((B3.out).below hb' (B3.out).lt)
  have B4 := Lib.hid ((B4.out).below hb' (B4.out).lt)
  have B5 := Lib.hid ((B5.out).below hb' (B5.out).lt)
  have R1 := Lib.hid ((R1.out).kept hb')
  have R2 := Lib.hid ((R2.out).kept hb')
  have R3 := Lib.hid ((R3.out).kept hb')
  have R4 := Lib.hid ((R4.out).kept hb')
  have R5 := Lib.hid ((R5.out).kept hb')
  have R6 := Lib.hid ((R6.out).kept hb')
  clear hb'
  rw [GP.out]
  refine hK.out _ _ ?hS154 (fun hHeld => ?_)
  case hS154 => exact ⟨(B3.out).cell 0, (B3.out).cell 1, (B3.out).cell 2, (B4.out).cell 0, (B4.out).cell 1, (B4.out).cell 2, (B5.out).cell 0, (B5.out).cell 1⟩
  clear hK K
  try simp only [Act.put, List.setIfInBounds_toArray, List.set_cons_zero, List.set_cons_succ]
  refine wpAnyH_ready (rs := [50]) (by kernel_rfl) (by simp) ?_
  refine (AllReadyH.cons (o := ⟨some 65, _, _, _, _, _⟩) rfl (fun K hK => ?_) AllReadyH.nil)
  go_simp
  refine (rright_c Wp Hp Ap Vp.length cp _ (by omega)).mono ?_
  rintro e w18 ⟨rfl, hb'⟩
  have RP := Lib.hid ((RP.out).kept hb')
  have RQ := Lib.hid ((RQ.out).kept hb')
  have HB := Lib.hid ((HB.out).trans (hb'.mono (HB.out).size))
  have B3 := Lib.hid ((B3.out).below hb' (B3.out).lt)
  have B4 := Lib.hid ((B4.out).below hb' (B4.out).lt)
  have B5 := Lib.hid ((B5.out).below hb' (B5.out).lt)
  have R1 := Lib.hid ((R1.out).kept hb')
  have R2 := Lib.hid ((R2.out).kept hb')
  have R3 := Lib.hid ((R3.out).kept hb')
  have R4 := Lib.hid ((R4.out).kept hb')
  have R5 := Lib.hid ((R5.out).kept hb')
  have R6 := Lib.hid ((R6.out).kept hb')
  clear hb'
  rw [GK.out]
  refine hK.out _ _ ?hS155 (fun hHeld => ?_)
  case hS155 => exact ⟨(B3.out).cell 0, (B3.out).cell 1, (B3.out).cell 2, (B4.out).cell 0, (B4.out).cell 1, (B4.out).cell 2, (B5.out).cell 0, (B5.out).cell 1⟩
  clear hK K
  try simp only [Act.put, List.setIfInBounds_toArray, List.set_cons_zero, List.set_cons_succ]
  refine wpAnyH_take (i := 51) (oi := ⟨some 66, _, _, _, _, _⟩) (v := ?v156) rfl (by kernel_rfl) (by kernel_rfl) (by kernel_rfl) (fun _ _ _ h => h) (Or.inl ⟨by rfl, ?h156⟩) (by assumption) ?r156
  case h156 => (intro w hSw; (try dsimp only at hSw); go_simp; try with_reducible rfl)
  try simp only [Act.put, List.setIfInBounds_toArray, List.set_cons_zero, List.set_cons_succ]
  refine wpAnyH_take (i := 52) (oi := ⟨some 67, _, _, _, _, _⟩) (v := ?v157) rfl (by kernel_rfl) (by kernel_rfl) (by kernel_rfl) (fun _ _ _ h => h) (Or.inl ⟨by rfl, ?h157⟩) (by assumption) ?r157
  case h157 => (intro w hSw; (try dsimp only at hSw); go_simp; try with_reducible rfl)
  try simp only [Act.put, List.setIfInBounds_toArray, List.set_cons_zero, List.set_cons_succ]
  refine wpAnyH_take (i := 53) (oi := ⟨some 6, _, _, _, _, _⟩) (v := ?v158) rfl (by kernel_rfl) (by kernel_rfl) (by kernel_rfl) (fun _ _ _ h => h) (Or.inl ⟨by rfl, ?h158⟩) (by assumption) ?r158
  case h158 => (intro w hSw; (try dsimp only at hSw); go_simp; try with_reducible rfl)
  try simp only [Act.put, List.setIfInBounds_toArray, List.set_cons_zero, List.set_cons_succ]
  refine wpAnyH_done (by kernel_rfl) ?_ _
  clear hHeld
  go_wp2_with fail
  go_ret
  exact ⟨rfl, HB.out⟩

set_option maxRecDepth 100000 in
set_option maxHeartbeats 16000000 in
theorem psums_c (Wp Hp : Int) (Vp : List Int) (Ap : Option Addr) (cp : Nat) (Wq Hq : Int) (Vq : List Int) (Aq : Option Addr) (cq : Nat) (l m : Int) (w : World) (hp : ReadsI w Ap Vp) (hq : ReadsI w Aq Vq) (hnp : Vp.length ≤ 9223372036854775807) (hnq : Vq.length ≤ 9223372036854775807) (h1 : ¬ 2000 < Vp.length) (h2 : ¬ 2000 < Vq.length) (hbo : bothB Wp Hp Vp.length Wq Hq Vq.length = false) (hok : okB Wp Hp Vp.length = true) :
    Calls Try.prog 4 #[plV Wp Hp (.slice Ap Vp.length cp), plV Wq Hq (.slice Aq Vq.length cq), .agg #[.int .i64 l, .int .i64 m]] w fun e w' => e = .returned (.bool true) ∧ Below w.heap.size w w' := by
  have RP := Lib.hid hp
  have RQ := Lib.hid hq
  have HB := Lib.hid (Below.refl w.heap.size w)
  have G1 := Lib.hid (decide_eq_false h1)
  have G2 := Lib.hid (decide_eq_false h2)
  have GB := Lib.hid hbo
  have GK := Lib.hid hok
  have GS := Lib.hid (show sameB Wp Hp Vp Wq Hq Vq = false by simp [sameB, hbo])
  have GP := Lib.hid (show sameB Wp Hp Vp Wp Hp Vp = true by simp [sameB, bothB, hok])
  have hnp2 : Vp.length ≤ 2000 := by omega
  have hnq2 : Vq.length ≤ 2000 := by omega
  clear h1 h2 hbo hok
  clear hp hq
  go_enter Try.func4, Try.ntmps4
  go_wp2_with fail
  have RP := Lib.hid ((((RP.out).alloc (.cells #[.int .i64 Wp, .int .i64 Hp, .slice Ap Vp.length cp] 24)).alloc (.cells #[.int .i64 Wq, .int .i64 Hq, .slice Aq Vq.length cq] 24)).alloc (.cells #[.int .i64 l, .int .i64 m] 33))
  have RQ := Lib.hid ((((RQ.out).alloc (.cells #[.int .i64 Wp, .int .i64 Hp, .slice Ap Vp.length cp] 24)).alloc (.cells #[.int .i64 Wq, .int .i64 Hq, .slice Aq Vq.length cq] 24)).alloc (.cells #[.int .i64 l, .int .i64 m] 33))
  have HB := Lib.hid (below_alloc_ (below_alloc_ (below_alloc_ (HB.out) (.cells #[.int .i64 Wp, .int .i64 Hp, .slice Ap Vp.length cp] 24)) (.cells #[.int .i64 Wq, .int .i64 Hq, .slice Aq Vq.length cq] 24)) (.cells #[.int .i64 l, .int .i64 m] 33))
  have hzw : (((w.alloc (.cells #[.int .i64 Wp, .int .i64 Hp, .slice Ap Vp.length cp] 24)).alloc (.cells #[.int .i64 Wq, .int .i64 Hq, .slice Aq Vq.length cq] 24)).alloc (.cells #[.int .i64 l, .int .i64 m] 33)).heap.size = w.heap.size + 3 := by simp only [World.size_alloc]
  have B3 := ((Blk.new (w) 24 #[.int .i64 Wp, .int .i64 Hp, .slice Ap Vp.length cp]).alloc (.cells #[.int .i64 Wq, .int .i64 Hq, .slice Aq Vq.length cq] 24)).alloc (.cells #[.int .i64 l, .int .i64 m] 33)
  skip
  have B3 := Lib.hid B3
  have B4 := (Blk.new (w.alloc (.cells #[.int .i64 Wp, .int .i64 Hp, .slice Ap Vp.length cp] 24)) 24 #[.int .i64 Wq, .int .i64 Hq, .slice Aq Vq.length cq]).alloc (.cells #[.int .i64 l, .int .i64 m] 33)
  rw [show (w.alloc (.cells #[.int .i64 Wp, .int .i64 Hp, .slice Ap Vp.length cp] 24)).heap.size = w.heap.size + 1 by simp only [World.size_alloc]] at B4
  have B4 := Lib.hid B4
  have B5 := Blk.new ((w.alloc (.cells #[.int .i64 Wp, .int .i64 Hp, .slice Ap Vp.length cp] 24)).alloc (.cells #[.int .i64 Wq, .int .i64 Hq, .slice Aq Vq.length cq] 24)) 33 #[.int .i64 l, .int .i64 m]
  rw [show ((w.alloc (.cells #[.int .i64 Wp, .int .i64 Hp, .slice Ap Vp.length cp] 24)).alloc (.cells #[.int .i64 Wq, .int .i64 Hq, .slice Aq Vq.length cq] 24)).heap.size = w.heap.size + 1 + 1 by simp only [World.size_alloc]] at B5
  have B5 := Lib.hid B5
  generalize ((w.alloc (.cells #[.int .i64 Wp, .int .i64 Hp, .slice Ap Vp.length cp] 24)).alloc (.cells #[.int .i64 Wq, .int .i64 Hq, .slice Aq Vq.length cq] 24)).alloc (.cells #[.int .i64 l, .int .i64 m] 33) = w1 at *
  clear hzw
  refine (first_c _).mono ?_
  rintro e w2 ⟨rfl, hb'⟩
  have RP := Lib.hid ((RP.out).kept hb')
  have RQ := Lib.hid ((RQ.out).kept hb')
  have HB := Lib.hid ((HB.out).trans (hb'.mono (HB.out).size))
  have B3 := Lib.hid ((B3.out).below hb' (B3.out).lt)
  have B4 := Lib.hid ((B4.out).below hb' (B4.out).lt)
  have B5 := Lib.hid ((B5.out).below hb' (B5.out).lt)
  clear hb'
  obtain ⟨zB30, zB31, zB32⟩ := (B3.out).cells3
  obtain ⟨zB40, zB41, zB42⟩ := (B4.out).cells3
  obtain ⟨zB50, zB51⟩ := (B5.out).cells2
  go_wp2_with fail
  refine (pbig_c Wp Hp Ap Vp.length cp _ hnp).mono ?_
  rintro e w3 ⟨rfl, hb'⟩
  have RP := Lib.hid ((RP.out).kept hb')
  have RQ := Lib.hid ((RQ.out).kept hb')
  have HB := Lib.hid ((HB.out).trans (hb'.mono (HB.out).size))
  have B3 := Lib.hid ((B3.out).below hb' (B3.out).lt)
  have B4 := Lib.hid ((B4.out).below hb' (B4.out).lt)
  have B5 := Lib.hid ((B5.out).below hb' (B5.out).lt)
  clear hb'
  clear zB30 zB31 zB32
  clear zB40 zB41 zB42
  clear zB50 zB51
  rw [G1.out]
  obtain ⟨zB30, zB31, zB32⟩ := (B3.out).cells3
  obtain ⟨zB40, zB41, zB42⟩ := (B4.out).cells3
  obtain ⟨zB50, zB51⟩ := (B5.out).cells2
  go_wp2_with fail
  refine (pbig_c Wq Hq Aq Vq.length cq _ hnq).mono ?_
  rintro e w4 ⟨rfl, hb'⟩
  have RP := Lib.hid ((RP.out).kept hb')
  have RQ := Lib.hid ((RQ.out).kept hb')
  have HB := Lib.hid ((HB.out).trans (hb'.mono (HB.out).size))
  have B3 := Lib.hid ((B3.out).below hb' (B3.out).lt)
  have B4 := Lib.hid ((B4.out).below hb' (B4.out).lt)
  have B5 := Lib.hid ((B5.out).below hb' (B5.out).lt)
  clear hb'
  clear zB30 zB31 zB32
  clear zB40 zB41 zB42
  clear zB50 zB51
  rw [G2.out]
  go_wp2_with fail
  have RP := Lib.hid ((RP.out).drew)
  have RQ := Lib.hid ((RQ.out).drew)
  have HB := Lib.hid ((HB.out).drew)
  have B3 := Lib.hid ((B3.out).drew)
  have B4 := Lib.hid ((B4.out).drew)
  have B5 := Lib.hid ((B5.out).drew)
  refine wp_region_held_drew (S := (fun w' => w'.cell? ⟨w.heap.size, 0, none⟩ = some (.int .i64 Wp) ∧ w'.cell? ⟨w.heap.size, 1, none⟩ = some (.int .i64 Hp) ∧ w'.cell? ⟨w.heap.size, 2, none⟩ = some (.slice Ap Vp.length cp) ∧ w'.cell? ⟨w.heap.size + 1, 0, none⟩ = some (.int .i64 Wq) ∧ w'.cell? ⟨w.heap.size + 1, 1, none⟩ = some (.int .i64 Hq) ∧ w'.cell? ⟨w.heap.size + 1, 2, none⟩ = some (.slice Aq Vq.length cq) ∧ w'.cell? ⟨w.heap.size + 1 + 1, 0, none⟩ = some (.int .i64 l) ∧ w'.cell? ⟨w.heap.size + 1 + 1, 1, none⟩ = some (.int .i64 m))) (by kernel_rfl) ?hS0 (fun hHeld => ?_)
  case hS0 => exact ⟨(B3.out).cell 0, (B3.out).cell 1, (B3.out).cell 2, (B4.out).cell 0, (B4.out).cell 1, (B4.out).cell 2, (B5.out).cell 0, (B5.out).cell 1⟩
  refine wpAnyH_take (i := 0) (oi := ⟨some 15, _, _, _, _, _⟩) (v := ?v159) rfl (by kernel_rfl) (by kernel_rfl) (by kernel_rfl) (fun _ _ _ h => h) (Or.inl ⟨by rfl, ?h159⟩) (by assumption) ?r159
  case h159 => (intro w hSw; (try dsimp only at hSw); go_simp; try with_reducible rfl)
  try simp only [Act.put, List.setIfInBounds_toArray, List.set_cons_zero, List.set_cons_succ]
  refine wpAnyH_take (i := 1) (oi := ⟨some 16, _, _, _, _, _⟩) (v := ?v160) rfl (by kernel_rfl) (by kernel_rfl) (by kernel_rfl) (fun _ _ _ h => h) (Or.inl ⟨by rfl, ?h160⟩) (by assumption) ?r160
  case h160 => (intro w hSw; (try dsimp only at hSw); go_simp; try with_reducible rfl)
  try simp only [Act.put, List.setIfInBounds_toArray, List.set_cons_zero, List.set_cons_succ]
  refine wpAnyH_take (i := 3) (oi := ⟨some 18, _, _, _, _, _⟩) (v := ?v161) rfl (by kernel_rfl) (by kernel_rfl) (by kernel_rfl) (fun _ _ _ h => h) (Or.inl ⟨by rfl, ?h161⟩) (by assumption) ?r161
  case h161 => (intro w hSw; (try dsimp only at hSw); go_simp; try with_reducible rfl)
  try simp only [Act.put, List.setIfInBounds_toArray, List.set_cons_zero, List.set_cons_succ]
  refine wpAnyH_take (i := 4) (oi := ⟨some 19, _, _, _, _, _⟩) (v := ?v162) rfl (by kernel_rfl) (by kernel_rfl) (by kernel_rfl) (fun _ _ _ h => h) (Or.inl ⟨by rfl, ?h162⟩) (by assumption) ?r162
  case h162 => (intro w hSw; (try dsimp only at hSw); go_simp; try with_reducible rfl)
  try simp only [Act.put, List.setIfInBounds_toArray, List.set_cons_zero, List.set_cons_succ]
  refine wpAnyH_ready (rs := [2]) (by kernel_rfl) (by simp) ?_
  refine (AllReadyH.cons (o := ⟨some 17, _, _, _, _, _⟩) rfl (fun K hK => ?_) AllReadyH.nil)
  go_simp
  refine (padd_c Wp Hp Vp Wq Hq Vq Ap Aq cp cq _ RP.out RQ.out (by omega) (by omega)).mono ?_
  rintro e w5 ⟨v, rfl, ho, hb'⟩
  have RP := Lib.hid ((RP.out).kept hb')
  have RQ := Lib.hid ((RQ.out).kept hb')
  have HB := Lib.hid ((HB.out).trans (hb'.mono (HB.out).size))
  have B3 := Lib.hid ((B3.out).below hb' (B3.out).lt)
  have B4 := Lib.hid ((B4.out).below hb' (B4.out).lt)
  have B5 := Lib.hid ((B5.out).below hb' (B5.out).lt)
  clear hb'
  obtain ⟨p1, hp1⟩ : ∃ p, p = joinP (fun x y => wrap64 (x + y)) Wp Hp Vp Wq Hq Vq := ⟨_, rfl⟩
  rw [← hp1] at ho ⊢
  have EP1 := Lib.hid hp1
  have hl1 : p1.V.length ≤ Vp.length := by rw [hp1]; exact joinP_length _ _ _ _ _ _ _
  obtain ⟨A1, c1, rfl, hq⟩ := ho.slice
  have R1 := Lib.hid hq
  clear ho hq hp1
  refine hK.out _ _ ?hS163 (fun hHeld => ?_)
  case hS163 => exact ⟨(B3.out).cell 0, (B3.out).cell 1, (B3.out).cell 2, (B4.out).cell 0, (B4.out).cell 1, (B4.out).cell 2, (B5.out).cell 0, (B5.out).cell 1⟩
  clear hK K
  try simp only [Act.put, List.setIfInBounds_toArray, List.set_cons_zero, List.set_cons_succ]
  refine wpAnyH_ready (rs := [5]) (by kernel_rfl) (by simp) ?_
  refine (AllReadyH.cons (o := ⟨some 20, _, _, _, _, _⟩) rfl (fun K hK => ?_) AllReadyH.nil)
  go_simp
  refine (rsum_c 1 Wp Hp Vp Wq Hq Vq Ap Aq cp cq _ RP.out RQ.out (by omega) (by omega)).mono ?_
  rintro e w6 ⟨v, rfl, ho, hb'⟩
  have RP := Lib.hid ((RP.out).kept hb')
  have RQ := Lib.hid ((RQ.out).kept hb')
  have HB := Lib.hid ((HB.out).trans (hb'.mono (HB.out).size))
  have B3 := Lib.hid ((B3.out).below hb' (B3.out).lt)
  have B4 := Lib.hid ((B4.out).below hb' (B4.out).lt)
  have B5 := Lib.hid ((B5.out).below hb' (B5.out).lt)
  have R1 := Lib.hid ((R1.out).kept hb')
  clear hb'
  obtain ⟨p2, hp2⟩ : ∃ p, p = joinP (fun x y => wrap64 (x + wrap64 (1 * y))) Wp Hp Vp Wq Hq Vq := ⟨_, rfl⟩
  rw [← hp2] at ho ⊢
  have EP2 := Lib.hid hp2
  have hl2 : p2.V.length ≤ Vp.length := by rw [hp2]; exact joinP_length _ _ _ _ _ _ _
  obtain ⟨A2, c2, rfl, hq⟩ := ho.slice
  have R2 := Lib.hid hq
  clear ho hq hp2
  refine hK.out _ _ ?hS164 (fun hHeld => ?_)
  case hS164 => exact ⟨(B3.out).cell 0, (B3.out).cell 1, (B3.out).cell 2, (B4.out).cell 0, (B4.out).cell 1, (B4.out).cell 2, (B5.out).cell 0, (B5.out).cell 1⟩
  clear hK K
  try simp only [Act.put, List.setIfInBounds_toArray, List.set_cons_zero, List.set_cons_succ]
  refine wpAnyH_ready (rs := [6]) (by kernel_rfl) (by simp) ?_
  refine (AllReadyH.cons (o := ⟨some 21, _, _, _, _, _⟩) rfl (fun K hK => ?_) AllReadyH.nil)
  go_simp
  refine (rsame_c p1.W p1.H p1.V p2.W p2.H p2.V A1 A2 c1 c2 _ R1.out R2.out (by omega) (by omega)).mono ?_
  rintro e w7 ⟨rfl, hb'⟩
  have RP := Lib.hid ((RP.out).kept hb')
  have RQ := Lib.hid ((RQ.out).kept hb')
  have HB := Lib.hid ((HB.out).trans (hb'.mono (HB.out).size))
  have B3 := Lib.hid ((B3.out).below hb' (B3.out).lt)
  have B4 := Lib.hid ((B4.out).below hb' (B4.out).lt)
  have B5 := Lib.hid ((B5.out).below hb' (B5.out).lt)
  have R1 := Lib.hid ((R1.out).kept hb')
  have R2 := Lib.hid ((R2.out).kept hb')
  clear hb'
  rw [eqB_of (show p1 = p2 by rw [EP1.out, EP2.out]; exact add_sum _ _ _ _ _ _)]
  refine hK.out _ _ ?hS165 (fun hHeld => ?_)
  case hS165 => exact ⟨(B3.out).cell 0, (B3.out).cell 1, (B3.out).cell 2, (B4.out).cell 0, (B4.out).cell 1, (B4.out).cell 2, (B5.out).cell 0, (B5.out).cell 1⟩
  clear hK K
  try simp only [Act.put, List.setIfInBounds_toArray, List.set_cons_zero, List.set_cons_succ]
  refine wpAnyH_take (i := 7) (oi := ⟨some 22, _, _, _, _, _⟩) (v := ?v166) rfl (by kernel_rfl) (by kernel_rfl) (by kernel_rfl) (fun _ _ _ h => h) (Or.inl ⟨by rfl, ?h166⟩) (by assumption) ?r166
  case h166 => (intro w hSw; (try dsimp only at hSw); go_simp; try with_reducible rfl)
  try simp only [Act.put, List.setIfInBounds_toArray, List.set_cons_zero, List.set_cons_succ]
  refine wpAnyH_take (i := 8) (oi := ⟨some 23, _, _, _, _, _⟩) (v := ?v167) rfl (by kernel_rfl) (by kernel_rfl) (by kernel_rfl) (fun _ _ _ h => h) (Or.inl ⟨by rfl, ?h167⟩) (by assumption) ?r167
  case h167 => (intro w hSw; (try dsimp only at hSw); go_simp; try with_reducible rfl)
  try simp only [Act.put, List.setIfInBounds_toArray, List.set_cons_zero, List.set_cons_succ]
  refine wpAnyH_take (i := 9) (oi := ⟨some 24, _, _, _, _, _⟩) (v := ?v168) rfl (by kernel_rfl) (by kernel_rfl) (by kernel_rfl) (fun _ _ _ h => h) (Or.inl ⟨by rfl, ?h168⟩) (by assumption) ?r168
  case h168 => (intro w hSw; (try dsimp only at hSw); go_simp; try with_reducible rfl)
  try simp only [Act.put, List.setIfInBounds_toArray, List.set_cons_zero, List.set_cons_succ]
  refine wpAnyH_take (i := 11) (oi := ⟨some 26, _, _, _, _, _⟩) (v := ?v169) rfl (by kernel_rfl) (by kernel_rfl) (by kernel_rfl) (fun _ _ _ h => h) (Or.inl ⟨by rfl, ?h169⟩) (by assumption) ?r169
  case h169 => (intro w hSw; (try dsimp only at hSw); go_simp; try with_reducible rfl)
  try simp only [Act.put, List.setIfInBounds_toArray, List.set_cons_zero, List.set_cons_succ]
  refine wpAnyH_take (i := 12) (oi := ⟨some 27, _, _, _, _, _⟩) (v := ?v170) rfl (by kernel_rfl) (by kernel_rfl) (by kernel_rfl) (fun _ _ _ h => h) (Or.inl ⟨by rfl, ?h170⟩) (by assumption) ?r170
  case h170 => (intro w hSw; (try dsimp only at hSw); go_simp; try with_reducible rfl)
  try simp only [Act.put, List.setIfInBounds_toArray, List.set_cons_zero, List.set_cons_succ]
  refine wpAnyH_ready (rs := [10]) (by kernel_rfl) (by simp) ?_
  refine (AllReadyH.cons (o := ⟨some 25, _, _, _, _, _⟩) rfl (fun K hK => ?_) AllReadyH.nil)
  go_simp
  refine (psub_c Wp Hp Vp Wq Hq Vq Ap Aq cp cq _ RP.out RQ.out (by omega) (by omega)).mono ?_
  rintro e w8 ⟨v, rfl, ho, hb'⟩
  have RP := Lib.hid ((RP.out).kept hb')
  have RQ := Lib.hid ((RQ.out).kept hb')
  have HB := Lib.hid ((HB.out).trans (hb'.mono (HB.out).size))
  have B3 := Lib.hid ((B3.out).below hb' (B3.out).lt)
  have B4 := Lib.hid ((B4.out).below hb' (B4.out).lt)
  have B5 := Lib.hid ((B5.out).below hb' (B5.out).lt)
  have R1 := Lib.hid ((R1.out).kept hb')
  have R2 := Lib.hid ((R2.out).kept hb')
  clear hb'
  obtain ⟨p3, hp3⟩ : ∃ p, p = joinP (fun x y => wrap64 (x - y)) Wp Hp Vp Wq Hq Vq := ⟨_, rfl⟩
  rw [← hp3] at ho ⊢
  have EP3 := Lib.hid hp3
  have hl3 : p3.V.length ≤ Vp.length := by rw [hp3]; exact joinP_length _ _ _ _ _ _ _
  obtain ⟨A3, c3, rfl, hq⟩ := ho.slice
  have R3 := Lib.hid hq
  clear ho hq hp3
  refine hK.out _ _ ?hS171 (fun hHeld => ?_)
  case hS171 => exact ⟨(B3.out).cell 0, (B3.out).cell 1, (B3.out).cell 2, (B4.out).cell 0, (B4.out).cell 1, (B4.out).cell 2, (B5.out).cell 0, (B5.out).cell 1⟩
  clear hK K
  try simp only [Act.put, List.setIfInBounds_toArray, List.set_cons_zero, List.set_cons_succ]
  refine wpAnyH_ready (rs := [13]) (by kernel_rfl) (by simp) ?_
  refine (AllReadyH.cons (o := ⟨some 28, _, _, _, _, _⟩) rfl (fun K hK => ?_) AllReadyH.nil)
  go_simp
  refine (rsum_c (-1) Wp Hp Vp Wq Hq Vq Ap Aq cp cq _ RP.out RQ.out (by omega) (by omega)).mono ?_
  rintro e w9 ⟨v, rfl, ho, hb'⟩
  have RP := Lib.hid ((RP.out).kept hb')
  have RQ := Lib.hid ((RQ.out).kept hb')
  have HB := Lib.hid ((HB.out).trans (hb'.mono (HB.out).size))
  have B3 := Lib.hid ((B3.out).below hb' (B3.out).lt)
  have B4 := Lib.hid ((B4.out).below hb' (B4.out).lt)
  have B5 := Lib.hid ((B5.out).below hb' (B5.out).lt)
  have R1 := Lib.hid ((R1.out).kept hb')
  have R2 := Lib.hid ((R2.out).kept hb')
  have R3 := Lib.hid ((R3.out).kept hb')
  clear hb'
  obtain ⟨p4, hp4⟩ : ∃ p, p = joinP (fun x y => wrap64 (x + wrap64 (-1 * y))) Wp Hp Vp Wq Hq Vq := ⟨_, rfl⟩
  rw [← hp4] at ho ⊢
  have EP4 := Lib.hid hp4
  have hl4 : p4.V.length ≤ Vp.length := by rw [hp4]; exact joinP_length _ _ _ _ _ _ _
  obtain ⟨A4, c4, rfl, hq⟩ := ho.slice
  have R4 := Lib.hid hq
  clear ho hq hp4
  refine hK.out _ _ ?hS172 (fun hHeld => ?_)
  case hS172 => exact ⟨(B3.out).cell 0, (B3.out).cell 1, (B3.out).cell 2, (B4.out).cell 0, (B4.out).cell 1, (B4.out).cell 2, (B5.out).cell 0, (B5.out).cell 1⟩
  clear hK K
  try simp only [Act.put, List.setIfInBounds_toArray, List.set_cons_zero, List.set_cons_succ]
  refine wpAnyH_ready (rs := [14]) (by kernel_rfl) (by simp) ?_
  refine (AllReadyH.cons (o := ⟨some 29, _, _, _, _, _⟩) rfl (fun K hK => ?_) AllReadyH.nil)
  go_simp
  refine (rsame_c p3.W p3.H p3.V p4.W p4.H p4.V A3 A4 c3 c4 _ R3.out R4.out (by omega) (by omega)).mono ?_
  rintro e w10 ⟨rfl, hb'⟩
  have RP := Lib.hid ((RP.out).kept hb')
  have RQ := Lib.hid ((RQ.out).kept hb')
  have HB := Lib.hid ((HB.out).trans (hb'.mono (HB.out).size))
  have B3 := Lib.hid ((B3.out).below hb' (B3.out).lt)
  have B4 := Lib.hid ((B4.out).below hb' (B4.out).lt)
  have B5 := Lib.hid ((B5.out).below hb' (B5.out).lt)
  have R1 := Lib.hid ((R1.out).kept hb')
  have R2 := Lib.hid ((R2.out).kept hb')
  have R3 := Lib.hid ((R3.out).kept hb')
  have R4 := Lib.hid ((R4.out).kept hb')
  clear hb'
  rw [eqB_of (show p3 = p4 by rw [EP3.out, EP4.out]; exact sub_sum _ _ _ _ _ _)]
  refine hK.out _ _ ?hS173 (fun hHeld => ?_)
  case hS173 => exact ⟨(B3.out).cell 0, (B3.out).cell 1, (B3.out).cell 2, (B4.out).cell 0, (B4.out).cell 1, (B4.out).cell 2, (B5.out).cell 0, (B5.out).cell 1⟩
  clear hK K
  try simp only [Act.put, List.setIfInBounds_toArray, List.set_cons_zero, List.set_cons_succ]
  refine wpAnyH_take (i := 15) (oi := ⟨some 30, _, _, _, _, _⟩) (v := ?v174) rfl (by kernel_rfl) (by kernel_rfl) (by kernel_rfl) (fun _ _ _ h => h) (Or.inl ⟨by rfl, ?h174⟩) (by assumption) ?r174
  case h174 => (intro w hSw; (try dsimp only at hSw); go_simp; try with_reducible rfl)
  try simp only [Act.put, List.setIfInBounds_toArray, List.set_cons_zero, List.set_cons_succ]
  refine wpAnyH_take (i := 16) (oi := ⟨some 31, _, _, _, _, _⟩) (v := ?v175) rfl (by kernel_rfl) (by kernel_rfl) (by kernel_rfl) (fun _ _ _ h => h) (Or.inl ⟨by rfl, ?h175⟩) (by assumption) ?r175
  case h175 => (intro w hSw; (try dsimp only at hSw); go_simp; try with_reducible rfl)
  try simp only [Act.put, List.setIfInBounds_toArray, List.set_cons_zero, List.set_cons_succ]
  refine wpAnyH_take (i := 17) (oi := ⟨some 32, _, _, _, _, _⟩) (v := ?v176) rfl (by kernel_rfl) (by kernel_rfl) (by kernel_rfl) (fun _ _ _ h => h) (Or.inl ⟨by rfl, ?h176⟩) (by assumption) ?r176
  case h176 => (intro w hSw; (try dsimp only at hSw); go_simp; try with_reducible rfl)
  try simp only [Act.put, List.setIfInBounds_toArray, List.set_cons_zero, List.set_cons_succ]
  refine wpAnyH_take (i := 18) (oi := ⟨some 33, _, _, _, _, _⟩) (v := ?v177) rfl (by kernel_rfl) (by kernel_rfl) (by kernel_rfl) (fun _ _ _ h => h) (Or.inl ⟨by rfl, ?h177⟩) (by assumption) ?r177
  case h177 => (intro w hSw; (try dsimp only at hSw); go_simp; try with_reducible rfl)
  try simp only [Act.put, List.setIfInBounds_toArray, List.set_cons_zero, List.set_cons_succ]
  refine wpAnyH_take (i := 19) (oi := ⟨some 34, _, _, _, _, _⟩) (v := ?v178) rfl (by kernel_rfl) (by kernel_rfl) (by kernel_rfl) (fun _ _ _ h => h) (Or.inl ⟨by rfl, ?h178⟩) (by assumption) ?r178
  case h178 => (intro w hSw; (try dsimp only at hSw); go_simp; try with_reducible rfl)
  try simp only [Act.put, List.setIfInBounds_toArray, List.set_cons_zero, List.set_cons_succ]
  refine wpAnyH_take (i := 20) (oi := ⟨some 35, _, _, _, _, _⟩) (v := ?v179) rfl (by kernel_rfl) (by kernel_rfl) (by kernel_rfl) (fun _ _ _ h => h) (Or.inl ⟨by rfl, ?h179⟩) (by assumption) ?r179
  case h179 => (intro w hSw; (try dsimp only at hSw); go_simp; try with_reducible rfl)
  try simp only [Act.put, List.setIfInBounds_toArray, List.set_cons_zero, List.set_cons_succ]
  refine wpAnyH_take (i := 21) (oi := ⟨some 36, _, _, _, _, _⟩) (v := ?v180) rfl (by kernel_rfl) (by kernel_rfl) (by kernel_rfl) (fun _ _ _ h => h) (Or.inl ⟨by rfl, ?h180⟩) (by assumption) ?r180
  case h180 => (intro w hSw; (try dsimp only at hSw); go_simp; try with_reducible rfl)
  try simp only [Act.put, List.setIfInBounds_toArray, List.set_cons_zero, List.set_cons_succ]
  refine wpAnyH_take (i := 23) (oi := ⟨some 38, _, _, _, _, _⟩) (v := ?v181) rfl (by kernel_rfl) (by kernel_rfl) (by kernel_rfl) (fun _ _ _ h => h) (Or.inl ⟨by rfl, ?h181⟩) (by assumption) ?r181
  case h181 => (intro w hSw; (try dsimp only at hSw); go_simp; try with_reducible rfl)
  try simp only [Act.put, List.setIfInBounds_toArray, List.set_cons_zero, List.set_cons_succ]
  refine wpAnyH_take (i := 24) (oi := ⟨some 39, _, _, _, _, _⟩) (v := ?v182) rfl (by kernel_rfl) (by kernel_rfl) (by kernel_rfl) (fun _ _ _ h => h) (Or.inl ⟨by rfl, ?h182⟩) (by assumption) ?r182
  case h182 => (intro w hSw; (try dsimp only at hSw); go_simp; try with_reducible rfl)
  try simp only [Act.put, List.setIfInBounds_toArray, List.set_cons_zero, List.set_cons_succ]
  refine wpAnyH_take (i := 25) (oi := ⟨some 40, _, _, _, _, _⟩) (v := ?v183) rfl (by kernel_rfl) (by kernel_rfl) (by kernel_rfl) (fun _ _ _ h => h) (Or.inl ⟨by rfl, ?h183⟩) (by assumption) ?r183
  case h183 => (intro w hSw; (try dsimp only at hSw); go_simp; try with_reducible rfl)
  try simp only [Act.put, List.setIfInBounds_toArray, List.set_cons_zero, List.set_cons_succ]
  refine wpAnyH_take (i := 26) (oi := ⟨some 41, _, _, _, _, _⟩) (v := ?v184) rfl (by kernel_rfl) (by kernel_rfl) (by kernel_rfl) (fun _ _ _ h => h) (Or.inl ⟨by rfl, ?h184⟩) (by assumption) ?r184
  case h184 => (intro w hSw; (try dsimp only at hSw); go_simp; try with_reducible rfl)
  try simp only [Act.put, List.setIfInBounds_toArray, List.set_cons_zero, List.set_cons_succ]
  refine wpAnyH_take (i := 27) (oi := ⟨some 42, _, _, _, _, _⟩) (v := ?v185) rfl (by kernel_rfl) (by kernel_rfl) (by kernel_rfl) (fun _ _ _ h => h) (Or.inl ⟨by rfl, ?h185⟩) (by assumption) ?r185
  case h185 => (intro w hSw; (try dsimp only at hSw); go_simp; try with_reducible rfl)
  try simp only [Act.put, List.setIfInBounds_toArray, List.set_cons_zero, List.set_cons_succ]
  refine wpAnyH_ready (rs := [22]) (by kernel_rfl) (by simp) ?_
  refine (AllReadyH.cons (o := ⟨some 37, _, _, _, _, _⟩) rfl (fun K hK => ?_) AllReadyH.nil)
  go_simp
  refine (pclip_c Wp Hp Vp Ap cp l m _ RP.out (by omega)).mono ?_
  rintro e w11 ⟨v, rfl, ho, hb'⟩
  have RP := Lib.hid ((RP.out).kept hb')
  have RQ := Lib.hid ((RQ.out).kept hb')
  have HB := Lib.hid ((HB.out).trans (hb'.mono (HB.out).size))
  have B3 := Lib.hid ((B3.out).below hb' (B3.out).lt)
  have B4 := Lib.hid ((B4.out).below hb' (B4.out).lt)
  have B5 := Lib.hid ((B5.out).below hb' (B5.out).lt)
  have R1 := Lib.hid ((R1.out).kept hb')
  have R2 := Lib.hid ((R2.out).kept hb')
  have R3 := Lib.hid ((R3.out).kept hb')
  have R4 := Lib.hid ((R4.out).kept hb')
  clear hb'
  obtain ⟨p5, hp5⟩ : ∃ p, p = joinP (fun x _ => min (max x l) m) Wp Hp Vp Wp Hp Vp := ⟨_, rfl⟩
  rw [← hp5] at ho ⊢
  have EP5 := Lib.hid hp5
  have hl5 : p5.V.length ≤ Vp.length := by rw [hp5]; exact joinP_length _ _ _ _ _ _ _
  obtain ⟨A5, c5, rfl, hq⟩ := ho.slice
  have R5 := Lib.hid hq
  clear ho hq hp5
  refine hK.out _ _ ?hS186 (fun hHeld => ?_)
  case hS186 => exact ⟨(B3.out).cell 0, (B3.out).cell 1, (B3.out).cell 2, (B4.out).cell 0, (B4.out).cell 1, (B4.out).cell 2, (B5.out).cell 0, (B5.out).cell 1⟩
  clear hK K
  try simp only [Act.put, List.setIfInBounds_toArray, List.set_cons_zero, List.set_cons_succ]
  refine wpAnyH_ready (rs := [28]) (by kernel_rfl) (by simp) ?_
  refine (AllReadyH.cons (o := ⟨some 43, _, _, _, _, _⟩) rfl (fun K hK => ?_) AllReadyH.nil)
  go_simp
  refine (rclip_c l m Wp Hp Vp Ap cp _ RP.out (by omega)).mono ?_
  rintro e w12 ⟨v, rfl, ho, hb'⟩
  have RP := Lib.hid ((RP.out).kept hb')
  have RQ := Lib.hid ((RQ.out).kept hb')
  have HB := Lib.hid ((HB.out).trans (hb'.mono (HB.out).size))
  have B3 := Lib.hid ((B3.out).below hb' (B3.out).lt)
  have B4 := Lib.hid ((B4.out).below hb' (B4.out).lt)
  have B5 := Lib.hid ((B5.out).below hb' (B5.out).lt)
  have R1 := Lib.hid ((R1.out).kept hb')
  have R2 := Lib.hid ((R2.out).kept hb')
  have R3 := Lib.hid ((R3.out).kept hb')
  have R4 := Lib.hid ((R4.out).kept hb')
  have R5 := Lib.hid ((R5.out).kept hb')
  clear hb'
  obtain ⟨p6, hp6⟩ : ∃ p, p = joinP (fun x _ => min (max x l) m) Wp Hp Vp Wp Hp Vp := ⟨_, rfl⟩
  rw [← hp6] at ho ⊢
  have EP6 := Lib.hid hp6
  have hl6 : p6.V.length ≤ Vp.length := by rw [hp6]; exact joinP_length _ _ _ _ _ _ _
  obtain ⟨A6, c6, rfl, hq⟩ := ho.slice
  have R6 := Lib.hid hq
  clear ho hq hp6
  refine hK.out _ _ ?hS187 (fun hHeld => ?_)
  case hS187 => exact ⟨(B3.out).cell 0, (B3.out).cell 1, (B3.out).cell 2, (B4.out).cell 0, (B4.out).cell 1, (B4.out).cell 2, (B5.out).cell 0, (B5.out).cell 1⟩
  clear hK K
  try simp only [Act.put, List.setIfInBounds_toArray, List.set_cons_zero, List.set_cons_succ]
  refine wpAnyH_ready (rs := [29]) (by kernel_rfl) (by simp) ?_
  refine (AllReadyH.cons (o := ⟨some 44, _, _, _, _, _⟩) rfl (fun K hK => ?_) AllReadyH.nil)
  go_simp
  refine (rsame_c p5.W p5.H p5.V p6.W p6.H p6.V A5 A6 c5 c6 _ R5.out R6.out (by omega) (by omega)).mono ?_
  rintro e w13 ⟨rfl, hb'⟩
  have RP := Lib.hid ((RP.out).kept hb')
  have RQ := Lib.hid ((RQ.out).kept hb')
  have HB := Lib.hid ((HB.out).trans (hb'.mono (HB.out).size))
  have B3 := Lib.hid ((B3.out).below hb' (B3.out).lt)
  have B4 := Lib.hid ((B4.out).below hb' (B4.out).lt)
  have B5 := Lib.hid ((B5.out).below hb' (B5.out).lt)
  have R1 := Lib.hid ((R1.out).kept hb')
  have R2 := Lib.hid ((R2.out).kept hb')
  have R3 := Lib.hid ((R3.out).kept hb')
  have R4 := Lib.hid ((R4.out).kept hb')
  have R5 := Lib.hid ((R5.out).kept hb')
  have R6 := Lib.hid ((R6.out).kept hb')
  clear hb'
  rw [eqB_of (show p5 = p6 by rw [EP5.out, EP6.out])]
  refine hK.out _ _ ?hS188 (fun hHeld => ?_)
  case hS188 => exact ⟨(B3.out).cell 0, (B3.out).cell 1, (B3.out).cell 2, (B4.out).cell 0, (B4.out).cell 1, (B4.out).cell 2, (B5.out).cell 0, (B5.out).cell 1⟩
  clear hK K
  try simp only [Act.put, List.setIfInBounds_toArray, List.set_cons_zero, List.set_cons_succ]
  refine wpAnyH_take (i := 30) (oi := ⟨some 45, _, _, _, _, _⟩) (v := ?v189) rfl (by kernel_rfl) (by kernel_rfl) (by kernel_rfl) (fun _ _ _ h => h) (Or.inl ⟨by rfl, ?h189⟩) (by assumption) ?r189
  case h189 => (intro w hSw; (try dsimp only at hSw); go_simp; try with_reducible rfl)
  try simp only [Act.put, List.setIfInBounds_toArray, List.set_cons_zero, List.set_cons_succ]
  refine wpAnyH_take (i := 31) (oi := ⟨some 46, _, _, _, _, _⟩) (v := ?v190) rfl (by kernel_rfl) (by kernel_rfl) (by kernel_rfl) (fun _ _ _ h => h) (Or.inl ⟨by rfl, ?h190⟩) (by assumption) ?r190
  case h190 => (intro w hSw; (try dsimp only at hSw); go_simp; try with_reducible rfl)
  try simp only [Act.put, List.setIfInBounds_toArray, List.set_cons_zero, List.set_cons_succ]
  refine wpAnyH_take (i := 32) (oi := ⟨some 47, _, _, _, _, _⟩) (v := ?v191) rfl (by kernel_rfl) (by kernel_rfl) (by kernel_rfl) (fun _ _ _ h => h) (Or.inl ⟨by rfl, ?h191⟩) (by assumption) ?r191
  case h191 => (intro w hSw; (try dsimp only at hSw); go_simp; try with_reducible rfl)
  try simp only [Act.put, List.setIfInBounds_toArray, List.set_cons_zero, List.set_cons_succ]
  refine wpAnyH_take (i := 33) (oi := ⟨some 48, _, _, _, _, _⟩) (v := ?v192) rfl (by kernel_rfl) (by kernel_rfl) (by kernel_rfl) (fun _ _ _ h => h) (Or.inl ⟨by rfl, ?h192⟩) (by assumption) ?r192
  case h192 => (intro w hSw; (try dsimp only at hSw); go_simp; try with_reducible rfl)
  try simp only [Act.put, List.setIfInBounds_toArray, List.set_cons_zero, List.set_cons_succ]
  refine wpAnyH_take (i := 35) (oi := ⟨some 50, _, _, _, _, _⟩) (v := ?v193) rfl (by kernel_rfl) (by kernel_rfl) (by kernel_rfl) (fun _ _ _ h => h) (Or.inl ⟨by rfl, ?h193⟩) (by assumption) ?r193
  case h193 => (intro w hSw; (try dsimp only at hSw); go_simp; try with_reducible rfl)
  try simp only [Act.put, List.setIfInBounds_toArray, List.set_cons_zero, List.set_cons_succ]
  refine wpAnyH_take (i := 36) (oi := ⟨some 51, _, _, _, _, _⟩) (v := ?v194) rfl (by kernel_rfl) (by kernel_rfl) (by kernel_rfl) (fun _ _ _ h => h) (Or.inl ⟨by rfl, ?h194⟩) (by assumption) ?r194
  case h194 => (intro w hSw; (try dsimp only at hSw); go_simp; try with_reducible rfl)
  try simp only [Act.put, List.setIfInBounds_toArray, List.set_cons_zero, List.set_cons_succ]
  refine wpAnyH_ready (rs := [34]) (by kernel_rfl) (by simp) ?_
  refine (AllReadyH.cons (o := ⟨some 49, _, _, _, _, _⟩) rfl (fun K hK => ?_) AllReadyH.nil)
  go_simp
  refine (psame_c Wp Hp Vp Wq Hq Vq Ap Aq cp cq _ RP.out RQ.out (by omega) (by omega)).mono ?_
  rintro e w14 ⟨rfl, hb'⟩
  have RP := Lib.hid ((RP.out).kept hb')
  have RQ := Lib.hid ((RQ.out).kept hb')
  have HB := Lib.hid ((HB.out).trans (hb'.mono (HB.out).size))
  have B3 := Lib.hid ((B3.out).below hb' (B3.out).lt)
  have B4 := Lib.hid ((B4.out).below hb' (B4.out).lt)
  have B5 := Lib.hid ((B5.out).below hb' (B5.out).lt)
  have R1 := Lib.hid ((R1.out).kept hb')
  have R2 := Lib.hid ((R2.out).kept hb')
  have R3 := Lib.hid ((R3.out).kept hb')
  have R4 := Lib.hid ((R4.out).kept hb')
  have R5 := Lib.hid ((R5.out).kept hb')
  have R6 := Lib.hid ((R6.out).kept hb')
  clear hb'
  rw [GS.out]
  refine hK.out _ _ ?hS195 (fun hHeld => ?_)
  case hS195 => exact ⟨(B3.out).cell 0, (B3.out).cell 1, (B3.out).cell 2, (B4.out).cell 0, (B4.out).cell 1, (B4.out).cell 2, (B5.out).cell 0, (B5.out).cell 1⟩
  clear hK K
  try simp only [Act.put, List.setIfInBounds_toArray, List.set_cons_zero, List.set_cons_succ]
  refine wpAnyH_ready (rs := [37]) (by kernel_rfl) (by simp) ?_
  refine (AllReadyH.cons (o := ⟨some 52, _, _, _, _, _⟩) rfl (fun K hK => ?_) AllReadyH.nil)
  go_simp
  refine (rlike_c Wp Hp Ap Vp.length cp Wq Hq Aq Vq.length cq _ (by omega) (by omega)).mono ?_
  rintro e w15 ⟨rfl, hb'⟩
  have RP := Lib.hid ((RP.out).kept hb')
  have RQ := Lib.hid ((RQ.out).kept hb')
  have HB := Lib.hid ((HB.out).trans (hb'.mono (HB.out).size))
  have B3 := Lib.hid ((B3.out).below hb' (B3.out).lt)
  have B4 := Lib.hid ((B4.out).below hb' (B4.out).lt)
  have B5 := Lib.hid ((B5.out).below hb' (B5.out).lt)
  have R1 := Lib.hid ((R1.out).kept hb')
  have R2 := Lib.hid ((R2.out).kept hb')
  have R3 := Lib.hid ((R3.out).kept hb')
  have R4 := Lib.hid ((R4.out).kept hb')
  have R5 := Lib.hid ((R5.out).kept hb')
  have R6 := Lib.hid ((R6.out).kept hb')
  clear hb'
  rw [GB.out]
  refine hK.out _ _ ?hS196 (fun hHeld => ?_)
  case hS196 => exact ⟨(B3.out).cell 0, (B3.out).cell 1, (B3.out).cell 2, (B4.out).cell 0, (B4.out).cell 1, (B4.out).cell 2, (B5.out).cell 0, (B5.out).cell 1⟩
  clear hK K
  try simp only [Act.put, List.setIfInBounds_toArray, List.set_cons_zero, List.set_cons_succ]
  refine wpAnyH_take (i := 38) (oi := ⟨some 53, _, _, _, _, _⟩) (v := ?v197) rfl (by kernel_rfl) (by kernel_rfl) (by kernel_rfl) (fun _ _ _ h => h) (Or.inl ⟨by rfl, ?h197⟩) (by assumption) ?r197
  case h197 => (intro w hSw; (try dsimp only at hSw); go_simp; try with_reducible rfl)
  try simp only [Act.put, List.setIfInBounds_toArray, List.set_cons_zero, List.set_cons_succ]
  refine wpAnyH_take (i := 39) (oi := ⟨some 54, _, _, _, _, _⟩) (v := undef) rfl (by kernel_rfl) (by kernel_rfl) (by kernel_rfl) (fun _ _ _ h => h) (Or.inr ⟨by rfl, rfl⟩) (by assumption) ?r198
  try simp only [Act.put, List.setIfInBounds_toArray, List.set_cons_zero, List.set_cons_succ]
  refine wpAnyH_take (i := 40) (oi := ⟨some 55, _, _, _, _, _⟩) (v := undef) rfl (by kernel_rfl) (by kernel_rfl) (by kernel_rfl) (fun _ _ _ h => h) (Or.inr ⟨by rfl, rfl⟩) (by assumption) ?r199
  try simp only [Act.put, List.setIfInBounds_toArray, List.set_cons_zero, List.set_cons_succ]
  refine wpAnyH_take (i := 41) (oi := ⟨some 56, _, _, _, _, _⟩) (v := undef) rfl (by kernel_rfl) (by kernel_rfl) (by kernel_rfl) (fun _ _ _ h => h) (Or.inr ⟨by rfl, rfl⟩) (by assumption) ?r200
  try simp only [Act.put, List.setIfInBounds_toArray, List.set_cons_zero, List.set_cons_succ]
  refine wpAnyH_take (i := 42) (oi := ⟨some 57, _, _, _, _, _⟩) (v := ?v201) rfl (by kernel_rfl) (by kernel_rfl) (by kernel_rfl) (fun _ _ _ h => h) (Or.inl ⟨by rfl, ?h201⟩) (by assumption) ?r201
  case h201 => (intro w hSw; (try dsimp only at hSw); go_simp; try with_reducible rfl)
  try simp only [Act.put, List.setIfInBounds_toArray, List.set_cons_zero, List.set_cons_succ]
  refine wpAnyH_take (i := 43) (oi := ⟨some 58, _, _, _, _, _⟩) (v := ?v202) rfl (by kernel_rfl) (by kernel_rfl) (by kernel_rfl) (fun _ _ _ h => h) (Or.inl ⟨by rfl, ?h202⟩) (by assumption) ?r202
  case h202 => (intro w hSw; (try dsimp only at hSw); go_simp; try with_reducible rfl)
  try simp only [Act.put, List.setIfInBounds_toArray, List.set_cons_zero, List.set_cons_succ]
  refine wpAnyH_take (i := 44) (oi := ⟨some 59, _, _, _, _, _⟩) (v := ?v203) rfl (by kernel_rfl) (by kernel_rfl) (by kernel_rfl) (fun _ _ _ h => h) (Or.inl ⟨by rfl, ?h203⟩) (by assumption) ?r203
  case h203 => (intro w hSw; (try dsimp only at hSw); go_simp; try with_reducible rfl)
  try simp only [Act.put, List.setIfInBounds_toArray, List.set_cons_zero, List.set_cons_succ]
  refine wpAnyH_take (i := 45) (oi := ⟨some 60, _, _, _, _, _⟩) (v := ?v204) rfl (by kernel_rfl) (by kernel_rfl) (by kernel_rfl) (fun _ _ _ h => h) (Or.inl ⟨by rfl, ?h204⟩) (by assumption) ?r204
  case h204 => (intro w hSw; (try dsimp only at hSw); go_simp; try with_reducible rfl)
  try simp only [Act.put, List.setIfInBounds_toArray, List.set_cons_zero, List.set_cons_succ]
  refine wpAnyH_take (i := 46) (oi := ⟨some 61, _, _, _, _, _⟩) (v := ?v205) rfl (by kernel_rfl) (by kernel_rfl) (by kernel_rfl) (fun _ _ _ h => h) (Or.inl ⟨by rfl, ?h205⟩) (by assumption) ?r205
  case h205 => (intro w hSw; (try dsimp only at hSw); go_simp; try with_reducible rfl)
  try simp only [Act.put, List.setIfInBounds_toArray, List.set_cons_zero, List.set_cons_succ]
  refine wpAnyH_take (i := 47) (oi := ⟨some 62, _, _, _, _, _⟩) (v := ?v206) rfl (by kernel_rfl) (by kernel_rfl) (by kernel_rfl) (fun _ _ _ h => h) (Or.inl ⟨by rfl, ?h206⟩) (by assumption) ?r206
  case h206 => (intro w hSw; (try dsimp only at hSw); go_simp; try with_reducible rfl)
  try simp only [Act.put, List.setIfInBounds_toArray, List.set_cons_zero, List.set_cons_succ]
  refine wpAnyH_take (i := 49) (oi := ⟨some 64, _, _, _, _, _⟩) (v := ?v207) rfl (by kernel_rfl) (by kernel_rfl) (by kernel_rfl) (fun _ _ _ h => h) (Or.inl ⟨by rfl, ?h207⟩) (by assumption) ?r207
  case h207 => (intro w hSw; (try dsimp only at hSw); go_simp; try with_reducible rfl)
  try simp only [Act.put, List.setIfInBounds_toArray, List.set_cons_zero, List.set_cons_succ]
  refine wpAnyH_ready (rs := [48]) (by kernel_rfl) (by simp) ?_
  refine (AllReadyH.cons (o := ⟨some 63, _, _, _, _, _⟩) rfl (fun K hK => ?_) AllReadyH.nil)
  go_simp
  refine (psame_c Wp Hp Vp Wp Hp Vp Ap Ap cp cp _ RP.out RP.out (by omega) (by omega)).mono ?_
  rintro e w16 ⟨rfl, hb'⟩
  have RP := Lib.hid ((RP.out).kept hb')
  have RQ := Lib.hid ((RQ.out).kept hb')
  have HB := Lib.hid ((HB.out).trans (hb'.mono (HB.out).size))
  have B3 := Lib.hid ((B3.out).below hb' (B3.out).lt)
  have B4 := Lib.hid ((B4.out).below hb' (B4.out).lt)
  have B5 := Lib.hid ((B5.out).below hb' (B5.out).lt)
  have R1 := Lib.hid ((R1.out).kept hb')
  have R2 := Lib.hid ((R2.out).kept hb')
  have R3 := Lib.hid ((R3.out).kept hb')
  have R4 := Lib.hid ((R4.out).kept hb')
  have R5 := Lib.hid ((R5.out).kept hb')
  have R6 := Lib.hid ((R6.out).kept hb')
  clear hb'
  rw [GP.out]
  refine hK.out _ _ ?hS208 (fun hHeld => ?_)
  case hS208 => exact ⟨(B3.out).cell 0, (B3.out).cell 1, (B3.out).cell 2, (B4.out).cell 0, (B4.out).cell 1, (B4.out).cell 2, (B5.out).cell 0, (B5.out).cell 1⟩
  clear hK K
  try simp only [Act.put, List.setIfInBounds_toArray, List.set_cons_zero, List.set_cons_succ]
  refine wpAnyH_ready (rs := [50]) (by kernel_rfl) (by simp) ?_
  refine (AllReadyH.cons (o := ⟨some 65, _, _, _, _, _⟩) rfl (fun K hK => ?_) AllReadyH.nil)
  go_simp
  refine (rright_c Wp Hp Ap Vp.length cp _ (by omega)).mono ?_
  rintro e w17 ⟨rfl, hb'⟩
  have RP := Lib.hid ((RP.out).kept hb')
  have RQ := Lib.hid ((RQ.out).kept hb')
  have HB := Lib.hid ((HB.out).trans (hb'.mono (HB.out).size))
  have B3 := Lib.hid ((B3.out).below hb' (B3.out).lt)
  have B4 := Lib.hid ((B4.out).below hb' (B4.out).lt)
  have B5 := Lib.hid ((B5.out).below hb' (B5.out).lt)
  have R1 := Lib.hid ((R1.out).kept hb')
  have R2 := Lib.hid ((R2.out).kept hb')
  have R3 := Lib.hid ((R3.out).kept hb')
  have R4 := Lib.hid ((R4.out).kept hb')
  have R5 := Lib.hid ((R5.out).kept hb')
  have R6 := Lib.hid ((R6.out).kept hb')
  clear hb'
  rw [GK.out]
  refine hK.out _ _ ?hS209 (fun hHeld => ?_)
  case hS209 => exact ⟨(B3.out).cell 0, (B3.out).cell 1, (B3.out).cell 2, (B4.out).cell 0, (B4.out).cell 1, (B4.out).cell 2, (B5.out).cell 0, (B5.out).cell 1⟩
  clear hK K
  try simp only [Act.put, List.setIfInBounds_toArray, List.set_cons_zero, List.set_cons_succ]
  refine wpAnyH_take (i := 51) (oi := ⟨some 66, _, _, _, _, _⟩) (v := ?v210) rfl (by kernel_rfl) (by kernel_rfl) (by kernel_rfl) (fun _ _ _ h => h) (Or.inl ⟨by rfl, ?h210⟩) (by assumption) ?r210
  case h210 => (intro w hSw; (try dsimp only at hSw); go_simp; try with_reducible rfl)
  try simp only [Act.put, List.setIfInBounds_toArray, List.set_cons_zero, List.set_cons_succ]
  refine wpAnyH_take (i := 52) (oi := ⟨some 67, _, _, _, _, _⟩) (v := ?v211) rfl (by kernel_rfl) (by kernel_rfl) (by kernel_rfl) (fun _ _ _ h => h) (Or.inl ⟨by rfl, ?h211⟩) (by assumption) ?r211
  case h211 => (intro w hSw; (try dsimp only at hSw); go_simp; try with_reducible rfl)
  try simp only [Act.put, List.setIfInBounds_toArray, List.set_cons_zero, List.set_cons_succ]
  refine wpAnyH_take (i := 53) (oi := ⟨some 6, _, _, _, _, _⟩) (v := ?v212) rfl (by kernel_rfl) (by kernel_rfl) (by kernel_rfl) (fun _ _ _ h => h) (Or.inl ⟨by rfl, ?h212⟩) (by assumption) ?r212
  case h212 => (intro w hSw; (try dsimp only at hSw); go_simp; try with_reducible rfl)
  try simp only [Act.put, List.setIfInBounds_toArray, List.set_cons_zero, List.set_cons_succ]
  refine wpAnyH_done (by kernel_rfl) ?_ _
  clear hHeld
  go_wp2_with fail
  go_ret
  exact ⟨rfl, HB.out⟩

set_option maxRecDepth 100000 in
set_option maxHeartbeats 16000000 in
theorem psums_d (Wp Hp : Int) (Vp : List Int) (Ap : Option Addr) (cp : Nat) (Wq Hq : Int) (Vq : List Int) (Aq : Option Addr) (cq : Nat) (l m : Int) (w : World) (hp : ReadsI w Ap Vp) (hq : ReadsI w Aq Vq) (hnp : Vp.length ≤ 9223372036854775807) (hnq : Vq.length ≤ 9223372036854775807) (h1 : ¬ 2000 < Vp.length) (h2 : ¬ 2000 < Vq.length) (hbo : bothB Wp Hp Vp.length Wq Hq Vq.length = false) (hok : okB Wp Hp Vp.length = false) :
    Calls Try.prog 4 #[plV Wp Hp (.slice Ap Vp.length cp), plV Wq Hq (.slice Aq Vq.length cq), .agg #[.int .i64 l, .int .i64 m]] w fun e w' => e = .returned (.bool true) ∧ Below w.heap.size w w' := by
  have RP := Lib.hid hp
  have RQ := Lib.hid hq
  have HB := Lib.hid (Below.refl w.heap.size w)
  have G1 := Lib.hid (decide_eq_false h1)
  have G2 := Lib.hid (decide_eq_false h2)
  have GB := Lib.hid hbo
  have GK := Lib.hid hok
  have GS := Lib.hid (show sameB Wp Hp Vp Wq Hq Vq = false by simp [sameB, hbo])
  have GP := Lib.hid (show sameB Wp Hp Vp Wp Hp Vp = false by simp [sameB, bothB, hok])
  have hnp2 : Vp.length ≤ 2000 := by omega
  have hnq2 : Vq.length ≤ 2000 := by omega
  clear h1 h2 hbo hok
  clear hp hq
  go_enter Try.func4, Try.ntmps4
  go_wp2_with fail
  have RP := Lib.hid ((((RP.out).alloc (.cells #[.int .i64 Wp, .int .i64 Hp, .slice Ap Vp.length cp] 24)).alloc (.cells #[.int .i64 Wq, .int .i64 Hq, .slice Aq Vq.length cq] 24)).alloc (.cells #[.int .i64 l, .int .i64 m] 33))
  have RQ := Lib.hid ((((RQ.out).alloc (.cells #[.int .i64 Wp, .int .i64 Hp, .slice Ap Vp.length cp] 24)).alloc (.cells #[.int .i64 Wq, .int .i64 Hq, .slice Aq Vq.length cq] 24)).alloc (.cells #[.int .i64 l, .int .i64 m] 33))
  have HB := Lib.hid (below_alloc_ (below_alloc_ (below_alloc_ (HB.out) (.cells #[.int .i64 Wp, .int .i64 Hp, .slice Ap Vp.length cp] 24)) (.cells #[.int .i64 Wq, .int .i64 Hq, .slice Aq Vq.length cq] 24)) (.cells #[.int .i64 l, .int .i64 m] 33))
  have hzw : (((w.alloc (.cells #[.int .i64 Wp, .int .i64 Hp, .slice Ap Vp.length cp] 24)).alloc (.cells #[.int .i64 Wq, .int .i64 Hq, .slice Aq Vq.length cq] 24)).alloc (.cells #[.int .i64 l, .int .i64 m] 33)).heap.size = w.heap.size + 3 := by simp only [World.size_alloc]
  have B3 := ((Blk.new (w) 24 #[.int .i64 Wp, .int .i64 Hp, .slice Ap Vp.length cp]).alloc (.cells #[.int .i64 Wq, .int .i64 Hq, .slice Aq Vq.length cq] 24)).alloc (.cells #[.int .i64 l, .int .i64 m] 33)
  skip
  have B3 := Lib.hid B3
  have B4 := (Blk.new (w.alloc (.cells #[.int .i64 Wp, .int .i64 Hp, .slice Ap Vp.length cp] 24)) 24 #[.int .i64 Wq, .int .i64 Hq, .slice Aq Vq.length cq]).alloc (.cells #[.int .i64 l, .int .i64 m] 33)
  rw [show (w.alloc (.cells #[.int .i64 Wp, .int .i64 Hp, .slice Ap Vp.length cp] 24)).heap.size = w.heap.size + 1 by simp only [World.size_alloc]] at B4
  have B4 := Lib.hid B4
  have B5 := Blk.new ((w.alloc (.cells #[.int .i64 Wp, .int .i64 Hp, .slice Ap Vp.length cp] 24)).alloc (.cells #[.int .i64 Wq, .int .i64 Hq, .slice Aq Vq.length cq] 24)) 33 #[.int .i64 l, .int .i64 m]
  rw [show ((w.alloc (.cells #[.int .i64 Wp, .int .i64 Hp, .slice Ap Vp.length cp] 24)).alloc (.cells #[.int .i64 Wq, .int .i64 Hq, .slice Aq Vq.length cq] 24)).heap.size = w.heap.size + 1 + 1 by simp only [World.size_alloc]] at B5
  have B5 := Lib.hid B5
  generalize ((w.alloc (.cells #[.int .i64 Wp, .int .i64 Hp, .slice Ap Vp.length cp] 24)).alloc (.cells #[.int .i64 Wq, .int .i64 Hq, .slice Aq Vq.length cq] 24)).alloc (.cells #[.int .i64 l, .int .i64 m] 33) = w1 at *
  clear hzw
  refine (first_c _).mono ?_
  rintro e w2 ⟨rfl, hb'⟩
  have RP := Lib.hid ((RP.out).kept hb')
  have RQ := Lib.hid ((RQ.out).kept hb')
  have HB := Lib.hid ((HB.out).trans (hb'.mono (HB.out).size))
  have B3 := Lib.hid ((B3.out).below hb' (B3.out).lt)
  have B4 := Lib.hid ((B4.out).below hb' (B4.out).lt)
  have B5 := Lib.hid ((B5.out).below hb' (B5.out).lt)
  clear hb'
  obtain ⟨zB30, zB31, zB32⟩ := (B3.out).cells3
  obtain ⟨zB40, zB41, zB42⟩ := (B4.out).cells3
  obtain ⟨zB50, zB51⟩ := (B5.out).cells2
  go_wp2_with fail
  refine (pbig_c Wp Hp Ap Vp.length cp _ hnp).mono ?_
  rintro e w3 ⟨rfl, hb'⟩
  have RP := Lib.hid ((RP.out).kept hb')
  have RQ := Lib.hid ((RQ.out).kept hb')
  have HB := Lib.hid ((HB.out).trans (hb'.mono (HB.out).size))
  have B3 := Lib.hid ((B3.out).below hb' (B3.out).lt)
  have B4 := Lib.hid ((B4.out).below hb' (B4.out).lt)
  have B5 := Lib.hid ((B5.out).below hb' (B5.out).lt)
  clear hb'
  clear zB30 zB31 zB32
  clear zB40 zB41 zB42
  clear zB50 zB51
  rw [G1.out]
  obtain ⟨zB30, zB31, zB32⟩ := (B3.out).cells3
  obtain ⟨zB40, zB41, zB42⟩ := (B4.out).cells3
  obtain ⟨zB50, zB51⟩ := (B5.out).cells2
  go_wp2_with fail
  refine (pbig_c Wq Hq Aq Vq.length cq _ hnq).mono ?_
  rintro e w4 ⟨rfl, hb'⟩
  have RP := Lib.hid ((RP.out).kept hb')
  have RQ := Lib.hid ((RQ.out).kept hb')
  have HB := Lib.hid ((HB.out).trans (hb'.mono (HB.out).size))
  have B3 := Lib.hid ((B3.out).below hb' (B3.out).lt)
  have B4 := Lib.hid ((B4.out).below hb' (B4.out).lt)
  have B5 := Lib.hid ((B5.out).below hb' (B5.out).lt)
  clear hb'
  clear zB30 zB31 zB32
  clear zB40 zB41 zB42
  clear zB50 zB51
  rw [G2.out]
  go_wp2_with fail
  have RP := Lib.hid ((RP.out).drew)
  have RQ := Lib.hid ((RQ.out).drew)
  have HB := Lib.hid ((HB.out).drew)
  have B3 := Lib.hid ((B3.out).drew)
  have B4 := Lib.hid ((B4.out).drew)
  have B5 := Lib.hid ((B5.out).drew)
  refine wp_region_held_drew (S := (fun w' => w'.cell? ⟨w.heap.size, 0, none⟩ = some (.int .i64 Wp) ∧ w'.cell? ⟨w.heap.size, 1, none⟩ = some (.int .i64 Hp) ∧ w'.cell? ⟨w.heap.size, 2, none⟩ = some (.slice Ap Vp.length cp) ∧ w'.cell? ⟨w.heap.size + 1, 0, none⟩ = some (.int .i64 Wq) ∧ w'.cell? ⟨w.heap.size + 1, 1, none⟩ = some (.int .i64 Hq) ∧ w'.cell? ⟨w.heap.size + 1, 2, none⟩ = some (.slice Aq Vq.length cq) ∧ w'.cell? ⟨w.heap.size + 1 + 1, 0, none⟩ = some (.int .i64 l) ∧ w'.cell? ⟨w.heap.size + 1 + 1, 1, none⟩ = some (.int .i64 m))) (by kernel_rfl) ?hS0 (fun hHeld => ?_)
  case hS0 => exact ⟨(B3.out).cell 0, (B3.out).cell 1, (B3.out).cell 2, (B4.out).cell 0, (B4.out).cell 1, (B4.out).cell 2, (B5.out).cell 0, (B5.out).cell 1⟩
  refine wpAnyH_take (i := 0) (oi := ⟨some 15, _, _, _, _, _⟩) (v := ?v213) rfl (by kernel_rfl) (by kernel_rfl) (by kernel_rfl) (fun _ _ _ h => h) (Or.inl ⟨by rfl, ?h213⟩) (by assumption) ?r213
  case h213 => (intro w hSw; (try dsimp only at hSw); go_simp; try with_reducible rfl)
  try simp only [Act.put, List.setIfInBounds_toArray, List.set_cons_zero, List.set_cons_succ]
  refine wpAnyH_take (i := 1) (oi := ⟨some 16, _, _, _, _, _⟩) (v := ?v214) rfl (by kernel_rfl) (by kernel_rfl) (by kernel_rfl) (fun _ _ _ h => h) (Or.inl ⟨by rfl, ?h214⟩) (by assumption) ?r214
  case h214 => (intro w hSw; (try dsimp only at hSw); go_simp; try with_reducible rfl)
  try simp only [Act.put, List.setIfInBounds_toArray, List.set_cons_zero, List.set_cons_succ]
  refine wpAnyH_take (i := 3) (oi := ⟨some 18, _, _, _, _, _⟩) (v := ?v215) rfl (by kernel_rfl) (by kernel_rfl) (by kernel_rfl) (fun _ _ _ h => h) (Or.inl ⟨by rfl, ?h215⟩) (by assumption) ?r215
  case h215 => (intro w hSw; (try dsimp only at hSw); go_simp; try with_reducible rfl)
  try simp only [Act.put, List.setIfInBounds_toArray, List.set_cons_zero, List.set_cons_succ]
  refine wpAnyH_take (i := 4) (oi := ⟨some 19, _, _, _, _, _⟩) (v := ?v216) rfl (by kernel_rfl) (by kernel_rfl) (by kernel_rfl) (fun _ _ _ h => h) (Or.inl ⟨by rfl, ?h216⟩) (by assumption) ?r216
  case h216 => (intro w hSw; (try dsimp only at hSw); go_simp; try with_reducible rfl)
  try simp only [Act.put, List.setIfInBounds_toArray, List.set_cons_zero, List.set_cons_succ]
  refine wpAnyH_ready (rs := [2]) (by kernel_rfl) (by simp) ?_
  refine (AllReadyH.cons (o := ⟨some 17, _, _, _, _, _⟩) rfl (fun K hK => ?_) AllReadyH.nil)
  go_simp
  refine (padd_c Wp Hp Vp Wq Hq Vq Ap Aq cp cq _ RP.out RQ.out (by omega) (by omega)).mono ?_
  rintro e w5 ⟨v, rfl, ho, hb'⟩
  have RP := Lib.hid ((RP.out).kept hb')
  have RQ := Lib.hid ((RQ.out).kept hb')
  have HB := Lib.hid ((HB.out).trans (hb'.mono (HB.out).size))
  have B3 := Lib.hid ((B3.out).below hb' (B3.out).lt)
  have B4 := Lib.hid ((B4.out).below hb' (B4.out).lt)
  have B5 := Lib.hid ((B5.out).below hb' (B5.out).lt)
  clear hb'
  obtain ⟨p1, hp1⟩ : ∃ p, p = joinP (fun x y => wrap64 (x + y)) Wp Hp Vp Wq Hq Vq := ⟨_, rfl⟩
  rw [← hp1] at ho ⊢
  have EP1 := Lib.hid hp1
  have hl1 : p1.V.length ≤ Vp.length := by rw [hp1]; exact joinP_length _ _ _ _ _ _ _
  obtain ⟨A1, c1, rfl, hq⟩ := ho.slice
  have R1 := Lib.hid hq
  clear ho hq hp1
  refine hK.out _ _ ?hS217 (fun hHeld => ?_)
  case hS217 => exact ⟨(B3.out).cell 0, (B3.out).cell 1, (B3.out).cell 2, (B4.out).cell 0, (B4.out).cell 1, (B4.out).cell 2, (B5.out).cell 0, (B5.out).cell 1⟩
  clear hK K
  try simp only [Act.put, List.setIfInBounds_toArray, List.set_cons_zero, List.set_cons_succ]
  refine wpAnyH_ready (rs := [5]) (by kernel_rfl) (by simp) ?_
  refine (AllReadyH.cons (o := ⟨some 20, _, _, _, _, _⟩) rfl (fun K hK => ?_) AllReadyH.nil)
  go_simp
  refine (rsum_c 1 Wp Hp Vp Wq Hq Vq Ap Aq cp cq _ RP.out RQ.out (by omega) (by omega)).mono ?_
  rintro e w6 ⟨v, rfl, ho, hb'⟩
  have RP := Lib.hid ((RP.out).kept hb')
  have RQ := Lib.hid ((RQ.out).kept hb')
  have HB := Lib.hid ((HB.out).trans (hb'.mono (HB.out).size))
  have B3 := Lib.hid ((B3.out).below hb' (B3.out).lt)
  have B4 := Lib.hid ((B4.out).below hb' (B4.out).lt)
  have B5 := Lib.hid ((B5.out).below hb' (B5.out).lt)
  have R1 := Lib.hid ((R1.out).kept hb')
  clear hb'
  obtain ⟨p2, hp2⟩ : ∃ p, p = joinP (fun x y => wrap64 (x + wrap64 (1 * y))) Wp Hp Vp Wq Hq Vq := ⟨_, rfl⟩
  rw [← hp2] at ho ⊢
  have EP2 := Lib.hid hp2
  have hl2 : p2.V.length ≤ Vp.length := by rw [hp2]; exact joinP_length _ _ _ _ _ _ _
  obtain ⟨A2, c2, rfl, hq⟩ := ho.slice
  have R2 := Lib.hid hq
  clear ho hq hp2
  refine hK.out _ _ ?hS218 (fun hHeld => ?_)
  case hS218 => exact ⟨(B3.out).cell 0, (B3.out).cell 1, (B3.out).cell 2, (B4.out).cell 0, (B4.out).cell 1, (B4.out).cell 2, (B5.out).cell 0, (B5.out).cell 1⟩
  clear hK K
  try simp only [Act.put, List.setIfInBounds_toArray, List.set_cons_zero, List.set_cons_succ]
  refine wpAnyH_ready (rs := [6]) (by kernel_rfl) (by simp) ?_
  refine (AllReadyH.cons (o := ⟨some 21, _, _, _, _, _⟩) rfl (fun K hK => ?_) AllReadyH.nil)
  go_simp
  refine (rsame_c p1.W p1.H p1.V p2.W p2.H p2.V A1 A2 c1 c2 _ R1.out R2.out (by omega) (by omega)).mono ?_
  rintro e w7 ⟨rfl, hb'⟩
  have RP := Lib.hid ((RP.out).kept hb')
  have RQ := Lib.hid ((RQ.out).kept hb')
  have HB := Lib.hid ((HB.out).trans (hb'.mono (HB.out).size))
  have B3 := Lib.hid ((B3.out).below hb' (B3.out).lt)
  have B4 := Lib.hid ((B4.out).below hb' (B4.out).lt)
  have B5 := Lib.hid ((B5.out).below hb' (B5.out).lt)
  have R1 := Lib.hid ((R1.out).kept hb')
  have R2 := Lib.hid ((R2.out).kept hb')
  clear hb'
  rw [eqB_of (show p1 = p2 by rw [EP1.out, EP2.out]; exact add_sum _ _ _ _ _ _)]
  refine hK.out _ _ ?hS219 (fun hHeld => ?_)
  case hS219 => exact ⟨(B3.out).cell 0, (B3.out).cell 1, (B3.out).cell 2, (B4.out).cell 0, (B4.out).cell 1, (B4.out).cell 2, (B5.out).cell 0, (B5.out).cell 1⟩
  clear hK K
  try simp only [Act.put, List.setIfInBounds_toArray, List.set_cons_zero, List.set_cons_succ]
  refine wpAnyH_take (i := 7) (oi := ⟨some 22, _, _, _, _, _⟩) (v := ?v220) rfl (by kernel_rfl) (by kernel_rfl) (by kernel_rfl) (fun _ _ _ h => h) (Or.inl ⟨by rfl, ?h220⟩) (by assumption) ?r220
  case h220 => (intro w hSw; (try dsimp only at hSw); go_simp; try with_reducible rfl)
  try simp only [Act.put, List.setIfInBounds_toArray, List.set_cons_zero, List.set_cons_succ]
  refine wpAnyH_take (i := 8) (oi := ⟨some 23, _, _, _, _, _⟩) (v := ?v221) rfl (by kernel_rfl) (by kernel_rfl) (by kernel_rfl) (fun _ _ _ h => h) (Or.inl ⟨by rfl, ?h221⟩) (by assumption) ?r221
  case h221 => (intro w hSw; (try dsimp only at hSw); go_simp; try with_reducible rfl)
  try simp only [Act.put, List.setIfInBounds_toArray, List.set_cons_zero, List.set_cons_succ]
  refine wpAnyH_take (i := 9) (oi := ⟨some 24, _, _, _, _, _⟩) (v := ?v222) rfl (by kernel_rfl) (by kernel_rfl) (by kernel_rfl) (fun _ _ _ h => h) (Or.inl ⟨by rfl, ?h222⟩) (by assumption) ?r222
  case h222 => (intro w hSw; (try dsimp only at hSw); go_simp; try with_reducible rfl)
  try simp only [Act.put, List.setIfInBounds_toArray, List.set_cons_zero, List.set_cons_succ]
  refine wpAnyH_take (i := 11) (oi := ⟨some 26, _, _, _, _, _⟩) (v := ?v223) rfl (by kernel_rfl) (by kernel_rfl) (by kernel_rfl) (fun _ _ _ h => h) (Or.inl ⟨by rfl, ?h223⟩) (by assumption) ?r223
  case h223 => (intro w hSw; (try dsimp only at hSw); go_simp; try with_reducible rfl)
  try simp only [Act.put, List.setIfInBounds_toArray, List.set_cons_zero, List.set_cons_succ]
  refine wpAnyH_take (i := 12) (oi := ⟨some 27, _, _, _, _, _⟩) (v := ?v224) rfl (by kernel_rfl) (by kernel_rfl) (by kernel_rfl) (fun _ _ _ h => h) (Or.inl ⟨by rfl, ?h224⟩) (by assumption) ?r224
  case h224 => (intro w hSw; (try dsimp only at hSw); go_simp; try with_reducible rfl)
  try simp only [Act.put, List.setIfInBounds_toArray, List.set_cons_zero, List.set_cons_succ]
  refine wpAnyH_ready (rs := [10]) (by kernel_rfl) (by simp) ?_
  refine (AllReadyH.cons (o := ⟨some 25, _, _, _, _, _⟩) rfl (fun K hK => ?_) AllReadyH.nil)
  go_simp
  refine (psub_c Wp Hp Vp Wq Hq Vq Ap Aq cp cq _ RP.out RQ.out (by omega) (by omega)).mono ?_
  rintro e w8 ⟨v, rfl, ho, hb'⟩
  have RP := Lib.hid ((RP.out).kept hb')
  have RQ := Lib.hid ((RQ.out).kept hb')
  have HB := Lib.hid ((HB.out).trans (hb'.mono (HB.out).size))
  have B3 := Lib.hid ((B3.out).below hb' (B3.out).lt)
  have B4 := Lib.hid ((B4.out).below hb' (B4.out).lt)
  have B5 := Lib.hid ((B5.out).below hb' (B5.out).lt)
  have R1 := Lib.hid ((R1.out).kept hb')
  have R2 := Lib.hid ((R2.out).kept hb')
  clear hb'
  obtain ⟨p3, hp3⟩ : ∃ p, p = joinP (fun x y => wrap64 (x - y)) Wp Hp Vp Wq Hq Vq := ⟨_, rfl⟩
  rw [← hp3] at ho ⊢
  have EP3 := Lib.hid hp3
  have hl3 : p3.V.length ≤ Vp.length := by rw [hp3]; exact joinP_length _ _ _ _ _ _ _
  obtain ⟨A3, c3, rfl, hq⟩ := ho.slice
  have R3 := Lib.hid hq
  clear ho hq hp3
  refine hK.out _ _ ?hS225 (fun hHeld => ?_)
  case hS225 => exact ⟨(B3.out).cell 0, (B3.out).cell 1, (B3.out).cell 2, (B4.out).cell 0, (B4.out).cell 1, (B4.out).cell 2, (B5.out).cell 0, (B5.out).cell 1⟩
  clear hK K
  try simp only [Act.put, List.setIfInBounds_toArray, List.set_cons_zero, List.set_cons_succ]
  refine wpAnyH_ready (rs := [13]) (by kernel_rfl) (by simp) ?_
  refine (AllReadyH.cons (o := ⟨some 28, _, _, _, _, _⟩) rfl (fun K hK => ?_) AllReadyH.nil)
  go_simp
  refine (rsum_c (-1) Wp Hp Vp Wq Hq Vq Ap Aq cp cq _ RP.out RQ.out (by omega) (by omega)).mono ?_
  rintro e w9 ⟨v, rfl, ho, hb'⟩
  have RP := Lib.hid ((RP.out).kept hb')
  have RQ := Lib.hid ((RQ.out).kept hb')
  have HB := Lib.hid ((HB.out).trans (hb'.mono (HB.out).size))
  have B3 := Lib.hid ((B3.out).below hb' (B3.out).lt)
  have B4 := Lib.hid ((B4.out).below hb' (B4.out).lt)
  have B5 := Lib.hid ((B5.out).below hb' (B5.out).lt)
  have R1 := Lib.hid ((R1.out).kept hb')
  have R2 := Lib.hid ((R2.out).kept hb')
  have R3 := Lib.hid ((R3.out).kept hb')
  clear hb'
  obtain ⟨p4, hp4⟩ : ∃ p, p = joinP (fun x y => wrap64 (x + wrap64 (-1 * y))) Wp Hp Vp Wq Hq Vq := ⟨_, rfl⟩
  rw [← hp4] at ho ⊢
  have EP4 := Lib.hid hp4
  have hl4 : p4.V.length ≤ Vp.length := by rw [hp4]; exact joinP_length _ _ _ _ _ _ _
  obtain ⟨A4, c4, rfl, hq⟩ := ho.slice
  have R4 := Lib.hid hq
  clear ho hq hp4
  refine hK.out _ _ ?hS226 (fun hHeld => ?_)
  case hS226 => exact ⟨(B3.out).cell 0, (B3.out).cell 1, (B3.out).cell 2, (B4.out).cell 0, (B4.out).cell 1, (B4.out).cell 2, (B5.out).cell 0, (B5.out).cell 1⟩
  clear hK K
  try simp only [Act.put, List.setIfInBounds_toArray, List.set_cons_zero, List.set_cons_succ]
  refine wpAnyH_ready (rs := [14]) (by kernel_rfl) (by simp) ?_
  refine (AllReadyH.cons (o := ⟨some 29, _, _, _, _, _⟩) rfl (fun K hK => ?_) AllReadyH.nil)
  go_simp
  refine (rsame_c p3.W p3.H p3.V p4.W p4.H p4.V A3 A4 c3 c4 _ R3.out R4.out (by omega) (by omega)).mono ?_
  rintro e w10 ⟨rfl, hb'⟩
  have RP := Lib.hid ((RP.out).kept hb')
  have RQ := Lib.hid ((RQ.out).kept hb')
  have HB := Lib.hid ((HB.out).trans (hb'.mono (HB.out).size))
  have B3 := Lib.hid ((B3.out).below hb' (B3.out).lt)
  have B4 := Lib.hid ((B4.out).below hb' (B4.out).lt)
  have B5 := Lib.hid ((B5.out).below hb' (B5.out).lt)
  have R1 := Lib.hid ((R1.out).kept hb')
  have R2 := Lib.hid ((R2.out).kept hb')
  have R3 := Lib.hid ((R3.out).kept hb')
  have R4 := Lib.hid ((R4.out).kept hb')
  clear hb'
  rw [eqB_of (show p3 = p4 by rw [EP3.out, EP4.out]; exact sub_sum _ _ _ _ _ _)]
  refine hK.out _ _ ?hS227 (fun hHeld => ?_)
  case hS227 => exact ⟨(B3.out).cell 0, (B3.out).cell 1, (B3.out).cell 2, (B4.out).cell 0, (B4.out).cell 1, (B4.out).cell 2, (B5.out).cell 0, (B5.out).cell 1⟩
  clear hK K
  try simp only [Act.put, List.setIfInBounds_toArray, List.set_cons_zero, List.set_cons_succ]
  refine wpAnyH_take (i := 15) (oi := ⟨some 30, _, _, _, _, _⟩) (v := ?v228) rfl (by kernel_rfl) (by kernel_rfl) (by kernel_rfl) (fun _ _ _ h => h) (Or.inl ⟨by rfl, ?h228⟩) (by assumption) ?r228
  case h228 => (intro w hSw; (try dsimp only at hSw); go_simp; try with_reducible rfl)
  try simp only [Act.put, List.setIfInBounds_toArray, List.set_cons_zero, List.set_cons_succ]
  refine wpAnyH_take (i := 16) (oi := ⟨some 31, _, _, _, _, _⟩) (v := ?v229) rfl (by kernel_rfl) (by kernel_rfl) (by kernel_rfl) (fun _ _ _ h => h) (Or.inl ⟨by rfl, ?h229⟩) (by assumption) ?r229
  case h229 => (intro w hSw; (try dsimp only at hSw); go_simp; try with_reducible rfl)
  try simp only [Act.put, List.setIfInBounds_toArray, List.set_cons_zero, List.set_cons_succ]
  refine wpAnyH_take (i := 17) (oi := ⟨some 32, _, _, _, _, _⟩) (v := ?v230) rfl (by kernel_rfl) (by kernel_rfl) (by kernel_rfl) (fun _ _ _ h => h) (Or.inl ⟨by rfl, ?h230⟩) (by assumption) ?r230
  case h230 => (intro w hSw; (try dsimp only at hSw); go_simp; try with_reducible rfl)
  try simp only [Act.put, List.setIfInBounds_toArray, List.set_cons_zero, List.set_cons_succ]
  refine wpAnyH_take (i := 18) (oi := ⟨some 33, _, _, _, _, _⟩) (v := ?v231) rfl (by kernel_rfl) (by kernel_rfl) (by kernel_rfl) (fun _ _ _ h => h) (Or.inl ⟨by rfl, ?h231⟩) (by assumption) ?r231
  case h231 => (intro w hSw; (try dsimp only at hSw); go_simp; try with_reducible rfl)
  try simp only [Act.put, List.setIfInBounds_toArray, List.set_cons_zero, List.set_cons_succ]
  refine wpAnyH_take (i := 19) (oi := ⟨some 34, _, _, _, _, _⟩) (v := ?v232) rfl (by kernel_rfl) (by kernel_rfl) (by kernel_rfl) (fun _ _ _ h => h) (Or.inl ⟨by rfl, ?h232⟩) (by assumption) ?r232
  case h232 => (intro w hSw; (try dsimp only at hSw); go_simp; try with_reducible rfl)
  try simp only [Act.put, List.setIfInBounds_toArray, List.set_cons_zero, List.set_cons_succ]
  refine wpAnyH_take (i := 20) (oi := ⟨some 35, _, _, _, _, _⟩) (v := ?v233) rfl (by kernel_rfl) (by kernel_rfl) (by kernel_rfl) (fun _ _ _ h => h) (Or.inl ⟨by rfl, ?h233⟩) (by assumption) ?r233
  case h233 => (intro w hSw; (try dsimp only at hSw); go_simp; try with_reducible rfl)
  try simp only [Act.put, List.setIfInBounds_toArray, List.set_cons_zero, List.set_cons_succ]
  refine wpAnyH_take (i := 21) (oi := ⟨some 36, _, _, _, _, _⟩) (v := ?v234) rfl (by kernel_rfl) (by kernel_rfl) (by kernel_rfl) (fun _ _ _ h => h) (Or.inl ⟨by rfl, ?h234⟩) (by assumption) ?r234
  case h234 => (intro w hSw; (try dsimp only at hSw); go_simp; try with_reducible rfl)
  try simp only [Act.put, List.setIfInBounds_toArray, List.set_cons_zero, List.set_cons_succ]
  refine wpAnyH_take (i := 23) (oi := ⟨some 38, _, _, _, _, _⟩) (v := ?v235) rfl (by kernel_rfl) (by kernel_rfl) (by kernel_rfl) (fun _ _ _ h => h) (Or.inl ⟨by rfl, ?h235⟩) (by assumption) ?r235
  case h235 => (intro w hSw; (try dsimp only at hSw); go_simp; try with_reducible rfl)
  try simp only [Act.put, List.setIfInBounds_toArray, List.set_cons_zero, List.set_cons_succ]
  refine wpAnyH_take (i := 24) (oi := ⟨some 39, _, _, _, _, _⟩) (v := ?v236) rfl (by kernel_rfl) (by kernel_rfl) (by kernel_rfl) (fun _ _ _ h => h) (Or.inl ⟨by rfl, ?h236⟩) (by assumption) ?r236
  case h236 => (intro w hSw; (try dsimp only at hSw); go_simp; try with_reducible rfl)
  try simp only [Act.put, List.setIfInBounds_toArray, List.set_cons_zero, List.set_cons_succ]
  refine wpAnyH_take (i := 25) (oi := ⟨some 40, _, _, _, _, _⟩) (v := ?v237) rfl (by kernel_rfl) (by kernel_rfl) (by kernel_rfl) (fun _ _ _ h => h) (Or.inl ⟨by rfl, ?h237⟩) (by assumption) ?r237
  case h237 => (intro w hSw; (try dsimp only at hSw); go_simp; try with_reducible rfl)
  try simp only [Act.put, List.setIfInBounds_toArray, List.set_cons_zero, List.set_cons_succ]
  refine wpAnyH_take (i := 26) (oi := ⟨some 41, _, _, _, _, _⟩) (v := ?v238) rfl (by kernel_rfl) (by kernel_rfl) (by kernel_rfl) (fun _ _ _ h => h) (Or.inl ⟨by rfl, ?h238⟩) (by assumption) ?r238
  case h238 => (intro w hSw; (try dsimp only at hSw); go_simp; try with_reducible rfl)
  try simp only [Act.put, List.setIfInBounds_toArray, List.set_cons_zero, List.set_cons_succ]
  refine wpAnyH_take (i := 27) (oi := ⟨some 42, _, _, _, _, _⟩) (v := ?v239) rfl (by kernel_rfl) (by kernel_rfl) (by kernel_rfl) (fun _ _ _ h => h) (Or.inl ⟨by rfl, ?h239⟩) (by assumption) ?r239
  case h239 => (intro w hSw; (try dsimp only at hSw); go_simp; try with_reducible rfl)
  try simp only [Act.put, List.setIfInBounds_toArray, List.set_cons_zero, List.set_cons_succ]
  refine wpAnyH_ready (rs := [22]) (by kernel_rfl) (by simp) ?_
  refine (AllReadyH.cons (o := ⟨some 37, _, _, _, _, _⟩) rfl (fun K hK => ?_) AllReadyH.nil)
  go_simp
  refine (pclip_c Wp Hp Vp Ap cp l m _ RP.out (by omega)).mono ?_
  rintro e w11 ⟨v, rfl, ho, hb'⟩
  have RP := Lib.hid ((RP.out).kept hb')
  have RQ := Lib.hid ((RQ.out).kept hb')
  have HB := Lib.hid ((HB.out).trans (hb'.mono (HB.out).size))
  have B3 := Lib.hid ((B3.out).below hb' (B3.out).lt)
  have B4 := Lib.hid ((B4.out).below hb' (B4.out).lt)
  have B5 := Lib.hid ((B5.out).below hb' (B5.out).lt)
  have R1 := Lib.hid ((R1.out).kept hb')
  have R2 := Lib.hid ((R2.out).kept hb')
  have R3 := Lib.hid ((R3.out).kept hb')
  have R4 := Lib.hid ((R4.out).kept hb')
  clear hb'
  obtain ⟨p5, hp5⟩ : ∃ p, p = joinP (fun x _ => min (max x l) m) Wp Hp Vp Wp Hp Vp := ⟨_, rfl⟩
  rw [← hp5] at ho ⊢
  have EP5 := Lib.hid hp5
  have hl5 : p5.V.length ≤ Vp.length := by rw [hp5]; exact joinP_length _ _ _ _ _ _ _
  obtain ⟨A5, c5, rfl, hq⟩ := ho.slice
  have R5 := Lib.hid hq
  clear ho hq hp5
  refine hK.out _ _ ?hS240 (fun hHeld => ?_)
  case hS240 => exact ⟨(B3.out).cell 0, (B3.out).cell 1, (B3.out).cell 2, (B4.out).cell 0, (B4.out).cell 1, (B4.out).cell 2, (B5.out).cell 0, (B5.out).cell 1⟩
  clear hK K
  try simp only [Act.put, List.setIfInBounds_toArray, List.set_cons_zero, List.set_cons_succ]
  refine wpAnyH_ready (rs := [28]) (by kernel_rfl) (by simp) ?_
  refine (AllReadyH.cons (o := ⟨some 43, _, _, _, _, _⟩) rfl (fun K hK => ?_) AllReadyH.nil)
  go_simp
  refine (rclip_c l m Wp Hp Vp Ap cp _ RP.out (by omega)).mono ?_
  rintro e w12 ⟨v, rfl, ho, hb'⟩
  have RP := Lib.hid ((RP.out).kept hb')
  have RQ := Lib.hid ((RQ.out).kept hb')
  have HB := Lib.hid ((HB.out).trans (hb'.mono (HB.out).size))
  have B3 := Lib.hid ((B3.out).below hb' (B3.out).lt)
  have B4 := Lib.hid ((B4.out).below hb' (B4.out).lt)
  have B5 := Lib.hid ((B5.out).below hb' (B5.out).lt)
  have R1 := Lib.hid ((R1.out).kept hb')
  have R2 := Lib.hid ((R2.out).kept hb')
  have R3 := Lib.hid ((R3.out).kept hb')
  have R4 := Lib.hid ((R4.out).kept hb')
  have R5 := Lib.hid ((R5.out).kept hb')
  clear hb'
  obtain ⟨p6, hp6⟩ : ∃ p, p = joinP (fun x _ => min (max x l) m) Wp Hp Vp Wp Hp Vp := ⟨_, rfl⟩
  rw [← hp6] at ho ⊢
  have EP6 := Lib.hid hp6
  have hl6 : p6.V.length ≤ Vp.length := by rw [hp6]; exact joinP_length _ _ _ _ _ _ _
  obtain ⟨A6, c6, rfl, hq⟩ := ho.slice
  have R6 := Lib.hid hq
  clear ho hq hp6
  refine hK.out _ _ ?hS241 (fun hHeld => ?_)
  case hS241 => exact ⟨(B3.out).cell 0, (B3.out).cell 1, (B3.out).cell 2, (B4.out).cell 0, (B4.out).cell 1, (B4.out).cell 2, (B5.out).cell 0, (B5.out).cell 1⟩
  clear hK K
  try simp only [Act.put, List.setIfInBounds_toArray, List.set_cons_zero, List.set_cons_succ]
  refine wpAnyH_ready (rs := [29]) (by kernel_rfl) (by simp) ?_
  refine (AllReadyH.cons (o := ⟨some 44, _, _, _, _, _⟩) rfl (fun K hK => ?_) AllReadyH.nil)
  go_simp
  refine (rsame_c p5.W p5.H p5.V p6.W p6.H p6.V A5 A6 c5 c6 _ R5.out R6.out (by omega) (by omega)).mono ?_
  rintro e w13 ⟨rfl, hb'⟩
  have RP := Lib.hid ((RP.out).kept hb')
  have RQ := Lib.hid ((RQ.out).kept hb')
  have HB := Lib.hid ((HB.out).trans (hb'.mono (HB.out).size))
  have B3 := Lib.hid ((B3.out).below hb' (B3.out).lt)
  have B4 := Lib.hid ((B4.out).below hb' (B4.out).lt)
  have B5 := Lib.hid ((B5.out).below hb' (B5.out).lt)
  have R1 := Lib.hid ((R1.out).kept hb')
  have R2 := Lib.hid ((R2.out).kept hb')
  have R3 := Lib.hid ((R3.out).kept hb')
  have R4 := Lib.hid ((R4.out).kept hb')
  have R5 := Lib.hid ((R5.out).kept hb')
  have R6 := Lib.hid ((R6.out).kept hb')
  clear hb'
  rw [eqB_of (show p5 = p6 by rw [EP5.out, EP6.out])]
  refine hK.out _ _ ?hS242 (fun hHeld => ?_)
  case hS242 => exact ⟨(B3.out).cell 0, (B3.out).cell 1, (B3.out).cell 2, (B4.out).cell 0, (B4.out).cell 1, (B4.out).cell 2, (B5.out).cell 0, (B5.out).cell 1⟩
  clear hK K
  try simp only [Act.put, List.setIfInBounds_toArray, List.set_cons_zero, List.set_cons_succ]
  refine wpAnyH_take (i := 30) (oi := ⟨some 45, _, _, _, _, _⟩) (v := ?v243) rfl (by kernel_rfl) (by kernel_rfl) (by kernel_rfl) (fun _ _ _ h => h) (Or.inl ⟨by rfl, ?h243⟩) (by assumption) ?r243
  case h243 => (intro w hSw; (try dsimp only at hSw); go_simp; try with_reducible rfl)
  try simp only [Act.put, List.setIfInBounds_toArray, List.set_cons_zero, List.set_cons_succ]
  refine wpAnyH_take (i := 31) (oi := ⟨some 46, _, _, _, _, _⟩) (v := ?v244) rfl (by kernel_rfl) (by kernel_rfl) (by kernel_rfl) (fun _ _ _ h => h) (Or.inl ⟨by rfl, ?h244⟩) (by assumption) ?r244
  case h244 => (intro w hSw; (try dsimp only at hSw); go_simp; try with_reducible rfl)
  try simp only [Act.put, List.setIfInBounds_toArray, List.set_cons_zero, List.set_cons_succ]
  refine wpAnyH_take (i := 32) (oi := ⟨some 47, _, _, _, _, _⟩) (v := ?v245) rfl (by kernel_rfl) (by kernel_rfl) (by kernel_rfl) (fun _ _ _ h => h) (Or.inl ⟨by rfl, ?h245⟩) (by assumption) ?r245
  case h245 => (intro w hSw; (try dsimp only at hSw); go_simp; try with_reducible rfl)
  try simp only [Act.put, List.setIfInBounds_toArray, List.set_cons_zero, List.set_cons_succ]
  refine wpAnyH_take (i := 33) (oi := ⟨some 48, _, _, _, _, _⟩) (v := ?v246) rfl (by kernel_rfl) (by kernel_rfl) (by kernel_rfl) (fun _ _ _ h => h) (Or.inl ⟨by rfl, ?h246⟩) (by assumption) ?r246
  case h246 => (intro w hSw; (try dsimp only at hSw); go_simp; try with_reducible rfl)
  try simp only [Act.put, List.setIfInBounds_toArray, List.set_cons_zero, List.set_cons_succ]
  refine wpAnyH_take (i := 35) (oi := ⟨some 50, _, _, _, _, _⟩) (v := ?v247) rfl (by kernel_rfl) (by kernel_rfl) (by kernel_rfl) (fun _ _ _ h => h) (Or.inl ⟨by rfl, ?h247⟩) (by assumption) ?r247
  case h247 => (intro w hSw; (try dsimp only at hSw); go_simp; try with_reducible rfl)
  try simp only [Act.put, List.setIfInBounds_toArray, List.set_cons_zero, List.set_cons_succ]
  refine wpAnyH_take (i := 36) (oi := ⟨some 51, _, _, _, _, _⟩) (v := ?v248) rfl (by kernel_rfl) (by kernel_rfl) (by kernel_rfl) (fun _ _ _ h => h) (Or.inl ⟨by rfl, ?h248⟩) (by assumption) ?r248
  case h248 => (intro w hSw; (try dsimp only at hSw); go_simp; try with_reducible rfl)
  try simp only [Act.put, List.setIfInBounds_toArray, List.set_cons_zero, List.set_cons_succ]
  refine wpAnyH_ready (rs := [34]) (by kernel_rfl) (by simp) ?_
  refine (AllReadyH.cons (o := ⟨some 49, _, _, _, _, _⟩) rfl (fun K hK => ?_) AllReadyH.nil)
  go_simp
  refine (psame_c Wp Hp Vp Wq Hq Vq Ap Aq cp cq _ RP.out RQ.out (by omega) (by omega)).mono ?_
  rintro e w14 ⟨rfl, hb'⟩
  have RP := Lib.hid ((RP.out).kept hb')
  have RQ := Lib.hid ((RQ.out).kept hb')
  have HB := Lib.hid ((HB.out).trans (hb'.mono (HB.out).size))
  have B3 := Lib.hid ((B3.out).below hb' (B3.out).lt)
  have B4 := Lib.hid ((B4.out).below hb' (B4.out).lt)
  have B5 := Lib.hid ((B5.out).below hb' (B5.out).lt)
  have R1 := Lib.hid ((R1.out).kept hb')
  have R2 := Lib.hid ((R2.out).kept hb')
  have R3 := Lib.hid ((R3.out).kept hb')
  have R4 := Lib.hid ((R4.out).kept hb')
  have R5 := Lib.hid ((R5.out).kept hb')
  have R6 := Lib.hid ((R6.out).kept hb')
  clear hb'
  rw [GS.out]
  refine hK.out _ _ ?hS249 (fun hHeld => ?_)
  case hS249 => exact ⟨(B3.out).cell 0, (B3.out).cell 1, (B3.out).cell 2, (B4.out).cell 0, (B4.out).cell 1, (B4.out).cell 2, (B5.out).cell 0, (B5.out).cell 1⟩
  clear hK K
  try simp only [Act.put, List.setIfInBounds_toArray, List.set_cons_zero, List.set_cons_succ]
  refine wpAnyH_ready (rs := [37]) (by kernel_rfl) (by simp) ?_
  refine (AllReadyH.cons (o := ⟨some 52, _, _, _, _, _⟩) rfl (fun K hK => ?_) AllReadyH.nil)
  go_simp
  refine (rlike_c Wp Hp Ap Vp.length cp Wq Hq Aq Vq.length cq _ (by omega) (by omega)).mono ?_
  rintro e w15 ⟨rfl, hb'⟩
  have RP := Lib.hid ((RP.out).kept hb')
  have RQ := Lib.hid ((RQ.out).kept hb')
  have HB := Lib.hid ((HB.out).trans (hb'.mono (HB.out).size))
  have B3 := Lib.hid ((B3.out).below hb' (B3.out).lt)
  have B4 := Lib.hid ((B4.out).below hb' (B4.out).lt)
  have B5 := Lib.hid ((B5.out).below hb' (B5.out).lt)
  have R1 := Lib.hid ((R1.out).kept hb')
  have R2 := Lib.hid ((R2.out).kept hb')
  have R3 := Lib.hid ((R3.out).kept hb')
  have R4 := Lib.hid ((R4.out).kept hb')
  have R5 := Lib.hid ((R5.out).kept hb')
  have R6 := Lib.hid ((R6.out).kept hb')
  clear hb'
  rw [GB.out]
  refine hK.out _ _ ?hS250 (fun hHeld => ?_)
  case hS250 => exact ⟨(B3.out).cell 0, (B3.out).cell 1, (B3.out).cell 2, (B4.out).cell 0, (B4.out).cell 1, (B4.out).cell 2, (B5.out).cell 0, (B5.out).cell 1⟩
  clear hK K
  try simp only [Act.put, List.setIfInBounds_toArray, List.set_cons_zero, List.set_cons_succ]
  refine wpAnyH_take (i := 38) (oi := ⟨some 53, _, _, _, _, _⟩) (v := ?v251) rfl (by kernel_rfl) (by kernel_rfl) (by kernel_rfl) (fun _ _ _ h => h) (Or.inl ⟨by rfl, ?h251⟩) (by assumption) ?r251
  case h251 => (intro w hSw; (try dsimp only at hSw); go_simp; try with_reducible rfl)
  try simp only [Act.put, List.setIfInBounds_toArray, List.set_cons_zero, List.set_cons_succ]
  refine wpAnyH_take (i := 39) (oi := ⟨some 54, _, _, _, _, _⟩) (v := undef) rfl (by kernel_rfl) (by kernel_rfl) (by kernel_rfl) (fun _ _ _ h => h) (Or.inr ⟨by rfl, rfl⟩) (by assumption) ?r252
  try simp only [Act.put, List.setIfInBounds_toArray, List.set_cons_zero, List.set_cons_succ]
  refine wpAnyH_take (i := 40) (oi := ⟨some 55, _, _, _, _, _⟩) (v := undef) rfl (by kernel_rfl) (by kernel_rfl) (by kernel_rfl) (fun _ _ _ h => h) (Or.inr ⟨by rfl, rfl⟩) (by assumption) ?r253
  try simp only [Act.put, List.setIfInBounds_toArray, List.set_cons_zero, List.set_cons_succ]
  refine wpAnyH_take (i := 41) (oi := ⟨some 56, _, _, _, _, _⟩) (v := undef) rfl (by kernel_rfl) (by kernel_rfl) (by kernel_rfl) (fun _ _ _ h => h) (Or.inr ⟨by rfl, rfl⟩) (by assumption) ?r254
  try simp only [Act.put, List.setIfInBounds_toArray, List.set_cons_zero, List.set_cons_succ]
  refine wpAnyH_take (i := 42) (oi := ⟨some 57, _, _, _, _, _⟩) (v := ?v255) rfl (by kernel_rfl) (by kernel_rfl) (by kernel_rfl) (fun _ _ _ h => h) (Or.inl ⟨by rfl, ?h255⟩) (by assumption) ?r255
  case h255 => (intro w hSw; (try dsimp only at hSw); go_simp; try with_reducible rfl)
  try simp only [Act.put, List.setIfInBounds_toArray, List.set_cons_zero, List.set_cons_succ]
  refine wpAnyH_take (i := 43) (oi := ⟨some 58, _, _, _, _, _⟩) (v := ?v256) rfl (by kernel_rfl) (by kernel_rfl) (by kernel_rfl) (fun _ _ _ h => h) (Or.inl ⟨by rfl, ?h256⟩) (by assumption) ?r256
  case h256 => (intro w hSw; (try dsimp only at hSw); go_simp; try with_reducible rfl)
  try simp only [Act.put, List.setIfInBounds_toArray, List.set_cons_zero, List.set_cons_succ]
  refine wpAnyH_take (i := 44) (oi := ⟨some 59, _, _, _, _, _⟩) (v := ?v257) rfl (by kernel_rfl) (by kernel_rfl) (by kernel_rfl) (fun _ _ _ h => h) (Or.inl ⟨by rfl, ?h257⟩) (by assumption) ?r257
  case h257 => (intro w hSw; (try dsimp only at hSw); go_simp; try with_reducible rfl)
  try simp only [Act.put, List.setIfInBounds_toArray, List.set_cons_zero, List.set_cons_succ]
  refine wpAnyH_take (i := 45) (oi := ⟨some 60, _, _, _, _, _⟩) (v := ?v258) rfl (by kernel_rfl) (by kernel_rfl) (by kernel_rfl) (fun _ _ _ h => h) (Or.inl ⟨by rfl, ?h258⟩) (by assumption) ?r258
  case h258 => (intro w hSw; (try dsimp only at hSw); go_simp; try with_reducible rfl)
  try simp only [Act.put, List.setIfInBounds_toArray, List.set_cons_zero, List.set_cons_succ]
  refine wpAnyH_take (i := 46) (oi := ⟨some 61, _, _, _, _, _⟩) (v := ?v259) rfl (by kernel_rfl) (by kernel_rfl) (by kernel_rfl) (fun _ _ _ h => h) (Or.inl ⟨by rfl, ?h259⟩) (by assumption) ?r259
  case h259 => (intro w hSw; (try dsimp only at hSw); go_simp; try with_reducible rfl)
  try simp only [Act.put, List.setIfInBounds_toArray, List.set_cons_zero, List.set_cons_succ]
  refine wpAnyH_take (i := 47) (oi := ⟨some 62, _, _, _, _, _⟩) (v := ?v260) rfl (by kernel_rfl) (by kernel_rfl) (by kernel_rfl) (fun _ _ _ h => h) (Or.inl ⟨by rfl, ?h260⟩) (by assumption) ?r260
  case h260 => (intro w hSw; (try dsimp only at hSw); go_simp; try with_reducible rfl)
  try simp only [Act.put, List.setIfInBounds_toArray, List.set_cons_zero, List.set_cons_succ]
  refine wpAnyH_take (i := 49) (oi := ⟨some 64, _, _, _, _, _⟩) (v := ?v261) rfl (by kernel_rfl) (by kernel_rfl) (by kernel_rfl) (fun _ _ _ h => h) (Or.inl ⟨by rfl, ?h261⟩) (by assumption) ?r261
  case h261 => (intro w hSw; (try dsimp only at hSw); go_simp; try with_reducible rfl)
  try simp only [Act.put, List.setIfInBounds_toArray, List.set_cons_zero, List.set_cons_succ]
  refine wpAnyH_ready (rs := [48]) (by kernel_rfl) (by simp) ?_
  refine (AllReadyH.cons (o := ⟨some 63, _, _, _, _, _⟩) rfl (fun K hK => ?_) AllReadyH.nil)
  go_simp
  refine (psame_c Wp Hp Vp Wp Hp Vp Ap Ap cp cp _ RP.out RP.out (by omega) (by omega)).mono ?_
  rintro e w16 ⟨rfl, hb'⟩
  have RP := Lib.hid ((RP.out).kept hb')
  have RQ := Lib.hid ((RQ.out).kept hb')
  have HB := Lib.hid ((HB.out).trans (hb'.mono (HB.out).size))
  have B3 := Lib.hid ((B3.out).below hb' (B3.out).lt)
  have B4 := Lib.hid ((B4.out).below hb' (B4.out).lt)
  have B5 := Lib.hid ((B5.out).below hb' (B5.out).lt)
  have R1 := Lib.hid ((R1.out).kept hb')
  have R2 := Lib.hid ((R2.out).kept hb')
  have R3 := Lib.hid ((R3.out).kept hb')
  have R4 := Lib.hid ((R4.out).kept hb')
  have R5 := Lib.hid ((R5.out).kept hb')
  have R6 := Lib.hid ((R6.out).kept hb')
  clear hb'
  rw [GP.out]
  refine hK.out _ _ ?hS262 (fun hHeld => ?_)
  case hS262 => exact ⟨(B3.out).cell 0, (B3.out).cell 1, (B3.out).cell 2, (B4.out).cell 0, (B4.out).cell 1, (B4.out).cell 2, (B5.out).cell 0, (B5.out).cell 1⟩
  clear hK K
  try simp only [Act.put, List.setIfInBounds_toArray, List.set_cons_zero, List.set_cons_succ]
  refine wpAnyH_ready (rs := [50]) (by kernel_rfl) (by simp) ?_
  refine (AllReadyH.cons (o := ⟨some 65, _, _, _, _, _⟩) rfl (fun K hK => ?_) AllReadyH.nil)
  go_simp
  refine (rright_c Wp Hp Ap Vp.length cp _ (by omega)).mono ?_
  rintro e w17 ⟨rfl, hb'⟩
  have RP := Lib.hid ((RP.out).kept hb')
  have RQ := Lib.hid ((RQ.out).kept hb')
  have HB := Lib.hid ((HB.out).trans (hb'.mono (HB.out).size))
  have B3 := Lib.hid ((B3.out).below hb' (B3.out).lt)
  have B4 := Lib.hid ((B4.out).below hb' (B4.out).lt)
  have B5 := Lib.hid ((B5.out).below hb' (B5.out).lt)
  have R1 := Lib.hid ((R1.out).kept hb')
  have R2 := Lib.hid ((R2.out).kept hb')
  have R3 := Lib.hid ((R3.out).kept hb')
  have R4 := Lib.hid ((R4.out).kept hb')
  have R5 := Lib.hid ((R5.out).kept hb')
  have R6 := Lib.hid ((R6.out).kept hb')
  clear hb'
  rw [GK.out]
  refine hK.out _ _ ?hS263 (fun hHeld => ?_)
  case hS263 => exact ⟨(B3.out).cell 0, (B3.out).cell 1, (B3.out).cell 2, (B4.out).cell 0, (B4.out).cell 1, (B4.out).cell 2, (B5.out).cell 0, (B5.out).cell 1⟩
  clear hK K
  try simp only [Act.put, List.setIfInBounds_toArray, List.set_cons_zero, List.set_cons_succ]
  refine wpAnyH_take (i := 51) (oi := ⟨some 66, _, _, _, _, _⟩) (v := ?v264) rfl (by kernel_rfl) (by kernel_rfl) (by kernel_rfl) (fun _ _ _ h => h) (Or.inl ⟨by rfl, ?h264⟩) (by assumption) ?r264
  case h264 => (intro w hSw; (try dsimp only at hSw); go_simp; try with_reducible rfl)
  try simp only [Act.put, List.setIfInBounds_toArray, List.set_cons_zero, List.set_cons_succ]
  refine wpAnyH_take (i := 52) (oi := ⟨some 67, _, _, _, _, _⟩) (v := ?v265) rfl (by kernel_rfl) (by kernel_rfl) (by kernel_rfl) (fun _ _ _ h => h) (Or.inl ⟨by rfl, ?h265⟩) (by assumption) ?r265
  case h265 => (intro w hSw; (try dsimp only at hSw); go_simp; try with_reducible rfl)
  try simp only [Act.put, List.setIfInBounds_toArray, List.set_cons_zero, List.set_cons_succ]
  refine wpAnyH_take (i := 53) (oi := ⟨some 6, _, _, _, _, _⟩) (v := ?v266) rfl (by kernel_rfl) (by kernel_rfl) (by kernel_rfl) (fun _ _ _ h => h) (Or.inl ⟨by rfl, ?h266⟩) (by assumption) ?r266
  case h266 => (intro w hSw; (try dsimp only at hSw); go_simp; try with_reducible rfl)
  try simp only [Act.put, List.setIfInBounds_toArray, List.set_cons_zero, List.set_cons_succ]
  refine wpAnyH_done (by kernel_rfl) ?_ _
  clear hHeld
  go_wp2_with fail
  go_ret
  exact ⟨rfl, HB.out⟩


theorem planeSums_walk (x0 x1 : Int × Int × List Int) (x2 : Int × Int) (v0 v1 v2 : Value) (w : World) (k0 : IsPlane w v0 x0) (k1 : IsPlane w v1 x1) (k2 : IsArr2 .i64 v2 x2) :
    Calls Try.prog 4 #[v0, v1, v2] w fun e w' => e = .returned (.bool true) ∧ Below w.heap.size w w' := by
  obtain ⟨Wp, Hp, Vp⟩ := x0
  obtain ⟨Wq, Hq, Vq⟩ := x1
  obtain ⟨l, m⟩ := x2
  obtain ⟨Ap, cp, rfl, hp, hnp, _⟩ := k0.form
  obtain ⟨Aq, cq, rfl, hq, hnq, _⟩ := k1.form
  obtain ⟨u0, u1, rfl, ⟨rfl, _⟩, rfl, _⟩ := k2
  by_cases h1 : 2000 < Vp.length
  · exact psums_1 Wp Hp Vp Ap cp Wq Hq Vq Aq cq l m w hp hq hnp hnq h1
  by_cases h2 : 2000 < Vq.length
  · exact psums_2 Wp Hp Vp Ap cp Wq Hq Vq Aq cq l m w hp hq hnp hnq h1 h2
  cases hbo : bothB Wp Hp Vp.length Wq Hq Vq.length with
  | true =>
    have hok : okB Wp Hp Vp.length = true := by simp [bothB] at hbo; exact hbo.1.1.1
    cases hv : decide (Vp = Vq) with
    | true => exact psums_a Wp Hp Vp Ap cp Wq Hq Vq Aq cq l m w hp hq hnp hnq h1 h2 hbo hok hv
    | false => exact psums_b Wp Hp Vp Ap cp Wq Hq Vq Aq cq l m w hp hq hnp hnq h1 h2 hbo hok hv
  | false =>
    cases hok : okB Wp Hp Vp.length with
    | true => exact psums_c Wp Hp Vp Ap cp Wq Hq Vq Aq cq l m w hp hq hnp hnq h1 h2 hbo hok
    | false => exact psums_d Wp Hp Vp Ap cp Wq Hq Vq Aq cq l m w hp hq hnp hnq h1 h2 hbo hok

end Go.Proofs.Ytjcdjmgkfhnmgaa
