/- Fields: a block asked for, by the reference. -/
import Derived.Test.YtiedjeholmoccaaFdLw
namespace Go.Proofs.Ytiedjeholmoccaa
open Go.RowKit Go.Sort
set_option linter.unusedVariables false
set_option linter.unusedSimpArgs false
set_option maxRecDepth 100000 in
set_option maxHeartbeats 6400000 in
theorem r16at_0 (a d : Int) (S : List Int) (As : Option Addr) (cs : Nat) (K : List Bk) (Ak : Option Addr) (ck : Nat) (x y : Int) (w : World) (hS : ReadsI w As S) (hK : ReadsE EK w Ak K) (hn : S.length ≤ 9223372036854775807) (hm : K.length ≤ 9223372036854775807) (ho : okFl a d S K = false) :
    Calls Try.prog 19 #[flV a d (.slice As S.length cs) (.slice Ak K.length ck), .int .i64 x, .int .i64 y] w fun e w' => e = .returned (.tuple #[bkV (Bk.zero), .bool false]) ∧ Below w.heap.size w w' := by
  have RS := Lib.hid hS
  have RK := Lib.hid hK
  have HB := Lib.hid (Below.refl w.heap.size w)
  have HO := Lib.hid ho
  clear hS hK
  clear ho
  go_enter Try.func19, Try.ntmps19
  go_wp2_with fail
  have RS := Lib.hid (((RS.out).alloc (.cells #[.int .i64 a, .int .i64 d, .slice As S.length cs, .slice Ak K.length ck] 25)).alloc (.cells #[.int .i64 0, .bool false, .int .i64 0, .int .i64 0, .int .i64 0, .int .i64 0, .int .i64 0, .int .i64 0, .int .i64 0] 40))
  have RK := Lib.hid (((RK.out).alloc (.cells #[.int .i64 a, .int .i64 d, .slice As S.length cs, .slice Ak K.length ck] 25)).alloc (.cells #[.int .i64 0, .bool false, .int .i64 0, .int .i64 0, .int .i64 0, .int .i64 0, .int .i64 0, .int .i64 0, .int .i64 0] 40))
  have HB := Lib.hid (below_alloc_ (below_alloc_ (HB.out) (.cells #[.int .i64 a, .int .i64 d, .slice As S.length cs, .slice Ak K.length ck] 25)) (.cells #[.int .i64 0, .bool false, .int .i64 0, .int .i64 0, .int .i64 0, .int .i64 0, .int .i64 0, .int .i64 0, .int .i64 0] 40))
  have hzw : ((w.alloc (.cells #[.int .i64 a, .int .i64 d, .slice As S.length cs, .slice Ak K.length ck] 25)).alloc (.cells #[.int .i64 0, .bool false, .int .i64 0, .int .i64 0, .int .i64 0, .int .i64 0, .int .i64 0, .int .i64 0, .int .i64 0] 40)).heap.size = w.heap.size + 2 := by simp only [World.size_alloc]
  have B3 := (Blk.new (w) 25 #[.int .i64 a, .int .i64 d, .slice As S.length cs, .slice Ak K.length ck]).alloc (.cells #[.int .i64 0, .bool false, .int .i64 0, .int .i64 0, .int .i64 0, .int .i64 0, .int .i64 0, .int .i64 0, .int .i64 0] 40)
  skip
  have B3 := Lib.hid B3
  have B6 := Blk.new (w.alloc (.cells #[.int .i64 a, .int .i64 d, .slice As S.length cs, .slice Ak K.length ck] 25)) 40 #[.int .i64 0, .bool false, .int .i64 0, .int .i64 0, .int .i64 0, .int .i64 0, .int .i64 0, .int .i64 0, .int .i64 0]
  rw [show (w.alloc (.cells #[.int .i64 a, .int .i64 d, .slice As S.length cs, .slice Ak K.length ck] 25)).heap.size = w.heap.size + 1 by simp only [World.size_alloc]] at B6
  have B6 := Lib.hid B6
  generalize (w.alloc (.cells #[.int .i64 a, .int .i64 d, .slice As S.length cs, .slice Ak K.length ck] 25)).alloc (.cells #[.int .i64 0, .bool false, .int .i64 0, .int .i64 0, .int .i64 0, .int .i64 0, .int .i64 0, .int .i64 0, .int .i64 0] 40) = w1 at *
  clear hzw
  have HB1 := Lib.hid (Below.refl w1.heap.size w1)
  refine (r16right_c a d S As cs K Ak ck _ (RS.out.kept HB1.out) (RK.out.kept HB1.out) hn hm).mono ?_
  rintro e w2 ⟨rfl, hb'⟩
  have HB1 := Lib.hid ((HB1.out).trans (hb'.mono (HB1.out).size))
  clear hb'
  rw [HO.out]
  have h6 := (B6.out.below HB1.out B6.out.lt)
  obtain ⟨q0, q1, q2, q3, q4, q5, q6, q7, q8⟩ := h6.cells9
  have f6 := h6.frozen
  obtain ⟨zB30, zB31, zB32, zB33⟩ := (B3.out.below HB1.out B3.out.lt).cells4
  go_wp2_with fail
  clear zB30 zB31 zB32 zB33
  have g8 := ret_nine h6 (.int .i64 0) (.bool false) (.int .i64 0) (.int .i64 0) (.int .i64 0) (.int .i64 0) (.int .i64 0) (.int .i64 0) (.int .i64 0)
  have hb6 : w.heap.size ≤ w.heap.size + 1 := by omega
  have HBB := HB.out.trans (HB1.out.mono HB.out.size)
  refine bodyPost_ret (results_row_tmp rfl _ _ (w.heap.size + 1) 40 #[.int .i64 0, .bool false, .int .i64 0, .int .i64 0, .int .i64 0, .int .i64 0, .int .i64 0, .int .i64 0, .int .i64 0] (0, 0) _ rfl g8 Try.underlying40 rfl (by kernel_rfl)) rfl ?_
  refine ⟨rfl, Below.setCell (Below.setCell (Below.setCell (Below.setCell (Below.setCell (Below.setCell (Below.setCell (Below.setCell (Below.setCell (HBB) hb6 _) hb6 _) hb6 _) hb6 _) hb6 _) hb6 _) hb6 _) hb6 _) hb6 _⟩
set_option maxRecDepth 100000 in
set_option maxHeartbeats 6400000 in
theorem r16at_1 (a d : Int) (S : List Int) (As : Option Addr) (cs : Nat) (K : List Bk) (Ak : Option Addr) (ck : Nat) (x y : Int) (w : World) (hS : ReadsI w As S) (hK : ReadsE EK w Ak K) (hn : S.length ≤ 9223372036854775807) (hm : K.length ≤ 9223372036854775807) (ho : okFl a d S K = true) (h : x < 0) :
    Calls Try.prog 19 #[flV a d (.slice As S.length cs) (.slice Ak K.length ck), .int .i64 x, .int .i64 y] w fun e w' => e = .returned (.tuple #[bkV (Bk.zero), .bool false]) ∧ Below w.heap.size w w' := by
  have RS := Lib.hid hS
  have RK := Lib.hid hK
  have HB := Lib.hid (Below.refl w.heap.size w)
  have HO := Lib.hid ho
  clear hS hK
  have a1 := countB_t (okFl_t ho).1
  have d1 := countB_t (okFl_t ho).2.1
  have W0 : IntKind.i64.wrap (4 * a) = 4 * a := IntWalk.i64_in _ (by omega)
  have W1 : IntKind.i64.wrap (4 * d) = 4 * d := IntWalk.i64_in _ (by omega)
  clear ho
  have F0 : decide (x < 0) = true := by simp; omega
  go_enter Try.func19, Try.ntmps19
  go_wp2_with fail
  have RS := Lib.hid (((RS.out).alloc (.cells #[.int .i64 a, .int .i64 d, .slice As S.length cs, .slice Ak K.length ck] 25)).alloc (.cells #[.int .i64 0, .bool false, .int .i64 0, .int .i64 0, .int .i64 0, .int .i64 0, .int .i64 0, .int .i64 0, .int .i64 0] 40))
  have RK := Lib.hid (((RK.out).alloc (.cells #[.int .i64 a, .int .i64 d, .slice As S.length cs, .slice Ak K.length ck] 25)).alloc (.cells #[.int .i64 0, .bool false, .int .i64 0, .int .i64 0, .int .i64 0, .int .i64 0, .int .i64 0, .int .i64 0, .int .i64 0] 40))
  have HB := Lib.hid (below_alloc_ (below_alloc_ (HB.out) (.cells #[.int .i64 a, .int .i64 d, .slice As S.length cs, .slice Ak K.length ck] 25)) (.cells #[.int .i64 0, .bool false, .int .i64 0, .int .i64 0, .int .i64 0, .int .i64 0, .int .i64 0, .int .i64 0, .int .i64 0] 40))
  have hzw : ((w.alloc (.cells #[.int .i64 a, .int .i64 d, .slice As S.length cs, .slice Ak K.length ck] 25)).alloc (.cells #[.int .i64 0, .bool false, .int .i64 0, .int .i64 0, .int .i64 0, .int .i64 0, .int .i64 0, .int .i64 0, .int .i64 0] 40)).heap.size = w.heap.size + 2 := by simp only [World.size_alloc]
  have B3 := (Blk.new (w) 25 #[.int .i64 a, .int .i64 d, .slice As S.length cs, .slice Ak K.length ck]).alloc (.cells #[.int .i64 0, .bool false, .int .i64 0, .int .i64 0, .int .i64 0, .int .i64 0, .int .i64 0, .int .i64 0, .int .i64 0] 40)
  skip
  have B3 := Lib.hid B3
  have B6 := Blk.new (w.alloc (.cells #[.int .i64 a, .int .i64 d, .slice As S.length cs, .slice Ak K.length ck] 25)) 40 #[.int .i64 0, .bool false, .int .i64 0, .int .i64 0, .int .i64 0, .int .i64 0, .int .i64 0, .int .i64 0, .int .i64 0]
  rw [show (w.alloc (.cells #[.int .i64 a, .int .i64 d, .slice As S.length cs, .slice Ak K.length ck] 25)).heap.size = w.heap.size + 1 by simp only [World.size_alloc]] at B6
  have B6 := Lib.hid B6
  generalize (w.alloc (.cells #[.int .i64 a, .int .i64 d, .slice As S.length cs, .slice Ak K.length ck] 25)).alloc (.cells #[.int .i64 0, .bool false, .int .i64 0, .int .i64 0, .int .i64 0, .int .i64 0, .int .i64 0, .int .i64 0, .int .i64 0] 40) = w1 at *
  clear hzw
  have HB1 := Lib.hid (Below.refl w1.heap.size w1)
  refine (r16right_c a d S As cs K Ak ck _ (RS.out.kept HB1.out) (RK.out.kept HB1.out) hn hm).mono ?_
  rintro e w2 ⟨rfl, hb'⟩
  have HB1 := Lib.hid ((HB1.out).trans (hb'.mono (HB1.out).size))
  clear hb'
  rw [HO.out]
  have h6 := (B6.out.below HB1.out B6.out.lt)
  obtain ⟨q0, q1, q2, q3, q4, q5, q6, q7, q8⟩ := h6.cells9
  have f6 := h6.frozen
  obtain ⟨zB30, zB31, zB32, zB33⟩ := (B3.out.below HB1.out B3.out.lt).cells4
  go_wp2_with fail
  clear zB30 zB31 zB32 zB33
  have g8 := ret_nine h6 (.int .i64 0) (.bool false) (.int .i64 0) (.int .i64 0) (.int .i64 0) (.int .i64 0) (.int .i64 0) (.int .i64 0) (.int .i64 0)
  have hb6 : w.heap.size ≤ w.heap.size + 1 := by omega
  have HBB := HB.out.trans (HB1.out.mono HB.out.size)
  refine bodyPost_ret (results_row_tmp rfl _ _ (w.heap.size + 1) 40 #[.int .i64 0, .bool false, .int .i64 0, .int .i64 0, .int .i64 0, .int .i64 0, .int .i64 0, .int .i64 0, .int .i64 0] (0, 0) _ rfl g8 Try.underlying40 rfl (by kernel_rfl)) rfl ?_
  refine ⟨rfl, Below.setCell (Below.setCell (Below.setCell (Below.setCell (Below.setCell (Below.setCell (Below.setCell (Below.setCell (Below.setCell (HBB) hb6 _) hb6 _) hb6 _) hb6 _) hb6 _) hb6 _) hb6 _) hb6 _) hb6 _⟩
set_option maxRecDepth 100000 in
set_option maxHeartbeats 6400000 in
theorem r16at_2 (a d : Int) (S : List Int) (As : Option Addr) (cs : Nat) (K : List Bk) (Ak : Option Addr) (ck : Nat) (x y : Int) (w : World) (hS : ReadsI w As S) (hK : ReadsE EK w Ak K) (hn : S.length ≤ 9223372036854775807) (hm : K.length ≤ 9223372036854775807) (ho : okFl a d S K = true) (h : 0 ≤ x ∧ y < 0) :
    Calls Try.prog 19 #[flV a d (.slice As S.length cs) (.slice Ak K.length ck), .int .i64 x, .int .i64 y] w fun e w' => e = .returned (.tuple #[bkV (Bk.zero), .bool false]) ∧ Below w.heap.size w w' := by
  have RS := Lib.hid hS
  have RK := Lib.hid hK
  have HB := Lib.hid (Below.refl w.heap.size w)
  have HO := Lib.hid ho
  clear hS hK
  have a1 := countB_t (okFl_t ho).1
  have d1 := countB_t (okFl_t ho).2.1
  have W0 : IntKind.i64.wrap (4 * a) = 4 * a := IntWalk.i64_in _ (by omega)
  have W1 : IntKind.i64.wrap (4 * d) = 4 * d := IntWalk.i64_in _ (by omega)
  clear ho
  have F0 : decide (x < 0) = false := by simp; omega
  have F1 : decide (y < 0) = true := by simp; omega
  go_enter Try.func19, Try.ntmps19
  go_wp2_with fail
  have RS := Lib.hid (((RS.out).alloc (.cells #[.int .i64 a, .int .i64 d, .slice As S.length cs, .slice Ak K.length ck] 25)).alloc (.cells #[.int .i64 0, .bool false, .int .i64 0, .int .i64 0, .int .i64 0, .int .i64 0, .int .i64 0, .int .i64 0, .int .i64 0] 40))
  have RK := Lib.hid (((RK.out).alloc (.cells #[.int .i64 a, .int .i64 d, .slice As S.length cs, .slice Ak K.length ck] 25)).alloc (.cells #[.int .i64 0, .bool false, .int .i64 0, .int .i64 0, .int .i64 0, .int .i64 0, .int .i64 0, .int .i64 0, .int .i64 0] 40))
  have HB := Lib.hid (below_alloc_ (below_alloc_ (HB.out) (.cells #[.int .i64 a, .int .i64 d, .slice As S.length cs, .slice Ak K.length ck] 25)) (.cells #[.int .i64 0, .bool false, .int .i64 0, .int .i64 0, .int .i64 0, .int .i64 0, .int .i64 0, .int .i64 0, .int .i64 0] 40))
  have hzw : ((w.alloc (.cells #[.int .i64 a, .int .i64 d, .slice As S.length cs, .slice Ak K.length ck] 25)).alloc (.cells #[.int .i64 0, .bool false, .int .i64 0, .int .i64 0, .int .i64 0, .int .i64 0, .int .i64 0, .int .i64 0, .int .i64 0] 40)).heap.size = w.heap.size + 2 := by simp only [World.size_alloc]
  have B3 := (Blk.new (w) 25 #[.int .i64 a, .int .i64 d, .slice As S.length cs, .slice Ak K.length ck]).alloc (.cells #[.int .i64 0, .bool false, .int .i64 0, .int .i64 0, .int .i64 0, .int .i64 0, .int .i64 0, .int .i64 0, .int .i64 0] 40)
  skip
  have B3 := Lib.hid B3
  have B6 := Blk.new (w.alloc (.cells #[.int .i64 a, .int .i64 d, .slice As S.length cs, .slice Ak K.length ck] 25)) 40 #[.int .i64 0, .bool false, .int .i64 0, .int .i64 0, .int .i64 0, .int .i64 0, .int .i64 0, .int .i64 0, .int .i64 0]
  rw [show (w.alloc (.cells #[.int .i64 a, .int .i64 d, .slice As S.length cs, .slice Ak K.length ck] 25)).heap.size = w.heap.size + 1 by simp only [World.size_alloc]] at B6
  have B6 := Lib.hid B6
  generalize (w.alloc (.cells #[.int .i64 a, .int .i64 d, .slice As S.length cs, .slice Ak K.length ck] 25)).alloc (.cells #[.int .i64 0, .bool false, .int .i64 0, .int .i64 0, .int .i64 0, .int .i64 0, .int .i64 0, .int .i64 0, .int .i64 0] 40) = w1 at *
  clear hzw
  have HB1 := Lib.hid (Below.refl w1.heap.size w1)
  refine (r16right_c a d S As cs K Ak ck _ (RS.out.kept HB1.out) (RK.out.kept HB1.out) hn hm).mono ?_
  rintro e w2 ⟨rfl, hb'⟩
  have HB1 := Lib.hid ((HB1.out).trans (hb'.mono (HB1.out).size))
  clear hb'
  rw [HO.out]
  have h6 := (B6.out.below HB1.out B6.out.lt)
  obtain ⟨q0, q1, q2, q3, q4, q5, q6, q7, q8⟩ := h6.cells9
  have f6 := h6.frozen
  obtain ⟨zB30, zB31, zB32, zB33⟩ := (B3.out.below HB1.out B3.out.lt).cells4
  go_wp2_with fail
  clear zB30 zB31 zB32 zB33
  have g8 := ret_nine h6 (.int .i64 0) (.bool false) (.int .i64 0) (.int .i64 0) (.int .i64 0) (.int .i64 0) (.int .i64 0) (.int .i64 0) (.int .i64 0)
  have hb6 : w.heap.size ≤ w.heap.size + 1 := by omega
  have HBB := HB.out.trans (HB1.out.mono HB.out.size)
  refine bodyPost_ret (results_row_tmp rfl _ _ (w.heap.size + 1) 40 #[.int .i64 0, .bool false, .int .i64 0, .int .i64 0, .int .i64 0, .int .i64 0, .int .i64 0, .int .i64 0, .int .i64 0] (0, 0) _ rfl g8 Try.underlying40 rfl (by kernel_rfl)) rfl ?_
  refine ⟨rfl, Below.setCell (Below.setCell (Below.setCell (Below.setCell (Below.setCell (Below.setCell (Below.setCell (Below.setCell (Below.setCell (HBB) hb6 _) hb6 _) hb6 _) hb6 _) hb6 _) hb6 _) hb6 _) hb6 _) hb6 _⟩
set_option maxRecDepth 100000 in
set_option maxHeartbeats 6400000 in
theorem r16at_3 (a d : Int) (S : List Int) (As : Option Addr) (cs : Nat) (K : List Bk) (Ak : Option Addr) (ck : Nat) (x y : Int) (w : World) (hS : ReadsI w As S) (hK : ReadsE EK w Ak K) (hn : S.length ≤ 9223372036854775807) (hm : K.length ≤ 9223372036854775807) (ho : okFl a d S K = true) (h : 0 ≤ x ∧ 0 ≤ y ∧ 4 * a ≤ x) :
    Calls Try.prog 19 #[flV a d (.slice As S.length cs) (.slice Ak K.length ck), .int .i64 x, .int .i64 y] w fun e w' => e = .returned (.tuple #[bkV (Bk.zero), .bool false]) ∧ Below w.heap.size w w' := by
  have RS := Lib.hid hS
  have RK := Lib.hid hK
  have HB := Lib.hid (Below.refl w.heap.size w)
  have HO := Lib.hid ho
  clear hS hK
  have a1 := countB_t (okFl_t ho).1
  have d1 := countB_t (okFl_t ho).2.1
  have W0 : IntKind.i64.wrap (4 * a) = 4 * a := IntWalk.i64_in _ (by omega)
  have W1 : IntKind.i64.wrap (4 * d) = 4 * d := IntWalk.i64_in _ (by omega)
  clear ho
  have F0 : decide (x < 0) = false := by simp; omega
  have F1 : decide (y < 0) = false := by simp; omega
  have F2 : decide (4 * a ≤ x) = true := by simp; omega
  go_enter Try.func19, Try.ntmps19
  go_wp2_with fail
  have RS := Lib.hid (((RS.out).alloc (.cells #[.int .i64 a, .int .i64 d, .slice As S.length cs, .slice Ak K.length ck] 25)).alloc (.cells #[.int .i64 0, .bool false, .int .i64 0, .int .i64 0, .int .i64 0, .int .i64 0, .int .i64 0, .int .i64 0, .int .i64 0] 40))
  have RK := Lib.hid (((RK.out).alloc (.cells #[.int .i64 a, .int .i64 d, .slice As S.length cs, .slice Ak K.length ck] 25)).alloc (.cells #[.int .i64 0, .bool false, .int .i64 0, .int .i64 0, .int .i64 0, .int .i64 0, .int .i64 0, .int .i64 0, .int .i64 0] 40))
  have HB := Lib.hid (below_alloc_ (below_alloc_ (HB.out) (.cells #[.int .i64 a, .int .i64 d, .slice As S.length cs, .slice Ak K.length ck] 25)) (.cells #[.int .i64 0, .bool false, .int .i64 0, .int .i64 0, .int .i64 0, .int .i64 0, .int .i64 0, .int .i64 0, .int .i64 0] 40))
  have hzw : ((w.alloc (.cells #[.int .i64 a, .int .i64 d, .slice As S.length cs, .slice Ak K.length ck] 25)).alloc (.cells #[.int .i64 0, .bool false, .int .i64 0, .int .i64 0, .int .i64 0, .int .i64 0, .int .i64 0, .int .i64 0, .int .i64 0] 40)).heap.size = w.heap.size + 2 := by simp only [World.size_alloc]
  have B3 := (Blk.new (w) 25 #[.int .i64 a, .int .i64 d, .slice As S.length cs, .slice Ak K.length ck]).alloc (.cells #[.int .i64 0, .bool false, .int .i64 0, .int .i64 0, .int .i64 0, .int .i64 0, .int .i64 0, .int .i64 0, .int .i64 0] 40)
  skip
  have B3 := Lib.hid B3
  have B6 := Blk.new (w.alloc (.cells #[.int .i64 a, .int .i64 d, .slice As S.length cs, .slice Ak K.length ck] 25)) 40 #[.int .i64 0, .bool false, .int .i64 0, .int .i64 0, .int .i64 0, .int .i64 0, .int .i64 0, .int .i64 0, .int .i64 0]
  rw [show (w.alloc (.cells #[.int .i64 a, .int .i64 d, .slice As S.length cs, .slice Ak K.length ck] 25)).heap.size = w.heap.size + 1 by simp only [World.size_alloc]] at B6
  have B6 := Lib.hid B6
  generalize (w.alloc (.cells #[.int .i64 a, .int .i64 d, .slice As S.length cs, .slice Ak K.length ck] 25)).alloc (.cells #[.int .i64 0, .bool false, .int .i64 0, .int .i64 0, .int .i64 0, .int .i64 0, .int .i64 0, .int .i64 0, .int .i64 0] 40) = w1 at *
  clear hzw
  have HB1 := Lib.hid (Below.refl w1.heap.size w1)
  refine (r16right_c a d S As cs K Ak ck _ (RS.out.kept HB1.out) (RK.out.kept HB1.out) hn hm).mono ?_
  rintro e w2 ⟨rfl, hb'⟩
  have HB1 := Lib.hid ((HB1.out).trans (hb'.mono (HB1.out).size))
  clear hb'
  rw [HO.out]
  have h6 := (B6.out.below HB1.out B6.out.lt)
  obtain ⟨q0, q1, q2, q3, q4, q5, q6, q7, q8⟩ := h6.cells9
  have f6 := h6.frozen
  obtain ⟨zB30, zB31, zB32, zB33⟩ := (B3.out.below HB1.out B3.out.lt).cells4
  go_wp2_with fail
  clear zB30 zB31 zB32 zB33
  have g8 := ret_nine h6 (.int .i64 0) (.bool false) (.int .i64 0) (.int .i64 0) (.int .i64 0) (.int .i64 0) (.int .i64 0) (.int .i64 0) (.int .i64 0)
  have hb6 : w.heap.size ≤ w.heap.size + 1 := by omega
  have HBB := HB.out.trans (HB1.out.mono HB.out.size)
  refine bodyPost_ret (results_row_tmp rfl _ _ (w.heap.size + 1) 40 #[.int .i64 0, .bool false, .int .i64 0, .int .i64 0, .int .i64 0, .int .i64 0, .int .i64 0, .int .i64 0, .int .i64 0] (0, 0) _ rfl g8 Try.underlying40 rfl (by kernel_rfl)) rfl ?_
  refine ⟨rfl, Below.setCell (Below.setCell (Below.setCell (Below.setCell (Below.setCell (Below.setCell (Below.setCell (Below.setCell (Below.setCell (HBB) hb6 _) hb6 _) hb6 _) hb6 _) hb6 _) hb6 _) hb6 _) hb6 _) hb6 _⟩
set_option maxRecDepth 100000 in
set_option maxHeartbeats 6400000 in
theorem r16at_4 (a d : Int) (S : List Int) (As : Option Addr) (cs : Nat) (K : List Bk) (Ak : Option Addr) (ck : Nat) (x y : Int) (w : World) (hS : ReadsI w As S) (hK : ReadsE EK w Ak K) (hn : S.length ≤ 9223372036854775807) (hm : K.length ≤ 9223372036854775807) (ho : okFl a d S K = true) (h : 0 ≤ x ∧ 0 ≤ y ∧ x < 4 * a ∧ 4 * d ≤ y) :
    Calls Try.prog 19 #[flV a d (.slice As S.length cs) (.slice Ak K.length ck), .int .i64 x, .int .i64 y] w fun e w' => e = .returned (.tuple #[bkV (Bk.zero), .bool false]) ∧ Below w.heap.size w w' := by
  have RS := Lib.hid hS
  have RK := Lib.hid hK
  have HB := Lib.hid (Below.refl w.heap.size w)
  have HO := Lib.hid ho
  clear hS hK
  have a1 := countB_t (okFl_t ho).1
  have d1 := countB_t (okFl_t ho).2.1
  have W0 : IntKind.i64.wrap (4 * a) = 4 * a := IntWalk.i64_in _ (by omega)
  have W1 : IntKind.i64.wrap (4 * d) = 4 * d := IntWalk.i64_in _ (by omega)
  clear ho
  have F0 : decide (x < 0) = false := by simp; omega
  have F1 : decide (y < 0) = false := by simp; omega
  have F2 : decide (4 * a ≤ x) = false := by simp; omega
  have F3 : decide (4 * d ≤ y) = true := by simp; omega
  go_enter Try.func19, Try.ntmps19
  go_wp2_with fail
  have RS := Lib.hid (((RS.out).alloc (.cells #[.int .i64 a, .int .i64 d, .slice As S.length cs, .slice Ak K.length ck] 25)).alloc (.cells #[.int .i64 0, .bool false, .int .i64 0, .int .i64 0, .int .i64 0, .int .i64 0, .int .i64 0, .int .i64 0, .int .i64 0] 40))
  have RK := Lib.hid (((RK.out).alloc (.cells #[.int .i64 a, .int .i64 d, .slice As S.length cs, .slice Ak K.length ck] 25)).alloc (.cells #[.int .i64 0, .bool false, .int .i64 0, .int .i64 0, .int .i64 0, .int .i64 0, .int .i64 0, .int .i64 0, .int .i64 0] 40))
  have HB := Lib.hid (below_alloc_ (below_alloc_ (HB.out) (.cells #[.int .i64 a, .int .i64 d, .slice As S.length cs, .slice Ak K.length ck] 25)) (.cells #[.int .i64 0, .bool false, .int .i64 0, .int .i64 0, .int .i64 0, .int .i64 0, .int .i64 0, .int .i64 0, .int .i64 0] 40))
  have hzw : ((w.alloc (.cells #[.int .i64 a, .int .i64 d, .slice As S.length cs, .slice Ak K.length ck] 25)).alloc (.cells #[.int .i64 0, .bool false, .int .i64 0, .int .i64 0, .int .i64 0, .int .i64 0, .int .i64 0, .int .i64 0, .int .i64 0] 40)).heap.size = w.heap.size + 2 := by simp only [World.size_alloc]
  have B3 := (Blk.new (w) 25 #[.int .i64 a, .int .i64 d, .slice As S.length cs, .slice Ak K.length ck]).alloc (.cells #[.int .i64 0, .bool false, .int .i64 0, .int .i64 0, .int .i64 0, .int .i64 0, .int .i64 0, .int .i64 0, .int .i64 0] 40)
  skip
  have B3 := Lib.hid B3
  have B6 := Blk.new (w.alloc (.cells #[.int .i64 a, .int .i64 d, .slice As S.length cs, .slice Ak K.length ck] 25)) 40 #[.int .i64 0, .bool false, .int .i64 0, .int .i64 0, .int .i64 0, .int .i64 0, .int .i64 0, .int .i64 0, .int .i64 0]
  rw [show (w.alloc (.cells #[.int .i64 a, .int .i64 d, .slice As S.length cs, .slice Ak K.length ck] 25)).heap.size = w.heap.size + 1 by simp only [World.size_alloc]] at B6
  have B6 := Lib.hid B6
  generalize (w.alloc (.cells #[.int .i64 a, .int .i64 d, .slice As S.length cs, .slice Ak K.length ck] 25)).alloc (.cells #[.int .i64 0, .bool false, .int .i64 0, .int .i64 0, .int .i64 0, .int .i64 0, .int .i64 0, .int .i64 0, .int .i64 0] 40) = w1 at *
  clear hzw
  have HB1 := Lib.hid (Below.refl w1.heap.size w1)
  refine (r16right_c a d S As cs K Ak ck _ (RS.out.kept HB1.out) (RK.out.kept HB1.out) hn hm).mono ?_
  rintro e w2 ⟨rfl, hb'⟩
  have HB1 := Lib.hid ((HB1.out).trans (hb'.mono (HB1.out).size))
  clear hb'
  rw [HO.out]
  have h6 := (B6.out.below HB1.out B6.out.lt)
  obtain ⟨q0, q1, q2, q3, q4, q5, q6, q7, q8⟩ := h6.cells9
  have f6 := h6.frozen
  obtain ⟨zB30, zB31, zB32, zB33⟩ := (B3.out.below HB1.out B3.out.lt).cells4
  go_wp2_with fail
  clear zB30 zB31 zB32 zB33
  have g8 := ret_nine h6 (.int .i64 0) (.bool false) (.int .i64 0) (.int .i64 0) (.int .i64 0) (.int .i64 0) (.int .i64 0) (.int .i64 0) (.int .i64 0)
  have hb6 : w.heap.size ≤ w.heap.size + 1 := by omega
  have HBB := HB.out.trans (HB1.out.mono HB.out.size)
  refine bodyPost_ret (results_row_tmp rfl _ _ (w.heap.size + 1) 40 #[.int .i64 0, .bool false, .int .i64 0, .int .i64 0, .int .i64 0, .int .i64 0, .int .i64 0, .int .i64 0, .int .i64 0] (0, 0) _ rfl g8 Try.underlying40 rfl (by kernel_rfl)) rfl ?_
  refine ⟨rfl, Below.setCell (Below.setCell (Below.setCell (Below.setCell (Below.setCell (Below.setCell (Below.setCell (Below.setCell (Below.setCell (HBB) hb6 _) hb6 _) hb6 _) hb6 _) hb6 _) hb6 _) hb6 _) hb6 _) hb6 _⟩
set_option maxRecDepth 100000 in
set_option maxHeartbeats 6400000 in
theorem r16at_5 (a d : Int) (S : List Int) (As : Option Addr) (cs : Nat) (K : List Bk) (Ak : Option Addr) (ck : Nat) (x y : Int) (w : World) (hS : ReadsI w As S) (hK : ReadsE EK w Ak K) (hn : S.length ≤ 9223372036854775807) (hm : K.length ≤ 9223372036854775807) (ho : okFl a d S K = true) (h2 : inFu a d ⟨x, y, 1⟩ = true) :
    Calls Try.prog 19 #[flV a d (.slice As S.length cs) (.slice Ak K.length ck), .int .i64 x, .int .i64 y] w fun e w' => e = .returned (.tuple #[bkV (kat K (y.toNat * (4 * a.toNat) + x.toNat)), .bool true]) ∧ Below w.heap.size w w' := by
  have RS := Lib.hid hS
  have RK := Lib.hid hK
  have HB := Lib.hid (Below.refl w.heap.size w)
  have HO := Lib.hid ho
  clear hS hK
  obtain ⟨A, D, ea, ed, a1, a2, d1, d2, hl, hkl, hS1, hK1⟩ := okFl_nat ho
  obtain ⟨X, Y, s, eu, s1, hx, hy⟩ := inFu_nat (a := A) (d := D) (u := ⟨x, y, 1⟩) (by rw [← ea, ← ed]; exact h2)
  simp only [Un.mk.injEq] at eu
  obtain ⟨ex, ey, es⟩ := eu
  have es2 : s = 1 := by omega
  clear es
  subst es2
  clear s1
  subst ex
  subst ey
  subst ea
  subst ed
  obtain ⟨pl, hpl⟩ : ∃ pl, pl = Y * (4 * A) + X := ⟨_, rfl⟩
  have hlt := lay_lt (x := 0) (y := 0) hkl hx hy (by omega) (by omega)
  simp only [Nat.add_zero] at hlt
  rw [← hpl] at hlt
  have hpb : pl < 70000 := by rw [hkl] at hlt; have := Nat.mul_le_mul a2 d2; omega
  have HPL := Lib.hid hpl
  have p0 : (0 : Int) ≤ (pl : Int) := by omega
  have p1 : (pl : Int) < (K.length : Int) := by omega
  have hm0 : (4 * (A : Int)) * (Y : Int) = ((Y * (4 * A) : Nat) : Int) := by push_cast; exact Int.mul_comm _ _
  have W2 : IntKind.i64.wrap (4 * (A : Int) * (Y : Int)) = 4 * (A : Int) * (Y : Int) := IntWalk.i64_in _ (by omega)
  have W3 : IntKind.i64.wrap (4 * (A : Int) * (Y : Int) + (X : Int)) = (pl : Int) := by rw [hm0, ← Int.natCast_add, ← hpl]; exact IntWalk.i64_in _ (by omega)
  have F1 : decide ((X : Int) < 0) = false := by simp
  have F2 : decide ((Y : Int) < 0) = false := by simp
  have F3 : decide (4 * (A : Int) ≤ (X : Int)) = false := by simp; omega
  have F4 : decide (4 * (D : Int) ≤ (Y : Int)) = false := by simp; omega
  have G1 : (0 : Int) ≤ (X : Int) := by omega
  have G2 : (0 : Int) ≤ (Y : Int) := by omega
  have G3 : (X : Int) < 4 * (A : Int) := by omega
  have G4 : (Y : Int) < 4 * (D : Int) := by omega
  have W0 : IntKind.i64.wrap (4 * (A : Int)) = 4 * (A : Int) := IntWalk.i64_in _ (by omega)
  have W1 : IntKind.i64.wrap (4 * (D : Int)) = 4 * (D : Int) := IntWalk.i64_in _ (by omega)
  clear hkl hl hpl hS1 hK1 hm0 ho h2
  simp only [Int.toNat_natCast]
  rw [← HPL.out]
  go_enter Try.func19, Try.ntmps19
  go_wp2_with fail
  have RS := Lib.hid (((RS.out).alloc (.cells #[.int .i64 A, .int .i64 D, .slice As S.length cs, .slice Ak K.length ck] 25)).alloc (.cells #[.int .i64 0, .bool false, .int .i64 0, .int .i64 0, .int .i64 0, .int .i64 0, .int .i64 0, .int .i64 0, .int .i64 0] 40))
  have RK := Lib.hid (((RK.out).alloc (.cells #[.int .i64 A, .int .i64 D, .slice As S.length cs, .slice Ak K.length ck] 25)).alloc (.cells #[.int .i64 0, .bool false, .int .i64 0, .int .i64 0, .int .i64 0, .int .i64 0, .int .i64 0, .int .i64 0, .int .i64 0] 40))
  have HB := Lib.hid (below_alloc_ (below_alloc_ (HB.out) (.cells #[.int .i64 A, .int .i64 D, .slice As S.length cs, .slice Ak K.length ck] 25)) (.cells #[.int .i64 0, .bool false, .int .i64 0, .int .i64 0, .int .i64 0, .int .i64 0, .int .i64 0, .int .i64 0, .int .i64 0] 40))
  have hzw : ((w.alloc (.cells #[.int .i64 A, .int .i64 D, .slice As S.length cs, .slice Ak K.length ck] 25)).alloc (.cells #[.int .i64 0, .bool false, .int .i64 0, .int .i64 0, .int .i64 0, .int .i64 0, .int .i64 0, .int .i64 0, .int .i64 0] 40)).heap.size = w.heap.size + 2 := by simp only [World.size_alloc]
  have B3 := (Blk.new (w) 25 #[.int .i64 A, .int .i64 D, .slice As S.length cs, .slice Ak K.length ck]).alloc (.cells #[.int .i64 0, .bool false, .int .i64 0, .int .i64 0, .int .i64 0, .int .i64 0, .int .i64 0, .int .i64 0, .int .i64 0] 40)
  skip
  have B3 := Lib.hid B3
  have B6 := Blk.new (w.alloc (.cells #[.int .i64 A, .int .i64 D, .slice As S.length cs, .slice Ak K.length ck] 25)) 40 #[.int .i64 0, .bool false, .int .i64 0, .int .i64 0, .int .i64 0, .int .i64 0, .int .i64 0, .int .i64 0, .int .i64 0]
  rw [show (w.alloc (.cells #[.int .i64 A, .int .i64 D, .slice As S.length cs, .slice Ak K.length ck] 25)).heap.size = w.heap.size + 1 by simp only [World.size_alloc]] at B6
  have B6 := Lib.hid B6
  generalize (w.alloc (.cells #[.int .i64 A, .int .i64 D, .slice As S.length cs, .slice Ak K.length ck] 25)).alloc (.cells #[.int .i64 0, .bool false, .int .i64 0, .int .i64 0, .int .i64 0, .int .i64 0, .int .i64 0, .int .i64 0, .int .i64 0] 40) = w1 at *
  clear hzw
  have HB1 := Lib.hid (Below.refl w1.heap.size w1)
  refine (r16right_c A D S As cs K Ak ck _ (RS.out.kept HB1.out) (RK.out.kept HB1.out) hn hm).mono ?_
  rintro e w2 ⟨rfl, hb'⟩
  have HB1 := Lib.hid ((HB1.out).trans (hb'.mono (HB1.out).size))
  clear hb'
  rw [HO.out]
  obtain ⟨zB30, zB31, zB32, zB33⟩ := (B3.out.below HB1.out B3.out.lt).cells4
  go_upto_region 3 with fail
  clear zB30 zB31 zB32 zB33
  clear F1 F2 F3 F4 G1 G2 G3 G4 W1
  obtain ⟨ad, eA, l1, z0, z1, z2, z3, z4, z5, z6, z7, z8⟩ := ReadsE.bkk (RK.out.kept HB1.out) hlt
  obtain rfl := eA
  obtain ⟨q, hq⟩ : ∃ q, q = kat K pl := ⟨_, rfl⟩
  rw [← hq] at z0 z1 z2 z3 z4 z5 z6 z7 z8
  have HQ := Lib.hid hq
  clear l1 hq
  have h6 := (B6.out.below HB1.out B6.out.lt)
  obtain ⟨q0, q1, q2, q3, q4, q5, q6, q7, q8⟩ := h6.cells9
  have f6 := h6.frozen
  obtain ⟨zB30, zB31, zB32, zB33⟩ := (B3.out.below HB1.out B3.out.lt).cells4
  go_wp2_with fail
  clear zB30 zB31 zB32 zB33
  have g8 := ret_nine h6 (.int .i64 q.m) (.bool q.g) (.int .i64 q.x0) (.int .i64 q.y0) (.int .i64 q.x1) (.int .i64 q.y1) (.int .i64 q.d0) (.int .i64 q.d1) (.int .i64 q.d2)
  have hb6 : w.heap.size ≤ w.heap.size + 1 := by omega
  have HBB := HB.out.trans (HB1.out.mono HB.out.size)
  refine bodyPost_ret (results_row_tmp rfl _ _ (w.heap.size + 1) 40 #[.int .i64 q.m, .bool q.g, .int .i64 q.x0, .int .i64 q.y0, .int .i64 q.x1, .int .i64 q.y1, .int .i64 q.d0, .int .i64 q.d1, .int .i64 q.d2] (0, 0) _ rfl g8 Try.underlying40 rfl (by kernel_rfl)) rfl ?_
  refine ⟨by rw [← HQ.out]; rfl, Below.setCell (Below.setCell (Below.setCell (Below.setCell (Below.setCell (Below.setCell (Below.setCell (Below.setCell (Below.setCell (HBB) hb6 _) hb6 _) hb6 _) hb6 _) hb6 _) hb6 _) hb6 _) hb6 _) hb6 _⟩
theorem r16at_c (a d : Int) (S : List Int) (As : Option Addr) (cs : Nat) (K : List Bk) (Ak : Option Addr) (ck : Nat) (x y : Int) (w : World) (hS : ReadsI w As S) (hK : ReadsE EK w Ak K) (hn : S.length ≤ 9223372036854775807) (hm : K.length ≤ 9223372036854775807) :
    Calls Try.prog 19 #[flV a d (.slice As S.length cs) (.slice Ak K.length ck), .int .i64 x, .int .i64 y] w fun e w' => e = .returned (.tuple #[bkV (atK a d S K x y), .bool (atB a d S K x y)]) ∧ Below w.heap.size w w' := by
  unfold atK
  cases h : atB a d S K x y with
  | false =>
    have h' := h
    unfold atB at h'
    cases h1 : okFl a d S K with
    | false => exact r16at_0 a d S As cs K Ak ck x y w hS hK hn hm h1
    | true =>
      rw [h1, Bool.true_and] at h'
      simp only [inFu, decide_eq_false_iff_not] at h'
      have a1 := countB_t (okFl_t h1).1
      have d1 := countB_t (okFl_t h1).2.1
      by_cases c1 : x < 0
      · exact r16at_1 a d S As cs K Ak ck x y w hS hK hn hm h1 c1
      by_cases c2 : y < 0
      · exact r16at_2 a d S As cs K Ak ck x y w hS hK hn hm h1 (by omega)
      by_cases c3 : 4 * a ≤ x
      · exact r16at_3 a d S As cs K Ak ck x y w hS hK hn hm h1 (by omega)
      by_cases c4 : 4 * d ≤ y
      · exact r16at_4 a d S As cs K Ak ck x y w hS hK hn hm h1 (by omega)
      omega
  | true =>
    unfold atB at h
    simp only [Bool.and_eq_true] at h
    exact r16at_5 a d S As cs K Ak ck x y w hS hK hn hm h.1 h.2

end Go.Proofs.Ytiedjeholmoccaa
