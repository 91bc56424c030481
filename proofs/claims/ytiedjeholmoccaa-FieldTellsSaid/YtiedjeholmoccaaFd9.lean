/- Fields: a block asked for, set; squares that cover; new fields. -/
import Derived.Test.YtiedjeholmoccaaFd8
namespace Go.Proofs.Ytiedjeholmoccaa
open Go.RowKit Go.Sort
set_option linter.unusedVariables false
set_option linter.unusedSimpArgs false

theorem results_row_tmp {P : Program} {fn : Func} {p u : Tmp} {ty : TypeId} (h : fn.results = #[.cell p ty, .tmp u]) (tmps : Array Value) (w : World) (g : Nat) (t : TypeId) (cs : Array Value) (fr : Nat × Nat) (d : TypeDesc)
    (hp : tmps.getD p undef = .pointer (some ⟨g, 0, none⟩)) (hg : w.heap[g]? = some (.cells cs t fr))
    (hu : P.underlying ty = some d) (hd : (match d with | .struct _ | .array _ _ => true | _ => false) = true) (hi : (P.info? ty).map (·.size) = some cs.size) :
    (results fn tmps).run P w = .ok (.tuple #[.agg cs, tmps.getD u undef]) w := by
  have hp' : tmps[p]?.getD undef = .pointer (some ⟨g, 0, none⟩) := by simpa using hp
  simp [results, h, hp', asAddr, run_loadVar_row w g t ty cs fr d hg hu hd hi]
theorem ret_nine {w : World} {b : Nat} {t : TypeId} {x0 x1 x2 x3 x4 x5 x6 x7 x8 : Value} (h : Blk w b t #[x0, x1, x2, x3, x4, x5, x6, x7, x8]) (y0 y1 y2 y3 y4 y5 y6 y7 y8 : Value) :
    Blk (((((((((w.setCell ⟨b, 0, none⟩ y0).setCell ⟨b, 1, none⟩ y1).setCell ⟨b, 2, none⟩ y2).setCell ⟨b, 3, none⟩ y3).setCell ⟨b, 4, none⟩ y4).setCell ⟨b, 5, none⟩ y5).setCell ⟨b, 6, none⟩ y6).setCell ⟨b, 7, none⟩ y7).setCell ⟨b, 8, none⟩ y8) b t #[y0, y1, y2, y3, y4, y5, y6, y7, y8] := by
  have h0 : Blk _ b t #[y0, x1, x2, x3, x4, x5, x6, x7, x8] := (h).set_ 0 y0
  have h1 : Blk _ b t #[y0, y1, x2, x3, x4, x5, x6, x7, x8] := (h0).set_ 1 y1
  have h2 : Blk _ b t #[y0, y1, y2, x3, x4, x5, x6, x7, x8] := (h1).set_ 2 y2
  have h3 : Blk _ b t #[y0, y1, y2, y3, x4, x5, x6, x7, x8] := (h2).set_ 3 y3
  have h4 : Blk _ b t #[y0, y1, y2, y3, y4, x5, x6, x7, x8] := (h3).set_ 4 y4
  have h5 : Blk _ b t #[y0, y1, y2, y3, y4, y5, x6, x7, x8] := (h4).set_ 5 y5
  have h6 : Blk _ b t #[y0, y1, y2, y3, y4, y5, y6, x7, x8] := (h5).set_ 6 y6
  have h7 : Blk _ b t #[y0, y1, y2, y3, y4, y5, y6, y7, x8] := (h6).set_ 7 y7
  have h8 : Blk _ b t #[y0, y1, y2, y3, y4, y5, y6, y7, y8] := (h7).set_ 8 y8
  exact h8
theorem okFl_nat {a d : Int} {S : List Int} {K : List Bk} (h : okFl a d S K = true) : ∃ A D : Nat, a = A ∧ d = D ∧ 1 ≤ A ∧ A ≤ 64 ∧ 1 ≤ D ∧ D ≤ 64 ∧ S.length = A * D ∧ K.length = 16 * (A * D) ∧ (∀ k, k < S.length → 0 ≤ rdn S k ∧ rdn S k ≤ 2) ∧ okK K = true := by
  obtain ⟨h1, h2, h3, h4, h5, h6⟩ := okFl_t h
  have a1 := countB_t h1
  have d1 := countB_t h2
  obtain ⟨A, rfl⟩ := Int.eq_ofNat_of_zero_le (a := a) (by omega)
  obtain ⟨D, rfl⟩ := Int.eq_ofNat_of_zero_le (a := d) (by omega)
  have e : (S.length : Int) = ((A * D : Nat) : Int) := by rw [h3]; exact (Int.natCast_mul _ _).symm
  exact ⟨A, D, rfl, rfl, by omega, by omega, by omega, by omega, by omega, by omega, fun k hk => okS_t h5 hk, h6⟩
def atB (a d : Int) (S : List Int) (K : List Bk) (x y : Int) : Bool := okFl a d S K && inFu a d ⟨x, y, 1⟩
def atK (a d : Int) (S : List Int) (K : List Bk) (x y : Int) : Bk := if atB a d S K x y = true then kat K (y.toNat * (4 * a.toNat) + x.toNat) else Bk.zero
theorem Blk.newz (w : World) (o : Obj) (t : TypeId) (cs : Array Value) : Blk ((w.alloc o).alloc (.cells cs t)) (w.heap.size + 1) t cs := by
  have h := Blk.new (w.alloc o) t cs
  rw [World.size_alloc] at h
  exact h
set_option maxRecDepth 100000 in
set_option maxHeartbeats 6400000 in
theorem fat_1 (a d : Int) (S : List Int) (As : Option Addr) (cs : Nat) (K : List Bk) (Ak : Option Addr) (ck : Nat) (x y : Int) (w : World) (hS : ReadsI w As S) (hK : ReadsE EK w Ak K) (hn : S.length ≤ 9223372036854775807) (hm : K.length ≤ 9223372036854775807) (h1 : okFl a d S K = false) :
    Calls Try.prog 18 #[flV a d (.slice As S.length cs) (.slice Ak K.length ck), .int .i64 x, .int .i64 y] w fun e w' => e = .returned (.tuple #[bkV (Bk.zero), .bool false]) ∧ Below w.heap.size w w' := by
  have RS := Lib.hid hS
  have RK := Lib.hid hK
  have HB := Lib.hid (Below.refl w.heap.size w)
  have H1 := Lib.hid h1
  clear hS hK h1
  go_enter Try.func18, Try.ntmps18
  go_wp2_with fail
  have RS := Lib.hid (((RS.out).alloc (.cells #[.int .i64 a, .int .i64 d, .slice As S.length cs, .slice Ak K.length ck] 25)).alloc (.cells #[.int .i64 0, .bool false, .int .i64 0, .int .i64 0, .int .i64 0, .int .i64 0, .int .i64 0, .int .i64 0, .int .i64 0] 40))
  have RK := Lib.hid (((RK.out).alloc (.cells #[.int .i64 a, .int .i64 d, .slice As S.length cs, .slice Ak K.length ck] 25)).alloc (.cells #[.int .i64 0, .bool false, .int .i64 0, .int .i64 0, .int .i64 0, .int .i64 0, .int .i64 0, .int .i64 0, .int .i64 0] 40))
  have HB := Lib.hid (below_alloc_ (below_alloc_ (HB.out) (.cells #[.int .i64 a, .int .i64 d, .slice As S.length cs, .slice Ak K.length ck] 25)) (.cells #[.int .i64 0, .bool false, .int .i64 0, .int .i64 0, .int .i64 0, .int .i64 0, .int .i64 0, .int .i64 0, .int .i64 0] 40))
  have hzw : ((w.alloc (.cells #[.int .i64 a, .int .i64 d, .slice As S.length cs, .slice Ak K.length ck] 25)).alloc (.cells #[.int .i64 0, .bool false, .int .i64 0, .int .i64 0, .int .i64 0, .int .i64 0, .int .i64 0, .int .i64 0, .int .i64 0] 40)).heap.size = w.heap.size + 2 := by simp only [World.size_alloc]
  have B3 := (Blk.new (w) 25 #[.int .i64 a, .int .i64 d, .slice As S.length cs, .slice Ak K.length ck]).alloc (.cells #[.int .i64 0, .bool false, .int .i64 0, .int .i64 0, .int .i64 0, .int .i64 0, .int .i64 0, .int .i64 0, .int .i64 0] 40)
  skip
  have B3 := Lib.hid B3
  have B6 := Blk.new (w.alloc (.cells #[.int .i64 a, .int .i64 d, .slice As S.length cs, .slice Ak K.length ck] 25)) 40 #[.int .i64 0, .bool false, .int .i64 0, .int .i64 0, .int .i64 0, .int .i64 0, .int .i64 0, .int .i64 0, .int .i64 0]
  rw [show (w.alloc (.cells #[.int .i64 a, .int .i64 d, .slice As S.length cs, .slice Ak K.length ck] 25)).heap.size = w.heap.size + 1 by simp only [World.size_alloc]] at B6
  have B6 := Lib.hid B6
  generalize (w.alloc (.cells #[.int .i64 a, .int .i64 d, .slice As S.length cs, .slice Ak K.length ck] 25)).alloc (.cells #[.int .i64 0, .bool false, .int .i64 0, .int .i64 0, .int .i64 0, .int .i64 0, .int .i64 0, .int .i64 0, .int .i64 0] 40) = w1 at *
  clear hzw
  have HB1 := Lib.hid (Below.refl w1.heap.size w1)
  refine (fright_c a d S As cs K Ak ck _ (RS.out.kept HB1.out) (RK.out.kept HB1.out) hn hm).mono ?_
  rintro e w2 ⟨rfl, hb'⟩
  have HB1 := Lib.hid ((HB1.out).trans (hb'.mono (HB1.out).size))
  clear hb'
  rw [H1.out]
  skip
  have h6 := (B6.out.below HB1.out B6.out.lt)
  obtain ⟨q0, q1, q2, q3, q4, q5, q6, q7, q8⟩ := h6.cells9
  have f6 := h6.frozen
  go_wp2_with fail
  have g8 := ret_nine h6 (.int .i64 0) (.bool false) (.int .i64 0) (.int .i64 0) (.int .i64 0) (.int .i64 0) (.int .i64 0) (.int .i64 0) (.int .i64 0)
  have hb6 : w.heap.size ≤ w.heap.size + 1 := by omega
  have HBB := HB.out.trans (HB1.out.mono HB.out.size)
  refine bodyPost_ret (results_row_tmp rfl _ _ (w.heap.size + 1) 40 #[.int .i64 0, .bool false, .int .i64 0, .int .i64 0, .int .i64 0, .int .i64 0, .int .i64 0, .int .i64 0, .int .i64 0] (0, 0) _ rfl g8 Try.underlying40 rfl (by kernel_rfl)) rfl ?_
  refine ⟨rfl, Below.setCell (Below.setCell (Below.setCell (Below.setCell (Below.setCell (Below.setCell (Below.setCell (Below.setCell (Below.setCell (HBB) hb6 _) hb6 _) hb6 _) hb6 _) hb6 _) hb6 _) hb6 _) hb6 _) hb6 _⟩
set_option maxRecDepth 100000 in
set_option maxHeartbeats 6400000 in
theorem fat_2 (a d : Int) (S : List Int) (As : Option Addr) (cs : Nat) (K : List Bk) (Ak : Option Addr) (ck : Nat) (x y : Int) (w : World) (hS : ReadsI w As S) (hK : ReadsE EK w Ak K) (hn : S.length ≤ 9223372036854775807) (hm : K.length ≤ 9223372036854775807) (h1 : okFl a d S K = true) (h2 : inFu a d ⟨x, y, 1⟩ = false) :
    Calls Try.prog 18 #[flV a d (.slice As S.length cs) (.slice Ak K.length ck), .int .i64 x, .int .i64 y] w fun e w' => e = .returned (.tuple #[bkV (Bk.zero), .bool false]) ∧ Below w.heap.size w w' := by
  have RS := Lib.hid hS
  have RK := Lib.hid hK
  have HB := Lib.hid (Below.refl w.heap.size w)
  have H1 := Lib.hid h1
  have H2 := Lib.hid h2
  clear hS hK h1 h2
  go_enter Try.func18, Try.ntmps18
  go_wp2_with fail
  have RS := Lib.hid (((RS.out).alloc (.cells #[.int .i64 a, .int .i64 d, .slice As S.length cs, .slice Ak K.length ck] 25)).alloc (.cells #[.int .i64 0, .bool false, .int .i64 0, .int .i64 0, .int .i64 0, .int .i64 0, .int .i64 0, .int .i64 0, .int .i64 0] 40))
  have RK := Lib.hid (((RK.out).alloc (.cells #[.int .i64 a, .int .i64 d, .slice As S.length cs, .slice Ak K.length ck] 25)).alloc (.cells #[.int .i64 0, .bool false, .int .i64 0, .int .i64 0, .int .i64 0, .int .i64 0, .int .i64 0, .int .i64 0, .int .i64 0] 40))
  have HB := Lib.hid (below_alloc_ (below_alloc_ (HB.out) (.cells #[.int .i64 a, .int .i64 d, .slice As S.length cs, .slice Ak K.length ck] 25)) (.cells #[.int .i64 0, .bool false, .int .i64 0, .int .i64 0, .int .i64 0, .int .i64 0, .int .i64 0, .int .i64 0, .int .i64 0] 40))
  have hzw : ((w.alloc (.cells #[.int .i64 a, .int .i64 d, .slice As S.length cs, .slice Ak K.length ck] 25)).alloc (.cells #[.int .i64 0, .bool false, .int .i64 0, .int .i64 0, .int .i64 0, .int .i64 0, .int .i64 0, .int .i64 0, .int .i64 0] 40)).heap.size = w.heap.size + 2 := by simp only [World.size_alloc]
  have B3 := (Blk.new (w) 25 #[.int .i64 a, .int .i64 d, .slice As S.length cs, .slice Ak K.length ck]).alloc (.cells #[.int .i64 0, .bool false, .int .i64 0, .int .i64 0, .int .i64 0, .int .i64 0, .int .i64 0, .int .i64 0, .int .i64 0] 40)
  skip
  have B3 := Lib.hid B3
  have B6 := Blk.new (w.alloc (.cells #[.int .i64 a, .int .i64 d, .slice As S.length cs, .slice Ak K.length ck] 25)) 40 #[.int .i64 0, .bool false, .int .i64 0, .int .i64 0, .int .i64 0, .int .i64 0, .int .i64 0, .int .i64 0, .int .i64 0]
  rw [show (w.alloc (.cells #[.int .i64 a, .int .i64 d, .slice As S.length cs, .slice Ak K.length ck] 25)).heap.size = w.heap.size + 1 by simp only [World.size_alloc]] at B6
  have B6 := Lib.hid B6
  generalize (w.alloc (.cells #[.int .i64 a, .int .i64 d, .slice As S.length cs, .slice Ak K.length ck] 25)).alloc (.cells #[.int .i64 0, .bool false, .int .i64 0, .int .i64 0, .int .i64 0, .int .i64 0, .int .i64 0, .int .i64 0, .int .i64 0] 40) = w1 at *
  clear hzw
  have HB1 := Lib.hid (Below.refl w1.heap.size w1)
  refine (fright_c a d S As cs K Ak ck _ (RS.out.kept HB1.out) (RK.out.kept HB1.out) hn hm).mono ?_
  rintro e w2 ⟨rfl, hb'⟩
  have HB1 := Lib.hid ((HB1.out).trans (hb'.mono (HB1.out).size))
  clear hb'
  rw [H1.out]
  obtain ⟨zB30, zB31, zB32, zB33⟩ := (B3.out.below HB1.out B3.out.lt).cells4
  go_wp2_with fail
  clear zB30 zB31 zB32 zB33
  refine (fwithin_c a d (.slice As S.length cs) (.slice Ak K.length ck) ⟨x, y, 1⟩ _ (countB_t (okFl_t H1.out).1).1 (countB_t (okFl_t H1.out).1).2 (countB_t (okFl_t H1.out).2.1).1 (countB_t (okFl_t H1.out).2.1).2).mono ?_
  rintro e w3 ⟨rfl, hb'⟩
  have HB1 := Lib.hid ((HB1.out).trans (hb'.mono (HB1.out).size))
  clear hb'
  rw [H2.out]
  have h6 := (B6.out.below HB1.out B6.out.lt)
  obtain ⟨q0, q1, q2, q3, q4, q5, q6, q7, q8⟩ := h6.cells9
  have f6 := h6.frozen
  go_wp2_with fail
  have g8 := ret_nine h6 (.int .i64 0) (.bool false) (.int .i64 0) (.int .i64 0) (.int .i64 0) (.int .i64 0) (.int .i64 0) (.int .i64 0) (.int .i64 0)
  have hb6 : w.heap.size ≤ w.heap.size + 1 := by omega
  have HBB := HB.out.trans (HB1.out.mono HB.out.size)
  refine bodyPost_ret (results_row_tmp rfl _ _ (w.heap.size + 1) 40 #[.int .i64 0, .bool false, .int .i64 0, .int .i64 0, .int .i64 0, .int .i64 0, .int .i64 0, .int .i64 0, .int .i64 0] (0, 0) _ rfl g8 Try.underlying40 rfl (by kernel_rfl)) rfl ?_
  refine ⟨rfl, Below.setCell (Below.setCell (Below.setCell (Below.setCell (Below.setCell (Below.setCell (Below.setCell (Below.setCell (Below.setCell (HBB) hb6 _) hb6 _) hb6 _) hb6 _) hb6 _) hb6 _) hb6 _) hb6 _) hb6 _⟩
set_option maxRecDepth 100000 in
set_option maxHeartbeats 6400000 in
theorem fat_3 (a d : Int) (S : List Int) (As : Option Addr) (cs : Nat) (K : List Bk) (Ak : Option Addr) (ck : Nat) (x y : Int) (w : World) (hS : ReadsI w As S) (hK : ReadsE EK w Ak K) (hn : S.length ≤ 9223372036854775807) (hm : K.length ≤ 9223372036854775807) (h1 : okFl a d S K = true) (h2 : inFu a d ⟨x, y, 1⟩ = true) :
    Calls Try.prog 18 #[flV a d (.slice As S.length cs) (.slice Ak K.length ck), .int .i64 x, .int .i64 y] w fun e w' => e = .returned (.tuple #[bkV (kat K (y.toNat * (4 * a.toNat) + x.toNat)), .bool true]) ∧ Below w.heap.size w w' := by
  have RS := Lib.hid hS
  have RK := Lib.hid hK
  have HB := Lib.hid (Below.refl w.heap.size w)
  have H1 := Lib.hid h1
  have H2 := Lib.hid h2
  clear hS hK h1 h2
  obtain ⟨A, D, ea, ed, a1, a2, d1, d2, hl, hkl, hS1, hK1⟩ := okFl_nat H1.out
  obtain ⟨X, Y, s, eu, s1, hx, hy⟩ := inFu_nat (a := A) (d := D) (u := ⟨x, y, 1⟩) (by rw [← ea, ← ed]; exact H2.out)
  simp only [Un.mk.injEq] at eu
  obtain ⟨ex, ey, es⟩ := eu
  have es2 : s = 1 := by omega
  clear es
  subst es2
  clear s1
  subst ex
  subst ey
  subst ea
  subst ed
  obtain ⟨pl, hpl⟩ : ∃ pl, pl = Y * (4 * A) + X := ⟨_, rfl⟩
  have hlt := lay_lt (x := 0) (y := 0) hkl hx hy (by omega) (by omega)
  simp only [Nat.add_zero] at hlt
  rw [← hpl] at hlt
  have hpb : pl < 70000 := by rw [hkl] at hlt; have := Nat.mul_le_mul a2 d2; omega
  have HPL := Lib.hid hpl
  have p0 : (0 : Int) ≤ (pl : Int) := by omega
  have p1 : (pl : Int) < (K.length : Int) := by omega
  clear hkl hl hpl hS1 hK1
  simp only [Int.toNat_natCast]
  rw [← HPL.out]
  go_enter Try.func18, Try.ntmps18
  go_wp2_with fail
  have RS := Lib.hid (((RS.out).alloc (.cells #[.int .i64 A, .int .i64 D, .slice As S.length cs, .slice Ak K.length ck] 25)).alloc (.cells #[.int .i64 0, .bool false, .int .i64 0, .int .i64 0, .int .i64 0, .int .i64 0, .int .i64 0, .int .i64 0, .int .i64 0] 40))
  have RK := Lib.hid (((RK.out).alloc (.cells #[.int .i64 A, .int .i64 D, .slice As S.length cs, .slice Ak K.length ck] 25)).alloc (.cells #[.int .i64 0, .bool false, .int .i64 0, .int .i64 0, .int .i64 0, .int .i64 0, .int .i64 0, .int .i64 0, .int .i64 0] 40))
  have HB := Lib.hid (below_alloc_ (below_alloc_ (HB.out) (.cells #[.int .i64 A, .int .i64 D, .slice As S.length cs, .slice Ak K.length ck] 25)) (.cells #[.int .i64 0, .bool false, .int .i64 0, .int .i64 0, .int .i64 0, .int .i64 0, .int .i64 0, .int .i64 0, .int .i64 0] 40))
  have hzw : ((w.alloc (.cells #[.int .i64 A, .int .i64 D, .slice As S.length cs, .slice Ak K.length ck] 25)).alloc (.cells #[.int .i64 0, .bool false, .int .i64 0, .int .i64 0, .int .i64 0, .int .i64 0, .int .i64 0, .int .i64 0, .int .i64 0] 40)).heap.size = w.heap.size + 2 := by simp only [World.size_alloc]
  have B3 := (Blk.new (w) 25 #[.int .i64 A, .int .i64 D, .slice As S.length cs, .slice Ak K.length ck]).alloc (.cells #[.int .i64 0, .bool false, .int .i64 0, .int .i64 0, .int .i64 0, .int .i64 0, .int .i64 0, .int .i64 0, .int .i64 0] 40)
  skip
  have B3 := Lib.hid B3
  have B6 := Blk.new (w.alloc (.cells #[.int .i64 A, .int .i64 D, .slice As S.length cs, .slice Ak K.length ck] 25)) 40 #[.int .i64 0, .bool false, .int .i64 0, .int .i64 0, .int .i64 0, .int .i64 0, .int .i64 0, .int .i64 0, .int .i64 0]
  rw [show (w.alloc (.cells #[.int .i64 A, .int .i64 D, .slice As S.length cs, .slice Ak K.length ck] 25)).heap.size = w.heap.size + 1 by simp only [World.size_alloc]] at B6
  have B6 := Lib.hid B6
  generalize (w.alloc (.cells #[.int .i64 A, .int .i64 D, .slice As S.length cs, .slice Ak K.length ck] 25)).alloc (.cells #[.int .i64 0, .bool false, .int .i64 0, .int .i64 0, .int .i64 0, .int .i64 0, .int .i64 0, .int .i64 0, .int .i64 0] 40) = w1 at *
  clear hzw
  have HB1 := Lib.hid (Below.refl w1.heap.size w1)
  refine (fright_c A D S As cs K Ak ck _ (RS.out.kept HB1.out) (RK.out.kept HB1.out) hn hm).mono ?_
  rintro e w2 ⟨rfl, hb'⟩
  have HB1 := Lib.hid ((HB1.out).trans (hb'.mono (HB1.out).size))
  clear hb'
  rw [H1.out]
  obtain ⟨zB30, zB31, zB32, zB33⟩ := (B3.out.below HB1.out B3.out.lt).cells4
  go_wp2_with fail
  clear zB30 zB31 zB32 zB33
  refine (fwithin_c A D (.slice As S.length cs) (.slice Ak K.length ck) ⟨X, Y, 1⟩ _ (by omega) (by omega) (by omega) (by omega)).mono ?_
  rintro e w3 ⟨rfl, hb'⟩
  have HB1 := Lib.hid ((HB1.out).trans (hb'.mono (HB1.out).size))
  clear hb'
  rw [H2.out]
  obtain ⟨zB30, zB31, zB32, zB33⟩ := (B3.out.below HB1.out B3.out.lt).cells4
  go_upto_region 3 with fail
  obtain ⟨ad, eA, l1, z0, z1, z2, z3, z4, z5, z6, z7, z8⟩ := ReadsE.bkk (RK.out.kept HB1.out) hlt
  obtain rfl := eA
  obtain ⟨q, hq⟩ : ∃ q, q = kat K pl := ⟨_, rfl⟩
  rw [← hq] at z0 z1 z2 z3 z4 z5 z6 z7 z8
  have HQ := Lib.hid hq
  clear l1 hq
  have kq0 := cell_regrown zB30
  have kq1 := cell_regrown zB31
  have kq2 := cell_regrown zB32
  have kq3 := cell_regrown zB33
  have kq4 := cell_regrown z0
  have kq5 := cell_regrown z1
  have kq6 := cell_regrown z2
  have kq7 := cell_regrown z3
  have kq8 := cell_regrown z4
  have kq9 := cell_regrown z5
  have kq10 := cell_regrown z6
  have kq11 := cell_regrown z7
  have kq12 := cell_regrown z8
  clear zB30 zB31 zB32 zB33 z0 z1 z2 z3 z4 z5 z6 z7 z8
  refine wp_mono_tail 8 [Brings.one ?b1_0, Brings.one ?b2_1, Brings.one ?b3_2, Brings.one ?b4_3, Brings.one ?b5_4, Brings.one ?b6_5, Brings.one ?b7_6, Brings.one ?b8_7] (by kernel_rfl) (by kernel_rfl) ?_
  rotate_left 8
  simp only [List.take_succ_cons, List.take_zero, List.drop_succ_cons, List.drop_zero]
  refine wpL_take (k' := 1) rfl (by kernel_rfl) (fun d os => ?t9) ?_
  case t9 => (unfold bringsAt; go_simp; first | with_reducible exact take_one | exact take_one)
  try simp only [Act.put, List.setIfInBounds_toArray, List.set_cons_zero, List.set_cons_succ]
  refine wpL_take (k' := 2) rfl (by kernel_rfl) (fun d os => ?t10) ?_
  case t10 => (unfold bringsAt; go_simp; first | with_reducible exact take_one | exact take_one)
  try simp only [Act.put, List.setIfInBounds_toArray, List.set_cons_zero, List.set_cons_succ]
  refine wpL_take (k' := 3) rfl (by kernel_rfl) (fun d os => ?t11) ?_
  case t11 => (unfold bringsAt; go_simp; first | with_reducible exact take_one | exact take_one)
  try simp only [Act.put, List.setIfInBounds_toArray, List.set_cons_zero, List.set_cons_succ]
  refine wpL_take (k' := 4) rfl (by kernel_rfl) (fun d os => ?t12) ?_
  case t12 => (unfold bringsAt; go_simp; first | with_reducible exact take_one | exact take_one)
  try simp only [Act.put, List.setIfInBounds_toArray, List.set_cons_zero, List.set_cons_succ]
  refine wpL_take (k' := 5) rfl (by kernel_rfl) (fun d os => ?t13) ?_
  case t13 => (unfold bringsAt; go_simp; first | with_reducible exact take_one | exact take_one)
  try simp only [Act.put, List.setIfInBounds_toArray, List.set_cons_zero, List.set_cons_succ]
  refine wpL_call (k' := 6) rfl (by kernel_rfl) (fun wz hz hd => ?t14) ?_
  case t14 =>
    have HZ := Lib.hid (HB1.out.trans (hz.mono HB1.out.size))
    unfold bringsAt
    go_simp
    have h9 := fplace_c A D (.slice As S.length cs) (.slice (some ad) K.length ck) X Y wz a2 (by omega) (by omega)
    rw [← HPL.out] at h9
    refine call_one_as h9 ?_
    rfl
  try simp only [Act.put, List.setIfInBounds_toArray, List.set_cons_zero, List.set_cons_succ]
  refine wpL_take (k' := 7) rfl (by kernel_rfl) (fun d os => ?t15) ?_
  case t15 => (unfold bringsAt; go_simp; first | with_reducible exact take_one | exact take_one)
  try simp only [Act.put, List.setIfInBounds_toArray, List.set_cons_zero, List.set_cons_succ]
  refine wpL_take (k' := 8) rfl (by kernel_rfl) (fun d os => ?t16) ?_
  case t16 => (unfold bringsAt; go_simp; first | with_reducible exact take_one | exact take_one)
  try simp only [Act.put, List.setIfInBounds_toArray, List.set_cons_zero, List.set_cons_succ]
  refine wpL_nil ?_
  intro w4 hH
  have hb' := hH.below
  clear kq0 kq1 kq2 kq3 kq4 kq5 kq6 kq7 kq8 kq9 kq10 kq11 kq12
  have HB1 := Lib.hid ((HB1.out).trans (hb'.mono (HB1.out).size))
  clear hH hb'
  have h6 := (B6.out.below HB1.out B6.out.lt)
  obtain ⟨q0, q1, q2, q3, q4, q5, q6, q7, q8⟩ := h6.cells9
  have f6 := h6.frozen
  go_wp2_with fail
  have g8 := ret_nine h6 (.int .i64 q.m) (.bool q.g) (.int .i64 q.x0) (.int .i64 q.y0) (.int .i64 q.x1) (.int .i64 q.y1) (.int .i64 q.d0) (.int .i64 q.d1) (.int .i64 q.d2)
  have hb6 : w.heap.size ≤ w.heap.size + 1 := by omega
  have HBB := HB.out.trans (HB1.out.mono HB.out.size)
  refine bodyPost_ret (results_row_tmp rfl _ _ (w.heap.size + 1) 40 #[.int .i64 q.m, .bool q.g, .int .i64 q.x0, .int .i64 q.y0, .int .i64 q.x1, .int .i64 q.y1, .int .i64 q.d0, .int .i64 q.d1, .int .i64 q.d2] (0, 0) _ rfl g8 Try.underlying40 rfl (by kernel_rfl)) rfl ?_
  refine ⟨by rw [← HQ.out]; rfl, Below.setCell (Below.setCell (Below.setCell (Below.setCell (Below.setCell (Below.setCell (Below.setCell (Below.setCell (Below.setCell (HBB) hb6 _) hb6 _) hb6 _) hb6 _) hb6 _) hb6 _) hb6 _) hb6 _) hb6 _⟩
theorem fat_c (a d : Int) (S : List Int) (As : Option Addr) (cs : Nat) (K : List Bk) (Ak : Option Addr) (ck : Nat) (x y : Int) (w : World) (hS : ReadsI w As S) (hK : ReadsE EK w Ak K) (hn : S.length ≤ 9223372036854775807) (hm : K.length ≤ 9223372036854775807) :
    Calls Try.prog 18 #[flV a d (.slice As S.length cs) (.slice Ak K.length ck), .int .i64 x, .int .i64 y] w fun e w' => e = .returned (.tuple #[bkV (atK a d S K x y), .bool (atB a d S K x y)]) ∧ Below w.heap.size w w' := by
  unfold atK
  cases h : atB a d S K x y with
  | false =>
    have h' := h
    unfold atB at h'
    cases h1 : okFl a d S K with
    | false => exact fat_1 a d S As cs K Ak ck x y w hS hK hn hm h1
    | true =>
      rw [h1, Bool.true_and] at h'
      exact fat_2 a d S As cs K Ak ck x y w hS hK hn hm h1 h'
  | true =>
    unfold atB at h
    simp only [Bool.and_eq_true] at h
    exact fat_3 a d S As cs K Ak ck x y w hS hK hn hm h.1 h.2

end Go.Proofs.Ytiedjeholmoccaa
