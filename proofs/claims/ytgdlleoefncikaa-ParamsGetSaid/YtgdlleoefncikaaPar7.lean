/- Params: a video put. -/
import Derived.Test.YtgdlleoefncikaaPar6
import Derived.Test.YtgdlleoefncikaaGol5
import Derived.Test.YtgdlleoefncikaaBitsA
namespace Go.Proofs.Ytgdlleoefncikaa
open Go.RowKit Go.Sort
set_option linter.unusedVariables false
set_option linter.unusedSimpArgs false
/-- A group's bits. -/
def grpB (o : Bool) (l : List Int) : List Bool := if o = true then true :: l.flatMap codeB else [false]
def byB (v : Vd) (i : Nat) : List Bool := codeB 1 ++ codeB i ++ grpB (oth1 v (baseV i)) [v.W, v.H] ++ grpB (oth2 v (baseV i)) [v.C] ++ grpB (oth3 v (baseV i)) [v.B]
def putB (v : Vd) : List Bool := byB v (bestN v)
theorem grpB_len (o : Bool) (l : List Int) : (grpB o l).length ≤ 1 + 63 * l.length := by
  unfold grpB
  split
  · rw [List.length_cons]
    have : (l.flatMap codeB).length ≤ 63 * l.length := by
      induction l with
      | nil => simp
      | cons x l ih => rw [List.flatMap_cons, List.length_append, List.length_cons]; have := codeB_len x; omega
    omega
  · simp
theorem byB_len (v : Vd) (i : Nat) : (byB v i).length ≤ 500 := by
  unfold byB
  simp only [List.length_append]
  have h1 := codeB_len 1
  have h2 := codeB_len i
  have h3 := grpB_len (oth1 v (baseV i)) [v.W, v.H]
  have h4 := grpB_len (oth2 v (baseV i)) [v.C]
  have h5 := grpB_len (oth3 v (baseV i)) [v.B]
  simp only [List.length_cons, List.length_nil] at h3 h4 h5
  omega
theorem WGoes.blk {w w' : World} {B g : Nat} {bv : Value} {bs bs2 : List Bool} (h : WrI w B g bv bs) (hg : WGoes w w' B g bv bs2) {k : Nat} {t : TypeId} {cs : Array Value} (hb : Blk w k t cs) (h1 : 5 ≠ t) (h2 : t ≠ 54) : Blk w' k t cs := by
  obtain ⟨_, _, ht, _⟩ := hg
  exact (ht.block k hb.lt (hb.ne_ h.2.1 h2) (fun e => own_blk_ne h.2.2 hb h1 e.symm)).trans hb
theorem WGoes.below_ {w w' : World} {B g : Nat} {bv : Value} {bs bs2 : List Bool} (h : WrI w B g bv bs) (hg : WGoes w w' B g bv bs2) (hB : B ≤ w.heap.size) : Below B w w' := by
  obtain ⟨_, _, ht, _⟩ := hg
  exact ⟨ht.os, ht.tape, ht.output, ht.size, fun k hk => ht.block k (by omega) (by have := h.1; omega) (fun e => by have := (World.ownsRow.lt h.2.2 k e.symm).1; omega)⟩
theorem WGoes.wr_ {w w' : World} {B g : Nat} {bv : Value} {bs2 : List Bool} (hg : WGoes w w' B g bv bs2) : ∃ b2, WrI w' B g b2 bs2 := by
  obtain ⟨b2, h, _⟩ := hg
  exact ⟨b2, h⟩
theorem WrI.kept_ {w w' : World} {B g : Nat} {bv : Value} {bs : List Bool} (h : WrI w B g bv bs) (hb : Below w.heap.size w w') : WrI w' B g bv bs := ⟨h.1, h.2.1.below hb h.2.1.lt, h.2.2.kept hb⟩
theorem idx_tabk {k : Nat} (hk : k < 5) (w : World) : (Instr.index 42 (.agg tabV) (.int .i64 k)).run Try.prog w = .ok (vdV (baseV k)) w := by
  rcases (by omega : k = 0 ∨ k = 1 ∨ k = 2 ∨ k = 3 ∨ k = 4) with rfl | rfl | rfl | rfl | rfl
  · exact (idx_tab w).1
  · exact (idx_tab w).2.1
  · exact (idx_tab w).2.2.1
  · exact (idx_tab w).2.2.2.1
  · exact (idx_tab w).2.2.2.2
theorem packZ_pad (bs : List Bool) : packZ (padB bs) = packZ bs := by
  rw [packZ_tab, packZ_tab, padB_len]
  rw [show (8 * ((bs.length + 7) / 8) + 7) / 8 = (bs.length + 7) / 8 by omega]
  exact tab_congr fun i _ => byteZ_padB bs i
set_option maxRecDepth 100000 in
set_option maxHeartbeats 6400000 in
theorem pput_no (v : Vd) (w : World) (hr : rightVd v = false) : Calls Try.prog 11 #[vdV v] w fun e w' => e = .returned (.tuple #[.slice none 0 0, .int .i64 2]) ∧ Below w.heap.size w w' := by
  have HB := Lib.hid (Below.refl w.heap.size w)
  have HR := Lib.hid hr
  clear hr
  go_enter Try.func11, Try.ntmps11
  go_wp2_with fail
  have HB := Lib.hid (below_alloc_ (HB.out) (.cells #[.int .i64 v.W, .int .i64 v.H, .int .i64 v.C, .int .i64 v.B] 23))
  have hzw : (w.alloc (.cells #[.int .i64 v.W, .int .i64 v.H, .int .i64 v.C, .int .i64 v.B] 23)).heap.size = w.heap.size + 1 := by simp only [World.size_alloc]
  have B1 := Blk.new (w) 23 #[.int .i64 v.W, .int .i64 v.H, .int .i64 v.C, .int .i64 v.B]
  skip
  have B1 := Lib.hid B1
  generalize w.alloc (.cells #[.int .i64 v.W, .int .i64 v.H, .int .i64 v.C, .int .i64 v.B] 23) = w1 at *
  clear hzw
  have HB1 := Lib.hid (Below.refl w1.heap.size w1)
  obtain ⟨zB10, zB11, zB12, zB13⟩ := (B1.out.below HB1.out B1.out.lt).cells4
  go_wp2_with fail
  clear zB10 zB11 zB12 zB13
  refine (precon_c v _).mono ?_
  rintro e w2 ⟨rfl, hb'⟩
  have HB1 := Lib.hid ((HB1.out).trans (hb'.mono (HB1.out).size))
  clear hb'
  rw [HR.out]
  obtain ⟨zB10, zB11, zB12, zB13⟩ := (B1.out.below HB1.out B1.out.lt).cells4
  go_wp2_with fail
  clear zB10 zB11 zB12 zB13
  go_ret2
  exact ⟨rfl, HB.out.trans (HB1.out.mono HB.out.size)⟩
set_option maxRecDepth 100000 in
set_option maxHeartbeats 6400000 in
theorem pput_0 (v : Vd) (w : World) (hr : rightVd v = true) (h1 : oth1 v (baseV (bestN v)) = false) (h2 : oth2 v (baseV (bestN v)) = false) (h3 : oth3 v (baseV (bestN v)) = false) : Calls Try.prog 11 #[vdV v] w fun e w' => ∃ u, e = .returned (.tuple #[u, .int .i64 0]) ∧ OwnB w' w.heap.size u (packZ (padB (putB v))) ∧ Below w.heap.size w w' := by
  have HB := Lib.hid (Below.refl w.heap.size w)
  have HR := Lib.hid hr
  obtain ⟨k, hk⟩ : ∃ k, k = bestN v := ⟨_, rfl⟩
  have k5 : k < 5 := by rw [hk]; exact bstK_lt v 5 (Nat.le_refl _)
  obtain ⟨b, hb⟩ : ∃ b, b = baseV k := ⟨_, rfl⟩
  unfold putB byB
  rw [← hk, ← hb]
  rw [← hk, ← hb] at h1 h2 h3
  have HK := Lib.hid hk.symm
  have HBK := Lib.hid hb.symm
  have H1 := Lib.hid h1
  have H2 := Lib.hid h2
  have H3 := Lib.hid h3
  rw [h1, h2, h3]
  clear hr hk hb h1 h2 h3
  have jt : ∀ w, (Instr.index 42 (.agg tabV) (.int .i64 k)).run Try.prog w = .ok (vdV b) w := fun w => by rw [← HBK.out]; exact idx_tabk k5 w
  obtain ⟨res, hres⟩ : ∃ l, l = codeB 1 ++ codeB (k : Int) ++ grpB false [v.W, v.H] ++ grpB false [v.C] ++ grpB false [v.B] := ⟨_, rfl⟩
  rw [← hres]
  have HRES := Lib.hid hres
  clear hres
  have HJT := Lib.hid jt
  clear jt
  go_enter Try.func11, Try.ntmps11
  go_wp2_with fail
  have HB := Lib.hid (below_alloc_ (HB.out) (.cells #[.int .i64 v.W, .int .i64 v.H, .int .i64 v.C, .int .i64 v.B] 23))
  have hzw : (w.alloc (.cells #[.int .i64 v.W, .int .i64 v.H, .int .i64 v.C, .int .i64 v.B] 23)).heap.size = w.heap.size + 1 := by simp only [World.size_alloc]
  have B1 := Blk.new (w) 23 #[.int .i64 v.W, .int .i64 v.H, .int .i64 v.C, .int .i64 v.B]
  skip
  have B1 := Lib.hid B1
  generalize w.alloc (.cells #[.int .i64 v.W, .int .i64 v.H, .int .i64 v.C, .int .i64 v.B] 23) = w1 at *
  clear hzw
  have HB1 := Lib.hid (Below.refl w1.heap.size w1)
  obtain ⟨zB10, zB11, zB12, zB13⟩ := (B1.out.below HB1.out B1.out.lt).cells4
  go_wp2_with fail
  clear zB10 zB11 zB12 zB13
  refine (precon_c v _).mono ?_
  rintro e w2 ⟨rfl, hb'⟩
  have HB1 := Lib.hid ((HB1.out).trans (hb'.mono (HB1.out).size))
  clear hb'
  rw [HR.out]
  have B1 := Lib.hid (B1.out.below HB1.out B1.out.lt)
  have HB := Lib.hid (HB.out.trans (HB1.out.mono HB.out.size))
  have HB1 := Lib.hid (Below.refl w2.heap.size w2)
  go_upto_region 4 with fail
  have HB1 := Lib.hid (below_alloc_ (HB1.out) (.cells #[.slice none 0 0, .int .i64 0] 54))
  have hzw : (w2.alloc (.cells #[.slice none 0 0, .int .i64 0] 54)).heap.size = w2.heap.size + 1 := by simp only [World.size_alloc]
  have BW := Blk.new (w2) 54 #[.slice none 0 0, .int .i64 0]
  skip
  have BW := Lib.hid BW
  generalize w2.alloc (.cells #[.slice none 0 0, .int .i64 0] 54) = w3 at *
  clear hzw
  obtain ⟨g, hg⟩ : ∃ g, g = w2.heap.size := ⟨_, rfl⟩
  rw [← hg] at BW ⊢
  have WR := Lib.hid (show WrI w3 w2.heap.size g (.slice none 0 0) [] from ⟨Nat.le_of_eq hg.symm, BW.out, OwnB.nil _ _⟩)
  clear hg BW
  obtain ⟨zB10, zB11, zB12, zB13⟩ := (B1.out.below HB1.out B1.out.lt).cells4
  go_wp2_with fail
  clear zB10 zB11 zB12 zB13
  refine (gput_c _ g [] 1 (.slice none 0 0) w3 WR.out (by simp) HB1.out.size).mono ?_
  rintro e w4 ⟨rfl, hgo⟩
  have HB1 := Lib.hid (HB1.out.trans (WGoes.below_ WR.out hgo HB1.out.size))
  obtain ⟨bv1, hw⟩ := WGoes.wr_ hgo
  obtain ⟨c1, hc1⟩ : ∃ c, c = [] ++ codeB 1 := ⟨_, rfl⟩
  rw [← hc1] at hw
  have WR := Lib.hid hw
  have l1 : c1.length ≤ 63 := by rw [hc1, List.length_append]; have := codeB_len (1); simp only [List.length_nil];  omega
  have HC1 := Lib.hid hc1
  clear hw hgo hc1
  obtain ⟨zB10, zB11, zB12, zB13⟩ := (B1.out.below HB1.out B1.out.lt).cells4
  go_wp2_with fail
  clear zB10 zB11 zB12 zB13
  refine (pbest_c v _).mono ?_
  rintro e w5 ⟨rfl, hb'⟩
  have WR := Lib.hid (WR.out.kept_ hb')
  have HB1 := Lib.hid ((HB1.out).trans (hb'.mono (HB1.out).size))
  clear hb'
  rw [HK.out]
  obtain ⟨zB10, zB11, zB12, zB13⟩ := (B1.out.below HB1.out B1.out.lt).cells4
  go_wp2_with fail
  clear zB10 zB11 zB12 zB13
  refine (gput_c _ g c1 (k : Int) (bv1) w5 WR.out (by omega) HB1.out.size).mono ?_
  rintro e w6 ⟨rfl, hgo⟩
  have HB1 := Lib.hid (HB1.out.trans (WGoes.below_ WR.out hgo HB1.out.size))
  obtain ⟨bv2, hw⟩ := WGoes.wr_ hgo
  obtain ⟨c2, hc2⟩ : ∃ c, c = c1 ++ codeB (k : Int) := ⟨_, rfl⟩
  rw [← hc2] at hw
  have WR := Lib.hid hw
  have l2 : c2.length ≤ 126 := by rw [hc2, List.length_append]; have := codeB_len (k : Int);  omega
  have HC2 := Lib.hid hc2
  clear hw hgo hc2
  go_upto_region 7 with fail
  have jt := HJT.out
  obtain ⟨zB10, zB11, zB12, zB13⟩ := (B1.out.below HB1.out B1.out.lt).cells4
  have HWR := Lib.hid WR.out
  have HBq := Lib.hid (Below.refl w6.heap.size w6)
  have kq0 := cell_regrown zB10
  have kq1 := cell_regrown zB11
  have kq2 := cell_regrown zB12
  have kq3 := cell_regrown zB13
  have qc0 := fun (d : Nat) (os : Array Obj) => Calls.regrown_of (ptable_c (grow (redrawn w6 d) os))
  have qc1 := fun (d : Nat) (os : Array Obj) => Calls.regrown_of ((by have h := pothers_c v b (grow (redrawn w6 d) os); rw [H1.out, H2.out, H3.out] at h; exact h))
  clear zB10 zB11 zB12 zB13
  refine wp_region_quiet_below (by kernel_rfl) (by kernel_rfl) ?_
  repeat (go_big_quiet_step (first | with_reducible exact qc0 _ _ | with_reducible exact qc1 _ _))
  refine wpQuiet_nil ?_
  intro _ hw'
  obtain ⟨⟨dq, osq⟩, hw''⟩ := hw'
  subst hw''
  have hb' := below_regrown w6 dq osq
  clear kq0 kq1 kq2 kq3 qc0 qc1
  have HB1 := Lib.hid ((HB1.out).trans (hb'.mono (HB1.out).size))
  have HBq := Lib.hid ((HBq.out).trans (hb'.mono (HBq.out).size))
  clear hb'
  generalize grow (redrawn w6 dq) osq = w7 at *
  have WR := Lib.hid (WR.out.kept_ HBq.out)
  clear HBq HWR jt
  have j0 := Lib.hid (fun a b c w => (idx_bool a b c w).1)
  have j1 := Lib.hid (fun a b c w => (idx_bool a b c w).2.1)
  have j2 := Lib.hid (fun a b c w => (idx_bool a b c w).2.2)
  have i0 := Lib.hid (fun a b c w => (idx_grp a b c w).1)
  have i1 := Lib.hid (fun a b c w => (idx_grp a b c w).2.1)
  have i2 := Lib.hid (fun a b c w => (idx_grp a b c w).2.2)
  go_wp2_with fail
  refine wp_loop_rounds 4 ?_
  rw [rounds_succ]
  have jj := j0.out
  go_wp2_with fail
  clear jj
  refine (wbit_goes _ g c2 false (bv2) w7 WR.out (by omega) HB1.out.size).mono ?_
  rintro e w8 ⟨rfl, hgo⟩
  have HB1 := Lib.hid (HB1.out.trans (WGoes.below_ WR.out hgo HB1.out.size))
  obtain ⟨bv3, hw⟩ := WGoes.wr_ hgo
  obtain ⟨c3, hc3⟩ : ∃ c, c = c2 ++ [false] := ⟨_, rfl⟩
  rw [← hc3] at hw
  have WR := Lib.hid hw
  have l3 : c3.length ≤ 127 := by rw [hc3, List.length_append]; simp; omega
  have HC3 := Lib.hid hc3
  clear hw hgo hc3
  go_wp2_with fail
  rw [rounds_succ]
  have jj := j1.out
  go_wp2_with fail
  clear jj
  refine (wbit_goes _ g c3 false (bv3) w8 WR.out (by omega) HB1.out.size).mono ?_
  rintro e w9 ⟨rfl, hgo⟩
  have HB1 := Lib.hid (HB1.out.trans (WGoes.below_ WR.out hgo HB1.out.size))
  obtain ⟨bv4, hw⟩ := WGoes.wr_ hgo
  obtain ⟨c4, hc4⟩ : ∃ c, c = c3 ++ [false] := ⟨_, rfl⟩
  rw [← hc4] at hw
  have WR := Lib.hid hw
  have l4 : c4.length ≤ 128 := by rw [hc4, List.length_append]; simp; omega
  have HC4 := Lib.hid hc4
  clear hw hgo hc4
  go_wp2_with fail
  rw [rounds_succ]
  have jj := j2.out
  go_wp2_with fail
  clear jj
  refine (wbit_goes _ g c4 false (bv4) w9 WR.out (by omega) HB1.out.size).mono ?_
  rintro e w10 ⟨rfl, hgo⟩
  have HB1 := Lib.hid (HB1.out.trans (WGoes.below_ WR.out hgo HB1.out.size))
  obtain ⟨bv5, hw⟩ := WGoes.wr_ hgo
  obtain ⟨c5, hc5⟩ : ∃ c, c = c4 ++ [false] := ⟨_, rfl⟩
  rw [← hc5] at hw
  have WR := Lib.hid hw
  have l5 : c5.length ≤ 129 := by rw [hc5, List.length_append]; simp; omega
  have HC5 := Lib.hid hc5
  clear hw hgo hc5
  go_wp2_with fail
  rw [rounds_succ]
  go_wp2_with fail
  refine (walign_c _ g c5 (bv5) w10 WR.out (by omega) HB1.out.size).mono ?_
  rintro e w11 ⟨rfl, hgo⟩
  have HB1 := Lib.hid (HB1.out.trans (WGoes.below_ WR.out hgo HB1.out.size))
  obtain ⟨bvz, hw⟩ := WGoes.wr_ hgo
  have WR := Lib.hid hw
  clear hw hgo
  have lz : (padB c5).length ≤ 100000 := by rw [padB_len]; omega
  go_wp2_with fail
  have HSZ := Lib.hid (Nat.le_trans HB.out.size HB1.out.size)
  refine (wbytes_c _ g _ _ _ WR.out (by omega)).mono ?_
  rintro e w12 ⟨vv, rfl, ho, hb'⟩
  have OV := Lib.hid ho
  have HB1 := Lib.hid (HB1.out.trans (hb'.mono HB1.out.size))
  clear ho
  have HRE := Lib.hid (show c5 = res by rw [HRES.out, HC5.out, HC4.out, HC3.out, HC2.out, HC1.out]; simp [grpB])
  rw [HRE.out] at OV
  go_wp2_with fail
  go_ret2
  exact ⟨_, rfl, OV.out.lower HSZ.out, HB.out.trans (HB1.out.mono HB.out.size)⟩
set_option maxRecDepth 100000 in
set_option maxHeartbeats 6400000 in
theorem pput_1 (v : Vd) (w : World) (hr : rightVd v = true) (h1 : oth1 v (baseV (bestN v)) = false) (h2 : oth2 v (baseV (bestN v)) = false) (h3 : oth3 v (baseV (bestN v)) = true) : Calls Try.prog 11 #[vdV v] w fun e w' => ∃ u, e = .returned (.tuple #[u, .int .i64 0]) ∧ OwnB w' w.heap.size u (packZ (padB (putB v))) ∧ Below w.heap.size w w' := by
  have HB := Lib.hid (Below.refl w.heap.size w)
  have HR := Lib.hid hr
  obtain ⟨k, hk⟩ : ∃ k, k = bestN v := ⟨_, rfl⟩
  have k5 : k < 5 := by rw [hk]; exact bstK_lt v 5 (Nat.le_refl _)
  obtain ⟨b, hb⟩ : ∃ b, b = baseV k := ⟨_, rfl⟩
  unfold putB byB
  rw [← hk, ← hb]
  rw [← hk, ← hb] at h1 h2 h3
  have HK := Lib.hid hk.symm
  have HBK := Lib.hid hb.symm
  have H1 := Lib.hid h1
  have H2 := Lib.hid h2
  have H3 := Lib.hid h3
  rw [h1, h2, h3]
  clear hr hk hb h1 h2 h3
  have jt : ∀ w, (Instr.index 42 (.agg tabV) (.int .i64 k)).run Try.prog w = .ok (vdV b) w := fun w => by rw [← HBK.out]; exact idx_tabk k5 w
  obtain ⟨res, hres⟩ : ∃ l, l = codeB 1 ++ codeB (k : Int) ++ grpB false [v.W, v.H] ++ grpB false [v.C] ++ grpB true [v.B] := ⟨_, rfl⟩
  rw [← hres]
  have HRES := Lib.hid hres
  clear hres
  have HJT := Lib.hid jt
  clear jt
  go_enter Try.func11, Try.ntmps11
  go_wp2_with fail
  have HB := Lib.hid (below_alloc_ (HB.out) (.cells #[.int .i64 v.W, .int .i64 v.H, .int .i64 v.C, .int .i64 v.B] 23))
  have hzw : (w.alloc (.cells #[.int .i64 v.W, .int .i64 v.H, .int .i64 v.C, .int .i64 v.B] 23)).heap.size = w.heap.size + 1 := by simp only [World.size_alloc]
  have B1 := Blk.new (w) 23 #[.int .i64 v.W, .int .i64 v.H, .int .i64 v.C, .int .i64 v.B]
  skip
  have B1 := Lib.hid B1
  generalize w.alloc (.cells #[.int .i64 v.W, .int .i64 v.H, .int .i64 v.C, .int .i64 v.B] 23) = w1 at *
  clear hzw
  have HB1 := Lib.hid (Below.refl w1.heap.size w1)
  obtain ⟨zB10, zB11, zB12, zB13⟩ := (B1.out.below HB1.out B1.out.lt).cells4
  go_wp2_with fail
  clear zB10 zB11 zB12 zB13
  refine (precon_c v _).mono ?_
  rintro e w2 ⟨rfl, hb'⟩
  have HB1 := Lib.hid ((HB1.out).trans (hb'.mono (HB1.out).size))
  clear hb'
  rw [HR.out]
  have B1 := Lib.hid (B1.out.below HB1.out B1.out.lt)
  have HB := Lib.hid (HB.out.trans (HB1.out.mono HB.out.size))
  have HB1 := Lib.hid (Below.refl w2.heap.size w2)
  go_upto_region 4 with fail
  have HB1 := Lib.hid (below_alloc_ (HB1.out) (.cells #[.slice none 0 0, .int .i64 0] 54))
  have hzw : (w2.alloc (.cells #[.slice none 0 0, .int .i64 0] 54)).heap.size = w2.heap.size + 1 := by simp only [World.size_alloc]
  have BW := Blk.new (w2) 54 #[.slice none 0 0, .int .i64 0]
  skip
  have BW := Lib.hid BW
  generalize w2.alloc (.cells #[.slice none 0 0, .int .i64 0] 54) = w3 at *
  clear hzw
  obtain ⟨g, hg⟩ : ∃ g, g = w2.heap.size := ⟨_, rfl⟩
  rw [← hg] at BW ⊢
  have WR := Lib.hid (show WrI w3 w2.heap.size g (.slice none 0 0) [] from ⟨Nat.le_of_eq hg.symm, BW.out, OwnB.nil _ _⟩)
  clear hg BW
  obtain ⟨zB10, zB11, zB12, zB13⟩ := (B1.out.below HB1.out B1.out.lt).cells4
  go_wp2_with fail
  clear zB10 zB11 zB12 zB13
  refine (gput_c _ g [] 1 (.slice none 0 0) w3 WR.out (by simp) HB1.out.size).mono ?_
  rintro e w4 ⟨rfl, hgo⟩
  have HB1 := Lib.hid (HB1.out.trans (WGoes.below_ WR.out hgo HB1.out.size))
  obtain ⟨bv1, hw⟩ := WGoes.wr_ hgo
  obtain ⟨c1, hc1⟩ : ∃ c, c = [] ++ codeB 1 := ⟨_, rfl⟩
  rw [← hc1] at hw
  have WR := Lib.hid hw
  have l1 : c1.length ≤ 63 := by rw [hc1, List.length_append]; have := codeB_len (1); simp only [List.length_nil];  omega
  have HC1 := Lib.hid hc1
  clear hw hgo hc1
  obtain ⟨zB10, zB11, zB12, zB13⟩ := (B1.out.below HB1.out B1.out.lt).cells4
  go_wp2_with fail
  clear zB10 zB11 zB12 zB13
  refine (pbest_c v _).mono ?_
  rintro e w5 ⟨rfl, hb'⟩
  have WR := Lib.hid (WR.out.kept_ hb')
  have HB1 := Lib.hid ((HB1.out).trans (hb'.mono (HB1.out).size))
  clear hb'
  rw [HK.out]
  obtain ⟨zB10, zB11, zB12, zB13⟩ := (B1.out.below HB1.out B1.out.lt).cells4
  go_wp2_with fail
  clear zB10 zB11 zB12 zB13
  refine (gput_c _ g c1 (k : Int) (bv1) w5 WR.out (by omega) HB1.out.size).mono ?_
  rintro e w6 ⟨rfl, hgo⟩
  have HB1 := Lib.hid (HB1.out.trans (WGoes.below_ WR.out hgo HB1.out.size))
  obtain ⟨bv2, hw⟩ := WGoes.wr_ hgo
  obtain ⟨c2, hc2⟩ : ∃ c, c = c1 ++ codeB (k : Int) := ⟨_, rfl⟩
  rw [← hc2] at hw
  have WR := Lib.hid hw
  have l2 : c2.length ≤ 126 := by rw [hc2, List.length_append]; have := codeB_len (k : Int);  omega
  have HC2 := Lib.hid hc2
  clear hw hgo hc2
  go_upto_region 7 with fail
  have jt := HJT.out
  obtain ⟨zB10, zB11, zB12, zB13⟩ := (B1.out.below HB1.out B1.out.lt).cells4
  have HWR := Lib.hid WR.out
  have HBq := Lib.hid (Below.refl w6.heap.size w6)
  have kq0 := cell_regrown zB10
  have kq1 := cell_regrown zB11
  have kq2 := cell_regrown zB12
  have kq3 := cell_regrown zB13
  have qc0 := fun (d : Nat) (os : Array Obj) => Calls.regrown_of (ptable_c (grow (redrawn w6 d) os))
  have qc1 := fun (d : Nat) (os : Array Obj) => Calls.regrown_of ((by have h := pothers_c v b (grow (redrawn w6 d) os); rw [H1.out, H2.out, H3.out] at h; exact h))
  clear zB10 zB11 zB12 zB13
  refine wp_region_quiet_below (by kernel_rfl) (by kernel_rfl) ?_
  repeat (go_big_quiet_step (first | with_reducible exact qc0 _ _ | with_reducible exact qc1 _ _))
  refine wpQuiet_nil ?_
  intro _ hw'
  obtain ⟨⟨dq, osq⟩, hw''⟩ := hw'
  subst hw''
  have hb' := below_regrown w6 dq osq
  clear kq0 kq1 kq2 kq3 qc0 qc1
  have HB1 := Lib.hid ((HB1.out).trans (hb'.mono (HB1.out).size))
  have HBq := Lib.hid ((HBq.out).trans (hb'.mono (HBq.out).size))
  clear hb'
  generalize grow (redrawn w6 dq) osq = w7 at *
  have WR := Lib.hid (WR.out.kept_ HBq.out)
  clear HBq HWR jt
  have j0 := Lib.hid (fun a b c w => (idx_bool a b c w).1)
  have j1 := Lib.hid (fun a b c w => (idx_bool a b c w).2.1)
  have j2 := Lib.hid (fun a b c w => (idx_bool a b c w).2.2)
  have i0 := Lib.hid (fun a b c w => (idx_grp a b c w).1)
  have i1 := Lib.hid (fun a b c w => (idx_grp a b c w).2.1)
  have i2 := Lib.hid (fun a b c w => (idx_grp a b c w).2.2)
  go_wp2_with fail
  refine wp_loop_rounds 4 ?_
  rw [rounds_succ]
  have jj := j0.out
  go_wp2_with fail
  clear jj
  refine (wbit_goes _ g c2 false (bv2) w7 WR.out (by omega) HB1.out.size).mono ?_
  rintro e w8 ⟨rfl, hgo⟩
  have HB1 := Lib.hid (HB1.out.trans (WGoes.below_ WR.out hgo HB1.out.size))
  obtain ⟨bv3, hw⟩ := WGoes.wr_ hgo
  obtain ⟨c3, hc3⟩ : ∃ c, c = c2 ++ [false] := ⟨_, rfl⟩
  rw [← hc3] at hw
  have WR := Lib.hid hw
  have l3 : c3.length ≤ 127 := by rw [hc3, List.length_append]; simp; omega
  have HC3 := Lib.hid hc3
  clear hw hgo hc3
  go_wp2_with fail
  rw [rounds_succ]
  have jj := j1.out
  go_wp2_with fail
  clear jj
  refine (wbit_goes _ g c3 false (bv3) w8 WR.out (by omega) HB1.out.size).mono ?_
  rintro e w9 ⟨rfl, hgo⟩
  have HB1 := Lib.hid (HB1.out.trans (WGoes.below_ WR.out hgo HB1.out.size))
  obtain ⟨bv4, hw⟩ := WGoes.wr_ hgo
  obtain ⟨c4, hc4⟩ : ∃ c, c = c3 ++ [false] := ⟨_, rfl⟩
  rw [← hc4] at hw
  have WR := Lib.hid hw
  have l4 : c4.length ≤ 128 := by rw [hc4, List.length_append]; simp; omega
  have HC4 := Lib.hid hc4
  clear hw hgo hc4
  go_wp2_with fail
  rw [rounds_succ]
  have jj := j2.out
  go_wp2_with fail
  clear jj
  refine (wbit_goes _ g c4 true (bv4) w9 WR.out (by omega) HB1.out.size).mono ?_
  rintro e w10 ⟨rfl, hgo⟩
  have HB1 := Lib.hid (HB1.out.trans (WGoes.below_ WR.out hgo HB1.out.size))
  obtain ⟨bv5, hw⟩ := WGoes.wr_ hgo
  obtain ⟨c5, hc5⟩ : ∃ c, c = c4 ++ [true] := ⟨_, rfl⟩
  rw [← hc5] at hw
  have WR := Lib.hid hw
  have l5 : c5.length ≤ 129 := by rw [hc5, List.length_append]; simp; omega
  have HC5 := Lib.hid hc5
  clear hw hgo hc5
  go_wp2_with fail
  refine (pgroups_c _ _).mono ?_
  rintro e w11 ⟨g1, g2, g3, rfl, _, _, _, hg1, hg2, hg3, hb'⟩
  have WR := Lib.hid (WR.out.kept_ hb')
  have HB1 := Lib.hid ((HB1.out).trans (hb'.mono (HB1.out).size))
  have GG := Lib.hid hg3
  clear hg1 hg2 hg3 hb'
  have ii := i2.out
  go_wp2_with fail
  clear ii
  refine wp_loop_rounds 2 ?_
  rw [rounds_succ]
  obtain ⟨zB10, zB11, zB12, zB13⟩ := (B1.out.below HB1.out B1.out.lt).cells4
  have zg := GG.out.cell 0
  go_wp2_with fail
  clear zg
  clear zB10 zB11 zB12 zB13
  refine (gput_c _ g c5 v.B (bv5) w11 WR.out (by omega) HB1.out.size).mono ?_
  rintro e w12 ⟨rfl, hgo⟩
  have HB1 := Lib.hid (HB1.out.trans (WGoes.below_ WR.out hgo HB1.out.size))
  have GG := Lib.hid (WGoes.blk WR.out hgo GG.out (by decide) (by decide))
  obtain ⟨bv6, hw⟩ := WGoes.wr_ hgo
  obtain ⟨c6, hc6⟩ : ∃ c, c = c5 ++ codeB v.B := ⟨_, rfl⟩
  rw [← hc6] at hw
  have WR := Lib.hid hw
  have l6 : c6.length ≤ 192 := by rw [hc6, List.length_append]; have := codeB_len (v.B);  omega
  have HC6 := Lib.hid hc6
  clear hw hgo hc6
  go_wp2_with fail
  rw [rounds_succ]
  go_wp2_with fail
  clear GG
  rw [rounds_succ]
  go_wp2_with fail
  refine (walign_c _ g c6 (bv6) w12 WR.out (by omega) HB1.out.size).mono ?_
  rintro e w13 ⟨rfl, hgo⟩
  have HB1 := Lib.hid (HB1.out.trans (WGoes.below_ WR.out hgo HB1.out.size))
  obtain ⟨bvz, hw⟩ := WGoes.wr_ hgo
  have WR := Lib.hid hw
  clear hw hgo
  have lz : (padB c6).length ≤ 100000 := by rw [padB_len]; omega
  go_wp2_with fail
  have HSZ := Lib.hid (Nat.le_trans HB.out.size HB1.out.size)
  refine (wbytes_c _ g _ _ _ WR.out (by omega)).mono ?_
  rintro e w14 ⟨vv, rfl, ho, hb'⟩
  have OV := Lib.hid ho
  have HB1 := Lib.hid (HB1.out.trans (hb'.mono HB1.out.size))
  clear ho
  have HRE := Lib.hid (show c6 = res by rw [HRES.out, HC6.out, HC5.out, HC4.out, HC3.out, HC2.out, HC1.out]; simp [grpB])
  rw [HRE.out] at OV
  go_wp2_with fail
  go_ret2
  exact ⟨_, rfl, OV.out.lower HSZ.out, HB.out.trans (HB1.out.mono HB.out.size)⟩
set_option maxRecDepth 100000 in
set_option maxHeartbeats 6400000 in
theorem pput_2 (v : Vd) (w : World) (hr : rightVd v = true) (h1 : oth1 v (baseV (bestN v)) = false) (h2 : oth2 v (baseV (bestN v)) = true) (h3 : oth3 v (baseV (bestN v)) = false) : Calls Try.prog 11 #[vdV v] w fun e w' => ∃ u, e = .returned (.tuple #[u, .int .i64 0]) ∧ OwnB w' w.heap.size u (packZ (padB (putB v))) ∧ Below w.heap.size w w' := by
  have HB := Lib.hid (Below.refl w.heap.size w)
  have HR := Lib.hid hr
  obtain ⟨k, hk⟩ : ∃ k, k = bestN v := ⟨_, rfl⟩
  have k5 : k < 5 := by rw [hk]; exact bstK_lt v 5 (Nat.le_refl _)
  obtain ⟨b, hb⟩ : ∃ b, b = baseV k := ⟨_, rfl⟩
  unfold putB byB
  rw [← hk, ← hb]
  rw [← hk, ← hb] at h1 h2 h3
  have HK := Lib.hid hk.symm
  have HBK := Lib.hid hb.symm
  have H1 := Lib.hid h1
  have H2 := Lib.hid h2
  have H3 := Lib.hid h3
  rw [h1, h2, h3]
  clear hr hk hb h1 h2 h3
  have jt : ∀ w, (Instr.index 42 (.agg tabV) (.int .i64 k)).run Try.prog w = .ok (vdV b) w := fun w => by rw [← HBK.out]; exact idx_tabk k5 w
  obtain ⟨res, hres⟩ : ∃ l, l = codeB 1 ++ codeB (k : Int) ++ grpB false [v.W, v.H] ++ grpB true [v.C] ++ grpB false [v.B] := ⟨_, rfl⟩
  rw [← hres]
  have HRES := Lib.hid hres
  clear hres
  have HJT := Lib.hid jt
  clear jt
  go_enter Try.func11, Try.ntmps11
  go_wp2_with fail
  have HB := Lib.hid (below_alloc_ (HB.out) (.cells #[.int .i64 v.W, .int .i64 v.H, .int .i64 v.C, .int .i64 v.B] 23))
  have hzw : (w.alloc (.cells #[.int .i64 v.W, .int .i64 v.H, .int .i64 v.C, .int .i64 v.B] 23)).heap.size = w.heap.size + 1 := by simp only [World.size_alloc]
  have B1 := Blk.new (w) 23 #[.int .i64 v.W, .int .i64 v.H, .int .i64 v.C, .int .i64 v.B]
  skip
  have B1 := Lib.hid B1
  generalize w.alloc (.cells #[.int .i64 v.W, .int .i64 v.H, .int .i64 v.C, .int .i64 v.B] 23) = w1 at *
  clear hzw
  have HB1 := Lib.hid (Below.refl w1.heap.size w1)
  obtain ⟨zB10, zB11, zB12, zB13⟩ := (B1.out.below HB1.out B1.out.lt).cells4
  go_wp2_with fail
  clear zB10 zB11 zB12 zB13
  refine (precon_c v _).mono ?_
  rintro e w2 ⟨rfl, hb'⟩
  have HB1 := Lib.hid ((HB1.out).trans (hb'.mono (HB1.out).size))
  clear hb'
  rw [HR.out]
  have B1 := Lib.hid (B1.out.below HB1.out B1.out.lt)
  have HB := Lib.hid (HB.out.trans (HB1.out.mono HB.out.size))
  have HB1 := Lib.hid (Below.refl w2.heap.size w2)
  go_upto_region 4 with fail
  have HB1 := Lib.hid (below_alloc_ (HB1.out) (.cells #[.slice none 0 0, .int .i64 0] 54))
  have hzw : (w2.alloc (.cells #[.slice none 0 0, .int .i64 0] 54)).heap.size = w2.heap.size + 1 := by simp only [World.size_alloc]
  have BW := Blk.new (w2) 54 #[.slice none 0 0, .int .i64 0]
  skip
  have BW := Lib.hid BW
  generalize w2.alloc (.cells #[.slice none 0 0, .int .i64 0] 54) = w3 at *
  clear hzw
  obtain ⟨g, hg⟩ : ∃ g, g = w2.heap.size := ⟨_, rfl⟩
  rw [← hg] at BW ⊢
  have WR := Lib.hid (show WrI w3 w2.heap.size g (.slice none 0 0) [] from ⟨Nat.le_of_eq hg.symm, BW.out, OwnB.nil _ _⟩)
  clear hg BW
  obtain ⟨zB10, zB11, zB12, zB13⟩ := (B1.out.below HB1.out B1.out.lt).cells4
  go_wp2_with fail
  clear zB10 zB11 zB12 zB13
  refine (gput_c _ g [] 1 (.slice none 0 0) w3 WR.out (by simp) HB1.out.size).mono ?_
  rintro e w4 ⟨rfl, hgo⟩
  have HB1 := Lib.hid (HB1.out.trans (WGoes.below_ WR.out hgo HB1.out.size))
  obtain ⟨bv1, hw⟩ := WGoes.wr_ hgo
  obtain ⟨c1, hc1⟩ : ∃ c, c = [] ++ codeB 1 := ⟨_, rfl⟩
  rw [← hc1] at hw
  have WR := Lib.hid hw
  have l1 : c1.length ≤ 63 := by rw [hc1, List.length_append]; have := codeB_len (1); simp only [List.length_nil];  omega
  have HC1 := Lib.hid hc1
  clear hw hgo hc1
  obtain ⟨zB10, zB11, zB12, zB13⟩ := (B1.out.below HB1.out B1.out.lt).cells4
  go_wp2_with fail
  clear zB10 zB11 zB12 zB13
  refine (pbest_c v _).mono ?_
  rintro e w5 ⟨rfl, hb'⟩
  have WR := Lib.hid (WR.out.kept_ hb')
  have HB1 := Lib.hid ((HB1.out).trans (hb'.mono (HB1.out).size))
  clear hb'
  rw [HK.out]
  obtain ⟨zB10, zB11, zB12, zB13⟩ := (B1.out.below HB1.out B1.out.lt).cells4
  go_wp2_with fail
  clear zB10 zB11 zB12 zB13
  refine (gput_c _ g c1 (k : Int) (bv1) w5 WR.out (by omega) HB1.out.size).mono ?_
  rintro e w6 ⟨rfl, hgo⟩
  have HB1 := Lib.hid (HB1.out.trans (WGoes.below_ WR.out hgo HB1.out.size))
  obtain ⟨bv2, hw⟩ := WGoes.wr_ hgo
  obtain ⟨c2, hc2⟩ : ∃ c, c = c1 ++ codeB (k : Int) := ⟨_, rfl⟩
  rw [← hc2] at hw
  have WR := Lib.hid hw
  have l2 : c2.length ≤ 126 := by rw [hc2, List.length_append]; have := codeB_len (k : Int);  omega
  have HC2 := Lib.hid hc2
  clear hw hgo hc2
  go_upto_region 7 with fail
  have jt := HJT.out
  obtain ⟨zB10, zB11, zB12, zB13⟩ := (B1.out.below HB1.out B1.out.lt).cells4
  have HWR := Lib.hid WR.out
  have HBq := Lib.hid (Below.refl w6.heap.size w6)
  have kq0 := cell_regrown zB10
  have kq1 := cell_regrown zB11
  have kq2 := cell_regrown zB12
  have kq3 := cell_regrown zB13
  have qc0 := fun (d : Nat) (os : Array Obj) => Calls.regrown_of (ptable_c (grow (redrawn w6 d) os))
  have qc1 := fun (d : Nat) (os : Array Obj) => Calls.regrown_of ((by have h := pothers_c v b (grow (redrawn w6 d) os); rw [H1.out, H2.out, H3.out] at h; exact h))
  clear zB10 zB11 zB12 zB13
  refine wp_region_quiet_below (by kernel_rfl) (by kernel_rfl) ?_
  repeat (go_big_quiet_step (first | with_reducible exact qc0 _ _ | with_reducible exact qc1 _ _))
  refine wpQuiet_nil ?_
  intro _ hw'
  obtain ⟨⟨dq, osq⟩, hw''⟩ := hw'
  subst hw''
  have hb' := below_regrown w6 dq osq
  clear kq0 kq1 kq2 kq3 qc0 qc1
  have HB1 := Lib.hid ((HB1.out).trans (hb'.mono (HB1.out).size))
  have HBq := Lib.hid ((HBq.out).trans (hb'.mono (HBq.out).size))
  clear hb'
  generalize grow (redrawn w6 dq) osq = w7 at *
  have WR := Lib.hid (WR.out.kept_ HBq.out)
  clear HBq HWR jt
  have j0 := Lib.hid (fun a b c w => (idx_bool a b c w).1)
  have j1 := Lib.hid (fun a b c w => (idx_bool a b c w).2.1)
  have j2 := Lib.hid (fun a b c w => (idx_bool a b c w).2.2)
  have i0 := Lib.hid (fun a b c w => (idx_grp a b c w).1)
  have i1 := Lib.hid (fun a b c w => (idx_grp a b c w).2.1)
  have i2 := Lib.hid (fun a b c w => (idx_grp a b c w).2.2)
  go_wp2_with fail
  refine wp_loop_rounds 4 ?_
  rw [rounds_succ]
  have jj := j0.out
  go_wp2_with fail
  clear jj
  refine (wbit_goes _ g c2 false (bv2) w7 WR.out (by omega) HB1.out.size).mono ?_
  rintro e w8 ⟨rfl, hgo⟩
  have HB1 := Lib.hid (HB1.out.trans (WGoes.below_ WR.out hgo HB1.out.size))
  obtain ⟨bv3, hw⟩ := WGoes.wr_ hgo
  obtain ⟨c3, hc3⟩ : ∃ c, c = c2 ++ [false] := ⟨_, rfl⟩
  rw [← hc3] at hw
  have WR := Lib.hid hw
  have l3 : c3.length ≤ 127 := by rw [hc3, List.length_append]; simp; omega
  have HC3 := Lib.hid hc3
  clear hw hgo hc3
  go_wp2_with fail
  rw [rounds_succ]
  have jj := j1.out
  go_wp2_with fail
  clear jj
  refine (wbit_goes _ g c3 true (bv3) w8 WR.out (by omega) HB1.out.size).mono ?_
  rintro e w9 ⟨rfl, hgo⟩
  have HB1 := Lib.hid (HB1.out.trans (WGoes.below_ WR.out hgo HB1.out.size))
  obtain ⟨bv4, hw⟩ := WGoes.wr_ hgo
  obtain ⟨c4, hc4⟩ : ∃ c, c = c3 ++ [true] := ⟨_, rfl⟩
  rw [← hc4] at hw
  have WR := Lib.hid hw
  have l4 : c4.length ≤ 128 := by rw [hc4, List.length_append]; simp; omega
  have HC4 := Lib.hid hc4
  clear hw hgo hc4
  go_wp2_with fail
  refine (pgroups_c _ _).mono ?_
  rintro e w10 ⟨g1, g2, g3, rfl, _, _, _, hg1, hg2, hg3, hb'⟩
  have WR := Lib.hid (WR.out.kept_ hb')
  have HB1 := Lib.hid ((HB1.out).trans (hb'.mono (HB1.out).size))
  have GG := Lib.hid hg2
  clear hg1 hg2 hg3 hb'
  have ii := i1.out
  go_wp2_with fail
  clear ii
  refine wp_loop_rounds 2 ?_
  rw [rounds_succ]
  obtain ⟨zB10, zB11, zB12, zB13⟩ := (B1.out.below HB1.out B1.out.lt).cells4
  have zg := GG.out.cell 0
  go_wp2_with fail
  clear zg
  clear zB10 zB11 zB12 zB13
  refine (gput_c _ g c4 v.C (bv4) w10 WR.out (by omega) HB1.out.size).mono ?_
  rintro e w11 ⟨rfl, hgo⟩
  have HB1 := Lib.hid (HB1.out.trans (WGoes.below_ WR.out hgo HB1.out.size))
  have GG := Lib.hid (WGoes.blk WR.out hgo GG.out (by decide) (by decide))
  obtain ⟨bv5, hw⟩ := WGoes.wr_ hgo
  obtain ⟨c5, hc5⟩ : ∃ c, c = c4 ++ codeB v.C := ⟨_, rfl⟩
  rw [← hc5] at hw
  have WR := Lib.hid hw
  have l5 : c5.length ≤ 191 := by rw [hc5, List.length_append]; have := codeB_len (v.C);  omega
  have HC5 := Lib.hid hc5
  clear hw hgo hc5
  go_wp2_with fail
  rw [rounds_succ]
  go_wp2_with fail
  clear GG
  rw [rounds_succ]
  have jj := j2.out
  go_wp2_with fail
  clear jj
  refine (wbit_goes _ g c5 false (bv5) w11 WR.out (by omega) HB1.out.size).mono ?_
  rintro e w12 ⟨rfl, hgo⟩
  have HB1 := Lib.hid (HB1.out.trans (WGoes.below_ WR.out hgo HB1.out.size))
  obtain ⟨bv6, hw⟩ := WGoes.wr_ hgo
  obtain ⟨c6, hc6⟩ : ∃ c, c = c5 ++ [false] := ⟨_, rfl⟩
  rw [← hc6] at hw
  have WR := Lib.hid hw
  have l6 : c6.length ≤ 192 := by rw [hc6, List.length_append]; simp; omega
  have HC6 := Lib.hid hc6
  clear hw hgo hc6
  go_wp2_with fail
  rw [rounds_succ]
  go_wp2_with fail
  refine (walign_c _ g c6 (bv6) w12 WR.out (by omega) HB1.out.size).mono ?_
  rintro e w13 ⟨rfl, hgo⟩
  have HB1 := Lib.hid (HB1.out.trans (WGoes.below_ WR.out hgo HB1.out.size))
  obtain ⟨bvz, hw⟩ := WGoes.wr_ hgo
  have WR := Lib.hid hw
  clear hw hgo
  have lz : (padB c6).length ≤ 100000 := by rw [padB_len]; omega
  go_wp2_with fail
  have HSZ := Lib.hid (Nat.le_trans HB.out.size HB1.out.size)
  refine (wbytes_c _ g _ _ _ WR.out (by omega)).mono ?_
  rintro e w14 ⟨vv, rfl, ho, hb'⟩
  have OV := Lib.hid ho
  have HB1 := Lib.hid (HB1.out.trans (hb'.mono HB1.out.size))
  clear ho
  have HRE := Lib.hid (show c6 = res by rw [HRES.out, HC6.out, HC5.out, HC4.out, HC3.out, HC2.out, HC1.out]; simp [grpB])
  rw [HRE.out] at OV
  go_wp2_with fail
  go_ret2
  exact ⟨_, rfl, OV.out.lower HSZ.out, HB.out.trans (HB1.out.mono HB.out.size)⟩
set_option maxRecDepth 100000 in
set_option maxHeartbeats 6400000 in
theorem pput_3 (v : Vd) (w : World) (hr : rightVd v = true) (h1 : oth1 v (baseV (bestN v)) = false) (h2 : oth2 v (baseV (bestN v)) = true) (h3 : oth3 v (baseV (bestN v)) = true) : Calls Try.prog 11 #[vdV v] w fun e w' => ∃ u, e = .returned (.tuple #[u, .int .i64 0]) ∧ OwnB w' w.heap.size u (packZ (padB (putB v))) ∧ Below w.heap.size w w' := by
  have HB := Lib.hid (Below.refl w.heap.size w)
  have HR := Lib.hid hr
  obtain ⟨k, hk⟩ : ∃ k, k = bestN v := ⟨_, rfl⟩
  have k5 : k < 5 := by rw [hk]; exact bstK_lt v 5 (Nat.le_refl _)
  obtain ⟨b, hb⟩ : ∃ b, b = baseV k := ⟨_, rfl⟩
  unfold putB byB
  rw [← hk, ← hb]
  rw [← hk, ← hb] at h1 h2 h3
  have HK := Lib.hid hk.symm
  have HBK := Lib.hid hb.symm
  have H1 := Lib.hid h1
  have H2 := Lib.hid h2
  have H3 := Lib.hid h3
  rw [h1, h2, h3]
  clear hr hk hb h1 h2 h3
  have jt : ∀ w, (Instr.index 42 (.agg tabV) (.int .i64 k)).run Try.prog w = .ok (vdV b) w := fun w => by rw [← HBK.out]; exact idx_tabk k5 w
  obtain ⟨res, hres⟩ : ∃ l, l = codeB 1 ++ codeB (k : Int) ++ grpB false [v.W, v.H] ++ grpB true [v.C] ++ grpB true [v.B] := ⟨_, rfl⟩
  rw [← hres]
  have HRES := Lib.hid hres
  clear hres
  have HJT := Lib.hid jt
  clear jt
  go_enter Try.func11, Try.ntmps11
  go_wp2_with fail
  have HB := Lib.hid (below_alloc_ (HB.out) (.cells #[.int .i64 v.W, .int .i64 v.H, .int .i64 v.C, .int .i64 v.B] 23))
  have hzw : (w.alloc (.cells #[.int .i64 v.W, .int .i64 v.H, .int .i64 v.C, .int .i64 v.B] 23)).heap.size = w.heap.size + 1 := by simp only [World.size_alloc]
  have B1 := Blk.new (w) 23 #[.int .i64 v.W, .int .i64 v.H, .int .i64 v.C, .int .i64 v.B]
  skip
  have B1 := Lib.hid B1
  generalize w.alloc (.cells #[.int .i64 v.W, .int .i64 v.H, .int .i64 v.C, .int .i64 v.B] 23) = w1 at *
  clear hzw
  have HB1 := Lib.hid (Below.refl w1.heap.size w1)
  obtain ⟨zB10, zB11, zB12, zB13⟩ := (B1.out.below HB1.out B1.out.lt).cells4
  go_wp2_with fail
  clear zB10 zB11 zB12 zB13
  refine (precon_c v _).mono ?_
  rintro e w2 ⟨rfl, hb'⟩
  have HB1 := Lib.hid ((HB1.out).trans (hb'.mono (HB1.out).size))
  clear hb'
  rw [HR.out]
  have B1 := Lib.hid (B1.out.below HB1.out B1.out.lt)
  have HB := Lib.hid (HB.out.trans (HB1.out.mono HB.out.size))
  have HB1 := Lib.hid (Below.refl w2.heap.size w2)
  go_upto_region 4 with fail
  have HB1 := Lib.hid (below_alloc_ (HB1.out) (.cells #[.slice none 0 0, .int .i64 0] 54))
  have hzw : (w2.alloc (.cells #[.slice none 0 0, .int .i64 0] 54)).heap.size = w2.heap.size + 1 := by simp only [World.size_alloc]
  have BW := Blk.new (w2) 54 #[.slice none 0 0, .int .i64 0]
  skip
  have BW := Lib.hid BW
  generalize w2.alloc (.cells #[.slice none 0 0, .int .i64 0] 54) = w3 at *
  clear hzw
  obtain ⟨g, hg⟩ : ∃ g, g = w2.heap.size := ⟨_, rfl⟩
  rw [← hg] at BW ⊢
  have WR := Lib.hid (show WrI w3 w2.heap.size g (.slice none 0 0) [] from ⟨Nat.le_of_eq hg.symm, BW.out, OwnB.nil _ _⟩)
  clear hg BW
  obtain ⟨zB10, zB11, zB12, zB13⟩ := (B1.out.below HB1.out B1.out.lt).cells4
  go_wp2_with fail
  clear zB10 zB11 zB12 zB13
  refine (gput_c _ g [] 1 (.slice none 0 0) w3 WR.out (by simp) HB1.out.size).mono ?_
  rintro e w4 ⟨rfl, hgo⟩
  have HB1 := Lib.hid (HB1.out.trans (WGoes.below_ WR.out hgo HB1.out.size))
  obtain ⟨bv1, hw⟩ := WGoes.wr_ hgo
  obtain ⟨c1, hc1⟩ : ∃ c, c = [] ++ codeB 1 := ⟨_, rfl⟩
  rw [← hc1] at hw
  have WR := Lib.hid hw
  have l1 : c1.length ≤ 63 := by rw [hc1, List.length_append]; have := codeB_len (1); simp only [List.length_nil];  omega
  have HC1 := Lib.hid hc1
  clear hw hgo hc1
  obtain ⟨zB10, zB11, zB12, zB13⟩ := (B1.out.below HB1.out B1.out.lt).cells4
  go_wp2_with fail
  clear zB10 zB11 zB12 zB13
  refine (pbest_c v _).mono ?_
  rintro e w5 ⟨rfl, hb'⟩
  have WR := Lib.hid (WR.out.kept_ hb')
  have HB1 := Lib.hid ((HB1.out).trans (hb'.mono (HB1.out).size))
  clear hb'
  rw [HK.out]
  obtain ⟨zB10, zB11, zB12, zB13⟩ := (B1.out.below HB1.out B1.out.lt).cells4
  go_wp2_with fail
  clear zB10 zB11 zB12 zB13
  refine (gput_c _ g c1 (k : Int) (bv1) w5 WR.out (by omega) HB1.out.size).mono ?_
  rintro e w6 ⟨rfl, hgo⟩
  have HB1 := Lib.hid (HB1.out.trans (WGoes.below_ WR.out hgo HB1.out.size))
  obtain ⟨bv2, hw⟩ := WGoes.wr_ hgo
  obtain ⟨c2, hc2⟩ : ∃ c, c = c1 ++ codeB (k : Int) := ⟨_, rfl⟩
  rw [← hc2] at hw
  have WR := Lib.hid hw
  have l2 : c2.length ≤ 126 := by rw [hc2, List.length_append]; have := codeB_len (k : Int);  omega
  have HC2 := Lib.hid hc2
  clear hw hgo hc2
  go_upto_region 7 with fail
  have jt := HJT.out
  obtain ⟨zB10, zB11, zB12, zB13⟩ := (B1.out.below HB1.out B1.out.lt).cells4
  have HWR := Lib.hid WR.out
  have HBq := Lib.hid (Below.refl w6.heap.size w6)
  have kq0 := cell_regrown zB10
  have kq1 := cell_regrown zB11
  have kq2 := cell_regrown zB12
  have kq3 := cell_regrown zB13
  have qc0 := fun (d : Nat) (os : Array Obj) => Calls.regrown_of (ptable_c (grow (redrawn w6 d) os))
  have qc1 := fun (d : Nat) (os : Array Obj) => Calls.regrown_of ((by have h := pothers_c v b (grow (redrawn w6 d) os); rw [H1.out, H2.out, H3.out] at h; exact h))
  clear zB10 zB11 zB12 zB13
  refine wp_region_quiet_below (by kernel_rfl) (by kernel_rfl) ?_
  repeat (go_big_quiet_step (first | with_reducible exact qc0 _ _ | with_reducible exact qc1 _ _))
  refine wpQuiet_nil ?_
  intro _ hw'
  obtain ⟨⟨dq, osq⟩, hw''⟩ := hw'
  subst hw''
  have hb' := below_regrown w6 dq osq
  clear kq0 kq1 kq2 kq3 qc0 qc1
  have HB1 := Lib.hid ((HB1.out).trans (hb'.mono (HB1.out).size))
  have HBq := Lib.hid ((HBq.out).trans (hb'.mono (HBq.out).size))
  clear hb'
  generalize grow (redrawn w6 dq) osq = w7 at *
  have WR := Lib.hid (WR.out.kept_ HBq.out)
  clear HBq HWR jt
  have j0 := Lib.hid (fun a b c w => (idx_bool a b c w).1)
  have j1 := Lib.hid (fun a b c w => (idx_bool a b c w).2.1)
  have j2 := Lib.hid (fun a b c w => (idx_bool a b c w).2.2)
  have i0 := Lib.hid (fun a b c w => (idx_grp a b c w).1)
  have i1 := Lib.hid (fun a b c w => (idx_grp a b c w).2.1)
  have i2 := Lib.hid (fun a b c w => (idx_grp a b c w).2.2)
  go_wp2_with fail
  refine wp_loop_rounds 4 ?_
  rw [rounds_succ]
  have jj := j0.out
  go_wp2_with fail
  clear jj
  refine (wbit_goes _ g c2 false (bv2) w7 WR.out (by omega) HB1.out.size).mono ?_
  rintro e w8 ⟨rfl, hgo⟩
  have HB1 := Lib.hid (HB1.out.trans (WGoes.below_ WR.out hgo HB1.out.size))
  obtain ⟨bv3, hw⟩ := WGoes.wr_ hgo
  obtain ⟨c3, hc3⟩ : ∃ c, c = c2 ++ [false] := ⟨_, rfl⟩
  rw [← hc3] at hw
  have WR := Lib.hid hw
  have l3 : c3.length ≤ 127 := by rw [hc3, List.length_append]; simp; omega
  have HC3 := Lib.hid hc3
  clear hw hgo hc3
  go_wp2_with fail
  rw [rounds_succ]
  have jj := j1.out
  go_wp2_with fail
  clear jj
  refine (wbit_goes _ g c3 true (bv3) w8 WR.out (by omega) HB1.out.size).mono ?_
  rintro e w9 ⟨rfl, hgo⟩
  have HB1 := Lib.hid (HB1.out.trans (WGoes.below_ WR.out hgo HB1.out.size))
  obtain ⟨bv4, hw⟩ := WGoes.wr_ hgo
  obtain ⟨c4, hc4⟩ : ∃ c, c = c3 ++ [true] := ⟨_, rfl⟩
  rw [← hc4] at hw
  have WR := Lib.hid hw
  have l4 : c4.length ≤ 128 := by rw [hc4, List.length_append]; simp; omega
  have HC4 := Lib.hid hc4
  clear hw hgo hc4
  go_wp2_with fail
  refine (pgroups_c _ _).mono ?_
  rintro e w10 ⟨g1, g2, g3, rfl, _, _, _, hg1, hg2, hg3, hb'⟩
  have WR := Lib.hid (WR.out.kept_ hb')
  have HB1 := Lib.hid ((HB1.out).trans (hb'.mono (HB1.out).size))
  have GG := Lib.hid hg2
  clear hg1 hg2 hg3 hb'
  have ii := i1.out
  go_wp2_with fail
  clear ii
  refine wp_loop_rounds 2 ?_
  rw [rounds_succ]
  obtain ⟨zB10, zB11, zB12, zB13⟩ := (B1.out.below HB1.out B1.out.lt).cells4
  have zg := GG.out.cell 0
  go_wp2_with fail
  clear zg
  clear zB10 zB11 zB12 zB13
  refine (gput_c _ g c4 v.C (bv4) w10 WR.out (by omega) HB1.out.size).mono ?_
  rintro e w11 ⟨rfl, hgo⟩
  have HB1 := Lib.hid (HB1.out.trans (WGoes.below_ WR.out hgo HB1.out.size))
  have GG := Lib.hid (WGoes.blk WR.out hgo GG.out (by decide) (by decide))
  obtain ⟨bv5, hw⟩ := WGoes.wr_ hgo
  obtain ⟨c5, hc5⟩ : ∃ c, c = c4 ++ codeB v.C := ⟨_, rfl⟩
  rw [← hc5] at hw
  have WR := Lib.hid hw
  have l5 : c5.length ≤ 191 := by rw [hc5, List.length_append]; have := codeB_len (v.C);  omega
  have HC5 := Lib.hid hc5
  clear hw hgo hc5
  go_wp2_with fail
  rw [rounds_succ]
  go_wp2_with fail
  clear GG
  rw [rounds_succ]
  have jj := j2.out
  go_wp2_with fail
  clear jj
  refine (wbit_goes _ g c5 true (bv5) w11 WR.out (by omega) HB1.out.size).mono ?_
  rintro e w12 ⟨rfl, hgo⟩
  have HB1 := Lib.hid (HB1.out.trans (WGoes.below_ WR.out hgo HB1.out.size))
  obtain ⟨bv6, hw⟩ := WGoes.wr_ hgo
  obtain ⟨c6, hc6⟩ : ∃ c, c = c5 ++ [true] := ⟨_, rfl⟩
  rw [← hc6] at hw
  have WR := Lib.hid hw
  have l6 : c6.length ≤ 192 := by rw [hc6, List.length_append]; simp; omega
  have HC6 := Lib.hid hc6
  clear hw hgo hc6
  go_wp2_with fail
  refine (pgroups_c _ _).mono ?_
  rintro e w13 ⟨g1, g2, g3, rfl, _, _, _, hg1, hg2, hg3, hb'⟩
  have WR := Lib.hid (WR.out.kept_ hb')
  have HB1 := Lib.hid ((HB1.out).trans (hb'.mono (HB1.out).size))
  have GG := Lib.hid hg3
  clear hg1 hg2 hg3 hb'
  have ii := i2.out
  go_wp2_with fail
  clear ii
  refine wp_loop_rounds 2 ?_
  rw [rounds_succ]
  obtain ⟨zB10, zB11, zB12, zB13⟩ := (B1.out.below HB1.out B1.out.lt).cells4
  have zg := GG.out.cell 0
  go_wp2_with fail
  clear zg
  clear zB10 zB11 zB12 zB13
  refine (gput_c _ g c6 v.B (bv6) w13 WR.out (by omega) HB1.out.size).mono ?_
  rintro e w14 ⟨rfl, hgo⟩
  have HB1 := Lib.hid (HB1.out.trans (WGoes.below_ WR.out hgo HB1.out.size))
  have GG := Lib.hid (WGoes.blk WR.out hgo GG.out (by decide) (by decide))
  obtain ⟨bv7, hw⟩ := WGoes.wr_ hgo
  obtain ⟨c7, hc7⟩ : ∃ c, c = c6 ++ codeB v.B := ⟨_, rfl⟩
  rw [← hc7] at hw
  have WR := Lib.hid hw
  have l7 : c7.length ≤ 255 := by rw [hc7, List.length_append]; have := codeB_len (v.B);  omega
  have HC7 := Lib.hid hc7
  clear hw hgo hc7
  go_wp2_with fail
  rw [rounds_succ]
  go_wp2_with fail
  clear GG
  rw [rounds_succ]
  go_wp2_with fail
  refine (walign_c _ g c7 (bv7) w14 WR.out (by omega) HB1.out.size).mono ?_
  rintro e w15 ⟨rfl, hgo⟩
  have HB1 := Lib.hid (HB1.out.trans (WGoes.below_ WR.out hgo HB1.out.size))
  obtain ⟨bvz, hw⟩ := WGoes.wr_ hgo
  have WR := Lib.hid hw
  clear hw hgo
  have lz : (padB c7).length ≤ 100000 := by rw [padB_len]; omega
  go_wp2_with fail
  have HSZ := Lib.hid (Nat.le_trans HB.out.size HB1.out.size)
  refine (wbytes_c _ g _ _ _ WR.out (by omega)).mono ?_
  rintro e w16 ⟨vv, rfl, ho, hb'⟩
  have OV := Lib.hid ho
  have HB1 := Lib.hid (HB1.out.trans (hb'.mono HB1.out.size))
  clear ho
  have HRE := Lib.hid (show c7 = res by rw [HRES.out, HC7.out, HC6.out, HC5.out, HC4.out, HC3.out, HC2.out, HC1.out]; simp [grpB])
  rw [HRE.out] at OV
  go_wp2_with fail
  go_ret2
  exact ⟨_, rfl, OV.out.lower HSZ.out, HB.out.trans (HB1.out.mono HB.out.size)⟩
set_option maxRecDepth 100000 in
set_option maxHeartbeats 6400000 in
theorem pput_4 (v : Vd) (w : World) (hr : rightVd v = true) (h1 : oth1 v (baseV (bestN v)) = true) (h2 : oth2 v (baseV (bestN v)) = false) (h3 : oth3 v (baseV (bestN v)) = false) : Calls Try.prog 11 #[vdV v] w fun e w' => ∃ u, e = .returned (.tuple #[u, .int .i64 0]) ∧ OwnB w' w.heap.size u (packZ (padB (putB v))) ∧ Below w.heap.size w w' := by
  have HB := Lib.hid (Below.refl w.heap.size w)
  have HR := Lib.hid hr
  obtain ⟨k, hk⟩ : ∃ k, k = bestN v := ⟨_, rfl⟩
  have k5 : k < 5 := by rw [hk]; exact bstK_lt v 5 (Nat.le_refl _)
  obtain ⟨b, hb⟩ : ∃ b, b = baseV k := ⟨_, rfl⟩
  unfold putB byB
  rw [← hk, ← hb]
  rw [← hk, ← hb] at h1 h2 h3
  have HK := Lib.hid hk.symm
  have HBK := Lib.hid hb.symm
  have H1 := Lib.hid h1
  have H2 := Lib.hid h2
  have H3 := Lib.hid h3
  rw [h1, h2, h3]
  clear hr hk hb h1 h2 h3
  have jt : ∀ w, (Instr.index 42 (.agg tabV) (.int .i64 k)).run Try.prog w = .ok (vdV b) w := fun w => by rw [← HBK.out]; exact idx_tabk k5 w
  obtain ⟨res, hres⟩ : ∃ l, l = codeB 1 ++ codeB (k : Int) ++ grpB true [v.W, v.H] ++ grpB false [v.C] ++ grpB false [v.B] := ⟨_, rfl⟩
  rw [← hres]
  have HRES := Lib.hid hres
  clear hres
  have HJT := Lib.hid jt
  clear jt
  go_enter Try.func11, Try.ntmps11
  go_wp2_with fail
  have HB := Lib.hid (below_alloc_ (HB.out) (.cells #[.int .i64 v.W, .int .i64 v.H, .int .i64 v.C, .int .i64 v.B] 23))
  have hzw : (w.alloc (.cells #[.int .i64 v.W, .int .i64 v.H, .int .i64 v.C, .int .i64 v.B] 23)).heap.size = w.heap.size + 1 := by simp only [World.size_alloc]
  have B1 := Blk.new (w) 23 #[.int .i64 v.W, .int .i64 v.H, .int .i64 v.C, .int .i64 v.B]
  skip
  have B1 := Lib.hid B1
  generalize w.alloc (.cells #[.int .i64 v.W, .int .i64 v.H, .int .i64 v.C, .int .i64 v.B] 23) = w1 at *
  clear hzw
  have HB1 := Lib.hid (Below.refl w1.heap.size w1)
  obtain ⟨zB10, zB11, zB12, zB13⟩ := (B1.out.below HB1.out B1.out.lt).cells4
  go_wp2_with fail
  clear zB10 zB11 zB12 zB13
  refine (precon_c v _).mono ?_
  rintro e w2 ⟨rfl, hb'⟩
  have HB1 := Lib.hid ((HB1.out).trans (hb'.mono (HB1.out).size))
  clear hb'
  rw [HR.out]
  have B1 := Lib.hid (B1.out.below HB1.out B1.out.lt)
  have HB := Lib.hid (HB.out.trans (HB1.out.mono HB.out.size))
  have HB1 := Lib.hid (Below.refl w2.heap.size w2)
  go_upto_region 4 with fail
  have HB1 := Lib.hid (below_alloc_ (HB1.out) (.cells #[.slice none 0 0, .int .i64 0] 54))
  have hzw : (w2.alloc (.cells #[.slice none 0 0, .int .i64 0] 54)).heap.size = w2.heap.size + 1 := by simp only [World.size_alloc]
  have BW := Blk.new (w2) 54 #[.slice none 0 0, .int .i64 0]
  skip
  have BW := Lib.hid BW
  generalize w2.alloc (.cells #[.slice none 0 0, .int .i64 0] 54) = w3 at *
  clear hzw
  obtain ⟨g, hg⟩ : ∃ g, g = w2.heap.size := ⟨_, rfl⟩
  rw [← hg] at BW ⊢
  have WR := Lib.hid (show WrI w3 w2.heap.size g (.slice none 0 0) [] from ⟨Nat.le_of_eq hg.symm, BW.out, OwnB.nil _ _⟩)
  clear hg BW
  obtain ⟨zB10, zB11, zB12, zB13⟩ := (B1.out.below HB1.out B1.out.lt).cells4
  go_wp2_with fail
  clear zB10 zB11 zB12 zB13
  refine (gput_c _ g [] 1 (.slice none 0 0) w3 WR.out (by simp) HB1.out.size).mono ?_
  rintro e w4 ⟨rfl, hgo⟩
  have HB1 := Lib.hid (HB1.out.trans (WGoes.below_ WR.out hgo HB1.out.size))
  obtain ⟨bv1, hw⟩ := WGoes.wr_ hgo
  obtain ⟨c1, hc1⟩ : ∃ c, c = [] ++ codeB 1 := ⟨_, rfl⟩
  rw [← hc1] at hw
  have WR := Lib.hid hw
  have l1 : c1.length ≤ 63 := by rw [hc1, List.length_append]; have := codeB_len (1); simp only [List.length_nil];  omega
  have HC1 := Lib.hid hc1
  clear hw hgo hc1
  obtain ⟨zB10, zB11, zB12, zB13⟩ := (B1.out.below HB1.out B1.out.lt).cells4
  go_wp2_with fail
  clear zB10 zB11 zB12 zB13
  refine (pbest_c v _).mono ?_
  rintro e w5 ⟨rfl, hb'⟩
  have WR := Lib.hid (WR.out.kept_ hb')
  have HB1 := Lib.hid ((HB1.out).trans (hb'.mono (HB1.out).size))
  clear hb'
  rw [HK.out]
  obtain ⟨zB10, zB11, zB12, zB13⟩ := (B1.out.below HB1.out B1.out.lt).cells4
  go_wp2_with fail
  clear zB10 zB11 zB12 zB13
  refine (gput_c _ g c1 (k : Int) (bv1) w5 WR.out (by omega) HB1.out.size).mono ?_
  rintro e w6 ⟨rfl, hgo⟩
  have HB1 := Lib.hid (HB1.out.trans (WGoes.below_ WR.out hgo HB1.out.size))
  obtain ⟨bv2, hw⟩ := WGoes.wr_ hgo
  obtain ⟨c2, hc2⟩ : ∃ c, c = c1 ++ codeB (k : Int) := ⟨_, rfl⟩
  rw [← hc2] at hw
  have WR := Lib.hid hw
  have l2 : c2.length ≤ 126 := by rw [hc2, List.length_append]; have := codeB_len (k : Int);  omega
  have HC2 := Lib.hid hc2
  clear hw hgo hc2
  go_upto_region 7 with fail
  have jt := HJT.out
  obtain ⟨zB10, zB11, zB12, zB13⟩ := (B1.out.below HB1.out B1.out.lt).cells4
  have HWR := Lib.hid WR.out
  have HBq := Lib.hid (Below.refl w6.heap.size w6)
  have kq0 := cell_regrown zB10
  have kq1 := cell_regrown zB11
  have kq2 := cell_regrown zB12
  have kq3 := cell_regrown zB13
  have qc0 := fun (d : Nat) (os : Array Obj) => Calls.regrown_of (ptable_c (grow (redrawn w6 d) os))
  have qc1 := fun (d : Nat) (os : Array Obj) => Calls.regrown_of ((by have h := pothers_c v b (grow (redrawn w6 d) os); rw [H1.out, H2.out, H3.out] at h; exact h))
  clear zB10 zB11 zB12 zB13
  refine wp_region_quiet_below (by kernel_rfl) (by kernel_rfl) ?_
  repeat (go_big_quiet_step (first | with_reducible exact qc0 _ _ | with_reducible exact qc1 _ _))
  refine wpQuiet_nil ?_
  intro _ hw'
  obtain ⟨⟨dq, osq⟩, hw''⟩ := hw'
  subst hw''
  have hb' := below_regrown w6 dq osq
  clear kq0 kq1 kq2 kq3 qc0 qc1
  have HB1 := Lib.hid ((HB1.out).trans (hb'.mono (HB1.out).size))
  have HBq := Lib.hid ((HBq.out).trans (hb'.mono (HBq.out).size))
  clear hb'
  generalize grow (redrawn w6 dq) osq = w7 at *
  have WR := Lib.hid (WR.out.kept_ HBq.out)
  clear HBq HWR jt
  have j0 := Lib.hid (fun a b c w => (idx_bool a b c w).1)
  have j1 := Lib.hid (fun a b c w => (idx_bool a b c w).2.1)
  have j2 := Lib.hid (fun a b c w => (idx_bool a b c w).2.2)
  have i0 := Lib.hid (fun a b c w => (idx_grp a b c w).1)
  have i1 := Lib.hid (fun a b c w => (idx_grp a b c w).2.1)
  have i2 := Lib.hid (fun a b c w => (idx_grp a b c w).2.2)
  go_wp2_with fail
  refine wp_loop_rounds 4 ?_
  rw [rounds_succ]
  have jj := j0.out
  go_wp2_with fail
  clear jj
  refine (wbit_goes _ g c2 true (bv2) w7 WR.out (by omega) HB1.out.size).mono ?_
  rintro e w8 ⟨rfl, hgo⟩
  have HB1 := Lib.hid (HB1.out.trans (WGoes.below_ WR.out hgo HB1.out.size))
  obtain ⟨bv3, hw⟩ := WGoes.wr_ hgo
  obtain ⟨c3, hc3⟩ : ∃ c, c = c2 ++ [true] := ⟨_, rfl⟩
  rw [← hc3] at hw
  have WR := Lib.hid hw
  have l3 : c3.length ≤ 127 := by rw [hc3, List.length_append]; simp; omega
  have HC3 := Lib.hid hc3
  clear hw hgo hc3
  go_wp2_with fail
  refine (pgroups_c _ _).mono ?_
  rintro e w9 ⟨g1, g2, g3, rfl, _, _, _, hg1, hg2, hg3, hb'⟩
  have WR := Lib.hid (WR.out.kept_ hb')
  have HB1 := Lib.hid ((HB1.out).trans (hb'.mono (HB1.out).size))
  have GG := Lib.hid hg1
  clear hg1 hg2 hg3 hb'
  have ii := i0.out
  go_wp2_with fail
  clear ii
  refine wp_loop_rounds 3 ?_
  rw [rounds_succ]
  obtain ⟨zB10, zB11, zB12, zB13⟩ := (B1.out.below HB1.out B1.out.lt).cells4
  have zg := GG.out.cell 0
  go_wp2_with fail
  clear zg
  clear zB10 zB11 zB12 zB13
  refine (gput_c _ g c3 v.W (bv3) w9 WR.out (by omega) HB1.out.size).mono ?_
  rintro e w10 ⟨rfl, hgo⟩
  have HB1 := Lib.hid (HB1.out.trans (WGoes.below_ WR.out hgo HB1.out.size))
  have GG := Lib.hid (WGoes.blk WR.out hgo GG.out (by decide) (by decide))
  obtain ⟨bv4, hw⟩ := WGoes.wr_ hgo
  obtain ⟨c4, hc4⟩ : ∃ c, c = c3 ++ codeB v.W := ⟨_, rfl⟩
  rw [← hc4] at hw
  have WR := Lib.hid hw
  have l4 : c4.length ≤ 190 := by rw [hc4, List.length_append]; have := codeB_len (v.W);  omega
  have HC4 := Lib.hid hc4
  clear hw hgo hc4
  go_wp2_with fail
  rw [rounds_succ]
  obtain ⟨zB10, zB11, zB12, zB13⟩ := (B1.out.below HB1.out B1.out.lt).cells4
  have zg := GG.out.cell 1
  go_wp2_with fail
  clear zg
  clear zB10 zB11 zB12 zB13
  refine (gput_c _ g c4 v.H (bv4) w10 WR.out (by omega) HB1.out.size).mono ?_
  rintro e w11 ⟨rfl, hgo⟩
  have HB1 := Lib.hid (HB1.out.trans (WGoes.below_ WR.out hgo HB1.out.size))
  have GG := Lib.hid (WGoes.blk WR.out hgo GG.out (by decide) (by decide))
  obtain ⟨bv5, hw⟩ := WGoes.wr_ hgo
  obtain ⟨c5, hc5⟩ : ∃ c, c = c4 ++ codeB v.H := ⟨_, rfl⟩
  rw [← hc5] at hw
  have WR := Lib.hid hw
  have l5 : c5.length ≤ 253 := by rw [hc5, List.length_append]; have := codeB_len (v.H);  omega
  have HC5 := Lib.hid hc5
  clear hw hgo hc5
  go_wp2_with fail
  rw [rounds_succ]
  go_wp2_with fail
  clear GG
  rw [rounds_succ]
  have jj := j1.out
  go_wp2_with fail
  clear jj
  refine (wbit_goes _ g c5 false (bv5) w11 WR.out (by omega) HB1.out.size).mono ?_
  rintro e w12 ⟨rfl, hgo⟩
  have HB1 := Lib.hid (HB1.out.trans (WGoes.below_ WR.out hgo HB1.out.size))
  obtain ⟨bv6, hw⟩ := WGoes.wr_ hgo
  obtain ⟨c6, hc6⟩ : ∃ c, c = c5 ++ [false] := ⟨_, rfl⟩
  rw [← hc6] at hw
  have WR := Lib.hid hw
  have l6 : c6.length ≤ 254 := by rw [hc6, List.length_append]; simp; omega
  have HC6 := Lib.hid hc6
  clear hw hgo hc6
  go_wp2_with fail
  rw [rounds_succ]
  have jj := j2.out
  go_wp2_with fail
  clear jj
  refine (wbit_goes _ g c6 false (bv6) w12 WR.out (by omega) HB1.out.size).mono ?_
  rintro e w13 ⟨rfl, hgo⟩
  have HB1 := Lib.hid (HB1.out.trans (WGoes.below_ WR.out hgo HB1.out.size))
  obtain ⟨bv7, hw⟩ := WGoes.wr_ hgo
  obtain ⟨c7, hc7⟩ : ∃ c, c = c6 ++ [false] := ⟨_, rfl⟩
  rw [← hc7] at hw
  have WR := Lib.hid hw
  have l7 : c7.length ≤ 255 := by rw [hc7, List.length_append]; simp; omega
  have HC7 := Lib.hid hc7
  clear hw hgo hc7
  go_wp2_with fail
  rw [rounds_succ]
  go_wp2_with fail
  refine (walign_c _ g c7 (bv7) w13 WR.out (by omega) HB1.out.size).mono ?_
  rintro e w14 ⟨rfl, hgo⟩
  have HB1 := Lib.hid (HB1.out.trans (WGoes.below_ WR.out hgo HB1.out.size))
  obtain ⟨bvz, hw⟩ := WGoes.wr_ hgo
  have WR := Lib.hid hw
  clear hw hgo
  have lz : (padB c7).length ≤ 100000 := by rw [padB_len]; omega
  go_wp2_with fail
  have HSZ := Lib.hid (Nat.le_trans HB.out.size HB1.out.size)
  refine (wbytes_c _ g _ _ _ WR.out (by omega)).mono ?_
  rintro e w15 ⟨vv, rfl, ho, hb'⟩
  have OV := Lib.hid ho
  have HB1 := Lib.hid (HB1.out.trans (hb'.mono HB1.out.size))
  clear ho
  have HRE := Lib.hid (show c7 = res by rw [HRES.out, HC7.out, HC6.out, HC5.out, HC4.out, HC3.out, HC2.out, HC1.out]; simp [grpB])
  rw [HRE.out] at OV
  go_wp2_with fail
  go_ret2
  exact ⟨_, rfl, OV.out.lower HSZ.out, HB.out.trans (HB1.out.mono HB.out.size)⟩
set_option maxRecDepth 100000 in
set_option maxHeartbeats 6400000 in
theorem pput_5 (v : Vd) (w : World) (hr : rightVd v = true) (h1 : oth1 v (baseV (bestN v)) = true) (h2 : oth2 v (baseV (bestN v)) = false) (h3 : oth3 v (baseV (bestN v)) = true) : Calls Try.prog 11 #[vdV v] w fun e w' => ∃ u, e = .returned (.tuple #[u, .int .i64 0]) ∧ OwnB w' w.heap.size u (packZ (padB (putB v))) ∧ Below w.heap.size w w' := by
  have HB := Lib.hid (Below.refl w.heap.size w)
  have HR := Lib.hid hr
  obtain ⟨k, hk⟩ : ∃ k, k = bestN v := ⟨_, rfl⟩
  have k5 : k < 5 := by rw [hk]; exact bstK_lt v 5 (Nat.le_refl _)
  obtain ⟨b, hb⟩ : ∃ b, b = baseV k := ⟨_, rfl⟩
  unfold putB byB
  rw [← hk, ← hb]
  rw [← hk, ← hb] at h1 h2 h3
  have HK := Lib.hid hk.symm
  have HBK := Lib.hid hb.symm
  have H1 := Lib.hid h1
  have H2 := Lib.hid h2
  have H3 := Lib.hid h3
  rw [h1, h2, h3]
  clear hr hk hb h1 h2 h3
  have jt : ∀ w, (Instr.index 42 (.agg tabV) (.int .i64 k)).run Try.prog w = .ok (vdV b) w := fun w => by rw [← HBK.out]; exact idx_tabk k5 w
  obtain ⟨res, hres⟩ : ∃ l, l = codeB 1 ++ codeB (k : Int) ++ grpB true [v.W, v.H] ++ grpB false [v.C] ++ grpB true [v.B] := ⟨_, rfl⟩
  rw [← hres]
  have HRES := Lib.hid hres
  clear hres
  have HJT := Lib.hid jt
  clear jt
  go_enter Try.func11, Try.ntmps11
  go_wp2_with fail
  have HB := Lib.hid (below_alloc_ (HB.out) (.cells #[.int .i64 v.W, .int .i64 v.H, .int .i64 v.C, .int .i64 v.B] 23))
  have hzw : (w.alloc (.cells #[.int .i64 v.W, .int .i64 v.H, .int .i64 v.C, .int .i64 v.B] 23)).heap.size = w.heap.size + 1 := by simp only [World.size_alloc]
  have B1 := Blk.new (w) 23 #[.int .i64 v.W, .int .i64 v.H, .int .i64 v.C, .int .i64 v.B]
  skip
  have B1 := Lib.hid B1
  generalize w.alloc (.cells #[.int .i64 v.W, .int .i64 v.H, .int .i64 v.C, .int .i64 v.B] 23) = w1 at *
  clear hzw
  have HB1 := Lib.hid (Below.refl w1.heap.size w1)
  obtain ⟨zB10, zB11, zB12, zB13⟩ := (B1.out.below HB1.out B1.out.lt).cells4
  go_wp2_with fail
  clear zB10 zB11 zB12 zB13
  refine (precon_c v _).mono ?_
  rintro e w2 ⟨rfl, hb'⟩
  have HB1 := Lib.hid ((HB1.out).trans (hb'.mono (HB1.out).size))
  clear hb'
  rw [HR.out]
  have B1 := Lib.hid (B1.out.below HB1.out B1.out.lt)
  have HB := Lib.hid (HB.out.trans (HB1.out.mono HB.out.size))
  have HB1 := Lib.hid (Below.refl w2.heap.size w2)
  go_upto_region 4 with fail
  have HB1 := Lib.hid (below_alloc_ (HB1.out) (.cells #[.slice none 0 0, .int .i64 0] 54))
  have hzw : (w2.alloc (.cells #[.slice none 0 0, .int .i64 0] 54)).heap.size = w2.heap.size + 1 := by simp only [World.size_alloc]
  have BW := Blk.new (w2) 54 #[.slice none 0 0, .int .i64 0]
  skip
  have BW := Lib.hid BW
  generalize w2.alloc (.cells #[.slice none 0 0, .int .i64 0] 54) = w3 at *
  clear hzw
  obtain ⟨g, hg⟩ : ∃ g, g = w2.heap.size := ⟨_, rfl⟩
  rw [← hg] at BW ⊢
  have WR := Lib.hid (show WrI w3 w2.heap.size g (.slice none 0 0) [] from ⟨Nat.le_of_eq hg.symm, BW.out, OwnB.nil _ _⟩)
  clear hg BW
  obtain ⟨zB10, zB11, zB12, zB13⟩ := (B1.out.below HB1.out B1.out.lt).cells4
  go_wp2_with fail
  clear zB10 zB11 zB12 zB13
  refine (gput_c _ g [] 1 (.slice none 0 0) w3 WR.out (by simp) HB1.out.size).mono ?_
  rintro e w4 ⟨rfl, hgo⟩
  have HB1 := Lib.hid (HB1.out.trans (WGoes.below_ WR.out hgo HB1.out.size))
  obtain ⟨bv1, hw⟩ := WGoes.wr_ hgo
  obtain ⟨c1, hc1⟩ : ∃ c, c = [] ++ codeB 1 := ⟨_, rfl⟩
  rw [← hc1] at hw
  have WR := Lib.hid hw
  have l1 : c1.length ≤ 63 := by rw [hc1, List.length_append]; have := codeB_len (1); simp only [List.length_nil];  omega
  have HC1 := Lib.hid hc1
  clear hw hgo hc1
  obtain ⟨zB10, zB11, zB12, zB13⟩ := (B1.out.below HB1.out B1.out.lt).cells4
  go_wp2_with fail
  clear zB10 zB11 zB12 zB13
  refine (pbest_c v _).mono ?_
  rintro e w5 ⟨rfl, hb'⟩
  have WR := Lib.hid (WR.out.kept_ hb')
  have HB1 := Lib.hid ((HB1.out).trans (hb'.mono (HB1.out).size))
  clear hb'
  rw [HK.out]
  obtain ⟨zB10, zB11, zB12, zB13⟩ := (B1.out.below HB1.out B1.out.lt).cells4
  go_wp2_with fail
  clear zB10 zB11 zB12 zB13
  refine (gput_c _ g c1 (k : Int) (bv1) w5 WR.out (by omega) HB1.out.size).mono ?_
  rintro e w6 ⟨rfl, hgo⟩
  have HB1 := Lib.hid (HB1.out.trans (WGoes.below_ WR.out hgo HB1.out.size))
  obtain ⟨bv2, hw⟩ := WGoes.wr_ hgo
  obtain ⟨c2, hc2⟩ : ∃ c, c = c1 ++ codeB (k : Int) := ⟨_, rfl⟩
  rw [← hc2] at hw
  have WR := Lib.hid hw
  have l2 : c2.length ≤ 126 := by rw [hc2, List.length_append]; have := codeB_len (k : Int);  omega
  have HC2 := Lib.hid hc2
  clear hw hgo hc2
  go_upto_region 7 with fail
  have jt := HJT.out
  obtain ⟨zB10, zB11, zB12, zB13⟩ := (B1.out.below HB1.out B1.out.lt).cells4
  have HWR := Lib.hid WR.out
  have HBq := Lib.hid (Below.refl w6.heap.size w6)
  have kq0 := cell_regrown zB10
  have kq1 := cell_regrown zB11
  have kq2 := cell_regrown zB12
  have kq3 := cell_regrown zB13
  have qc0 := fun (d : Nat) (os : Array Obj) => Calls.regrown_of (ptable_c (grow (redrawn w6 d) os))
  have qc1 := fun (d : Nat) (os : Array Obj) => Calls.regrown_of ((by have h := pothers_c v b (grow (redrawn w6 d) os); rw [H1.out, H2.out, H3.out] at h; exact h))
  clear zB10 zB11 zB12 zB13
  refine wp_region_quiet_below (by kernel_rfl) (by kernel_rfl) ?_
  repeat (go_big_quiet_step (first | with_reducible exact qc0 _ _ | with_reducible exact qc1 _ _))
  refine wpQuiet_nil ?_
  intro _ hw'
  obtain ⟨⟨dq, osq⟩, hw''⟩ := hw'
  subst hw''
  have hb' := below_regrown w6 dq osq
  clear kq0 kq1 kq2 kq3 qc0 qc1
  have HB1 := Lib.hid ((HB1.out).trans (hb'.mono (HB1.out).size))
  have HBq := Lib.hid ((HBq.out).trans (hb'.mono (HBq.out).size))
  clear hb'
  generalize grow (redrawn w6 dq) osq = w7 at *
  have WR := Lib.hid (WR.out.kept_ HBq.out)
  clear HBq HWR jt
  have j0 := Lib.hid (fun a b c w => (idx_bool a b c w).1)
  have j1 := Lib.hid (fun a b c w => (idx_bool a b c w).2.1)
  have j2 := Lib.hid (fun a b c w => (idx_bool a b c w).2.2)
  have i0 := Lib.hid (fun a b c w => (idx_grp a b c w).1)
  have i1 := Lib.hid (fun a b c w => (idx_grp a b c w).2.1)
  have i2 := Lib.hid (fun a b c w => (idx_grp a b c w).2.2)
  go_wp2_with fail
  refine wp_loop_rounds 4 ?_
  rw [rounds_succ]
  have jj := j0.out
  go_wp2_with fail
  clear jj
  refine (wbit_goes _ g c2 true (bv2) w7 WR.out (by omega) HB1.out.size).mono ?_
  rintro e w8 ⟨rfl, hgo⟩
  have HB1 := Lib.hid (HB1.out.trans (WGoes.below_ WR.out hgo HB1.out.size))
  obtain ⟨bv3, hw⟩ := WGoes.wr_ hgo
  obtain ⟨c3, hc3⟩ : ∃ c, c = c2 ++ [true] := ⟨_, rfl⟩
  rw [← hc3] at hw
  have WR := Lib.hid hw
  have l3 : c3.length ≤ 127 := by rw [hc3, List.length_append]; simp; omega
  have HC3 := Lib.hid hc3
  clear hw hgo hc3
  go_wp2_with fail
  refine (pgroups_c _ _).mono ?_
  rintro e w9 ⟨g1, g2, g3, rfl, _, _, _, hg1, hg2, hg3, hb'⟩
  have WR := Lib.hid (WR.out.kept_ hb')
  have HB1 := Lib.hid ((HB1.out).trans (hb'.mono (HB1.out).size))
  have GG := Lib.hid hg1
  clear hg1 hg2 hg3 hb'
  have ii := i0.out
  go_wp2_with fail
  clear ii
  refine wp_loop_rounds 3 ?_
  rw [rounds_succ]
  obtain ⟨zB10, zB11, zB12, zB13⟩ := (B1.out.below HB1.out B1.out.lt).cells4
  have zg := GG.out.cell 0
  go_wp2_with fail
  clear zg
  clear zB10 zB11 zB12 zB13
  refine (gput_c _ g c3 v.W (bv3) w9 WR.out (by omega) HB1.out.size).mono ?_
  rintro e w10 ⟨rfl, hgo⟩
  have HB1 := Lib.hid (HB1.out.trans (WGoes.below_ WR.out hgo HB1.out.size))
  have GG := Lib.hid (WGoes.blk WR.out hgo GG.out (by decide) (by decide))
  obtain ⟨bv4, hw⟩ := WGoes.wr_ hgo
  obtain ⟨c4, hc4⟩ : ∃ c, c = c3 ++ codeB v.W := ⟨_, rfl⟩
  rw [← hc4] at hw
  have WR := Lib.hid hw
  have l4 : c4.length ≤ 190 := by rw [hc4, List.length_append]; have := codeB_len (v.W);  omega
  have HC4 := Lib.hid hc4
  clear hw hgo hc4
  go_wp2_with fail
  rw [rounds_succ]
  obtain ⟨zB10, zB11, zB12, zB13⟩ := (B1.out.below HB1.out B1.out.lt).cells4
  have zg := GG.out.cell 1
  go_wp2_with fail
  clear zg
  clear zB10 zB11 zB12 zB13
  refine (gput_c _ g c4 v.H (bv4) w10 WR.out (by omega) HB1.out.size).mono ?_
  rintro e w11 ⟨rfl, hgo⟩
  have HB1 := Lib.hid (HB1.out.trans (WGoes.below_ WR.out hgo HB1.out.size))
  have GG := Lib.hid (WGoes.blk WR.out hgo GG.out (by decide) (by decide))
  obtain ⟨bv5, hw⟩ := WGoes.wr_ hgo
  obtain ⟨c5, hc5⟩ : ∃ c, c = c4 ++ codeB v.H := ⟨_, rfl⟩
  rw [← hc5] at hw
  have WR := Lib.hid hw
  have l5 : c5.length ≤ 253 := by rw [hc5, List.length_append]; have := codeB_len (v.H);  omega
  have HC5 := Lib.hid hc5
  clear hw hgo hc5
  go_wp2_with fail
  rw [rounds_succ]
  go_wp2_with fail
  clear GG
  rw [rounds_succ]
  have jj := j1.out
  go_wp2_with fail
  clear jj
  refine (wbit_goes _ g c5 false (bv5) w11 WR.out (by omega) HB1.out.size).mono ?_
  rintro e w12 ⟨rfl, hgo⟩
  have HB1 := Lib.hid (HB1.out.trans (WGoes.below_ WR.out hgo HB1.out.size))
  obtain ⟨bv6, hw⟩ := WGoes.wr_ hgo
  obtain ⟨c6, hc6⟩ : ∃ c, c = c5 ++ [false] := ⟨_, rfl⟩
  rw [← hc6] at hw
  have WR := Lib.hid hw
  have l6 : c6.length ≤ 254 := by rw [hc6, List.length_append]; simp; omega
  have HC6 := Lib.hid hc6
  clear hw hgo hc6
  go_wp2_with fail
  rw [rounds_succ]
  have jj := j2.out
  go_wp2_with fail
  clear jj
  refine (wbit_goes _ g c6 true (bv6) w12 WR.out (by omega) HB1.out.size).mono ?_
  rintro e w13 ⟨rfl, hgo⟩
  have HB1 := Lib.hid (HB1.out.trans (WGoes.below_ WR.out hgo HB1.out.size))
  obtain ⟨bv7, hw⟩ := WGoes.wr_ hgo
  obtain ⟨c7, hc7⟩ : ∃ c, c = c6 ++ [true] := ⟨_, rfl⟩
  rw [← hc7] at hw
  have WR := Lib.hid hw
  have l7 : c7.length ≤ 255 := by rw [hc7, List.length_append]; simp; omega
  have HC7 := Lib.hid hc7
  clear hw hgo hc7
  go_wp2_with fail
  refine (pgroups_c _ _).mono ?_
  rintro e w14 ⟨g1, g2, g3, rfl, _, _, _, hg1, hg2, hg3, hb'⟩
  have WR := Lib.hid (WR.out.kept_ hb')
  have HB1 := Lib.hid ((HB1.out).trans (hb'.mono (HB1.out).size))
  have GG := Lib.hid hg3
  clear hg1 hg2 hg3 hb'
  have ii := i2.out
  go_wp2_with fail
  clear ii
  refine wp_loop_rounds 2 ?_
  rw [rounds_succ]
  obtain ⟨zB10, zB11, zB12, zB13⟩ := (B1.out.below HB1.out B1.out.lt).cells4
  have zg := GG.out.cell 0
  go_wp2_with fail
  clear zg
  clear zB10 zB11 zB12 zB13
  refine (gput_c _ g c7 v.B (bv7) w14 WR.out (by omega) HB1.out.size).mono ?_
  rintro e w15 ⟨rfl, hgo⟩
  have HB1 := Lib.hid (HB1.out.trans (WGoes.below_ WR.out hgo HB1.out.size))
  have GG := Lib.hid (WGoes.blk WR.out hgo GG.out (by decide) (by decide))
  obtain ⟨bv8, hw⟩ := WGoes.wr_ hgo
  obtain ⟨c8, hc8⟩ : ∃ c, c = c7 ++ codeB v.B := ⟨_, rfl⟩
  rw [← hc8] at hw
  have WR := Lib.hid hw
  have l8 : c8.length ≤ 318 := by rw [hc8, List.length_append]; have := codeB_len (v.B);  omega
  have HC8 := Lib.hid hc8
  clear hw hgo hc8
  go_wp2_with fail
  rw [rounds_succ]
  go_wp2_with fail
  clear GG
  rw [rounds_succ]
  go_wp2_with fail
  refine (walign_c _ g c8 (bv8) w15 WR.out (by omega) HB1.out.size).mono ?_
  rintro e w16 ⟨rfl, hgo⟩
  have HB1 := Lib.hid (HB1.out.trans (WGoes.below_ WR.out hgo HB1.out.size))
  obtain ⟨bvz, hw⟩ := WGoes.wr_ hgo
  have WR := Lib.hid hw
  clear hw hgo
  have lz : (padB c8).length ≤ 100000 := by rw [padB_len]; omega
  go_wp2_with fail
  have HSZ := Lib.hid (Nat.le_trans HB.out.size HB1.out.size)
  refine (wbytes_c _ g _ _ _ WR.out (by omega)).mono ?_
  rintro e w17 ⟨vv, rfl, ho, hb'⟩
  have OV := Lib.hid ho
  have HB1 := Lib.hid (HB1.out.trans (hb'.mono HB1.out.size))
  clear ho
  have HRE := Lib.hid (show c8 = res by rw [HRES.out, HC8.out, HC7.out, HC6.out, HC5.out, HC4.out, HC3.out, HC2.out, HC1.out]; simp [grpB])
  rw [HRE.out] at OV
  go_wp2_with fail
  go_ret2
  exact ⟨_, rfl, OV.out.lower HSZ.out, HB.out.trans (HB1.out.mono HB.out.size)⟩
set_option maxRecDepth 100000 in
set_option maxHeartbeats 6400000 in
theorem pput_6 (v : Vd) (w : World) (hr : rightVd v = true) (h1 : oth1 v (baseV (bestN v)) = true) (h2 : oth2 v (baseV (bestN v)) = true) (h3 : oth3 v (baseV (bestN v)) = false) : Calls Try.prog 11 #[vdV v] w fun e w' => ∃ u, e = .returned (.tuple #[u, .int .i64 0]) ∧ OwnB w' w.heap.size u (packZ (padB (putB v))) ∧ Below w.heap.size w w' := by
  have HB := Lib.hid (Below.refl w.heap.size w)
  have HR := Lib.hid hr
  obtain ⟨k, hk⟩ : ∃ k, k = bestN v := ⟨_, rfl⟩
  have k5 : k < 5 := by rw [hk]; exact bstK_lt v 5 (Nat.le_refl _)
  obtain ⟨b, hb⟩ : ∃ b, b = baseV k := ⟨_, rfl⟩
  unfold putB byB
  rw [← hk, ← hb]
  rw [← hk, ← hb] at h1 h2 h3
  have HK := Lib.hid hk.symm
  have HBK := Lib.hid hb.symm
  have H1 := Lib.hid h1
  have H2 := Lib.hid h2
  have H3 := Lib.hid h3
  rw [h1, h2, h3]
  clear hr hk hb h1 h2 h3
  have jt : ∀ w, (Instr.index 42 (.agg tabV) (.int .i64 k)).run Try.prog w = .ok (vdV b) w := fun w => by rw [← HBK.out]; exact idx_tabk k5 w
  obtain ⟨res, hres⟩ : ∃ l, l = codeB 1 ++ codeB (k : Int) ++ grpB true [v.W, v.H] ++ grpB true [v.C] ++ grpB false [v.B] := ⟨_, rfl⟩
  rw [← hres]
  have HRES := Lib.hid hres
  clear hres
  have HJT := Lib.hid jt
  clear jt
  go_enter Try.func11, Try.ntmps11
  go_wp2_with fail
  have HB := Lib.hid (below_alloc_ (HB.out) (.cells #[.int .i64 v.W, .int .i64 v.H, .int .i64 v.C, .int .i64 v.B] 23))
  have hzw : (w.alloc (.cells #[.int .i64 v.W, .int .i64 v.H, .int .i64 v.C, .int .i64 v.B] 23)).heap.size = w.heap.size + 1 := by simp only [World.size_alloc]
  have B1 := Blk.new (w) 23 #[.int .i64 v.W, .int .i64 v.H, .int .i64 v.C, .int .i64 v.B]
  skip
  have B1 := Lib.hid B1
  generalize w.alloc (.cells #[.int .i64 v.W, .int .i64 v.H, .int .i64 v.C, .int .i64 v.B] 23) = w1 at *
  clear hzw
  have HB1 := Lib.hid (Below.refl w1.heap.size w1)
  obtain ⟨zB10, zB11, zB12, zB13⟩ := (B1.out.below HB1.out B1.out.lt).cells4
  go_wp2_with fail
  clear zB10 zB11 zB12 zB13
  refine (precon_c v _).mono ?_
  rintro e w2 ⟨rfl, hb'⟩
  have HB1 := Lib.hid ((HB1.out).trans (hb'.mono (HB1.out).size))
  clear hb'
  rw [HR.out]
  have B1 := Lib.hid (B1.out.below HB1.out B1.out.lt)
  have HB := Lib.hid (HB.out.trans (HB1.out.mono HB.out.size))
  have HB1 := Lib.hid (Below.refl w2.heap.size w2)
  go_upto_region 4 with fail
  have HB1 := Lib.hid (below_alloc_ (HB1.out) (.cells #[.slice none 0 0, .int .i64 0] 54))
  have hzw : (w2.alloc (.cells #[.slice none 0 0, .int .i64 0] 54)).heap.size = w2.heap.size + 1 := by simp only [World.size_alloc]
  have BW := Blk.new (w2) 54 #[.slice none 0 0, .int .i64 0]
  skip
  have BW := Lib.hid BW
  generalize w2.alloc (.cells #[.slice none 0 0, .int .i64 0] 54) = w3 at *
  clear hzw
  obtain ⟨g, hg⟩ : ∃ g, g = w2.heap.size := ⟨_, rfl⟩
  rw [← hg] at BW ⊢
  have WR := Lib.hid (show WrI w3 w2.heap.size g (.slice none 0 0) [] from ⟨Nat.le_of_eq hg.symm, BW.out, OwnB.nil _ _⟩)
  clear hg BW
  obtain ⟨zB10, zB11, zB12, zB13⟩ := (B1.out.below HB1.out B1.out.lt).cells4
  go_wp2_with fail
  clear zB10 zB11 zB12 zB13
  refine (gput_c _ g [] 1 (.slice none 0 0) w3 WR.out (by simp) HB1.out.size).mono ?_
  rintro e w4 ⟨rfl, hgo⟩
  have HB1 := Lib.hid (HB1.out.trans (WGoes.below_ WR.out hgo HB1.out.size))
  obtain ⟨bv1, hw⟩ := WGoes.wr_ hgo
  obtain ⟨c1, hc1⟩ : ∃ c, c = [] ++ codeB 1 := ⟨_, rfl⟩
  rw [← hc1] at hw
  have WR := Lib.hid hw
  have l1 : c1.length ≤ 63 := by rw [hc1, List.length_append]; have := codeB_len (1); simp only [List.length_nil];  omega
  have HC1 := Lib.hid hc1
  clear hw hgo hc1
  obtain ⟨zB10, zB11, zB12, zB13⟩ := (B1.out.below HB1.out B1.out.lt).cells4
  go_wp2_with fail
  clear zB10 zB11 zB12 zB13
  refine (pbest_c v _).mono ?_
  rintro e w5 ⟨rfl, hb'⟩
  have WR := Lib.hid (WR.out.kept_ hb')
  have HB1 := Lib.hid ((HB1.out).trans (hb'.mono (HB1.out).size))
  clear hb'
  rw [HK.out]
  obtain ⟨zB10, zB11, zB12, zB13⟩ := (B1.out.below HB1.out B1.out.lt).cells4
  go_wp2_with fail
  clear zB10 zB11 zB12 zB13
  refine (gput_c _ g c1 (k : Int) (bv1) w5 WR.out (by omega) HB1.out.size).mono ?_
  rintro e w6 ⟨rfl, hgo⟩
  have HB1 := Lib.hid (HB1.out.trans (WGoes.below_ WR.out hgo HB1.out.size))
  obtain ⟨bv2, hw⟩ := WGoes.wr_ hgo
  obtain ⟨c2, hc2⟩ : ∃ c, c = c1 ++ codeB (k : Int) := ⟨_, rfl⟩
  rw [← hc2] at hw
  have WR := Lib.hid hw
  have l2 : c2.length ≤ 126 := by rw [hc2, List.length_append]; have := codeB_len (k : Int);  omega
  have HC2 := Lib.hid hc2
  clear hw hgo hc2
  go_upto_region 7 with fail
  have jt := HJT.out
  obtain ⟨zB10, zB11, zB12, zB13⟩ := (B1.out.below HB1.out B1.out.lt).cells4
  have HWR := Lib.hid WR.out
  have HBq := Lib.hid (Below.refl w6.heap.size w6)
  have kq0 := cell_regrown zB10
  have kq1 := cell_regrown zB11
  have kq2 := cell_regrown zB12
  have kq3 := cell_regrown zB13
  have qc0 := fun (d : Nat) (os : Array Obj) => Calls.regrown_of (ptable_c (grow (redrawn w6 d) os))
  have qc1 := fun (d : Nat) (os : Array Obj) => Calls.regrown_of ((by have h := pothers_c v b (grow (redrawn w6 d) os); rw [H1.out, H2.out, H3.out] at h; exact h))
  clear zB10 zB11 zB12 zB13
  refine wp_region_quiet_below (by kernel_rfl) (by kernel_rfl) ?_
  repeat (go_big_quiet_step (first | with_reducible exact qc0 _ _ | with_reducible exact qc1 _ _))
  refine wpQuiet_nil ?_
  intro _ hw'
  obtain ⟨⟨dq, osq⟩, hw''⟩ := hw'
  subst hw''
  have hb' := below_regrown w6 dq osq
  clear kq0 kq1 kq2 kq3 qc0 qc1
  have HB1 := Lib.hid ((HB1.out).trans (hb'.mono (HB1.out).size))
  have HBq := Lib.hid ((HBq.out).trans (hb'.mono (HBq.out).size))
  clear hb'
  generalize grow (redrawn w6 dq) osq = w7 at *
  have WR := Lib.hid (WR.out.kept_ HBq.out)
  clear HBq HWR jt
  have j0 := Lib.hid (fun a b c w => (idx_bool a b c w).1)
  have j1 := Lib.hid (fun a b c w => (idx_bool a b c w).2.1)
  have j2 := Lib.hid (fun a b c w => (idx_bool a b c w).2.2)
  have i0 := Lib.hid (fun a b c w => (idx_grp a b c w).1)
  have i1 := Lib.hid (fun a b c w => (idx_grp a b c w).2.1)
  have i2 := Lib.hid (fun a b c w => (idx_grp a b c w).2.2)
  go_wp2_with fail
  refine wp_loop_rounds 4 ?_
  rw [rounds_succ]
  have jj := j0.out
  go_wp2_with fail
  clear jj
  refine (wbit_goes _ g c2 true (bv2) w7 WR.out (by omega) HB1.out.size).mono ?_
  rintro e w8 ⟨rfl, hgo⟩
  have HB1 := Lib.hid (HB1.out.trans (WGoes.below_ WR.out hgo HB1.out.size))
  obtain ⟨bv3, hw⟩ := WGoes.wr_ hgo
  obtain ⟨c3, hc3⟩ : ∃ c, c = c2 ++ [true] := ⟨_, rfl⟩
  rw [← hc3] at hw
  have WR := Lib.hid hw
  have l3 : c3.length ≤ 127 := by rw [hc3, List.length_append]; simp; omega
  have HC3 := Lib.hid hc3
  clear hw hgo hc3
  go_wp2_with fail
  refine (pgroups_c _ _).mono ?_
  rintro e w9 ⟨g1, g2, g3, rfl, _, _, _, hg1, hg2, hg3, hb'⟩
  have WR := Lib.hid (WR.out.kept_ hb')
  have HB1 := Lib.hid ((HB1.out).trans (hb'.mono (HB1.out).size))
  have GG := Lib.hid hg1
  clear hg1 hg2 hg3 hb'
  have ii := i0.out
  go_wp2_with fail
  clear ii
  refine wp_loop_rounds 3 ?_
  rw [rounds_succ]
  obtain ⟨zB10, zB11, zB12, zB13⟩ := (B1.out.below HB1.out B1.out.lt).cells4
  have zg := GG.out.cell 0
  go_wp2_with fail
  clear zg
  clear zB10 zB11 zB12 zB13
  refine (gput_c _ g c3 v.W (bv3) w9 WR.out (by omega) HB1.out.size).mono ?_
  rintro e w10 ⟨rfl, hgo⟩
  have HB1 := Lib.hid (HB1.out.trans (WGoes.below_ WR.out hgo HB1.out.size))
  have GG := Lib.hid (WGoes.blk WR.out hgo GG.out (by decide) (by decide))
  obtain ⟨bv4, hw⟩ := WGoes.wr_ hgo
  obtain ⟨c4, hc4⟩ : ∃ c, c = c3 ++ codeB v.W := ⟨_, rfl⟩
  rw [← hc4] at hw
  have WR := Lib.hid hw
  have l4 : c4.length ≤ 190 := by rw [hc4, List.length_append]; have := codeB_len (v.W);  omega
  have HC4 := Lib.hid hc4
  clear hw hgo hc4
  go_wp2_with fail
  rw [rounds_succ]
  obtain ⟨zB10, zB11, zB12, zB13⟩ := (B1.out.below HB1.out B1.out.lt).cells4
  have zg := GG.out.cell 1
  go_wp2_with fail
  clear zg
  clear zB10 zB11 zB12 zB13
  refine (gput_c _ g c4 v.H (bv4) w10 WR.out (by omega) HB1.out.size).mono ?_
  rintro e w11 ⟨rfl, hgo⟩
  have HB1 := Lib.hid (HB1.out.trans (WGoes.below_ WR.out hgo HB1.out.size))
  have GG := Lib.hid (WGoes.blk WR.out hgo GG.out (by decide) (by decide))
  obtain ⟨bv5, hw⟩ := WGoes.wr_ hgo
  obtain ⟨c5, hc5⟩ : ∃ c, c = c4 ++ codeB v.H := ⟨_, rfl⟩
  rw [← hc5] at hw
  have WR := Lib.hid hw
  have l5 : c5.length ≤ 253 := by rw [hc5, List.length_append]; have := codeB_len (v.H);  omega
  have HC5 := Lib.hid hc5
  clear hw hgo hc5
  go_wp2_with fail
  rw [rounds_succ]
  go_wp2_with fail
  clear GG
  rw [rounds_succ]
  have jj := j1.out
  go_wp2_with fail
  clear jj
  refine (wbit_goes _ g c5 true (bv5) w11 WR.out (by omega) HB1.out.size).mono ?_
  rintro e w12 ⟨rfl, hgo⟩
  have HB1 := Lib.hid (HB1.out.trans (WGoes.below_ WR.out hgo HB1.out.size))
  obtain ⟨bv6, hw⟩ := WGoes.wr_ hgo
  obtain ⟨c6, hc6⟩ : ∃ c, c = c5 ++ [true] := ⟨_, rfl⟩
  rw [← hc6] at hw
  have WR := Lib.hid hw
  have l6 : c6.length ≤ 254 := by rw [hc6, List.length_append]; simp; omega
  have HC6 := Lib.hid hc6
  clear hw hgo hc6
  go_wp2_with fail
  refine (pgroups_c _ _).mono ?_
  rintro e w13 ⟨g1, g2, g3, rfl, _, _, _, hg1, hg2, hg3, hb'⟩
  have WR := Lib.hid (WR.out.kept_ hb')
  have HB1 := Lib.hid ((HB1.out).trans (hb'.mono (HB1.out).size))
  have GG := Lib.hid hg2
  clear hg1 hg2 hg3 hb'
  have ii := i1.out
  go_wp2_with fail
  clear ii
  refine wp_loop_rounds 2 ?_
  rw [rounds_succ]
  obtain ⟨zB10, zB11, zB12, zB13⟩ := (B1.out.below HB1.out B1.out.lt).cells4
  have zg := GG.out.cell 0
  go_wp2_with fail
  clear zg
  clear zB10 zB11 zB12 zB13
  refine (gput_c _ g c6 v.C (bv6) w13 WR.out (by omega) HB1.out.size).mono ?_
  rintro e w14 ⟨rfl, hgo⟩
  have HB1 := Lib.hid (HB1.out.trans (WGoes.below_ WR.out hgo HB1.out.size))
  have GG := Lib.hid (WGoes.blk WR.out hgo GG.out (by decide) (by decide))
  obtain ⟨bv7, hw⟩ := WGoes.wr_ hgo
  obtain ⟨c7, hc7⟩ : ∃ c, c = c6 ++ codeB v.C := ⟨_, rfl⟩
  rw [← hc7] at hw
  have WR := Lib.hid hw
  have l7 : c7.length ≤ 317 := by rw [hc7, List.length_append]; have := codeB_len (v.C);  omega
  have HC7 := Lib.hid hc7
  clear hw hgo hc7
  go_wp2_with fail
  rw [rounds_succ]
  go_wp2_with fail
  clear GG
  rw [rounds_succ]
  have jj := j2.out
  go_wp2_with fail
  clear jj
  refine (wbit_goes _ g c7 false (bv7) w14 WR.out (by omega) HB1.out.size).mono ?_
  rintro e w15 ⟨rfl, hgo⟩
  have HB1 := Lib.hid (HB1.out.trans (WGoes.below_ WR.out hgo HB1.out.size))
  obtain ⟨bv8, hw⟩ := WGoes.wr_ hgo
  obtain ⟨c8, hc8⟩ : ∃ c, c = c7 ++ [false] := ⟨_, rfl⟩
  rw [← hc8] at hw
  have WR := Lib.hid hw
  have l8 : c8.length ≤ 318 := by rw [hc8, List.length_append]; simp; omega
  have HC8 := Lib.hid hc8
  clear hw hgo hc8
  go_wp2_with fail
  rw [rounds_succ]
  go_wp2_with fail
  refine (walign_c _ g c8 (bv8) w15 WR.out (by omega) HB1.out.size).mono ?_
  rintro e w16 ⟨rfl, hgo⟩
  have HB1 := Lib.hid (HB1.out.trans (WGoes.below_ WR.out hgo HB1.out.size))
  obtain ⟨bvz, hw⟩ := WGoes.wr_ hgo
  have WR := Lib.hid hw
  clear hw hgo
  have lz : (padB c8).length ≤ 100000 := by rw [padB_len]; omega
  go_wp2_with fail
  have HSZ := Lib.hid (Nat.le_trans HB.out.size HB1.out.size)
  refine (wbytes_c _ g _ _ _ WR.out (by omega)).mono ?_
  rintro e w17 ⟨vv, rfl, ho, hb'⟩
  have OV := Lib.hid ho
  have HB1 := Lib.hid (HB1.out.trans (hb'.mono HB1.out.size))
  clear ho
  have HRE := Lib.hid (show c8 = res by rw [HRES.out, HC8.out, HC7.out, HC6.out, HC5.out, HC4.out, HC3.out, HC2.out, HC1.out]; simp [grpB])
  rw [HRE.out] at OV
  go_wp2_with fail
  go_ret2
  exact ⟨_, rfl, OV.out.lower HSZ.out, HB.out.trans (HB1.out.mono HB.out.size)⟩
set_option maxRecDepth 100000 in
set_option maxHeartbeats 6400000 in
theorem pput_7 (v : Vd) (w : World) (hr : rightVd v = true) (h1 : oth1 v (baseV (bestN v)) = true) (h2 : oth2 v (baseV (bestN v)) = true) (h3 : oth3 v (baseV (bestN v)) = true) : Calls Try.prog 11 #[vdV v] w fun e w' => ∃ u, e = .returned (.tuple #[u, .int .i64 0]) ∧ OwnB w' w.heap.size u (packZ (padB (putB v))) ∧ Below w.heap.size w w' := by
  have HB := Lib.hid (Below.refl w.heap.size w)
  have HR := Lib.hid hr
  obtain ⟨k, hk⟩ : ∃ k, k = bestN v := ⟨_, rfl⟩
  have k5 : k < 5 := by rw [hk]; exact bstK_lt v 5 (Nat.le_refl _)
  obtain ⟨b, hb⟩ : ∃ b, b = baseV k := ⟨_, rfl⟩
  unfold putB byB
  rw [← hk, ← hb]
  rw [← hk, ← hb] at h1 h2 h3
  have HK := Lib.hid hk.symm
  have HBK := Lib.hid hb.symm
  have H1 := Lib.hid h1
  have H2 := Lib.hid h2
  have H3 := Lib.hid h3
  rw [h1, h2, h3]
  clear hr hk hb h1 h2 h3
  have jt : ∀ w, (Instr.index 42 (.agg tabV) (.int .i64 k)).run Try.prog w = .ok (vdV b) w := fun w => by rw [← HBK.out]; exact idx_tabk k5 w
  obtain ⟨res, hres⟩ : ∃ l, l = codeB 1 ++ codeB (k : Int) ++ grpB true [v.W, v.H] ++ grpB true [v.C] ++ grpB true [v.B] := ⟨_, rfl⟩
  rw [← hres]
  have HRES := Lib.hid hres
  clear hres
  have HJT := Lib.hid jt
  clear jt
  go_enter Try.func11, Try.ntmps11
  go_wp2_with fail
  have HB := Lib.hid (below_alloc_ (HB.out) (.cells #[.int .i64 v.W, .int .i64 v.H, .int .i64 v.C, .int .i64 v.B] 23))
  have hzw : (w.alloc (.cells #[.int .i64 v.W, .int .i64 v.H, .int .i64 v.C, .int .i64 v.B] 23)).heap.size = w.heap.size + 1 := by simp only [World.size_alloc]
  have B1 := Blk.new (w) 23 #[.int .i64 v.W, .int .i64 v.H, .int .i64 v.C, .int .i64 v.B]
  skip
  have B1 := Lib.hid B1
  generalize w.alloc (.cells #[.int .i64 v.W, .int .i64 v.H, .int .i64 v.C, .int .i64 v.B] 23) = w1 at *
  clear hzw
  have HB1 := Lib.hid (Below.refl w1.heap.size w1)
  obtain ⟨zB10, zB11, zB12, zB13⟩ := (B1.out.below HB1.out B1.out.lt).cells4
  go_wp2_with fail
  clear zB10 zB11 zB12 zB13
  refine (precon_c v _).mono ?_
  rintro e w2 ⟨rfl, hb'⟩
  have HB1 := Lib.hid ((HB1.out).trans (hb'.mono (HB1.out).size))
  clear hb'
  rw [HR.out]
  have B1 := Lib.hid (B1.out.below HB1.out B1.out.lt)
  have HB := Lib.hid (HB.out.trans (HB1.out.mono HB.out.size))
  have HB1 := Lib.hid (Below.refl w2.heap.size w2)
  go_upto_region 4 with fail
  have HB1 := Lib.hid (below_alloc_ (HB1.out) (.cells #[.slice none 0 0, .int .i64 0] 54))
  have hzw : (w2.alloc (.cells #[.slice none 0 0, .int .i64 0] 54)).heap.size = w2.heap.size + 1 := by simp only [World.size_alloc]
  have BW := Blk.new (w2) 54 #[.slice none 0 0, .int .i64 0]
  skip
  have BW := Lib.hid BW
  generalize w2.alloc (.cells #[.slice none 0 0, .int .i64 0] 54) = w3 at *
  clear hzw
  obtain ⟨g, hg⟩ : ∃ g, g = w2.heap.size := ⟨_, rfl⟩
  rw [← hg] at BW ⊢
  have WR := Lib.hid (show WrI w3 w2.heap.size g (.slice none 0 0) [] from ⟨Nat.le_of_eq hg.symm, BW.out, OwnB.nil _ _⟩)
  clear hg BW
  obtain ⟨zB10, zB11, zB12, zB13⟩ := (B1.out.below HB1.out B1.out.lt).cells4
  go_wp2_with fail
  clear zB10 zB11 zB12 zB13
  refine (gput_c _ g [] 1 (.slice none 0 0) w3 WR.out (by simp) HB1.out.size).mono ?_
  rintro e w4 ⟨rfl, hgo⟩
  have HB1 := Lib.hid (HB1.out.trans (WGoes.below_ WR.out hgo HB1.out.size))
  obtain ⟨bv1, hw⟩ := WGoes.wr_ hgo
  obtain ⟨c1, hc1⟩ : ∃ c, c = [] ++ codeB 1 := ⟨_, rfl⟩
  rw [← hc1] at hw
  have WR := Lib.hid hw
  have l1 : c1.length ≤ 63 := by rw [hc1, List.length_append]; have := codeB_len (1); simp only [List.length_nil];  omega
  have HC1 := Lib.hid hc1
  clear hw hgo hc1
  obtain ⟨zB10, zB11, zB12, zB13⟩ := (B1.out.below HB1.out B1.out.lt).cells4
  go_wp2_with fail
  clear zB10 zB11 zB12 zB13
  refine (pbest_c v _).mono ?_
  rintro e w5 ⟨rfl, hb'⟩
  have WR := Lib.hid (WR.out.kept_ hb')
  have HB1 := Lib.hid ((HB1.out).trans (hb'.mono (HB1.out).size))
  clear hb'
  rw [HK.out]
  obtain ⟨zB10, zB11, zB12, zB13⟩ := (B1.out.below HB1.out B1.out.lt).cells4
  go_wp2_with fail
  clear zB10 zB11 zB12 zB13
  refine (gput_c _ g c1 (k : Int) (bv1) w5 WR.out (by omega) HB1.out.size).mono ?_
  rintro e w6 ⟨rfl, hgo⟩
  have HB1 := Lib.hid (HB1.out.trans (WGoes.below_ WR.out hgo HB1.out.size))
  obtain ⟨bv2, hw⟩ := WGoes.wr_ hgo
  obtain ⟨c2, hc2⟩ : ∃ c, c = c1 ++ codeB (k : Int) := ⟨_, rfl⟩
  rw [← hc2] at hw
  have WR := Lib.hid hw
  have l2 : c2.length ≤ 126 := by rw [hc2, List.length_append]; have := codeB_len (k : Int);  omega
  have HC2 := Lib.hid hc2
  clear hw hgo hc2
  go_upto_region 7 with fail
  have jt := HJT.out
  obtain ⟨zB10, zB11, zB12, zB13⟩ := (B1.out.below HB1.out B1.out.lt).cells4
  have HWR := Lib.hid WR.out
  have HBq := Lib.hid (Below.refl w6.heap.size w6)
  have kq0 := cell_regrown zB10
  have kq1 := cell_regrown zB11
  have kq2 := cell_regrown zB12
  have kq3 := cell_regrown zB13
  have qc0 := fun (d : Nat) (os : Array Obj) => Calls.regrown_of (ptable_c (grow (redrawn w6 d) os))
  have qc1 := fun (d : Nat) (os : Array Obj) => Calls.regrown_of ((by have h := pothers_c v b (grow (redrawn w6 d) os); rw [H1.out, H2.out, H3.out] at h; exact h))
  clear zB10 zB11 zB12 zB13
  refine wp_region_quiet_below (by kernel_rfl) (by kernel_rfl) ?_
  repeat (go_big_quiet_step (first | with_reducible exact qc0 _ _ | with_reducible exact qc1 _ _))
  refine wpQuiet_nil ?_
  intro _ hw'
  obtain ⟨⟨dq, osq⟩, hw''⟩ := hw'
  subst hw''
  have hb' := below_regrown w6 dq osq
  clear kq0 kq1 kq2 kq3 qc0 qc1
  have HB1 := Lib.hid ((HB1.out).trans (hb'.mono (HB1.out).size))
  have HBq := Lib.hid ((HBq.out).trans (hb'.mono (HBq.out).size))
  clear hb'
  generalize grow (redrawn w6 dq) osq = w7 at *
  have WR := Lib.hid (WR.out.kept_ HBq.out)
  clear HBq HWR jt
  have j0 := Lib.hid (fun a b c w => (idx_bool a b c w).1)
  have j1 := Lib.hid (fun a b c w => (idx_bool a b c w).2.1)
  have j2 := Lib.hid (fun a b c w => (idx_bool a b c w).2.2)
  have i0 := Lib.hid (fun a b c w => (idx_grp a b c w).1)
  have i1 := Lib.hid (fun a b c w => (idx_grp a b c w).2.1)
  have i2 := Lib.hid (fun a b c w => (idx_grp a b c w).2.2)
  go_wp2_with fail
  refine wp_loop_rounds 4 ?_
  rw [rounds_succ]
  have jj := j0.out
  go_wp2_with fail
  clear jj
  refine (wbit_goes _ g c2 true (bv2) w7 WR.out (by omega) HB1.out.size).mono ?_
  rintro e w8 ⟨rfl, hgo⟩
  have HB1 := Lib.hid (HB1.out.trans (WGoes.below_ WR.out hgo HB1.out.size))
  obtain ⟨bv3, hw⟩ := WGoes.wr_ hgo
  obtain ⟨c3, hc3⟩ : ∃ c, c = c2 ++ [true] := ⟨_, rfl⟩
  rw [← hc3] at hw
  have WR := Lib.hid hw
  have l3 : c3.length ≤ 127 := by rw [hc3, List.length_append]; simp; omega
  have HC3 := Lib.hid hc3
  clear hw hgo hc3
  go_wp2_with fail
  refine (pgroups_c _ _).mono ?_
  rintro e w9 ⟨g1, g2, g3, rfl, _, _, _, hg1, hg2, hg3, hb'⟩
  have WR := Lib.hid (WR.out.kept_ hb')
  have HB1 := Lib.hid ((HB1.out).trans (hb'.mono (HB1.out).size))
  have GG := Lib.hid hg1
  clear hg1 hg2 hg3 hb'
  have ii := i0.out
  go_wp2_with fail
  clear ii
  refine wp_loop_rounds 3 ?_
  rw [rounds_succ]
  obtain ⟨zB10, zB11, zB12, zB13⟩ := (B1.out.below HB1.out B1.out.lt).cells4
  have zg := GG.out.cell 0
  go_wp2_with fail
  clear zg
  clear zB10 zB11 zB12 zB13
  refine (gput_c _ g c3 v.W (bv3) w9 WR.out (by omega) HB1.out.size).mono ?_
  rintro e w10 ⟨rfl, hgo⟩
  have HB1 := Lib.hid (HB1.out.trans (WGoes.below_ WR.out hgo HB1.out.size))
  have GG := Lib.hid (WGoes.blk WR.out hgo GG.out (by decide) (by decide))
  obtain ⟨bv4, hw⟩ := WGoes.wr_ hgo
  obtain ⟨c4, hc4⟩ : ∃ c, c = c3 ++ codeB v.W := ⟨_, rfl⟩
  rw [← hc4] at hw
  have WR := Lib.hid hw
  have l4 : c4.length ≤ 190 := by rw [hc4, List.length_append]; have := codeB_len (v.W);  omega
  have HC4 := Lib.hid hc4
  clear hw hgo hc4
  go_wp2_with fail
  rw [rounds_succ]
  obtain ⟨zB10, zB11, zB12, zB13⟩ := (B1.out.below HB1.out B1.out.lt).cells4
  have zg := GG.out.cell 1
  go_wp2_with fail
  clear zg
  clear zB10 zB11 zB12 zB13
  refine (gput_c _ g c4 v.H (bv4) w10 WR.out (by omega) HB1.out.size).mono ?_
  rintro e w11 ⟨rfl, hgo⟩
  have HB1 := Lib.hid (HB1.out.trans (WGoes.below_ WR.out hgo HB1.out.size))
  have GG := Lib.hid (WGoes.blk WR.out hgo GG.out (by decide) (by decide))
  obtain ⟨bv5, hw⟩ := WGoes.wr_ hgo
  obtain ⟨c5, hc5⟩ : ∃ c, c = c4 ++ codeB v.H := ⟨_, rfl⟩
  rw [← hc5] at hw
  have WR := Lib.hid hw
  have l5 : c5.length ≤ 253 := by rw [hc5, List.length_append]; have := codeB_len (v.H);  omega
  have HC5 := Lib.hid hc5
  clear hw hgo hc5
  go_wp2_with fail
  rw [rounds_succ]
  go_wp2_with fail
  clear GG
  rw [rounds_succ]
  have jj := j1.out
  go_wp2_with fail
  clear jj
  refine (wbit_goes _ g c5 true (bv5) w11 WR.out (by omega) HB1.out.size).mono ?_
  rintro e w12 ⟨rfl, hgo⟩
  have HB1 := Lib.hid (HB1.out.trans (WGoes.below_ WR.out hgo HB1.out.size))
  obtain ⟨bv6, hw⟩ := WGoes.wr_ hgo
  obtain ⟨c6, hc6⟩ : ∃ c, c = c5 ++ [true] := ⟨_, rfl⟩
  rw [← hc6] at hw
  have WR := Lib.hid hw
  have l6 : c6.length ≤ 254 := by rw [hc6, List.length_append]; simp; omega
  have HC6 := Lib.hid hc6
  clear hw hgo hc6
  go_wp2_with fail
  refine (pgroups_c _ _).mono ?_
  rintro e w13 ⟨g1, g2, g3, rfl, _, _, _, hg1, hg2, hg3, hb'⟩
  have WR := Lib.hid (WR.out.kept_ hb')
  have HB1 := Lib.hid ((HB1.out).trans (hb'.mono (HB1.out).size))
  have GG := Lib.hid hg2
  clear hg1 hg2 hg3 hb'
  have ii := i1.out
  go_wp2_with fail
  clear ii
  refine wp_loop_rounds 2 ?_
  rw [rounds_succ]
  obtain ⟨zB10, zB11, zB12, zB13⟩ := (B1.out.below HB1.out B1.out.lt).cells4
  have zg := GG.out.cell 0
  go_wp2_with fail
  clear zg
  clear zB10 zB11 zB12 zB13
  refine (gput_c _ g c6 v.C (bv6) w13 WR.out (by omega) HB1.out.size).mono ?_
  rintro e w14 ⟨rfl, hgo⟩
  have HB1 := Lib.hid (HB1.out.trans (WGoes.below_ WR.out hgo HB1.out.size))
  have GG := Lib.hid (WGoes.blk WR.out hgo GG.out (by decide) (by decide))
  obtain ⟨bv7, hw⟩ := WGoes.wr_ hgo
  obtain ⟨c7, hc7⟩ : ∃ c, c = c6 ++ codeB v.C := ⟨_, rfl⟩
  rw [← hc7] at hw
  have WR := Lib.hid hw
  have l7 : c7.length ≤ 317 := by rw [hc7, List.length_append]; have := codeB_len (v.C);  omega
  have HC7 := Lib.hid hc7
  clear hw hgo hc7
  go_wp2_with fail
  rw [rounds_succ]
  go_wp2_with fail
  clear GG
  rw [rounds_succ]
  have jj := j2.out
  go_wp2_with fail
  clear jj
  refine (wbit_goes _ g c7 true (bv7) w14 WR.out (by omega) HB1.out.size).mono ?_
  rintro e w15 ⟨rfl, hgo⟩
  have HB1 := Lib.hid (HB1.out.trans (WGoes.below_ WR.out hgo HB1.out.size))
  obtain ⟨bv8, hw⟩ := WGoes.wr_ hgo
  obtain ⟨c8, hc8⟩ : ∃ c, c = c7 ++ [true] := ⟨_, rfl⟩
  rw [← hc8] at hw
  have WR := Lib.hid hw
  have l8 : c8.length ≤ 318 := by rw [hc8, List.length_append]; simp; omega
  have HC8 := Lib.hid hc8
  clear hw hgo hc8
  go_wp2_with fail
  refine (pgroups_c _ _).mono ?_
  rintro e w16 ⟨g1, g2, g3, rfl, _, _, _, hg1, hg2, hg3, hb'⟩
  have WR := Lib.hid (WR.out.kept_ hb')
  have HB1 := Lib.hid ((HB1.out).trans (hb'.mono (HB1.out).size))
  have GG := Lib.hid hg3
  clear hg1 hg2 hg3 hb'
  have ii := i2.out
  go_wp2_with fail
  clear ii
  refine wp_loop_rounds 2 ?_
  rw [rounds_succ]
  obtain ⟨zB10, zB11, zB12, zB13⟩ := (B1.out.below HB1.out B1.out.lt).cells4
  have zg := GG.out.cell 0
  go_wp2_with fail
  clear zg
  clear zB10 zB11 zB12 zB13
  refine (gput_c _ g c8 v.B (bv8) w16 WR.out (by omega) HB1.out.size).mono ?_
  rintro e w17 ⟨rfl, hgo⟩
  have HB1 := Lib.hid (HB1.out.trans (WGoes.below_ WR.out hgo HB1.out.size))
  have GG := Lib.hid (WGoes.blk WR.out hgo GG.out (by decide) (by decide))
  obtain ⟨bv9, hw⟩ := WGoes.wr_ hgo
  obtain ⟨c9, hc9⟩ : ∃ c, c = c8 ++ codeB v.B := ⟨_, rfl⟩
  rw [← hc9] at hw
  have WR := Lib.hid hw
  have l9 : c9.length ≤ 381 := by rw [hc9, List.length_append]; have := codeB_len (v.B);  omega
  have HC9 := Lib.hid hc9
  clear hw hgo hc9
  go_wp2_with fail
  rw [rounds_succ]
  go_wp2_with fail
  clear GG
  rw [rounds_succ]
  go_wp2_with fail
  refine (walign_c _ g c9 (bv9) w17 WR.out (by omega) HB1.out.size).mono ?_
  rintro e w18 ⟨rfl, hgo⟩
  have HB1 := Lib.hid (HB1.out.trans (WGoes.below_ WR.out hgo HB1.out.size))
  obtain ⟨bvz, hw⟩ := WGoes.wr_ hgo
  have WR := Lib.hid hw
  clear hw hgo
  have lz : (padB c9).length ≤ 100000 := by rw [padB_len]; omega
  go_wp2_with fail
  have HSZ := Lib.hid (Nat.le_trans HB.out.size HB1.out.size)
  refine (wbytes_c _ g _ _ _ WR.out (by omega)).mono ?_
  rintro e w19 ⟨vv, rfl, ho, hb'⟩
  have OV := Lib.hid ho
  have HB1 := Lib.hid (HB1.out.trans (hb'.mono HB1.out.size))
  clear ho
  have HRE := Lib.hid (show c9 = res by rw [HRES.out, HC9.out, HC8.out, HC7.out, HC6.out, HC5.out, HC4.out, HC3.out, HC2.out, HC1.out]; simp [grpB])
  rw [HRE.out] at OV
  go_wp2_with fail
  go_ret2
  exact ⟨_, rfl, OV.out.lower HSZ.out, HB.out.trans (HB1.out.mono HB.out.size)⟩
theorem pput_yes (v : Vd) (w : World) (hr : rightVd v = true) : Calls Try.prog 11 #[vdV v] w fun e w' => ∃ u, e = .returned (.tuple #[u, .int .i64 0]) ∧ OwnB w' w.heap.size u (packZ (padB (putB v))) ∧ Below w.heap.size w w' := by
  cases h1 : oth1 v (baseV (bestN v)) <;> cases h2 : oth2 v (baseV (bestN v)) <;> cases h3 : oth3 v (baseV (bestN v))
  · exact pput_0 v w hr h1 h2 h3
  · exact pput_1 v w hr h1 h2 h3
  · exact pput_2 v w hr h1 h2 h3
  · exact pput_3 v w hr h1 h2 h3
  · exact pput_4 v w hr h1 h2 h3
  · exact pput_5 v w hr h1 h2 h3
  · exact pput_6 v w hr h1 h2 h3
  · exact pput_7 v w hr h1 h2 h3

end Go.Proofs.Ytgdlleoefncikaa
