/- Bands: a band laid into a plane. -/
import Derived.Test.YtjlajggilcihoaaBd13
import Derived.Deep.DeepCutAuto
import Derived.Deep.CutBlock
namespace Go.Proofs.Ytjlajggilcihoaa
open Go.RowKit Go.Shelf
set_option linter.unusedVariables false
set_option linter.unusedSimpArgs false
attribute [local go_sem] Oper.semAt_some

set_option maxRecDepth 100000 in
set_option maxHeartbeats 6400000 in
theorem blay_yes (a b : Nat) (V : List Int) (g cp : Nat) (l o : Int) (x y bw bh : Nat) (U : List Int) (A' : Option Addr) (cq B1 : Nat) (w : World) (hO : OwnI w B1 (.slice (some ⟨g, 0, none⟩) V.length cp) V) (hR' : ReadsI w A' U) (a1 : 1 ≤ a) (a2 : a ≤ 1024) (b1 : 1 ≤ b) (b2 : b ≤ 1024) (hl : V.length = a * b) (hl2 : U.length = bw * bh)
    (bw1 : 1 ≤ bw) (bh1 : 1 ≤ bh) (hx : x + bw ≤ a) (hy : y + bh ≤ b) :
    Calls Try.prog 19 #[plV a b (.slice (some ⟨g, 0, none⟩) V.length cp), .agg #[.int .i64 l, .int .i64 o, .int .i64 x, .int .i64 y, .int .i64 bw, .int .i64 bh], plV bw bh (.slice A' U.length cq)] w fun e w' => e = .returned (.bool true) ∧ OwnI w' B1 (.slice (some ⟨g, 0, none⟩) V.length cp) (laidL V U a x y bw bh V.length) ∧ ButTwo w.heap.size g g w w' := by
  have hn : V.length ≤ 9223372036854775807 := by have := area_bd (W := a) (H := b) (by omega) (by omega) (by omega) (by omega); have := Int.natCast_mul a b; omega
  have hu : U.length ≤ 1048576 := by rw [hl2]; exact Nat.mul_le_mul (show bw ≤ 1024 by omega) (show bh ≤ 1024 by omega)
  have hok : okB a b V.length = true := by rw [hl]; exact okB_mk a1 a2 b1 b2
  have hoq : okB bw bh U.length = true := by rw [hl2]; exact okB_mk bw1 (by omega) bh1 (by omega)
  have HIN := Lib.hid (show inB a b V.length ⟨l, o, x, y, bw, bh⟩ = true by unfold inB; rw [hok]; simp; omega)
  have HOQ := Lib.hid hoq
  have HL := Lib.hid hl
  have HL2 := Lib.hid hl2
  have HO := Lib.hid hO
  have RQ := Lib.hid hR'
  have HB := Lib.hid (Below.refl w.heap.size w)
  have hgl := Lib.hid (hO.blk_lt g rfl)
  have e1 : ((bw : Int) != (bw : Int)) = false := by simp
  have e2 : ((bh : Int) != (bh : Int)) = false := by simp
  clear hR' hO hl hl2 hok hoq
  refine calls_marks Try.func19 rfl ?_
  simp only [Try.ntmps19, List.size_toArray, List.length_cons, List.length_nil, Nat.reduceAdd, Nat.reduceSub, Array.replicate_succ, Array.replicate_zero, List.push_toArray, List.append_toArray, List.nil_append, List.cons_append]
  go_wp2_with fail
  have HO := Lib.hid ((((HO.out).alloc (.cells #[.int .i64 a, .int .i64 b, .slice (some ⟨g, 0, none⟩) V.length cp] 39)).alloc (.cells #[.int .i64 l, .int .i64 o, .int .i64 x, .int .i64 y, .int .i64 bw, .int .i64 bh] 31)).alloc (.cells #[.int .i64 bw, .int .i64 bh, .slice A' U.length cq] 39))
  have RQ := Lib.hid ((((RQ.out).alloc (.cells #[.int .i64 a, .int .i64 b, .slice (some ⟨g, 0, none⟩) V.length cp] 39)).alloc (.cells #[.int .i64 l, .int .i64 o, .int .i64 x, .int .i64 y, .int .i64 bw, .int .i64 bh] 31)).alloc (.cells #[.int .i64 bw, .int .i64 bh, .slice A' U.length cq] 39))
  have HB := Lib.hid (below_alloc_ (below_alloc_ (below_alloc_ (HB.out) (.cells #[.int .i64 a, .int .i64 b, .slice (some ⟨g, 0, none⟩) V.length cp] 39)) (.cells #[.int .i64 l, .int .i64 o, .int .i64 x, .int .i64 y, .int .i64 bw, .int .i64 bh] 31)) (.cells #[.int .i64 bw, .int .i64 bh, .slice A' U.length cq] 39))
  have hzw : (((w.alloc (.cells #[.int .i64 a, .int .i64 b, .slice (some ⟨g, 0, none⟩) V.length cp] 39)).alloc (.cells #[.int .i64 l, .int .i64 o, .int .i64 x, .int .i64 y, .int .i64 bw, .int .i64 bh] 31)).alloc (.cells #[.int .i64 bw, .int .i64 bh, .slice A' U.length cq] 39)).heap.size = w.heap.size + 3 := by simp only [World.size_alloc]
  have B3 := ((Blk.new (w) 39 #[.int .i64 a, .int .i64 b, .slice (some ⟨g, 0, none⟩) V.length cp]).alloc (.cells #[.int .i64 l, .int .i64 o, .int .i64 x, .int .i64 y, .int .i64 bw, .int .i64 bh] 31)).alloc (.cells #[.int .i64 bw, .int .i64 bh, .slice A' U.length cq] 39)
  skip
  have B3 := Lib.hid B3
  have B4 := (Blk.new (w.alloc (.cells #[.int .i64 a, .int .i64 b, .slice (some ⟨g, 0, none⟩) V.length cp] 39)) 31 #[.int .i64 l, .int .i64 o, .int .i64 x, .int .i64 y, .int .i64 bw, .int .i64 bh]).alloc (.cells #[.int .i64 bw, .int .i64 bh, .slice A' U.length cq] 39)
  rw [show (w.alloc (.cells #[.int .i64 a, .int .i64 b, .slice (some ⟨g, 0, none⟩) V.length cp] 39)).heap.size = w.heap.size + 1 by simp only [World.size_alloc]] at B4
  have B4 := Lib.hid B4
  have B5 := Blk.new ((w.alloc (.cells #[.int .i64 a, .int .i64 b, .slice (some ⟨g, 0, none⟩) V.length cp] 39)).alloc (.cells #[.int .i64 l, .int .i64 o, .int .i64 x, .int .i64 y, .int .i64 bw, .int .i64 bh] 31)) 39 #[.int .i64 bw, .int .i64 bh, .slice A' U.length cq]
  rw [show ((w.alloc (.cells #[.int .i64 a, .int .i64 b, .slice (some ⟨g, 0, none⟩) V.length cp] 39)).alloc (.cells #[.int .i64 l, .int .i64 o, .int .i64 x, .int .i64 y, .int .i64 bw, .int .i64 bh] 31)).heap.size = w.heap.size + 1 + 1 by simp only [World.size_alloc]] at B5
  have B5 := Lib.hid B5
  generalize ((w.alloc (.cells #[.int .i64 a, .int .i64 b, .slice (some ⟨g, 0, none⟩) V.length cp] 39)).alloc (.cells #[.int .i64 l, .int .i64 o, .int .i64 x, .int .i64 y, .int .i64 bw, .int .i64 bh] 31)).alloc (.cells #[.int .i64 bw, .int .i64 bh, .slice A' U.length cq] 39) = w1 at *
  have HZ := Lib.hid hzw
  clear hzw
  have HB1 := Lib.hid (Below.refl w1.heap.size w1)
  refine (bwithin_c a b (some ⟨g, 0, none⟩) V.length cp ⟨l, o, x, y, bw, bh⟩ _ hn).mono ?_
  rintro e w2 ⟨rfl, hb'⟩
  have HB1 := Lib.hid ((HB1.out).trans (hb'.mono (HB1.out).size))
  clear hb'
  rw [HIN.out]
  obtain ⟨zB30, zB31, zB32⟩ := (B3.out.below HB1.out B3.out.lt).cells3
  obtain ⟨zB40, zB41, zB42, zB43, zB44, zB45⟩ := (B4.out.below HB1.out B4.out.lt).cells6
  obtain ⟨zB50, zB51, zB52⟩ := (B5.out.below HB1.out B5.out.lt).cells3
  go_wp2_with fail
  clear zB30 zB31 zB32
  clear zB40 zB41 zB42 zB43 zB44 zB45
  clear zB50 zB51 zB52
  refine (pright_c bw bh A' U.length cq _ (by omega)).mono ?_
  rintro e w3 ⟨rfl, hb'⟩
  have HB1 := Lib.hid ((HB1.out).trans (hb'.mono (HB1.out).size))
  clear hb'
  rw [HOQ.out]
  obtain ⟨zB30, zB31, zB32⟩ := (B3.out.below HB1.out B3.out.lt).cells3
  obtain ⟨zB40, zB41, zB42, zB43, zB44, zB45⟩ := (B4.out.below HB1.out B4.out.lt).cells6
  obtain ⟨zB50, zB51, zB52⟩ := (B5.out.below HB1.out B5.out.lt).cells3
  go_upto_region 3 with fail
  clear zB30 zB31 zB32
  clear zB40 zB41 zB42 zB43 zB44 zB45
  clear zB50 zB51 zB52
  refine wp_onlyN ?_
  have HB1 := Lib.hid ((HB1.out).drew)
  refine wp_region_held_drew (S := (fun w' => w'.cell? ⟨w.heap.size + 1 + 1, 0, none⟩ = some (.int .i64 bw) ∧ w'.cell? ⟨w.heap.size + 1 + 1, 1, none⟩ = some (.int .i64 bh) ∧ w'.cell? ⟨w.heap.size + 1 + 1, 2, none⟩ = some (.slice A' U.length cq))) (by kernel_rfl) ?hS0 (fun hHeld => ?_)
  case hS0 => exact ⟨(B5.out.below HB1.out B5.out.lt).cell 0, (B5.out.below HB1.out B5.out.lt).cell 1, (B5.out.below HB1.out B5.out.lt).cell 2⟩
  refine wpAnyH_take (i := 0) (oi := ⟨some 32, _, _, _, _, _⟩) (v := ?v1) rfl (by kernel_rfl) (by kernel_rfl) (by kernel_rfl) (fun _ _ _ h => h) (Or.inl ⟨by rfl, ?h1⟩) (by assumption) ?r1
  case h1 => (intro w hSw; (try dsimp only at hSw); go_simp; try with_reducible rfl)
  try simp only [Act.put, List.setIfInBounds_toArray, List.set_cons_zero, List.set_cons_succ]
  refine wpAnyH_take (i := 1) (oi := ⟨some 33, _, _, _, _, _⟩) (v := ?v2) rfl (by kernel_rfl) (by kernel_rfl) (by kernel_rfl) (fun _ _ _ h => h) (Or.inl ⟨by rfl, ?h2⟩) (by assumption) ?r2
  case h2 => (intro w hSw; (try dsimp only at hSw); go_simp; try with_reducible rfl)
  try simp only [Act.put, List.setIfInBounds_toArray, List.set_cons_zero, List.set_cons_succ]
  refine wpAnyH_take (i := 2) (oi := ⟨some 34, _, _, _, _, _⟩) (v := ?v3) rfl (by kernel_rfl) (by kernel_rfl) (by kernel_rfl) (fun _ _ _ h => h) (Or.inl ⟨by rfl, ?h3⟩) (by assumption) ?r3
  case h3 => (intro w hSw; (try dsimp only at hSw); go_simp; try with_reducible rfl)
  try simp only [Act.put, List.setIfInBounds_toArray, List.set_cons_zero, List.set_cons_succ]
  refine wpAnyH_take (i := 3) (oi := ⟨some 35, _, _, _, _, _⟩) (v := ?v4) rfl (by kernel_rfl) (by kernel_rfl) (by kernel_rfl) (fun _ _ _ h => h) (Or.inl ⟨by rfl, ?h4⟩) (by assumption) ?r4
  case h4 => (intro w hSw; (try dsimp only at hSw); go_simp; try with_reducible rfl)
  try simp only [Act.put, List.setIfInBounds_toArray, List.set_cons_zero, List.set_cons_succ]
  refine wpAnyH_take (i := 4) (oi := ⟨some 36, _, _, _, _, _⟩) (v := ?v5) rfl (by kernel_rfl) (by kernel_rfl) (by kernel_rfl) (fun _ _ _ h => h) (Or.inl ⟨by rfl, ?h5⟩) (by assumption) ?r5
  case h5 => (intro w hSw; (try dsimp only at hSw); go_simp; try with_reducible rfl)
  try simp only [Act.put, List.setIfInBounds_toArray, List.set_cons_zero, List.set_cons_succ]
  refine wpAnyH_take (i := 5) (oi := ⟨some 37, _, _, _, _, _⟩) (v := ?v6) rfl (by kernel_rfl) (by kernel_rfl) (by kernel_rfl) (fun _ _ _ h => h) (Or.inl ⟨by rfl, ?h6⟩) (by assumption) ?r6
  case h6 => (intro w hSw; (try dsimp only at hSw); go_simp; try with_reducible rfl)
  try simp only [Act.put, List.setIfInBounds_toArray, List.set_cons_zero, List.set_cons_succ]
  refine wpAnyH_ready (rs := [6]) (by kernel_rfl) (by simp) ?_
  refine (AllReadyH.cons (o := ⟨some 38, _, _, _, _, _⟩) rfl (fun K hK => ?_) AllReadyH.nil)
  go_simp
  have HS1 := HB1
  refine (sclone_c A' cq U _ (RQ.out.kept HB1.out) (by omega)).mono ?_
  rintro e w4 ⟨v, rfl, ho, hb'⟩
  have HB1 := Lib.hid ((HB1.out).trans (hb'.mono (HB1.out).size))
  clear hb'
  obtain ⟨g2, c2, rfl, hg2, _⟩ := ho.formr (by rw [HL2.out]; exact Nat.mul_pos bw1 bh1)
  have HG2 := Lib.hid (show w1.heap.size ≤ g2 from Nat.le_trans HS1.out.size hg2)
  have OC := Lib.hid ho
  clear ho hg2
  refine hK.out _ _ ?hS7 (fun hHeld => ?_)
  case hS7 => exact ⟨(B5.out.below HB1.out B5.out.lt).cell 0, (B5.out.below HB1.out B5.out.lt).cell 1, (B5.out.below HB1.out B5.out.lt).cell 2⟩
  clear hK K
  try simp only [Act.put, List.setIfInBounds_toArray, List.set_cons_zero, List.set_cons_succ]
  refine wpAnyH_take (i := 7) (oi := ⟨some 39, _, _, _, _, _⟩) (v := ?v8) rfl (by kernel_rfl) (by kernel_rfl) (by kernel_rfl) (fun _ _ _ h => h) (Or.inl ⟨by rfl, ?h8⟩) (by assumption) ?r8
  case h8 => (intro w hSw; (try dsimp only at hSw); go_simp; try with_reducible rfl)
  try simp only [Act.put, List.setIfInBounds_toArray, List.set_cons_zero, List.set_cons_succ]
  refine wpAnyH_ready (rs := [8]) (by kernel_rfl) (by simp) ?_
  refine (AllReadyH.cons (o := ⟨some 40, _, _, _, _, _⟩) rfl (fun K hK => ?_) AllReadyH.nil)
  go_simp
  have HS1 := HB1
  refine (prows_b bw bh (.slice (some ⟨g2, 0, none⟩) U.length c2) _).mono ?_
  rintro e w5 ⟨b8, rfl, hbk, hbs, hb'⟩
  have HB1 := Lib.hid ((HB1.out).trans (hb'.mono (HB1.out).size))
  have OC := Lib.hid ((OC.out).kept hb')
  clear hb'
  have B8 := Lib.hid hbk
  have HB8 := Lib.hid (show w1.heap.size ≤ b8 from Nat.le_trans HS1.out.size hbs)
  clear hbk hbs HS1
  refine hK.out _ _ ?hS9 (fun hHeld => ?_)
  case hS9 => exact ⟨(B5.out.below HB1.out B5.out.lt).cell 0, (B5.out.below HB1.out B5.out.lt).cell 1, (B5.out.below HB1.out B5.out.lt).cell 2⟩
  clear hK K
  try simp only [Act.put, List.setIfInBounds_toArray, List.set_cons_zero, List.set_cons_succ]
  refine wpAnyH_done (by kernel_rfl) ?_ _
  clear hHeld
  dsimp only [onlyN]
  go_wp2_with fail
  have gb8 := B8.out.lt
  have gg2 := (OC.out.blk_lt g2 rfl).2
  have hz0 : w1.heap.size = w.heap.size + 3 := HZ.out
  have hz1 := HB1.out.size
  have hgl2 := hgl.out
  have g28 : w1.heap.size ≤ g2 := HG2.out
  have g88 : w1.heap.size ≤ b8 := HB8.out
  have hg8 : g ≠ b8 := by omega
  have hg2n : g ≠ g2 := by omega
  have HOL := Lib.hid ((HO.out.kept HB1.out))
  have HB3 := Lib.hid (show Blk w5 w.heap.size 39 #[.int .i64 a, .int .i64 b, .slice (some ⟨g, 0, none⟩) V.length cp] from (B3.out.below HB1.out B3.out.lt))
  have HB4 := Lib.hid (show Blk w5 (w.heap.size + 1) 31 #[.int .i64 l, .int .i64 o, .int .i64 x, .int .i64 y, .int .i64 bw, .int .i64 bh] from (B4.out.below HB1.out B4.out.lt))
  have hcp := HOL.out.caps
  have HBW := Lib.hid (HB.out.trans (HB1.out.mono HB.out.size))
  have HS := Lib.hid (prows_yes bw bh ⟨g2, 0, none⟩ U c2 b8 w5 bw1 (by omega) bh1 (by omega) HL2.out OC.out.caps.1 OC.out.caps.2 B8.out OC.out.reads)
  have hzl : w.heap.size + 3 ≤ w5.heap.size := by omega
  refine wp_range (N := bh) rfl (enters_of Try.func38 (by kernel_rfl) rfl) HS.out (Below.refl _ _) (fun k hk => Or.elim (show k = b8 ∨ k = g2 from hk) (fun e => by omega) (fun e => by omega))
    (fun k args X hh => by obtain ⟨v, rfl, _⟩ := hh; rfl)
    (fun k X => OwnI X B1 (.slice (some ⟨g, 0, none⟩) V.length cp) (mixL V U a x y bw bh V.length ((y + k) * a)) ∧ ButTwo w5.heap.size g g w5 X)
    (fun _ _ => False)
    (fun k args a' X => (OwnI X B1 (.slice (some ⟨g, 0, none⟩) V.length cp) (mixL V U a x y bw bh V.length ((y + k) * a)) ∧ ButTwo w5.heap.size g g w5 X) ∧ ∃ v, OwnI X w5.heap.size v (rowL bw U k) ∧ a' = { tmps := #[plV a b (.slice (some ⟨g, 0, none⟩) V.length cp), .agg #[.int .i64 l, .int .i64 o, .int .i64 x, .int .i64 y, .int .i64 bw, .int .i64 bh], plV bw bh (.slice A' U.length cq), .pointer (some ⟨w.heap.size, 0, none⟩), .pointer (some ⟨w.heap.size + 1, 0, none⟩), .pointer (some ⟨w.heap.size + 1 + 1, 0, none⟩), .bool false, .int .i64 (k : Int), v, .agg #[.int .i64 a, .int .i64 b, .slice (some ⟨g, 0, none⟩) V.length cp], .agg #[.int .i64 l, .int .i64 o, .int .i64 x, .int .i64 y, .int .i64 bw, .int .i64 bh], .bool true, .bool false, .bool false, .agg #[.int .i64 bw, .int .i64 bh, .slice A' U.length cq], .bool true, .bool false, .bool false, .bool false, .pointer (some ⟨w.heap.size + 1 + 1, 0, none⟩), .int .i64 bw, .pointer (some ⟨w.heap.size + 1, 4, none⟩), .int .i64 bw, .bool false, .bool false, .bool false, .pointer (some ⟨w.heap.size + 1 + 1, 1, none⟩), .int .i64 bh, .pointer (some ⟨w.heap.size + 1, 5, none⟩), .int .i64 bh, .bool false, .bool false, .pointer (some ⟨w.heap.size + 1 + 1, 0, none⟩), .int .i64 bw, .pointer (some ⟨w.heap.size + 1 + 1, 1, none⟩), .int .i64 bh, .pointer (some ⟨w.heap.size + 1 + 1, 2, none⟩), .slice A' U.length cq, .slice (some ⟨g2, 0, none⟩) U.length c2, .agg #[.int .i64 bw, .int .i64 bh, .slice (some ⟨g2, 0, none⟩) U.length c2], .func (.func 38) #[] #[.pointer (some ⟨b8, 0, none⟩)], .int .i64 (k : Int), v, undef, undef, undef, undef, undef, undef], defers := [] })
    ?hI ?hIx ?hM ?h0 ?hassign ?hbody ?hdone ?hstop
  case hI =>
    rintro k A B ⟨i1, i2⟩ q
    exact ⟨own_qt i1 q, i2.qt (Nat.le_refl _) (Nat.le_refl _) q⟩
  case hIx => exact fun _ _ _ h _ => h
  case hM =>
    rintro k args a' A B ⟨⟨i1, i2⟩, v, hv, e⟩ q
    exact ⟨⟨own_qt i1 q, i2.qt (Nat.le_refl _) (Nat.le_refl _) q⟩, v, own_qt hv q, e⟩
  case h0 => exact ⟨by rw [Nat.add_zero, mixL_from rfl]; exact HOL.out, ButTwo.refl _ _ _ _⟩
  case hassign =>
    intro n9 l9 k args X hk hi hkb hs hel
    obtain ⟨v, rfl, hv⟩ := hel
    have HV := Lib.hid hv
    have HI := Lib.hid hi
    clear hi hv hkb
    gi_wp2_with fail
    exact ⟨KeepsFrom.refl _ _, KeepB.refl _ _, HI.out, v, HV.out, rfl⟩
  case hbody =>
    rintro n9 l9 k args a' X hk hl ⟨⟨i1, i2⟩, v, hv, rfl⟩ hs
    have hr : (rowL bw U k).length = bw := rowL_length (row_in hk HL2.out)
    obtain ⟨g3, c3, rfl, hg3, hg3l, _, _⟩ := hv.formr (by rw [hr]; exact bw1)
    have hm : (y + k + 1) * a ≤ V.length := by rw [HL.out, Nat.mul_comm a b]; exact Nat.mul_le_mul_right a (by omega)
    have hm2 : (y + k + 1) * a = (y + k) * a + a := by rw [Nat.add_mul _ 1, Nat.one_mul]
    have HROW := Lib.hid (mixL_row (V := V) (U := U) (n := V.length) hx hk hm HL2.out)
    have HR := Lib.hid hr
    have HI1 := Lib.hid i1
    have HI2 := Lib.hid i2
    have HV := Lib.hid hv
    have HM := Lib.hid hm
    have HM2 := Lib.hid hm2
    have HX := Lib.hid (show (y + k) * a + x + bw ≤ V.length by omega)
    obtain ⟨z0, z1, z2⟩ := (i2.blk HB3.out (by omega) (by omega) (by omega)).cells3
    obtain ⟨y0, y1, y2, y3, y4, y5⟩ := (i2.blk HB4.out (by omega) (by omega) (by omega)).cells6
    clear i1 i2 hv hm hm2 hr
    refine wpIn_block ?_
    refine wpIn_region_plain (by kernel_rfl) rnd_noOut1 ?_
    go_wp2_with fail
    refine (brow_g a b g V.length cp l o x y bw bh k _ a2 (by omega) (by omega) (by omega) bw1 HX.out hcp.1 hcp.2).mono ?_
    rintro e X2 ⟨rfl, hb'⟩
    have HI1b := Lib.hid (HI1.out.kept hb')
    have HVb := Lib.hid (HV.out.kept hb')
    have HBb := Lib.hid hb'
    clear hb' z0 z1 z2 y0 y1 y2 y3 y4 y5
    obtain ⟨cur, hcur, hcs, hput⟩ := HI1b.out.cur
    have hp := hput ((y + k) * a + x) (rowL bw U k) (by rw [mixL_length, HR.out]; exact HX.out)
    rw [HROW.out] at hp
    rw [mixL_length] at hcs
    have HP := Lib.hid hp
    have HC := Lib.hid hcur
    have HCS := Lib.hid hcs
    clear hp hcur hcs hput
    go_wp2_with (
      refine wpList_copy_own (o := ⟨some 48, _, _, _, _, _⟩) rfl (.tmp 46) (.tmp 47) 37 37 rfl 3 Try.underlying37 (by kernel_rfl) g ((y + k) * a + x) bw (cp - ((y + k) * a + x)) ⟨g3, 0, none⟩ (rowL bw U k).length c3 rfl rfl cur 3 HC.out ((rowL bw U k).map (Value.int .i64)) (by rw [List.length_map, HR.out]; exact (Nat.min_self _).symm) ?hsrc (by rw [List.length_map, HR.out]; exact Nat.le_trans HX.out HCS.out) (fun u hu => by obtain ⟨i, _, rfl⟩ := List.mem_map.1 hu; rfl) ?hrest
      case hsrc =>
        obtain ⟨ad, e, _, hc⟩ := HVb.out.reads.2 (by rw [HR.out]; exact bw1)
        cases e
        exact hc
      rw [List.length_map])
    refine ⟨(keepsFrom_qt_of HBb.out).trans (keepsFrom_setRow HC.out), ?_, HP.out, (HI2.out.trans_ HBb.out hs).setRow (.inl rfl) _⟩
    exact KeepB.setRow (KeepB.of_below HBb.out (fun k hk => Or.elim (show k = b8 ∨ k = g2 from hk) (fun e => by omega) (fun e => by omega))) (fun hk => Or.elim (show g = b8 ∨ g = g2 from hk) (fun e => by omega) (fun e => by omega)) _
  case hdone =>
    rintro D X hD ⟨i1, i2⟩ hK
    have HI1 := Lib.hid i1
    have HI2 := Lib.hid i2
    have HD := Lib.hid hK
    have HF := Lib.hid (mixL_to (V := V) (U := U) (x := x) (y := y) (bw := bw) (bh := bh) (n := V.length) a1)
    clear i1 i2 hK
    go_wp2_with fail
    refine leave_mark HD.out (fun w' q => ⟨_, results_tmp rfl _ _ _, ?_⟩)
    have ho := own_qt HI1.out q
    rw [HF.out] at ho
    exact ⟨rfl, ho, (((ButTwo.of_below HBW.out).trans (HI2.out.mono (by omega))).qt (Nat.le_refl _) (by omega) q)⟩
  case hstop => exact fun _ _ _ _ h _ => h.elim


end Go.Proofs.Ytjlajggilcihoaa
