/- Bands: the reference's Cut. -/
import Derived.Test.YtjlajggilcihoaaBd5
import Derived.Test.YtjlajggilcihoaaRef7s
import Derived.Deep.DeepCutAuto
import Derived.Deep.CutBlock
namespace Go.Proofs.Ytjlajggilcihoaa
open Go.RowKit
set_option linter.unusedVariables false
set_option linter.unusedSimpArgs false

theorem cut_made {a b x y bw bh : Nat} {V : List Int} (hok : okB a b V.length = true) (hx : x + bw ≤ a) (hy : y + bh ≤ b) (b1 : 1 ≤ bw) :
    madeL bw bh (fun i j => atP a b V ((x : Int) + i) ((y : Int) + j)) (bw * bh) = cutL V a x y bw (bw * bh) := by
  unfold madeL cutL tab
  rw [fillL_full]
  apply List.map_congr_left
  intro k hk
  have hk := List.mem_range.1 hk
  have h1 : k % bw < bw := Nat.mod_lt _ (by omega)
  have h2 : k / bw < bh := Nat.div_lt_of_lt_mul hk
  have e1 : (x : Int) + ((k % bw : Nat) : Int) = ((x + k % bw : Nat) : Int) := by omega
  have e2 : (y : Int) + ((k / bw : Nat) : Int) = ((y + k / bw : Nat) : Int) := by omega
  show atP a b V ((x : Int) + ((k % bw : Nat) : Int)) ((y : Int) + ((k / bw : Nat) : Int)) = _
  rw [e1, e2, atP_nat hok (by omega) (by omega)]
  congr 1
  omega
set_option maxRecDepth 100000 in
set_option maxHeartbeats 6400000 in
theorem r10cut_yes (a b : Nat) (V : List Int) (A : Option Addr) (cp : Nat) (l o : Int) (x y bw bh : Nat) (w : World) (hR : ReadsI w A V) (a1 : 1 ≤ a) (a2 : a ≤ 1024) (b1 : 1 ≤ b) (b2 : b ≤ 1024) (hl : V.length = a * b)
    (bw1 : 1 ≤ bw) (bh1 : 1 ≤ bh) (hx : x + bw ≤ a) (hy : y + bh ≤ b) :
    Calls Try.prog 18 #[plV a b (.slice A V.length cp), .agg #[.int .i64 l, .int .i64 o, .int .i64 x, .int .i64 y, .int .i64 bw, .int .i64 bh]] w (PlRes ⟨bw, bh, cutL V a x y bw (bw * bh)⟩ w) := by
  have hn : V.length ≤ 9223372036854775807 := by have := area_bd (W := a) (H := b) (by omega) (by omega) (by omega) (by omega); have := Int.natCast_mul a b; omega
  have hok : okB a b V.length = true := by rw [hl]; exact okB_mk a1 a2 b1 b2
  have HIN := Lib.hid (show inB a b V.length ⟨l, o, x, y, bw, bh⟩ = true by unfold inB; rw [hok]; simp; omega)
  have RP := Lib.hid hR
  have HB := Lib.hid (Below.refl w.heap.size w)
  have HCM := Lib.hid (cut_made hok hx hy bw1)
  obtain ⟨ff, hff⟩ : ∃ ff : Int → Int → Int, ff = fun i j => atP a b V ((x : Int) + i) ((y : Int) + j) := ⟨_, rfl⟩
  have HFF := Lib.hid (show ∀ i j, atP a b V ((x : Int) + i) ((y : Int) + j) = ff i j from fun i j => by rw [hff])
  rw [← HCM.out, ← hff]
  have w1' : bw ≤ 1024 := by omega
  have w2' : bh ≤ 1024 := by omega
  clear hR hl hff hok HCM
  go_enter Try.func18, Try.ntmps18
  go_wp2_with fail
  have RP := Lib.hid ((((RP.out).alloc (.cells #[.int .i64 a, .int .i64 b, .slice A V.length cp] 39)).alloc (.cells #[.int .i64 l, .int .i64 o, .int .i64 x, .int .i64 y, .int .i64 bw, .int .i64 bh] 31)).alloc (.cells #[.int .i64 0, .int .i64 0, .slice none 0 0] 39))
  have HB := Lib.hid (below_alloc_ (below_alloc_ (below_alloc_ (HB.out) (.cells #[.int .i64 a, .int .i64 b, .slice A V.length cp] 39)) (.cells #[.int .i64 l, .int .i64 o, .int .i64 x, .int .i64 y, .int .i64 bw, .int .i64 bh] 31)) (.cells #[.int .i64 0, .int .i64 0, .slice none 0 0] 39))
  have hzw : (((w.alloc (.cells #[.int .i64 a, .int .i64 b, .slice A V.length cp] 39)).alloc (.cells #[.int .i64 l, .int .i64 o, .int .i64 x, .int .i64 y, .int .i64 bw, .int .i64 bh] 31)).alloc (.cells #[.int .i64 0, .int .i64 0, .slice none 0 0] 39)).heap.size = w.heap.size + 3 := by simp only [World.size_alloc]
  have B2 := ((Blk.new (w) 39 #[.int .i64 a, .int .i64 b, .slice A V.length cp]).alloc (.cells #[.int .i64 l, .int .i64 o, .int .i64 x, .int .i64 y, .int .i64 bw, .int .i64 bh] 31)).alloc (.cells #[.int .i64 0, .int .i64 0, .slice none 0 0] 39)
  skip
  have B2 := Lib.hid B2
  have B3 := (Blk.new (w.alloc (.cells #[.int .i64 a, .int .i64 b, .slice A V.length cp] 39)) 31 #[.int .i64 l, .int .i64 o, .int .i64 x, .int .i64 y, .int .i64 bw, .int .i64 bh]).alloc (.cells #[.int .i64 0, .int .i64 0, .slice none 0 0] 39)
  rw [show (w.alloc (.cells #[.int .i64 a, .int .i64 b, .slice A V.length cp] 39)).heap.size = w.heap.size + 1 by simp only [World.size_alloc]] at B3
  have B3 := Lib.hid B3
  have B4 := Blk.new ((w.alloc (.cells #[.int .i64 a, .int .i64 b, .slice A V.length cp] 39)).alloc (.cells #[.int .i64 l, .int .i64 o, .int .i64 x, .int .i64 y, .int .i64 bw, .int .i64 bh] 31)) 39 #[.int .i64 0, .int .i64 0, .slice none 0 0]
  rw [show ((w.alloc (.cells #[.int .i64 a, .int .i64 b, .slice A V.length cp] 39)).alloc (.cells #[.int .i64 l, .int .i64 o, .int .i64 x, .int .i64 y, .int .i64 bw, .int .i64 bh] 31)).heap.size = w.heap.size + 1 + 1 by simp only [World.size_alloc]] at B4
  have B4 := Lib.hid B4
  generalize ((w.alloc (.cells #[.int .i64 a, .int .i64 b, .slice A V.length cp] 39)).alloc (.cells #[.int .i64 l, .int .i64 o, .int .i64 x, .int .i64 y, .int .i64 bw, .int .i64 bh] 31)).alloc (.cells #[.int .i64 0, .int .i64 0, .slice none 0 0] 39) = w1 at *
  clear hzw
  have HB1 := Lib.hid (Below.refl w1.heap.size w1)
  refine (r10within_c a b A V.length cp ⟨l, o, x, y, bw, bh⟩ _ hn).mono ?_
  rintro e w2 ⟨rfl, hb'⟩
  have HB1 := Lib.hid ((HB1.out).trans (hb'.mono (HB1.out).size))
  clear hb'
  rw [HIN.out]
  obtain ⟨zB20, zB21, zB22⟩ := (B2.out.below HB1.out B2.out.lt).cells3
  obtain ⟨zB30, zB31, zB32, zB33, zB34, zB35⟩ := (B3.out.below HB1.out B3.out.lt).cells6
  go_wp2_with fail
  clear zB20 zB21 zB22
  clear zB30 zB31 zB32 zB33 zB34 zB35
  have HB1z := Lib.hid HB1.out.size
  refine (rnew_yes bw bh _ bw1 w1' bh1 w2').mono ?_
  rintro e w3 ⟨g, rfl, hge, hrow, hb'⟩
  have HB1 := Lib.hid ((HB1.out).trans (hb'.mono (HB1.out).size))
  clear hb'
  have RG := Lib.hid hrow
  have HG2 := Lib.hid (show w1.heap.size ≤ g by have := HB1z.out; omega)
  obtain ⟨N, hN⟩ : ∃ N, N = bw * bh := ⟨_, rfl⟩
  have HN := Lib.hid hN
  rw [← hN]
  have RG := Lib.hid (show RowI _ g (List.replicate N 0) by rw [hN]; exact RG.out)
  have hN2 : N ≤ 1048576 := by rw [hN]; exact Nat.mul_le_mul w1' w2'
  clear hrow hge hN
  go_upto_region 4 with fail
  have hgl := RG.out.lt
  have HB1 := Lib.hid (below_alloc_ (HB1.out) (.cells #[.int .i64 bw, .int .i64 bh, .slice (some ⟨g, 0, none⟩) N N] 39))
  have RG := Lib.hid ((RG.out).alloc (.cells #[.int .i64 bw, .int .i64 bh, .slice (some ⟨g, 0, none⟩) N N] 39))
  have hzw : (w3.alloc (.cells #[.int .i64 bw, .int .i64 bh, .slice (some ⟨g, 0, none⟩) N N] 39)).heap.size = w3.heap.size + 1 := by simp only [World.size_alloc]
  have B7 := Blk.new (w3) 39 #[.int .i64 bw, .int .i64 bh, .slice (some ⟨g, 0, none⟩) N N]
  skip
  have B7 := Lib.hid B7
  generalize w3.alloc (.cells #[.int .i64 bw, .int .i64 bh, .slice (some ⟨g, 0, none⟩) N N] 39) = w4 at *
  obtain ⟨b7, hb7⟩ : ∃ n, n = w3.heap.size := ⟨_, rfl⟩
  rw [← hb7] at B7 hzw hgl ⊢
  have NE := Lib.hid (show b7 ≠ g by omega)
  clear hzw hb7 hgl
  obtain ⟨zB20, zB21, zB22⟩ := (B2.out.below HB1.out B2.out.lt).cells3
  obtain ⟨zB30, zB31, zB32, zB33, zB34, zB35⟩ := (B3.out.below HB1.out B3.out.lt).cells6
  have z70 := B7.out.cell 0
  have z71 := B7.out.cell 1
  simp at z70 z71
  go_wp2_with fail
  clear z70 z71
  clear zB20 zB21 zB22
  clear zB30 zB31 zB32 zB33 zB34 zB35
  go_loopw [6] (fun v wr => ∃ yy : Nat, yy ≤ bh ∧ v = .int .i64 yy ∧ Blk wr b7 39 #[.int .i64 bw, .int .i64 bh, .slice (some ⟨g, 0, none⟩) N N] ∧ RowI wr g (madeL bw bh ff (yy * bw)) ∧ Below w1.heap.size w1 wr) (fun v _ => bh - (intOf v).toNat)
  case atStart => exact ⟨0, Nat.zero_le _, rfl, B7.out, by rw [Nat.zero_mul]; unfold madeL; rw [fillL_zero, ← HN.out]; exact RG.out, HB1.out⟩
  case round =>
    obtain ⟨yy, hy, rfl, h7, hg, hb⟩ := hrel
    have HB1 := Lib.hid hb
    have B7 := Lib.hid h7
    have RG := Lib.hid hg
    obtain ⟨wo, ewo⟩ : ∃ wo, wo = wr := ⟨_, rfl⟩
    subst ewo
    clear hb h7 hg
    have z70 := B7.out.cell 0
    have z71 := B7.out.cell 1
    simp at z70 z71
    by_cases hyd : yy < bh
    · skip
      obtain ⟨zB20, zB21, zB22⟩ := (B2.out.below HB1.out B2.out.lt).cells3
      obtain ⟨zB30, zB31, zB32, zB33, zB34, zB35⟩ := (B3.out.below HB1.out B3.out.lt).cells6
      go_wp2_with fail
      clear z70 z71
      clear zB20 zB21 zB22
      clear zB30 zB31 zB32 zB33 zB34 zB35
      go_loopw [7] (fun v wr => ∃ xx : Nat, xx ≤ bw ∧ v = .int .i64 xx ∧ Blk wr b7 39 #[.int .i64 bw, .int .i64 bh, .slice (some ⟨g, 0, none⟩) N N] ∧ RowI wr g (madeL bw bh ff (yy * bw + xx)) ∧ Below w1.heap.size w1 wr) (fun v _ => bw - (intOf v).toNat)
      case atStart => exact ⟨0, Nat.zero_le _, rfl, B7.out, RG.out, HB1.out⟩
      case round =>
        obtain ⟨xx, hx, rfl, h7, hg, hb⟩ := hrel
        have HB1 := Lib.hid hb
        have B7 := Lib.hid h7
        have RG := Lib.hid hg
        obtain ⟨wi, ewi⟩ : ∃ wi, wi = wr := ⟨_, rfl⟩
        subst ewi
        clear hb h7 hg
        have z70 := B7.out.cell 0
        have z71 := B7.out.cell 1
        simp at z70 z71
        by_cases hxc : xx < bw
        · skip
          obtain ⟨kk, hkk⟩ : ∃ kk, kk = yy * bw + xx := ⟨_, rfl⟩
          obtain ⟨m, hm⟩ : ∃ m, m = yy * bw := ⟨_, rfl⟩
          have hkN : kk < bw * bh := by rw [hkk]; exact place_lt hxc hyd
          have hkn : kk < N := by rw [HN.out]; exact hkN
          have F1 : (yy : Int) * (bw : Int) = (m : Int) := by rw [hm]; exact (Int.natCast_mul _ _).symm
          have F2 : (m : Int) + (xx : Int) = (kk : Int) := by omega
          have HV := Lib.hid (show ff ((kk % bw : Nat) : Int) ((kk / bw : Nat) : Int) = ff xx yy by rw [hkk, place_mod hxc, place_div hxc])
          have HS := Lib.hid (fillL_set (bw * bh) (fun k => ff ((k % bw : Nat) : Int) ((k / bw : Nat) : Int)) kk hkN)
          have hkk2 := Lib.hid hkk
          rw [← hkk] at RG
          have hml : m ≤ 1048576 := by omega
          have WM : IntKind.i64.wrap (m : Int) = m := IntWalk.i64_in _ (by omega)
          have WK : IntKind.i64.wrap (kk : Int) = kk := IntWalk.i64_in _ (by omega)
          have HM := Lib.hid hkN
          clear hm hkk
          have i1 : (0 : Int) ≤ (kk : Int) := by omega
          have i2 : (kk : Int) < (N : Int) := by omega
          obtain ⟨zB20, zB21, zB22⟩ := (B2.out.below HB1.out B2.out.lt).cells3
          obtain ⟨zB30, zB31, zB32, zB33, zB34, zB35⟩ := (B3.out.below HB1.out B3.out.lt).cells6
          have G1 : IntKind.i64.wrap ((x : Int) + (xx : Int)) = (x : Int) + (xx : Int) := IntWalk.i64_in _ (by omega)
          have G2 : IntKind.i64.wrap ((y : Int) + (yy : Int)) = (y : Int) + (yy : Int) := IntWalk.i64_in _ (by omega)
          go_upto_region 10 with fail
          clear z70 z71
          clear zB20 zB21 zB22
          clear zB30 zB31 zB32 zB33 zB34 zB35
          have HB1 := Lib.hid ((HB1.out).drew)
          have B7 := Lib.hid ((B7.out).drew)
          have RG := Lib.hid ((RG.out).drew)
          refine wp_region_held_drew (S := (fun w' => w'.cell? ⟨w.heap.size, 0, none⟩ = some (.int .i64 a) ∧ w'.cell? ⟨w.heap.size, 1, none⟩ = some (.int .i64 b) ∧ w'.cell? ⟨w.heap.size, 2, none⟩ = some (.slice A V.length cp) ∧ w'.cell? ⟨w.heap.size + 1, 2, none⟩ = some (.int .i64 x) ∧ w'.cell? ⟨w.heap.size + 1, 3, none⟩ = some (.int .i64 y) ∧ w'.cell? ⟨w.heap.size + 1, 4, none⟩ = some (.int .i64 bw) ∧ w'.cell? ⟨b7, 2, none⟩ = some (.slice (some ⟨g, 0, none⟩) N N))) (by kernel_rfl) ?hS0 (fun hHeld => ?_)
          case hS0 => exact ⟨(B2.out.below HB1.out B2.out.lt).cell 0, (B2.out.below HB1.out B2.out.lt).cell 1, (B2.out.below HB1.out B2.out.lt).cell 2, (B3.out.below HB1.out B3.out.lt).cell 2, (B3.out.below HB1.out B3.out.lt).cell 3, (B3.out.below HB1.out B3.out.lt).cell 4, B7.out.cell 2⟩
          refine wpAnyH_take (i := 0) (oi := ⟨some 30, _, _, _, _, _⟩) (v := ?v15) rfl (by kernel_rfl) (by kernel_rfl) (by kernel_rfl) (fun _ _ _ h => h) (Or.inl ⟨by rfl, ?h15⟩) (by assumption) ?r15
          case h15 => (intro w hSw; (try dsimp only at hSw); go_simp; try with_reducible rfl)
          try simp only [Act.put, List.setIfInBounds_toArray, List.set_cons_zero, List.set_cons_succ]
          refine wpAnyH_take (i := 1) (oi := ⟨some 31, _, _, _, _, _⟩) (v := ?v16) rfl (by kernel_rfl) (by kernel_rfl) (by kernel_rfl) (fun _ _ _ h => h) (Or.inl ⟨by rfl, ?h16⟩) (by assumption) ?r16
          case h16 => (intro w hSw; (try dsimp only at hSw); go_simp; try with_reducible rfl)
          try simp only [Act.put, List.setIfInBounds_toArray, List.set_cons_zero, List.set_cons_succ]
          refine wpAnyH_take (i := 2) (oi := ⟨some 32, _, _, _, _, _⟩) (v := ?v17) rfl (by kernel_rfl) (by kernel_rfl) (by kernel_rfl) (fun _ _ _ h => h) (Or.inl ⟨by rfl, ?h17⟩) (by assumption) ?r17
          case h17 => (intro w hSw; (try dsimp only at hSw); go_simp; try with_reducible rfl)
          try simp only [Act.put, List.setIfInBounds_toArray, List.set_cons_zero, List.set_cons_succ]
          refine wpAnyH_take (i := 3) (oi := ⟨some 33, _, _, _, _, _⟩) (v := ?v18) rfl (by kernel_rfl) (by kernel_rfl) (by kernel_rfl) (fun _ _ _ h => h) (Or.inl ⟨by rfl, ?h18⟩) (by assumption) ?r18
          case h18 => (intro w hSw; (try dsimp only at hSw); go_simp; try with_reducible rfl)
          try simp only [Act.put, List.setIfInBounds_toArray, List.set_cons_zero, List.set_cons_succ]
          refine wpAnyH_take (i := 4) (oi := ⟨some 34, _, _, _, _, _⟩) (v := ?v19) rfl (by kernel_rfl) (by kernel_rfl) (by kernel_rfl) (fun _ _ _ h => h) (Or.inl ⟨by rfl, ?h19⟩) (by assumption) ?r19
          case h19 => (intro w hSw; (try dsimp only at hSw); go_simp; try with_reducible rfl)
          try simp only [Act.put, List.setIfInBounds_toArray, List.set_cons_zero, List.set_cons_succ]
          refine wpAnyH_take (i := 5) (oi := ⟨some 35, _, _, _, _, _⟩) (v := ?v20) rfl (by kernel_rfl) (by kernel_rfl) (by kernel_rfl) (fun _ _ _ h => h) (Or.inl ⟨by rfl, ?h20⟩) (by assumption) ?r20
          case h20 => (intro w hSw; (try dsimp only at hSw); go_simp; try with_reducible rfl)
          try simp only [Act.put, List.setIfInBounds_toArray, List.set_cons_zero, List.set_cons_succ]
          refine wpAnyH_take (i := 6) (oi := ⟨some 36, _, _, _, _, _⟩) (v := ?v21) rfl (by kernel_rfl) (by kernel_rfl) (by kernel_rfl) (fun _ _ _ h => h) (Or.inl ⟨by rfl, ?h21⟩) (by assumption) ?r21
          case h21 => (intro w hSw; (try dsimp only at hSw); go_simp; try with_reducible rfl)
          try simp only [Act.put, List.setIfInBounds_toArray, List.set_cons_zero, List.set_cons_succ]
          refine wpAnyH_take (i := 7) (oi := ⟨some 37, _, _, _, _, _⟩) (v := ?v22) rfl (by kernel_rfl) (by kernel_rfl) (by kernel_rfl) (fun _ _ _ h => h) (Or.inl ⟨by rfl, ?h22⟩) (by assumption) ?r22
          case h22 => (intro w hSw; (try dsimp only at hSw); go_simp; try with_reducible rfl)
          try simp only [Act.put, List.setIfInBounds_toArray, List.set_cons_zero, List.set_cons_succ]
          refine wpAnyH_take (i := 8) (oi := ⟨some 38, _, _, _, _, _⟩) (v := ?v23) rfl (by kernel_rfl) (by kernel_rfl) (by kernel_rfl) (fun _ _ _ h => h) (Or.inl ⟨by rfl, ?h23⟩) (by assumption) ?r23
          case h23 => (intro w hSw; (try dsimp only at hSw); go_simp; try with_reducible rfl)
          try simp only [Act.put, List.setIfInBounds_toArray, List.set_cons_zero, List.set_cons_succ]
          refine wpAnyH_take (i := 9) (oi := ⟨some 39, _, _, _, _, _⟩) (v := ?v24) rfl (by kernel_rfl) (by kernel_rfl) (by kernel_rfl) (fun _ _ _ h => h) (Or.inl ⟨by rfl, ?h24⟩) (by assumption) ?r24
          case h24 => (intro w hSw; (try dsimp only at hSw); go_simp; try with_reducible rfl)
          try simp only [Act.put, List.setIfInBounds_toArray, List.set_cons_zero, List.set_cons_succ]
          refine wpAnyH_take (i := 10) (oi := ⟨some 40, _, _, _, _, _⟩) (v := ?v25) rfl (by kernel_rfl) (by kernel_rfl) (by kernel_rfl) (fun _ _ _ h => h) (Or.inl ⟨by rfl, ?h25⟩) (by assumption) ?r25
          case h25 => (intro w hSw; (try dsimp only at hSw); go_simp; try with_reducible rfl)
          try simp only [Act.put, List.setIfInBounds_toArray, List.set_cons_zero, List.set_cons_succ]
          refine wpAnyH_take (i := 11) (oi := ⟨some 41, _, _, _, _, _⟩) (v := ?v26) rfl (by kernel_rfl) (by kernel_rfl) (by kernel_rfl) (fun _ _ _ h => h) (Or.inl ⟨by rfl, ?h26⟩) (by assumption) ?r26
          case h26 => (intro w hSw; (try dsimp only at hSw); go_simp; try with_reducible rfl)
          try simp only [Act.put, List.setIfInBounds_toArray, List.set_cons_zero, List.set_cons_succ]
          refine wpAnyH_take (i := 12) (oi := ⟨some 42, _, _, _, _, _⟩) (v := ?v27) rfl (by kernel_rfl) (by kernel_rfl) (by kernel_rfl) (fun _ _ _ h => h) (Or.inl ⟨by rfl, ?h27⟩) (by assumption) ?r27
          case h27 => (intro w hSw; (try dsimp only at hSw); go_simp; try with_reducible rfl)
          try simp only [Act.put, List.setIfInBounds_toArray, List.set_cons_zero, List.set_cons_succ]
          refine wpAnyH_take (i := 13) (oi := ⟨some 43, _, _, _, _, _⟩) (v := ?v28) rfl (by kernel_rfl) (by kernel_rfl) (by kernel_rfl) (fun _ _ _ h => h) (Or.inl ⟨by rfl, ?h28⟩) (by assumption) ?r28
          case h28 => (intro w hSw; (try dsimp only at hSw); go_simp; try with_reducible rfl)
          try simp only [Act.put, List.setIfInBounds_toArray, List.set_cons_zero, List.set_cons_succ]
          refine wpAnyH_take (i := 14) (oi := ⟨some 44, _, _, _, _, _⟩) (v := ?v29) rfl (by kernel_rfl) (by kernel_rfl) (by kernel_rfl) (fun _ _ _ h => h) (Or.inl ⟨by rfl, ?h29⟩) (by assumption) ?r29
          case h29 => (intro w hSw; (try dsimp only at hSw); go_simp; try with_reducible rfl)
          try simp only [Act.put, List.setIfInBounds_toArray, List.set_cons_zero, List.set_cons_succ]
          refine wpAnyH_take (i := 15) (oi := ⟨some 45, _, _, _, _, _⟩) (v := ?v30) rfl (by kernel_rfl) (by kernel_rfl) (by kernel_rfl) (fun _ _ _ h => h) (Or.inl ⟨by rfl, ?h30⟩) (by assumption) ?r30
          case h30 => (intro w hSw; (try dsimp only at hSw); go_simp; try with_reducible rfl)
          try simp only [Act.put, List.setIfInBounds_toArray, List.set_cons_zero, List.set_cons_succ]
          refine wpAnyH_take (i := 16) (oi := ⟨some 46, _, _, _, _, _⟩) (v := ?v31) rfl (by kernel_rfl) (by kernel_rfl) (by kernel_rfl) (fun _ _ _ h => h) (Or.inl ⟨by rfl, ?h31⟩) (by assumption) ?r31
          case h31 => (intro w hSw; (try dsimp only at hSw); go_simp; try with_reducible rfl)
          try simp only [Act.put, List.setIfInBounds_toArray, List.set_cons_zero, List.set_cons_succ]
          refine wpAnyH_ready (rs := [17]) (by kernel_rfl) (by simp) ?_
          refine (AllReadyH.cons (o := ⟨some 47, _, _, _, _, _⟩) rfl (fun K hK => ?_) AllReadyH.nil)
          go_simp
          have HS1 := HB1
          refine (r7at_c a b V A cp ((x : Int) + (xx : Int)) ((y : Int) + (yy : Int)) _ (RP.out.kept HB1.out) hn).mono ?_
          rintro e w5 ⟨rfl, hb'⟩
          have HB1 := Lib.hid ((HB1.out).trans (hb'.mono (HB1.out).size))
          have B7 := Lib.hid ((B7.out).below hb' (B7.out).lt)
          have RG := Lib.hid ((RG.out).kept hb')
          clear hb'
          rw [HFF.out]
          refine hK.out _ _ ?hS32 (fun hHeld => ?_)
          case hS32 => exact ⟨(B2.out.below HB1.out B2.out.lt).cell 0, (B2.out.below HB1.out B2.out.lt).cell 1, (B2.out.below HB1.out B2.out.lt).cell 2, (B3.out.below HB1.out B3.out.lt).cell 2, (B3.out.below HB1.out B3.out.lt).cell 3, (B3.out.below HB1.out B3.out.lt).cell 4, B7.out.cell 2⟩
          clear hK K
          try simp only [Act.put, List.setIfInBounds_toArray, List.set_cons_zero, List.set_cons_succ]
          refine wpAnyH_take (i := 18) (oi := ⟨some 48, _, _, _, _, _⟩) (v := ?v33) rfl (by kernel_rfl) (by kernel_rfl) (by kernel_rfl) (fun _ _ _ h => h) (Or.inl ⟨by rfl, ?h33⟩) (by assumption) ?r33
          case h33 => (intro w hSw; (try dsimp only at hSw); go_simp; try with_reducible rfl)
          try simp only [Act.put, List.setIfInBounds_toArray, List.set_cons_zero, List.set_cons_succ]
          refine wpAnyH_ready (rs := [19]) (by kernel_rfl) (by simp) ?_
          refine (AllReadyH.cons (o := ⟨none, _, _, _, _, _⟩) rfl (fun K hK => ?_) AllReadyH.nil)
          have zg := RG.out.cell (i := kk) (by unfold madeL; rw [fillL_length]; exact HM.out)
          have fg := RG.out.frozen kk
          go_simp
          clear zg fg
          have hrs := RowI.set_ RG.out kk (ff xx yy)
          rw [show (madeL _ _ _ kk).set kk (ff xx yy) = madeL _ _ _ (kk + 1) from by rw [← HV.out]; exact HS.out] at hrs
          have RG := Lib.hid hrs
          have B7 := Lib.hid (B7.out.far (p := ⟨g, kk, none⟩) NE.out (.int .i64 (ff xx yy)))
          have HB1 := Lib.hid (HB1.out.setCell (p := ⟨g, kk, none⟩) HG2.out (.int .i64 (ff xx yy)))
          clear hrs
          refine hK.out _ _ ?hS34 (fun hHeld => ?_)
          case hS34 => exact ⟨(B2.out.below HB1.out B2.out.lt).cell 0, (B2.out.below HB1.out B2.out.lt).cell 1, (B2.out.below HB1.out B2.out.lt).cell 2, (B3.out.below HB1.out B3.out.lt).cell 2, (B3.out.below HB1.out B3.out.lt).cell 3, (B3.out.below HB1.out B3.out.lt).cell 4, B7.out.cell 2⟩
          clear hK K
          try simp only [Act.put, List.setIfInBounds_toArray, List.set_cons_zero, List.set_cons_succ]
          refine wpAnyH_done (by kernel_rfl) ?_ _
          clear hHeld
          go_wp2_with fail
          go_roundw
          case rel => exact ⟨xx + 1, by omega, by go_num, B7.out, by rw [show yy * bw + (xx + 1) = kk + 1 by have := hkk2.out; omega]; exact RG.out, HB1.out⟩
          case measure => simp [intOf]; omega
        · skip
          obtain rfl : xx = bw := by omega
          obtain ⟨zB20, zB21, zB22⟩ := (B2.out.below HB1.out B2.out.lt).cells3
          obtain ⟨zB30, zB31, zB32, zB33, zB34, zB35⟩ := (B3.out.below HB1.out B3.out.lt).cells6
          go_wp2_with fail
          go_roundw
          case rel => exact ⟨yy + 1, by omega, by go_num, B7.out, by rw [Nat.add_mul, Nat.one_mul]; exact RG.out, HB1.out⟩
          case measure => simp [intOf]; omega
    · skip
      obtain rfl : yy = bh := by omega
      clear z70 z71
      have B4 := Lib.hid (B4.out.below HB1.out B4.out.lt)
      obtain ⟨⟨q0, q1, q2⟩, _⟩ := B7.out.three
      obtain ⟨⟨r0, r1, r2⟩, f0, f1, f2⟩ := B4.out.three
      obtain ⟨zB20, zB21, zB22⟩ := (B2.out.below HB1.out B2.out.lt).cells3
      obtain ⟨zB30, zB31, zB32, zB33, zB34, zB35⟩ := (B3.out.below HB1.out B3.out.lt).cells6
      go_wp2_with fail
      clear zB20 zB21 zB22
      clear zB30 zB31 zB32 zB33 zB34 zB35
      obtain ⟨k1, k2, k3⟩ := ret_plane B4.out (.int .i64 bw) (.int .i64 yy) (.slice (some ⟨g, 0, none⟩) N N)
      refine bodyPost_ret (results_cell_row rfl _ _ (w.heap.size + 1 + 1) 39 _ (0, 0) _ rfl k1 Try.underlying39 rfl (by kernel_rfl)) rfl ?_
      have hr2 : RowI wo g (madeL bw yy ff (bw * yy)) := by rw [Nat.mul_comm bw yy]; exact RG.out
      have hle : (madeL bw yy ff (bw * yy)).length = N := by rw [HN.out]; exact madeL_length _ _ _ _
      have ho := RowI.own hr2 (Nat.le_trans HB.out.size HG2.out) (by rw [hle]; unfold maxLen; omega)
      rw [hle] at ho
      exact ⟨_, rfl, k2 _ _ _ ho, k3 _ _ (HB.out.trans (HB1.out.mono HB.out.size)) (by omega)⟩

set_option maxRecDepth 100000 in
set_option maxHeartbeats 6400000 in
theorem r10cut_no (W H : Int) (A : Option Addr) (n c : Nat) (b : Bd) (w : World) (hn : n ≤ 9223372036854775807) (hi : inB W H n b = false) :
    Calls Try.prog 18 #[plV W H (.slice A n c), bdV b] w (PlRes Pl.none_ w) := by
  have HI := Lib.hid hi
  have HB1 := Lib.hid (Below.refl w.heap.size w)
  obtain ⟨l, o, x, y, bw, bh⟩ := b
  clear hi
  go_enter Try.func18, Try.ntmps18
  go_wp2_with fail
  have HB1 := Lib.hid (below_alloc_ (below_alloc_ (below_alloc_ (HB1.out) (.cells #[.int .i64 W, .int .i64 H, .slice A n c] 39)) (.cells #[.int .i64 l, .int .i64 o, .int .i64 x, .int .i64 y, .int .i64 bw, .int .i64 bh] 31)) (.cells #[.int .i64 0, .int .i64 0, .slice none 0 0] 39))
  have hzw : (((w.alloc (.cells #[.int .i64 W, .int .i64 H, .slice A n c] 39)).alloc (.cells #[.int .i64 l, .int .i64 o, .int .i64 x, .int .i64 y, .int .i64 bw, .int .i64 bh] 31)).alloc (.cells #[.int .i64 0, .int .i64 0, .slice none 0 0] 39)).heap.size = w.heap.size + 3 := by simp only [World.size_alloc]
  have B2 := ((Blk.new (w) 39 #[.int .i64 W, .int .i64 H, .slice A n c]).alloc (.cells #[.int .i64 l, .int .i64 o, .int .i64 x, .int .i64 y, .int .i64 bw, .int .i64 bh] 31)).alloc (.cells #[.int .i64 0, .int .i64 0, .slice none 0 0] 39)
  skip
  have B2 := Lib.hid B2
  have B3 := (Blk.new (w.alloc (.cells #[.int .i64 W, .int .i64 H, .slice A n c] 39)) 31 #[.int .i64 l, .int .i64 o, .int .i64 x, .int .i64 y, .int .i64 bw, .int .i64 bh]).alloc (.cells #[.int .i64 0, .int .i64 0, .slice none 0 0] 39)
  rw [show (w.alloc (.cells #[.int .i64 W, .int .i64 H, .slice A n c] 39)).heap.size = w.heap.size + 1 by simp only [World.size_alloc]] at B3
  have B3 := Lib.hid B3
  have B4 := Blk.new ((w.alloc (.cells #[.int .i64 W, .int .i64 H, .slice A n c] 39)).alloc (.cells #[.int .i64 l, .int .i64 o, .int .i64 x, .int .i64 y, .int .i64 bw, .int .i64 bh] 31)) 39 #[.int .i64 0, .int .i64 0, .slice none 0 0]
  rw [show ((w.alloc (.cells #[.int .i64 W, .int .i64 H, .slice A n c] 39)).alloc (.cells #[.int .i64 l, .int .i64 o, .int .i64 x, .int .i64 y, .int .i64 bw, .int .i64 bh] 31)).heap.size = w.heap.size + 1 + 1 by simp only [World.size_alloc]] at B4
  have B4 := Lib.hid B4
  generalize ((w.alloc (.cells #[.int .i64 W, .int .i64 H, .slice A n c] 39)).alloc (.cells #[.int .i64 l, .int .i64 o, .int .i64 x, .int .i64 y, .int .i64 bw, .int .i64 bh] 31)).alloc (.cells #[.int .i64 0, .int .i64 0, .slice none 0 0] 39) = w1 at *
  clear hzw
  refine (r10within_c W H A n c ⟨l, o, x, y, bw, bh⟩ _ hn).mono ?_
  rintro e w2 ⟨rfl, hb'⟩
  have HB1 := Lib.hid ((HB1.out).trans (hb'.mono (HB1.out).size))
  have B2 := Lib.hid ((B2.out).below hb' (B2.out).lt)
  have B3 := Lib.hid ((B3.out).below hb' (B3.out).lt)
  have B4 := Lib.hid ((B4.out).below hb' (B4.out).lt)
  clear hb'
  rw [HI.out]
  obtain ⟨⟨r0, r1, r2⟩, f0, f1, f2⟩ := B4.out.three
  go_wp2_with fail
  obtain ⟨k1, k2, k3⟩ := ret_plane B4.out (.int .i64 0) (.int .i64 0) (.slice none 0 0)
  refine bodyPost_ret (results_cell_row rfl _ _ (w.heap.size + 1 + 1) 39 _ (0, 0) _ rfl k1 Try.underlying39 rfl (by kernel_rfl)) rfl ?_
  exact ⟨_, rfl, OwnI.nil _ _, k3 _ _ HB1.out (by omega)⟩


end Go.Proofs.Ytjlajggilcihoaa
