/- The document's planes: made of another size, by the nearest place. -/
import Derived.Test.YtjlajggilcihoaaRef7a
import Derived.Test.YtjlajggilcihoaaPl7
import Derived.Test.YtjlajggilcihoaaWalk
import Derived.Deep.DeepCutAuto
import Derived.Deep.CutBlock
namespace Go.Proofs.Ytjlajggilcihoaa
open Go.RowKit
set_option linter.unusedVariables false
set_option linter.unusedSimpArgs false

set_option maxRecDepth 100000 in
set_option maxHeartbeats 6400000 in
theorem rsized_yes (a b : Nat) (V : List Int) (A : Option Addr) (cp : Nat) (c d : Nat) (w : World) (hR : ReadsI w A V) (a1 : 1 ≤ a) (a2 : a ≤ 1024) (b1 : 1 ≤ b) (b2 : b ≤ 1024) (hl : V.length = a * b) (c1 : 1 ≤ c) (c2 : c ≤ 1024) (d1 : 1 ≤ d) (d2 : d ≤ 1024) :
    Calls Try.prog 34 #[plV a b (.slice A V.length cp), .int .i64 c, .int .i64 d] w (PlRes ⟨c, d, madeL c d (fun x y => atP a b V x y) (c * d)⟩ w) := by
  have hn : V.length ≤ 9223372036854775807 := by have := area_bd (W := a) (H := b) (by omega) (by omega) (by omega) (by omega); have := Int.natCast_mul a b; omega
  have Hok := Lib.hid (show okB a b V.length = true by rw [hl]; exact okB_mk a1 a2 b1 b2)
  have RP := Lib.hid hR
  have HB := Lib.hid (Below.refl w.heap.size w)
  obtain ⟨ff, hff⟩ : ∃ ff : Int → Int → Int, ff = fun x y => atP a b V x y := ⟨_, rfl⟩
  have HFF := Lib.hid (show ∀ x y, atP a b V x y = ff x y from fun x y => by rw [hff])
  rw [show (fun x y => atP (a : Int) (b : Int) V x y) = ff from hff.symm]
  clear hR hl hff
  go_enter Try.func34, Try.ntmps34
  go_wp2_with fail
  have RP := Lib.hid (((RP.out).alloc (.cells #[.int .i64 a, .int .i64 b, .slice A V.length cp] 39)).alloc (.cells #[.int .i64 0, .int .i64 0, .slice none 0 0] 39))
  have HB := Lib.hid (below_alloc_ (below_alloc_ (HB.out) (.cells #[.int .i64 a, .int .i64 b, .slice A V.length cp] 39)) (.cells #[.int .i64 0, .int .i64 0, .slice none 0 0] 39))
  have hzw : ((w.alloc (.cells #[.int .i64 a, .int .i64 b, .slice A V.length cp] 39)).alloc (.cells #[.int .i64 0, .int .i64 0, .slice none 0 0] 39)).heap.size = w.heap.size + 2 := by simp only [World.size_alloc]
  have B3 := (Blk.new (w) 39 #[.int .i64 a, .int .i64 b, .slice A V.length cp]).alloc (.cells #[.int .i64 0, .int .i64 0, .slice none 0 0] 39)
  skip
  have B3 := Lib.hid B3
  have B6 := Blk.new (w.alloc (.cells #[.int .i64 a, .int .i64 b, .slice A V.length cp] 39)) 39 #[.int .i64 0, .int .i64 0, .slice none 0 0]
  rw [show (w.alloc (.cells #[.int .i64 a, .int .i64 b, .slice A V.length cp] 39)).heap.size = w.heap.size + 1 by simp only [World.size_alloc]] at B6
  have B6 := Lib.hid B6
  generalize (w.alloc (.cells #[.int .i64 a, .int .i64 b, .slice A V.length cp] 39)).alloc (.cells #[.int .i64 0, .int .i64 0, .slice none 0 0] 39) = w1 at *
  clear hzw
  have HB1 := Lib.hid (Below.refl w1.heap.size w1)
  refine (rnew_yes c d _ c1 c2 d1 d2).mono ?_
  rintro e w2 ⟨g, rfl, hge, hrow, hb'⟩
  have HB1 := Lib.hid ((HB1.out).trans (hb'.mono (HB1.out).size))
  clear hb'
  have RG := Lib.hid hrow
  have HG2 := Lib.hid hge
  obtain ⟨N, hN⟩ : ∃ N, N = c * d := ⟨_, rfl⟩
  have HN := Lib.hid hN
  rw [← hN]
  have RG := Lib.hid (show RowI _ g (List.replicate N 0) by rw [hN]; exact RG.out)
  have hN2 : N ≤ 1048576 := by rw [hN]; exact Nat.mul_le_mul c2 d2
  clear hrow hge hN
  go_upto_region 2 with fail
  have hgl := RG.out.lt
  have HB1 := Lib.hid (below_alloc_ (HB1.out) (.cells #[.int .i64 c, .int .i64 d, .slice (some ⟨g, 0, none⟩) N N] 39))
  have RG := Lib.hid ((RG.out).alloc (.cells #[.int .i64 c, .int .i64 d, .slice (some ⟨g, 0, none⟩) N N] 39))
  have hzw : (w2.alloc (.cells #[.int .i64 c, .int .i64 d, .slice (some ⟨g, 0, none⟩) N N] 39)).heap.size = w2.heap.size + 1 := by simp only [World.size_alloc]
  have B7 := Blk.new (w2) 39 #[.int .i64 c, .int .i64 d, .slice (some ⟨g, 0, none⟩) N N]
  skip
  have B7 := Lib.hid B7
  generalize w2.alloc (.cells #[.int .i64 c, .int .i64 d, .slice (some ⟨g, 0, none⟩) N N] 39) = w3 at *
  obtain ⟨b7, hb7⟩ : ∃ n, n = w2.heap.size := ⟨_, rfl⟩
  rw [← hb7] at B7 hzw hgl ⊢
  have NE := Lib.hid (show b7 ≠ g by omega)
  clear hzw hb7 hgl
  obtain ⟨zB30, zB31, zB32⟩ := (B3.out.below HB1.out B3.out.lt).cells3
  go_wp2_with fail
  clear zB30 zB31 zB32
  refine (rright_c a b A V.length cp _ hn).mono ?_
  rintro e w4 ⟨rfl, hb'⟩
  have HB1 := Lib.hid ((HB1.out).trans (hb'.mono (HB1.out).size))
  have RG := Lib.hid ((RG.out).kept hb')
  have B7 := Lib.hid ((B7.out).below hb' (B7.out).lt)
  clear hb'
  rw [Hok.out]
  obtain ⟨zB30, zB31, zB32⟩ := (B3.out.below HB1.out B3.out.lt).cells3
  have z70 := B7.out.cell 0
  have z71 := B7.out.cell 1
  simp at z70 z71
  go_wp2_with fail
  clear z70 z71
  clear zB30 zB31 zB32
  go_loopw [8] (fun v wr => ∃ yy : Nat, yy ≤ d ∧ v = .int .i64 yy ∧ Blk wr b7 39 #[.int .i64 c, .int .i64 d, .slice (some ⟨g, 0, none⟩) N N] ∧ RowI wr g (madeL c d ff (yy * c)) ∧ Below w1.heap.size w1 wr) (fun v _ => d - (intOf v).toNat)
  case atStart => exact ⟨0, Nat.zero_le _, rfl, B7.out, by rw [Nat.zero_mul]; unfold madeL; rw [fillL_zero, ← HN.out]; exact RG.out, HB1.out⟩
  case round =>
    obtain ⟨yy, hy, rfl, h7, hg, hb⟩ := hrel
    have HB1 := Lib.hid hb
    have B7 := Lib.hid h7
    have RG := Lib.hid hg
    obtain ⟨wo, ewo⟩ : ∃ wo, wo = wr := ⟨_, rfl⟩
    subst ewo
    clear hb h7 hg
    have z70 := B7.out.cell 0
    have z71 := B7.out.cell 1
    simp at z70 z71
    by_cases hyd : yy < d
    · skip
      obtain ⟨zB30, zB31, zB32⟩ := (B3.out.below HB1.out B3.out.lt).cells3
      go_wp2_with fail
      clear z70 z71
      clear zB30 zB31 zB32
      go_loopw [9] (fun v wr => ∃ xx : Nat, xx ≤ c ∧ v = .int .i64 xx ∧ Blk wr b7 39 #[.int .i64 c, .int .i64 d, .slice (some ⟨g, 0, none⟩) N N] ∧ RowI wr g (madeL c d ff (yy * c + xx)) ∧ Below w1.heap.size w1 wr) (fun v _ => c - (intOf v).toNat)
      case atStart => exact ⟨0, Nat.zero_le _, rfl, B7.out, RG.out, HB1.out⟩
      case round =>
        obtain ⟨xx, hx, rfl, h7, hg, hb⟩ := hrel
        have HB1 := Lib.hid hb
        have B7 := Lib.hid h7
        have RG := Lib.hid hg
        obtain ⟨wi, ewi⟩ : ∃ wi, wi = wr := ⟨_, rfl⟩
        subst ewi
        clear hb h7 hg
        have z70 := B7.out.cell 0
        have z71 := B7.out.cell 1
        simp at z70 z71
        by_cases hxc : xx < c
        · skip
          obtain ⟨kk, hkk⟩ : ∃ kk, kk = yy * c + xx := ⟨_, rfl⟩
          obtain ⟨m, hm⟩ : ∃ m, m = yy * c := ⟨_, rfl⟩
          have hkN : kk < c * d := by rw [hkk]; exact place_lt hxc hyd
          have hkn : kk < N := by rw [HN.out]; exact hkN
          have F1 : (yy : Int) * (c : Int) = (m : Int) := by rw [hm]; exact (Int.natCast_mul _ _).symm
          have F2 : (m : Int) + (xx : Int) = (kk : Int) := by omega
          have HV := Lib.hid (show ff ((kk % c : Nat) : Int) ((kk / c : Nat) : Int) = ff xx yy by rw [hkk, place_mod hxc, place_div hxc])
          have HS := Lib.hid (fillL_set (c * d) (fun k => ff ((k % c : Nat) : Int) ((k / c : Nat) : Int)) kk hkN)
          have hkk2 := Lib.hid hkk
          rw [← hkk] at RG
          have hml : m ≤ 1048576 := by omega
          have WM : IntKind.i64.wrap (m : Int) = m := IntWalk.i64_in _ (by omega)
          have WK : IntKind.i64.wrap (kk : Int) = kk := IntWalk.i64_in _ (by omega)
          have HM := Lib.hid hkN
          clear hm hkk
          have i1 : (0 : Int) ≤ (kk : Int) := by omega
          have i2 : (kk : Int) < (N : Int) := by omega
          obtain ⟨zB30, zB31, zB32⟩ := (B3.out.below HB1.out B3.out.lt).cells3
          go_upto_region 10 with fail
          clear z70 z71
          clear zB30 zB31 zB32
          have HB1 := Lib.hid ((HB1.out).drew)
          have B7 := Lib.hid ((B7.out).drew)
          have RG := Lib.hid ((RG.out).drew)
          refine wp_region_held_drew (S := (fun w' => w'.cell? ⟨w.heap.size, 0, none⟩ = some (.int .i64 a) ∧ w'.cell? ⟨w.heap.size, 1, none⟩ = some (.int .i64 b) ∧ w'.cell? ⟨w.heap.size, 2, none⟩ = some (.slice A V.length cp) ∧ w'.cell? ⟨b7, 0, none⟩ = some (.int .i64 c) ∧ w'.cell? ⟨b7, 2, none⟩ = some (.slice (some ⟨g, 0, none⟩) N N))) (by kernel_rfl) ?hS0 (fun hHeld => ?_)
          case hS0 => exact ⟨(B3.out.below HB1.out B3.out.lt).cell 0, (B3.out.below HB1.out B3.out.lt).cell 1, (B3.out.below HB1.out B3.out.lt).cell 2, B7.out.cell 0, B7.out.cell 2⟩
          refine wpAnyH_take (i := 0) (oi := ⟨some 29, _, _, _, _, _⟩) (v := ?v1) rfl (by kernel_rfl) (by kernel_rfl) (by kernel_rfl) (fun _ _ _ h => h) (Or.inl ⟨by rfl, ?h1⟩) (by assumption) ?r1
          case h1 => (intro w hSw; (try dsimp only at hSw); go_simp; try with_reducible rfl)
          try simp only [Act.put, List.setIfInBounds_toArray, List.set_cons_zero, List.set_cons_succ]
          refine wpAnyH_take (i := 1) (oi := ⟨some 30, _, _, _, _, _⟩) (v := ?v2) rfl (by kernel_rfl) (by kernel_rfl) (by kernel_rfl) (fun _ _ _ h => h) (Or.inl ⟨by rfl, ?h2⟩) (by assumption) ?r2
          case h2 => (intro w hSw; (try dsimp only at hSw); go_simp; try with_reducible rfl)
          try simp only [Act.put, List.setIfInBounds_toArray, List.set_cons_zero, List.set_cons_succ]
          refine wpAnyH_take (i := 2) (oi := ⟨some 31, _, _, _, _, _⟩) (v := ?v3) rfl (by kernel_rfl) (by kernel_rfl) (by kernel_rfl) (fun _ _ _ h => h) (Or.inl ⟨by rfl, ?h3⟩) (by assumption) ?r3
          case h3 => (intro w hSw; (try dsimp only at hSw); go_simp; try with_reducible rfl)
          try simp only [Act.put, List.setIfInBounds_toArray, List.set_cons_zero, List.set_cons_succ]
          refine wpAnyH_take (i := 3) (oi := ⟨some 32, _, _, _, _, _⟩) (v := ?v4) rfl (by kernel_rfl) (by kernel_rfl) (by kernel_rfl) (fun _ _ _ h => h) (Or.inl ⟨by rfl, ?h4⟩) (by assumption) ?r4
          case h4 => (intro w hSw; (try dsimp only at hSw); go_simp; try with_reducible rfl)
          try simp only [Act.put, List.setIfInBounds_toArray, List.set_cons_zero, List.set_cons_succ]
          refine wpAnyH_take (i := 4) (oi := ⟨some 33, _, _, _, _, _⟩) (v := ?v5) rfl (by kernel_rfl) (by kernel_rfl) (by kernel_rfl) (fun _ _ _ h => h) (Or.inl ⟨by rfl, ?h5⟩) (by assumption) ?r5
          case h5 => (intro w hSw; (try dsimp only at hSw); go_simp; try with_reducible rfl)
          try simp only [Act.put, List.setIfInBounds_toArray, List.set_cons_zero, List.set_cons_succ]
          refine wpAnyH_take (i := 5) (oi := ⟨some 34, _, _, _, _, _⟩) (v := ?v6) rfl (by kernel_rfl) (by kernel_rfl) (by kernel_rfl) (fun _ _ _ h => h) (Or.inl ⟨by rfl, ?h6⟩) (by assumption) ?r6
          case h6 => (intro w hSw; (try dsimp only at hSw); go_simp; try with_reducible rfl)
          try simp only [Act.put, List.setIfInBounds_toArray, List.set_cons_zero, List.set_cons_succ]
          refine wpAnyH_take (i := 6) (oi := ⟨some 35, _, _, _, _, _⟩) (v := ?v7) rfl (by kernel_rfl) (by kernel_rfl) (by kernel_rfl) (fun _ _ _ h => h) (Or.inl ⟨by rfl, ?h7⟩) (by assumption) ?r7
          case h7 => (intro w hSw; (try dsimp only at hSw); go_simp; try with_reducible rfl)
          try simp only [Act.put, List.setIfInBounds_toArray, List.set_cons_zero, List.set_cons_succ]
          refine wpAnyH_take (i := 7) (oi := ⟨some 36, _, _, _, _, _⟩) (v := ?v8) rfl (by kernel_rfl) (by kernel_rfl) (by kernel_rfl) (fun _ _ _ h => h) (Or.inl ⟨by rfl, ?h8⟩) (by assumption) ?r8
          case h8 => (intro w hSw; (try dsimp only at hSw); go_simp; try with_reducible rfl)
          try simp only [Act.put, List.setIfInBounds_toArray, List.set_cons_zero, List.set_cons_succ]
          refine wpAnyH_take (i := 8) (oi := ⟨some 37, _, _, _, _, _⟩) (v := ?v9) rfl (by kernel_rfl) (by kernel_rfl) (by kernel_rfl) (fun _ _ _ h => h) (Or.inl ⟨by rfl, ?h9⟩) (by assumption) ?r9
          case h9 => (intro w hSw; (try dsimp only at hSw); go_simp; try with_reducible rfl)
          try simp only [Act.put, List.setIfInBounds_toArray, List.set_cons_zero, List.set_cons_succ]
          refine wpAnyH_take (i := 9) (oi := ⟨some 38, _, _, _, _, _⟩) (v := ?v10) rfl (by kernel_rfl) (by kernel_rfl) (by kernel_rfl) (fun _ _ _ h => h) (Or.inl ⟨by rfl, ?h10⟩) (by assumption) ?r10
          case h10 => (intro w hSw; (try dsimp only at hSw); go_simp; try with_reducible rfl)
          try simp only [Act.put, List.setIfInBounds_toArray, List.set_cons_zero, List.set_cons_succ]
          refine wpAnyH_take (i := 10) (oi := ⟨some 39, _, _, _, _, _⟩) (v := ?v11) rfl (by kernel_rfl) (by kernel_rfl) (by kernel_rfl) (fun _ _ _ h => h) (Or.inl ⟨by rfl, ?h11⟩) (by assumption) ?r11
          case h11 => (intro w hSw; (try dsimp only at hSw); go_simp; try with_reducible rfl)
          try simp only [Act.put, List.setIfInBounds_toArray, List.set_cons_zero, List.set_cons_succ]
          refine wpAnyH_ready (rs := [11]) (by kernel_rfl) (by simp) ?_
          refine (AllReadyH.cons (o := ⟨some 40, _, _, _, _, _⟩) rfl (fun K hK => ?_) AllReadyH.nil)
          go_simp
          have HS1 := HB1
          refine (r7at_c a b V A cp xx yy _ (RP.out.kept HB1.out) hn).mono ?_
          rintro e w5 ⟨rfl, hb'⟩
          have HB1 := Lib.hid ((HB1.out).trans (hb'.mono (HB1.out).size))
          have B7 := Lib.hid ((B7.out).below hb' (B7.out).lt)
          have RG := Lib.hid ((RG.out).kept hb')
          clear hb'
          rw [HFF.out]
          refine hK.out _ _ ?hS12 (fun hHeld => ?_)
          case hS12 => exact ⟨(B3.out.below HB1.out B3.out.lt).cell 0, (B3.out.below HB1.out B3.out.lt).cell 1, (B3.out.below HB1.out B3.out.lt).cell 2, B7.out.cell 0, B7.out.cell 2⟩
          clear hK K
          try simp only [Act.put, List.setIfInBounds_toArray, List.set_cons_zero, List.set_cons_succ]
          refine wpAnyH_take (i := 12) (oi := ⟨some 41, _, _, _, _, _⟩) (v := ?v13) rfl (by kernel_rfl) (by kernel_rfl) (by kernel_rfl) (fun _ _ _ h => h) (Or.inl ⟨by rfl, ?h13⟩) (by assumption) ?r13
          case h13 => (intro w hSw; (try dsimp only at hSw); go_simp; try with_reducible rfl)
          try simp only [Act.put, List.setIfInBounds_toArray, List.set_cons_zero, List.set_cons_succ]
          refine wpAnyH_ready (rs := [13]) (by kernel_rfl) (by simp) ?_
          refine (AllReadyH.cons (o := ⟨none, _, _, _, _, _⟩) rfl (fun K hK => ?_) AllReadyH.nil)
          have zg := RG.out.cell (i := kk) (by unfold madeL; rw [fillL_length]; exact HM.out)
          have fg := RG.out.frozen kk
          go_simp
          clear zg fg
          have hrs := RowI.set_ RG.out kk (ff xx yy)
          rw [show (madeL _ _ _ kk).set kk (ff xx yy) = madeL _ _ _ (kk + 1) from by rw [← HV.out]; exact HS.out] at hrs
          have RG := Lib.hid hrs
          have B7 := Lib.hid (B7.out.far (p := ⟨g, kk, none⟩) NE.out (.int .i64 (ff xx yy)))
          have HB1 := Lib.hid (HB1.out.setCell (p := ⟨g, kk, none⟩) HG2.out (.int .i64 (ff xx yy)))
          clear hrs
          refine hK.out _ _ ?hS14 (fun hHeld => ?_)
          case hS14 => exact ⟨(B3.out.below HB1.out B3.out.lt).cell 0, (B3.out.below HB1.out B3.out.lt).cell 1, (B3.out.below HB1.out B3.out.lt).cell 2, B7.out.cell 0, B7.out.cell 2⟩
          clear hK K
          try simp only [Act.put, List.setIfInBounds_toArray, List.set_cons_zero, List.set_cons_succ]
          refine wpAnyH_done (by kernel_rfl) ?_ _
          clear hHeld
          go_wp2_with fail
          go_roundw
          case rel => exact ⟨xx + 1, by omega, by go_num, B7.out, by rw [show yy * c + (xx + 1) = kk + 1 by have := hkk2.out; omega]; exact RG.out, HB1.out⟩
          case measure => simp [intOf]; omega
        · skip
          obtain rfl : xx = c := by omega
          obtain ⟨zB30, zB31, zB32⟩ := (B3.out.below HB1.out B3.out.lt).cells3
          go_wp2_with fail
          go_roundw
          case rel => exact ⟨yy + 1, by omega, by go_num, B7.out, by rw [Nat.add_mul, Nat.one_mul]; exact RG.out, HB1.out⟩
          case measure => simp [intOf]; omega
    · skip
      obtain rfl : yy = d := by omega
      clear z70 z71
      have B6 := Lib.hid (B6.out.below HB1.out B6.out.lt)
      obtain ⟨⟨q0, q1, q2⟩, _⟩ := B7.out.three
      obtain ⟨⟨r0, r1, r2⟩, f0, f1, f2⟩ := B6.out.three
      go_wp2_with fail
      obtain ⟨k1, k2, k3⟩ := ret_plane B6.out (.int .i64 c) (.int .i64 yy) (.slice (some ⟨g, 0, none⟩) N N)
      refine bodyPost_ret (results_cell_row rfl _ _ (w.heap.size + 1) 39 _ (0, 0) _ rfl k1 Try.underlying39 rfl (by kernel_rfl)) rfl ?_
      have hr2 : RowI wo g (madeL c yy ff (c * yy)) := by rw [Nat.mul_comm c yy]; exact RG.out
      have hle : (madeL c yy ff (c * yy)).length = N := by rw [HN.out]; exact madeL_length _ _ _ _
      have ho := RowI.own hr2 (Nat.le_trans HB.out.size HG2.out) (by rw [hle]; unfold maxLen; omega)
      rw [hle] at ho
      exact ⟨_, rfl, k2 _ _ _ ho, k3 _ _ (HB.out.trans (HB1.out.mono HB.out.size)) (by omega)⟩


end Go.Proofs.Ytjlajggilcihoaa
