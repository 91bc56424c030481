/- Params: a video got by the reference: the walk. -/
import Derived.Test.YtgdlleoefncikaaPar12
import Derived.Test.YtgdlleoefncikaaGol2
namespace Go.Proofs.Ytgdlleoefncikaa
open Go.RowKit Go.Sort
set_option linter.unusedVariables false
set_option linter.unusedSimpArgs false
/-- A reader's turn: what lies beside it. -/
theorem RrI.other {w w' : World} {B g k : Nat} {bs : List Bool} {a o : Nat} {t : TypeId} {cs : Array Value} (h : RrI w B g bs a o) (hg : RGoes w w' g) (hb : Blk w k t cs) (h1 : t ≠ 71) : Blk w' k t cs :=
  hb.grown hg (fun e => by injection e with e; exact hb.ne_ h.2 h1 e)
theorem RGoes.below_ {w w' W : World} {g : Nat} (hg : RGoes w w' g) (hb : Below W.heap.size W w) (hgW : W.heap.size ≤ g) : Below W.heap.size W w' := hb.grown hg hb.size (fun k hk => by injection hk with hk; rw [← hk]; exact hgW)
set_option maxRecDepth 100000 in
set_option maxHeartbeats 6400000 in
theorem rget_c (A : Option Addr) (c : Nat) (xs : List Int) (w : World) (hA : ReadsB w A xs) (h8 : Byte8 xs) (hl : xs.length ≤ 100000) : Calls Try.prog 17 #[.slice A xs.length c] w fun e w' => e = .returned (.tuple #[vdV (getS (unp xs)).1, .int .i64 (getS (unp xs)).2]) ∧ Below w.heap.size w w' := by
  obtain ⟨T, hT⟩ : ∃ T, T = unp xs := ⟨_, rfl⟩
  have hlT : T.length ≤ 10000000 := by rw [hT, unp_length]; omega
  rw [← hT]
  obtain ⟨⟨rv, re⟩, hre⟩ : ∃ r, r = getS T := ⟨_, rfl⟩
  rw [← hre]
  dsimp only
  have HRE := Lib.hid hre.symm
  have HT := Lib.hid hT
  have HA := Lib.hid hA
  have H8 := Lib.hid h8
  have HB := Lib.hid (Below.refl w.heap.size w)
  clear hre hT hA h8
  go_enter Try.func17, Try.ntmps17
  go_wp2_with fail
  have HB := Lib.hid (below_alloc_ (HB.out) (.cells #[.int .i64 0, .int .i64 0, .int .i64 0, .int .i64 0] 23))
  have hzw : (w.alloc (.cells #[.int .i64 0, .int .i64 0, .int .i64 0, .int .i64 0] 23)).heap.size = w.heap.size + 1 := by simp only [World.size_alloc]
  have BR := Blk.new (w) 23 #[.int .i64 0, .int .i64 0, .int .i64 0, .int .i64 0]
  skip
  have BR := Lib.hid BR
  generalize w.alloc (.cells #[.int .i64 0, .int .i64 0, .int .i64 0, .int .i64 0] 23) = w1 at *
  clear hzw
  refine (rall_c A c xs _ (HA.out.kept HB.out) H8.out (by omega)).mono ?_
  rintro e w2 ⟨rfl, hb'⟩
  have HB := Lib.hid ((HB.out).trans (hb'.mono (HB.out).size))
  have BR := Lib.hid ((BR.out).below hb' (BR.out).lt)
  clear hb'
  rw [← HT.out]
  go_upto_region 2 with fail
  have hgw0 := HB.out.size
  have HB := Lib.hid (below_alloc_ (HB.out) (.cells #[.string (bstr T), .int .i64 0, .int .i64 0] 71))
  have BR := Lib.hid ((BR.out).alloc (.cells #[.string (bstr T), .int .i64 0, .int .i64 0] 71))
  have hzw : (w2.alloc (.cells #[.string (bstr T), .int .i64 0, .int .i64 0] 71)).heap.size = w2.heap.size + 1 := by simp only [World.size_alloc]
  have RB0 := Blk.new (w2) 71 #[.string (bstr T), .int .i64 0, .int .i64 0]
  skip
  have RB0 := Lib.hid RB0
  generalize w2.alloc (.cells #[.string (bstr T), .int .i64 0, .int .i64 0] 71) = w3 at *
  clear hzw
  obtain ⟨g, hg⟩ : ∃ g, g = w2.heap.size := ⟨_, rfl⟩
  have hgw : w.heap.size ≤ g := by rw [hg]; exact hgw0
  rw [← hg] at RB0 ⊢
  have RR := Lib.hid (show RrI _ w.heap.size g T 0 0 from ⟨hgw, RB0.out⟩)
  clear hg hgw0 RB0
  go_wp2_with fail
  have hpl := goG_place T 31 (0) 1
  have hbd := goG_bd31 T (0)
  have hC := rrgget_c _ g T (0) 0 _ RR.out hlT (by omega) (by omega)
  rcases hgou_1 : goG T (0) 1 31 with ⟨nu_1, oku_1, pu_1⟩
  rw [hgou_1] at hC hpl hbd
  dsimp only at hC hpl hbd
  have HGOu_1 := Lib.hid hgou_1
  clear hgou_1
  refine (hC).mono ?_
  rintro e wA ⟨rfl, hr_, hg_⟩
  have BR := Lib.hid (RR.out.other hg_ BR.out (by decide))
  have HB := Lib.hid (RGoes.below_ hg_ HB.out hgw)
  have RR := Lib.hid hr_
  clear hr_ hg_
  clear hC
  cases oku_1 with
  | false =>
    go_upto_region 4 with fail
    have hge : getS T = (⟨0, 0, 0, 0⟩, 30) := bgS_no1 (by rw [HGOu_1.out])
    rw [HRE.out] at hge
    injection hge with ra rb
    have RA := Lib.hid ra
    have RB := Lib.hid rb
    clear ra rb
    obtain ⟨f0, f1, f2, f3⟩ := BR.out.frozens
    obtain ⟨x0, x1, x2, x3⟩ := BR.out.cells4
    go_wp2_with fail
    have g8 := ret_four' BR.out (.int .i64 0) (.int .i64 0) (.int .i64 0) (.int .i64 0)
    refine bodyPost_ret (results_row_tmp rfl _ _ w.heap.size 23 #[.int .i64 0, .int .i64 0, .int .i64 0, .int .i64 0] (0, 0) _ rfl g8 Try.underlying23 rfl (by kernel_rfl)) rfl ?_
    exact ⟨by rw [RA.out, RB.out]; rfl, ((((HB.out.setCell (p := ⟨w.heap.size, 0, none⟩) (Nat.le_refl _) (.int .i64 0)).setCell (p := ⟨w.heap.size, 1, none⟩) (Nat.le_refl _) (.int .i64 0)).setCell (p := ⟨w.heap.size, 2, none⟩) (Nat.le_refl _) (.int .i64 0)).setCell (p := ⟨w.heap.size, 3, none⟩) (Nat.le_refl _) (.int .i64 0))⟩
  | true =>
    have ho1 := ovL_ok (T := T) (a := 0) (by rw [HGOu_1.out])
    rw [HGOu_1.out] at ho1
    dsimp only at ho1
    rw [ho1] at RR
    clear ho1
    have zo := RR.out.2.cell 2
    by_cases hv1 : nu_1 = 1
    rotate_left
    · skip
      have t1 : (nu_1 != 1) = true := by simpa using hv1
      have HV1 := Lib.hid hv1
      go_upto_region 6 with fail
      have hge : getS T = (⟨0, 0, 0, 0⟩, 281) := bgS_val1 (by rw [HGOu_1.out]) (by rw [HGOu_1.out]; exact HV1.out)
      rw [HRE.out] at hge
      injection hge with ra rb
      have RA := Lib.hid ra
      have RB := Lib.hid rb
      clear ra rb
      obtain ⟨f0, f1, f2, f3⟩ := BR.out.frozens
      obtain ⟨x0, x1, x2, x3⟩ := BR.out.cells4
      go_wp2_with fail
      have g8 := ret_four' BR.out (.int .i64 0) (.int .i64 0) (.int .i64 0) (.int .i64 0)
      refine bodyPost_ret (results_row_tmp rfl _ _ w.heap.size 23 #[.int .i64 0, .int .i64 0, .int .i64 0, .int .i64 0] (0, 0) _ rfl g8 Try.underlying23 rfl (by kernel_rfl)) rfl ?_
      exact ⟨by rw [RA.out, RB.out]; rfl, ((((HB.out.setCell (p := ⟨w.heap.size, 0, none⟩) (Nat.le_refl _) (.int .i64 0)).setCell (p := ⟨w.heap.size, 1, none⟩) (Nat.le_refl _) (.int .i64 0)).setCell (p := ⟨w.heap.size, 2, none⟩) (Nat.le_refl _) (.int .i64 0)).setCell (p := ⟨w.heap.size, 3, none⟩) (Nat.le_refl _) (.int .i64 0))⟩
    · skip
      subst hv1
      go_wp2_with fail
      clear zo
      have hpl := goG_place T 31 (pu_1) 1
      have hbd := goG_bd31 T (pu_1)
      have hC := rrgget_c _ g T (pu_1) 0 _ RR.out hlT (by omega) (by omega)
      rcases hgou_2 : goG T (pu_1) 1 31 with ⟨nu_2, oku_2, pu_2⟩
      rw [hgou_2] at hC hpl hbd
      dsimp only at hC hpl hbd
      have HGOu_2 := Lib.hid hgou_2
      clear hgou_2
      refine (hC).mono ?_
      rintro e wB ⟨rfl, hr_, hg_⟩
      have BR := Lib.hid (RR.out.other hg_ BR.out (by decide))
      have HB := Lib.hid (RGoes.below_ hg_ HB.out hgw)
      have RR := Lib.hid hr_
      clear hr_ hg_
      clear hC
      cases oku_2 with
      | false =>
        go_upto_region 9 with fail
        have hge : getS T = (⟨0, 0, 0, 0⟩, 30) := bgS_no2 (by rw [HGOu_1.out]) (by rw [HGOu_1.out]) (by rw [HGOu_1.out]; dsimp only; rw [HGOu_2.out])
        rw [HRE.out] at hge
        injection hge with ra rb
        have RA := Lib.hid ra
        have RB := Lib.hid rb
        clear ra rb
        obtain ⟨f0, f1, f2, f3⟩ := BR.out.frozens
        obtain ⟨x0, x1, x2, x3⟩ := BR.out.cells4
        go_wp2_with fail
        have g8 := ret_four' BR.out (.int .i64 0) (.int .i64 0) (.int .i64 0) (.int .i64 0)
        refine bodyPost_ret (results_row_tmp rfl _ _ w.heap.size 23 #[.int .i64 0, .int .i64 0, .int .i64 0, .int .i64 0] (0, 0) _ rfl g8 Try.underlying23 rfl (by kernel_rfl)) rfl ?_
        exact ⟨by rw [RA.out, RB.out]; rfl, ((((HB.out.setCell (p := ⟨w.heap.size, 0, none⟩) (Nat.le_refl _) (.int .i64 0)).setCell (p := ⟨w.heap.size, 1, none⟩) (Nat.le_refl _) (.int .i64 0)).setCell (p := ⟨w.heap.size, 2, none⟩) (Nat.le_refl _) (.int .i64 0)).setCell (p := ⟨w.heap.size, 3, none⟩) (Nat.le_refl _) (.int .i64 0))⟩
      | true =>
        have ho1 := ovL_ok (T := T) (a := pu_1) (by rw [HGOu_2.out])
        rw [HGOu_2.out] at ho1
        dsimp only at ho1
        rw [ho1] at RR
        clear ho1
        have zo := RR.out.2.cell 2
        by_cases hv2 : 5 ≤ nu_2
        · skip
          have t1 : decide (4 < nu_2) = true := by simp; omega
          have t2 : 4 < nu_2 := by omega
          have HV2 := Lib.hid hv2
          go_upto_region 11 with fail
          have hge : getS T = (⟨0, 0, 0, 0⟩, 281) := bgS_val2 (by rw [HGOu_1.out]) (by rw [HGOu_1.out]) (by rw [HGOu_1.out]; dsimp only; rw [HGOu_2.out]) (by rw [HGOu_1.out]; dsimp only; rw [HGOu_2.out]; exact HV2.out)
          rw [HRE.out] at hge
          injection hge with ra rb
          have RA := Lib.hid ra
          have RB := Lib.hid rb
          clear ra rb
          obtain ⟨f0, f1, f2, f3⟩ := BR.out.frozens
          obtain ⟨x0, x1, x2, x3⟩ := BR.out.cells4
          go_wp2_with fail
          have g8 := ret_four' BR.out (.int .i64 0) (.int .i64 0) (.int .i64 0) (.int .i64 0)
          refine bodyPost_ret (results_row_tmp rfl _ _ w.heap.size 23 #[.int .i64 0, .int .i64 0, .int .i64 0, .int .i64 0] (0, 0) _ rfl g8 Try.underlying23 rfl (by kernel_rfl)) rfl ?_
          exact ⟨by rw [RA.out, RB.out]; rfl, ((((HB.out.setCell (p := ⟨w.heap.size, 0, none⟩) (Nat.le_refl _) (.int .i64 0)).setCell (p := ⟨w.heap.size, 1, none⟩) (Nat.le_refl _) (.int .i64 0)).setCell (p := ⟨w.heap.size, 2, none⟩) (Nat.le_refl _) (.int .i64 0)).setCell (p := ⟨w.heap.size, 3, none⟩) (Nat.le_refl _) (.int .i64 0))⟩
        · skip
          obtain ⟨k, rfl⟩ := Int.eq_ofNat_of_zero_le hbd.1
          have k5 : k < 5 := by omega
          have t1 : decide (4 < (k : Int)) = false := by simp; omega
          have t2 : (k : Int) ≤ 4 := by omega
          have HG := Lib.hid (show getS T = endS (stI T (baseV k) ⟨pu_2, 0, 0⟩ 3).1 (stI T (baseV k) ⟨pu_2, 0, 0⟩ 3).2 by have h := bgS_yes (by rw [HGOu_1.out]) (by rw [HGOu_1.out]) (by rw [HGOu_1.out]; dsimp only; rw [HGOu_2.out]) (by rw [HGOu_1.out]; dsimp only; rw [HGOu_2.out]; dsimp only; omega); rw [HGOu_1.out] at h; dsimp only at h; rw [HGOu_2.out] at h; dsimp only at h; rw [Int.toNat_natCast] at h; exact h)
          go_wp2_with fail
          clear zo t1 t2
          obtain ⟨b, hb⟩ : ∃ b, b = baseV k := ⟨_, rfl⟩
          rw [← hb] at HG
          have HBK := Lib.hid hb
          clear hb
          refine (rbases_c _).mono ?_
          rintro e wC ⟨gt, rfl, _, htb, hb'⟩
          have RR := Lib.hid (RR.out.kept hb')
          have HB := Lib.hid ((HB.out).trans (hb'.mono (HB.out).size))
          have BR := Lib.hid ((BR.out).below hb' (BR.out).lt)
          obtain ⟨y0, y1, y2, y3⟩ := tab_cells htb k5
          rw [← HBK.out] at y0 y1 y2 y3
          clear htb hb'
          have i0 : (0 : Int) ≤ (k : Int) := by omega
          have i5 : (k : Int) < 5 := by omega
          go_upto_region 13 with fail
          clear y0 y1 y2 y3 i0 i5
          have BR0l := Lib.hid (show w.heap.size < wC.heap.size from BR.out.lt)
          have hsz := HB.out.size
          have hb' := below_alloc_ (Below.refl wC.heap.size wC) (.cells #[.int .i64 b.W, .int .i64 b.H, .int .i64 b.C, .int .i64 b.B] 23)
          have RR := Lib.hid (RR.out.kept hb')
          have HB := Lib.hid ((HB.out).trans (hb'.mono (HB.out).size))
          have BR := Lib.hid ((BR.out).below hb' (BR.out).lt)
          have BV := Lib.hid (Blk.new wC 23 #[.int .i64 b.W, .int .i64 b.H, .int .i64 b.C, .int .i64 b.B])
          obtain ⟨bv, hbv⟩ : ∃ q, q = wC.heap.size := ⟨_, rfl⟩
          have hbb_ : w.heap.size ≠ bv := by have := BR0l.out; omega
          have lbv : w.heap.size ≤ bv := by rw [hbv]; exact hsz
          rw [← hbv] at BV ⊢
          clear hbv hb' hsz
          generalize wC.alloc (.cells #[.int .i64 b.W, .int .i64 b.H, .int .i64 b.C, .int .i64 b.B] 23) = wbv at *
          obtain ⟨z0, z1, z2, z3⟩ := BV.out.cells4
          go_upto_region 14 with fail
          clear z0 z1 z2 z3
          have hsz := HB.out.size
          have hb' := below_alloc_ (Below.refl wbv.heap.size wbv) (.cells #[.int .i64 b.W, .int .i64 b.H, .int .i64 b.C, .int .i64 b.B] 3)
          have RR := Lib.hid (RR.out.kept hb')
          have HB := Lib.hid ((HB.out).trans (hb'.mono (HB.out).size))
          have BR := Lib.hid ((BR.out).below hb' (BR.out).lt)
          have BV := Lib.hid ((BV.out).below hb' (BV.out).lt)
          have LL := Lib.hid (Blk.new wbv 3 #[.int .i64 b.W, .int .i64 b.H, .int .i64 b.C, .int .i64 b.B])
          obtain ⟨gl, hgl⟩ : ∃ q, q = wbv.heap.size := ⟨_, rfl⟩
          have lgl : w.heap.size ≤ gl := by rw [hgl]; exact hsz
          rw [← hgl] at LL ⊢
          clear hgl hb' hsz
          generalize wbv.alloc (.cells #[.int .i64 b.W, .int .i64 b.H, .int .i64 b.C, .int .i64 b.B] 3) = wgl at *
          have hnl : bv ≠ gl := BV.out.ne_ LL.out (by decide)
          go_wp2_with fail
          refine wp_loop_rounds 6 ?_
          have HS0 := Lib.hid (show stI T b ⟨pu_2, 0, 0⟩ 0 = (b, ⟨pu_2, 0, 0⟩) from rfl)
          have hbb : w.heap.size ≠ bv := hbb_
          rw [rounds_succ]
          go_wp2_with fail
          have hB := rrbit_c _ g T (pu_2) 0 _ RR.out hlT (by omega) (by omega)
          by_cases hin : pu_2 < T.length
          · skip
            rw [show overL T (pu_2) 0 = 0 by unfold overL; rw [if_pos hin]] at hB
            cases hn : nextL T (pu_2)
            · skip
              have HS1 := Lib.hid (show stI T b ⟨pu_2, 0, 0⟩ 1 = (⟨b.W, b.H, b.C, b.B⟩, ⟨pu_2 + 1, 0, 0⟩) by show gS T 0 (stI T b ⟨pu_2, 0, 0⟩ 0).1 (stI T b ⟨pu_2, 0, 0⟩ 0).2 = _; rw [HS0.out]; exact gS_zero hin hn)
              rw [hn] at hB
              simp only [Bool.false_eq_true, if_false] at hB
              clear hn hin
              refine (hB).mono ?_
              rintro e wv4 ⟨rfl, hr_, hg_⟩
              have BR := Lib.hid (RR.out.other hg_ BR.out (by decide))
              have BV := Lib.hid (RR.out.other hg_ BV.out (by decide))
              have LL := Lib.hid (RR.out.other hg_ LL.out (by decide))
              have HB := Lib.hid (RGoes.below_ hg_ HB.out hgw)
              have RR := Lib.hid hr_
              clear hr_ hg_
              clear hB
              go_wp2_with fail
              rw [rounds_succ]
              go_wp2_with fail
              have hB := rrbit_c _ g T (pu_2 + 1) 0 _ RR.out hlT (by omega) (by omega)
              by_cases hin : pu_2 + 1 < T.length
              · skip
                rw [show overL T (pu_2 + 1) 0 = 0 by unfold overL; rw [if_pos hin]] at hB
                cases hn : nextL T (pu_2 + 1)
                · skip
                  have HS2 := Lib.hid (show stI T b ⟨pu_2, 0, 0⟩ 2 = (⟨b.W, b.H, b.C, b.B⟩, ⟨pu_2 + 1 + 1, 0, 0⟩) by show gS T 1 (stI T b ⟨pu_2, 0, 0⟩ 1).1 (stI T b ⟨pu_2, 0, 0⟩ 1).2 = _; rw [HS1.out]; exact gS_zero hin hn)
                  rw [hn] at hB
                  simp only [Bool.false_eq_true, if_false] at hB
                  clear hn hin
                  refine (hB).mono ?_
                  rintro e wv7 ⟨rfl, hr_, hg_⟩
                  have BR := Lib.hid (RR.out.other hg_ BR.out (by decide))
                  have BV := Lib.hid (RR.out.other hg_ BV.out (by decide))
                  have LL := Lib.hid (RR.out.other hg_ LL.out (by decide))
                  have HB := Lib.hid (RGoes.below_ hg_ HB.out hgw)
                  have RR := Lib.hid hr_
                  clear hr_ hg_
                  clear hB
                  go_wp2_with fail
                  rw [rounds_succ]
                  go_wp2_with fail
                  have hB := rrbit_c _ g T (pu_2 + 1 + 1) 0 _ RR.out hlT (by omega) (by omega)
                  by_cases hin : pu_2 + 1 + 1 < T.length
                  · skip
                    rw [show overL T (pu_2 + 1 + 1) 0 = 0 by unfold overL; rw [if_pos hin]] at hB
                    cases hn : nextL T (pu_2 + 1 + 1)
                    · skip
                      have HS3 := Lib.hid (show stI T b ⟨pu_2, 0, 0⟩ 3 = (⟨b.W, b.H, b.C, b.B⟩, ⟨pu_2 + 1 + 1 + 1, 0, 0⟩) by show gS T 2 (stI T b ⟨pu_2, 0, 0⟩ 2).1 (stI T b ⟨pu_2, 0, 0⟩ 2).2 = _; rw [HS2.out]; exact gS_zero hin hn)
                      rw [hn] at hB
                      simp only [Bool.false_eq_true, if_false] at hB
                      clear hn hin
                      refine (hB).mono ?_
                      rintro e wv9 ⟨rfl, hr_, hg_⟩
                      have BR := Lib.hid (RR.out.other hg_ BR.out (by decide))
                      have BV := Lib.hid (RR.out.other hg_ BV.out (by decide))
                      have LL := Lib.hid (RR.out.other hg_ LL.out (by decide))
                      have HB := Lib.hid (RGoes.below_ hg_ HB.out hgw)
                      have RR := Lib.hid hr_
                      clear hr_ hg_
                      clear hB
                      go_wp2_with fail
                      rw [rounds_succ]
                      have zo := RR.out.2.cell 2
                      go_upto_region 26 with fail
                      clear zo
                      obtain ⟨zl0, zl1, zl2, zl3⟩ := LL.out.cells4
                      have kq0 := cell_regrown zl0
                      have kq1 := cell_regrown zl1
                      have kq2 := cell_regrown zl2
                      have kq3 := cell_regrown zl3
                      clear zl0 zl1 zl2 zl3
                      refine wp_mono_tail 13 [Brings.one ?b1_0, Brings.one ?b2_1, Brings.one ?b3_2, Brings.one ?b4_3, Brings.one ?b5_4, Brings.one ?b6_5, Brings.one ?b7_6, Brings.one ?b8_7, Brings.one ?b9_8, Brings.one ?b10_9, Brings.one ?b11_10, Brings.one ?b12_11, Brings.one ?b13_12] (by kernel_rfl) (by kernel_rfl) ?_
                      rotate_left 13
                      simp only [List.take_succ_cons, List.take_zero, List.drop_succ_cons, List.drop_zero]
                      refine wpL_take (k' := 1) rfl (by kernel_rfl) (fun d os => ?t14) ?_
                      case t14 => (unfold bringsAt; go_simp; first | with_reducible exact take_one | exact take_one)
                      try simp only [Act.put, List.setIfInBounds_toArray, List.set_cons_zero, List.set_cons_succ]
                      refine wpL_take (k' := 2) rfl (by kernel_rfl) (fun d os => ?t15) ?_
                      case t15 => (unfold bringsAt; go_simp; first | with_reducible exact take_one | exact take_one)
                      try simp only [Act.put, List.setIfInBounds_toArray, List.set_cons_zero, List.set_cons_succ]
                      refine wpL_take (k' := 3) rfl (by kernel_rfl) (fun d os => ?t16) ?_
                      case t16 => (unfold bringsAt; go_simp; first | with_reducible exact take_one | exact take_one)
                      try simp only [Act.put, List.setIfInBounds_toArray, List.set_cons_zero, List.set_cons_succ]
                      refine wpL_take (k' := 4) rfl (by kernel_rfl) (fun d os => ?t17) ?_
                      case t17 => (unfold bringsAt; go_simp; first | with_reducible exact take_one | exact take_one)
                      try simp only [Act.put, List.setIfInBounds_toArray, List.set_cons_zero, List.set_cons_succ]
                      refine wpL_take (k' := 5) rfl (by kernel_rfl) (fun d os => ?t18) ?_
                      case t18 => (unfold bringsAt; go_simp; first | with_reducible exact take_one | exact take_one)
                      try simp only [Act.put, List.setIfInBounds_toArray, List.set_cons_zero, List.set_cons_succ]
                      refine wpL_take (k' := 6) rfl (by kernel_rfl) (fun d os => ?t19) ?_
                      case t19 => (unfold bringsAt; go_simp; first | with_reducible exact take_one | exact take_one)
                      try simp only [Act.put, List.setIfInBounds_toArray, List.set_cons_zero, List.set_cons_succ]
                      refine wpL_take (k' := 7) rfl (by kernel_rfl) (fun d os => ?t20) ?_
                      case t20 => (unfold bringsAt; go_simp; first | with_reducible exact take_one | exact take_one)
                      try simp only [Act.put, List.setIfInBounds_toArray, List.set_cons_zero, List.set_cons_succ]
                      refine wpL_take (k' := 8) rfl (by kernel_rfl) (fun d os => ?t21) ?_
                      case t21 => (unfold bringsAt; go_simp; first | with_reducible exact take_one | exact take_one)
                      try simp only [Act.put, List.setIfInBounds_toArray, List.set_cons_zero, List.set_cons_succ]
                      refine wpL_take (k' := 9) rfl (by kernel_rfl) (fun d os => ?t22) ?_
                      case t22 => (unfold bringsAt; go_simp; first | with_reducible exact take_one | exact take_one)
                      try simp only [Act.put, List.setIfInBounds_toArray, List.set_cons_zero, List.set_cons_succ]
                      refine wpL_take (k' := 10) rfl (by kernel_rfl) (fun d os => ?t23) ?_
                      case t23 => (unfold bringsAt; go_simp; first | with_reducible exact take_one | exact take_one)
                      try simp only [Act.put, List.setIfInBounds_toArray, List.set_cons_zero, List.set_cons_succ]
                      refine wpL_take (k' := 11) rfl (by kernel_rfl) (fun d os => ?t24) ?_
                      case t24 => (unfold bringsAt; go_simp; first | with_reducible exact take_one | exact take_one)
                      try simp only [Act.put, List.setIfInBounds_toArray, List.set_cons_zero, List.set_cons_succ]
                      refine wpL_take (k' := 12) rfl (by kernel_rfl) (fun d os => ?t25) ?_
                      case t25 => (unfold bringsAt; go_simp; first | with_reducible exact take_one | exact take_one)
                      try simp only [Act.put, List.setIfInBounds_toArray, List.set_cons_zero, List.set_cons_succ]
                      refine wpL_take (k' := 13) rfl (by kernel_rfl) (fun d os => ?t26) ?_
                      case t26 => (unfold bringsAt; go_simp; first | with_reducible exact take_one | exact take_one)
                      try simp only [Act.put, List.setIfInBounds_toArray, List.set_cons_zero, List.set_cons_succ]
                      refine wpL_nil ?_
                      intro w928 hH
                      have hb' := hH.below
                      clear kq0 kq1 kq2 kq3
                      have HB := Lib.hid ((HB.out).trans (hb'.mono (HB.out).size))
                      have BR := Lib.hid ((BR.out).below hb' (BR.out).lt)
                      have BV := Lib.hid ((BV.out).below hb' (BV.out).lt)
                      have LL := Lib.hid ((LL.out).below hb' (LL.out).lt)
                      clear hH hb'
                      obtain ⟨f0, f1, f2, f3⟩ := BV.out.frozens
                      obtain ⟨x0, x1, x2, x3⟩ := BV.out.cells4
                      go_upto_region 27 with fail
                      clear f0 f1 f2 f3 x0 x1 x2 x3
                      have BR := Lib.hid ((((BR.out.far (p := ⟨bv, 0, none⟩) hbb (.int .i64 b.W)).far (p := ⟨bv, 1, none⟩) hbb (.int .i64 b.H)).far (p := ⟨bv, 2, none⟩) hbb (.int .i64 b.C)).far (p := ⟨bv, 3, none⟩) hbb (.int .i64 b.B))
                      have HB := Lib.hid ((((HB.out.setCell (p := ⟨bv, 0, none⟩) lbv (.int .i64 b.W)).setCell (p := ⟨bv, 1, none⟩) lbv (.int .i64 b.H)).setCell (p := ⟨bv, 2, none⟩) lbv (.int .i64 b.C)).setCell (p := ⟨bv, 3, none⟩) lbv (.int .i64 b.B))
                      have BV := Lib.hid (ret_four' BV.out (.int .i64 b.W) (.int .i64 b.H) (.int .i64 b.C) (.int .i64 b.B))
                      generalize (((w928.setCell ⟨bv, 0, none⟩ (.int .i64 b.W)).setCell ⟨bv, 1, none⟩ (.int .i64 b.H)).setCell ⟨bv, 2, none⟩ (.int .i64 b.C)).setCell ⟨bv, 3, none⟩ (.int .i64 b.B) = wf at *
                      have HGE := Lib.hid (show getS T = endS ⟨b.W, b.H, b.C, b.B⟩ ⟨pu_2 + 1 + 1 + 1, 0, 0⟩ by rw [HG.out, HS3.out])
                      by_cases hc : 2 < b.C
                      · skip
                        obtain ⟨c0, c1, c2, c3⟩ := BV.out.cells4
                        have t9 : decide (2 < b.C) = true := by simpa using hc
                        go_upto_region 28 with fail
                        clear c0 c1 c2 c3
                        have hge : getS T = (⟨0, 0, 0, 0⟩, 281) := by rw [HGE.out]; unfold endS; rw [if_neg (fun h => h rfl), if_pos hc]
                        rw [HRE.out] at hge
                        injection hge with ra rb
                        have RA := Lib.hid ra
                        have RB := Lib.hid rb
                        clear ra rb
                        obtain ⟨f0, f1, f2, f3⟩ := BR.out.frozens
                        obtain ⟨x0, x1, x2, x3⟩ := BR.out.cells4
                        go_wp2_with fail
                        have g8 := ret_four' BR.out (.int .i64 0) (.int .i64 0) (.int .i64 0) (.int .i64 0)
                        refine bodyPost_ret (results_row_tmp rfl _ _ w.heap.size 23 #[.int .i64 0, .int .i64 0, .int .i64 0, .int .i64 0] (0, 0) _ rfl g8 Try.underlying23 rfl (by kernel_rfl)) rfl ?_
                        exact ⟨by rw [RA.out, RB.out]; rfl, ((((HB.out.setCell (p := ⟨w.heap.size, 0, none⟩) (Nat.le_refl _) (.int .i64 0)).setCell (p := ⟨w.heap.size, 1, none⟩) (Nat.le_refl _) (.int .i64 0)).setCell (p := ⟨w.heap.size, 2, none⟩) (Nat.le_refl _) (.int .i64 0)).setCell (p := ⟨w.heap.size, 3, none⟩) (Nat.le_refl _) (.int .i64 0))⟩
                      · skip
                        obtain ⟨c0, c1, c2, c3⟩ := BV.out.cells4
                        have t9 : decide (2 < b.C) = false := by simpa using hc
                        have hc2 : b.C ≤ 2 := by omega
                        go_wp2_with fail
                        clear c0 c1 c2 c3
                        refine (rrecon_c ⟨b.W, b.H, b.C, b.B⟩ _).mono ?_
                        rintro e wg ⟨rfl, hb'⟩
                        have BR := Lib.hid (BR.out.below hb' BR.out.lt)
                        have BV := Lib.hid (BV.out.below hb' BV.out.lt)
                        have HB := Lib.hid (HB.out.trans (hb'.mono HB.out.size))
                        clear hb'
                        obtain ⟨c0, c1, c2, c3⟩ := BV.out.cells4
                        cases hrv : rightVd ⟨b.W, b.H, b.C, b.B⟩
                        · skip
                          have HRV := Lib.hid hrv
                          clear hrv
                          have hge : getS T = (⟨0, 0, 0, 0⟩, 280) := by rw [HGE.out]; unfold endS; rw [if_neg (fun h => h rfl), if_neg (show ¬ (2 < b.C) from by omega), if_neg (by rw [HRV.out]; decide)]
                          rw [HRE.out] at hge
                          injection hge with ra rb
                          have RA := Lib.hid ra
                          have RB := Lib.hid rb
                          clear ra rb
                          obtain ⟨f0, f1, f2, f3⟩ := BR.out.frozens
                          obtain ⟨x0, x1, x2, x3⟩ := BR.out.cells4
                          go_wp2_with fail
                          have g8 := ret_four' BR.out (.int .i64 0) (.int .i64 0) (.int .i64 0) (.int .i64 0)
                          refine bodyPost_ret (results_row_tmp rfl _ _ w.heap.size 23 #[.int .i64 0, .int .i64 0, .int .i64 0, .int .i64 0] (0, 0) _ rfl g8 Try.underlying23 rfl (by kernel_rfl)) rfl ?_
                          exact ⟨by rw [RA.out, RB.out]; rfl, ((((HB.out.setCell (p := ⟨w.heap.size, 0, none⟩) (Nat.le_refl _) (.int .i64 0)).setCell (p := ⟨w.heap.size, 1, none⟩) (Nat.le_refl _) (.int .i64 0)).setCell (p := ⟨w.heap.size, 2, none⟩) (Nat.le_refl _) (.int .i64 0)).setCell (p := ⟨w.heap.size, 3, none⟩) (Nat.le_refl _) (.int .i64 0))⟩
                        · skip
                          have HRV := Lib.hid hrv
                          clear hrv
                          have hge : getS T = (⟨b.W, b.H, b.C, b.B⟩, 0) := by rw [HGE.out]; unfold endS; rw [if_neg (fun h => h rfl), if_neg (show ¬ (2 < b.C) from by omega), if_pos HRV.out]
                          rw [HRE.out] at hge
                          injection hge with ra rb
                          have RA := Lib.hid ra
                          have RB := Lib.hid rb
                          clear ra rb
                          obtain ⟨f0, f1, f2, f3⟩ := BR.out.frozens
                          obtain ⟨x0, x1, x2, x3⟩ := BR.out.cells4
                          go_wp2_with fail
                          have g8 := ret_four' BR.out (.int .i64 b.W) (.int .i64 b.H) (.int .i64 b.C) (.int .i64 b.B)
                          refine bodyPost_ret (results_row_tmp rfl _ _ w.heap.size 23 #[.int .i64 b.W, .int .i64 b.H, .int .i64 b.C, .int .i64 b.B] (0, 0) _ rfl g8 Try.underlying23 rfl (by kernel_rfl)) rfl ?_
                          exact ⟨by rw [RA.out, RB.out]; rfl, ((((HB.out.setCell (p := ⟨w.heap.size, 0, none⟩) (Nat.le_refl _) (.int .i64 b.W)).setCell (p := ⟨w.heap.size, 1, none⟩) (Nat.le_refl _) (.int .i64 b.H)).setCell (p := ⟨w.heap.size, 2, none⟩) (Nat.le_refl _) (.int .i64 b.C)).setCell (p := ⟨w.heap.size, 3, none⟩) (Nat.le_refl _) (.int .i64 b.B))⟩
                    · skip
                      have HN := Lib.hid hn
                      rw [hn] at hB
                      simp only [if_true] at hB
                      clear hn hin
                      refine (hB).mono ?_
                      rintro e wv11 ⟨rfl, hr_, hg_⟩
                      have BR := Lib.hid (RR.out.other hg_ BR.out (by decide))
                      have BV := Lib.hid (RR.out.other hg_ BV.out (by decide))
                      have LL := Lib.hid (RR.out.other hg_ LL.out (by decide))
                      have HB := Lib.hid (RGoes.below_ hg_ HB.out hgw)
                      have RR := Lib.hid hr_
                      clear hr_ hg_
                      clear hB
                      go_wp2_with fail
                      have hpl := goG_place T 31 (pu_2 + 1 + 1 + 1) 1
                      have hbd := goG_bd31 T (pu_2 + 1 + 1 + 1)
                      have hC := rrgget_c _ g T (pu_2 + 1 + 1 + 1) 0 _ RR.out hlT (by omega) (by omega)
                      rcases hgou_3 : goG T (pu_2 + 1 + 1 + 1) 1 31 with ⟨nu_3, oku_3, pu_3⟩
                      rw [hgou_3] at hC hpl hbd
                      dsimp only at hC hpl hbd
                      have HGOu_3 := Lib.hid hgou_3
                      clear hgou_3
                      refine (hC).mono ?_
                      rintro e wc12 ⟨rfl, hr_, hg_⟩
                      have BR := Lib.hid (RR.out.other hg_ BR.out (by decide))
                      have BV := Lib.hid (RR.out.other hg_ BV.out (by decide))
                      have LL := Lib.hid (RR.out.other hg_ LL.out (by decide))
                      have HB := Lib.hid (RGoes.below_ hg_ HB.out hgw)
                      have RR := Lib.hid hr_
                      clear hr_ hg_
                      clear hC
                      have zl := LL.out.cell 3
                      have ff := LL.out.frozen 3
                      go_upto_region 22 with fail
                      clear zl ff
                      have BR := Lib.hid (BR.out.far (p := ⟨gl, 3, none⟩) (BR.out.ne_ LL.out (by decide)) (.int .i64 nu_3))
                      have BV := Lib.hid (BV.out.far (p := ⟨gl, 3, none⟩) (BV.out.ne_ LL.out (by decide)) (.int .i64 nu_3))
                      have HB := Lib.hid (HB.out.setCell (p := ⟨gl, 3, none⟩) lgl (.int .i64 nu_3))
                      have RR := Lib.hid (show RrI (wc12.setCell ⟨gl, 3, none⟩ (.int .i64 nu_3)) w.heap.size g T _ _ from ⟨RR.out.1, RR.out.2.far (p := ⟨gl, 3, none⟩) (RR.out.2.ne_ LL.out (by decide)) (.int .i64 nu_3)⟩)
                      have hl_ : Blk (wc12.setCell ⟨gl, 3, none⟩ (.int .i64 nu_3)) gl 3 #[.int .i64 b.W, .int .i64 b.H, .int .i64 b.C, .int .i64 nu_3] := LL.out.set_ 3 (.int .i64 nu_3)
                      have LL := Lib.hid hl_
                      clear hl_
                      generalize wc12.setCell ⟨gl, 3, none⟩ (.int .i64 nu_3) = ws13 at *
                      cases oku_3
                      · skip
                        go_upto_region 23 with fail
                        have hge : getS T = (⟨0, 0, 0, 0⟩, 30) := by rw [HG.out]; exact endS_no (stI_stays (i := 3) (by decide) (by show (gS T 2 (stI T b ⟨pu_2, 0, 0⟩ 2).1 (stI T b ⟨pu_2, 0, 0⟩ 2).2).2.e = 30; rw [HS2.out]; exact gS_no HN.out (by rw [HGOu_3.out])))
                        rw [HRE.out] at hge
                        injection hge with ra rb
                        have RA := Lib.hid ra
                        have RB := Lib.hid rb
                        clear ra rb
                        obtain ⟨f0, f1, f2, f3⟩ := BR.out.frozens
                        obtain ⟨x0, x1, x2, x3⟩ := BR.out.cells4
                        go_wp2_with fail
                        have g8 := ret_four' BR.out (.int .i64 0) (.int .i64 0) (.int .i64 0) (.int .i64 0)
                        refine bodyPost_ret (results_row_tmp rfl _ _ w.heap.size 23 #[.int .i64 0, .int .i64 0, .int .i64 0, .int .i64 0] (0, 0) _ rfl g8 Try.underlying23 rfl (by kernel_rfl)) rfl ?_
                        exact ⟨by rw [RA.out, RB.out]; rfl, ((((HB.out.setCell (p := ⟨w.heap.size, 0, none⟩) (Nat.le_refl _) (.int .i64 0)).setCell (p := ⟨w.heap.size, 1, none⟩) (Nat.le_refl _) (.int .i64 0)).setCell (p := ⟨w.heap.size, 2, none⟩) (Nat.le_refl _) (.int .i64 0)).setCell (p := ⟨w.heap.size, 3, none⟩) (Nat.le_refl _) (.int .i64 0))⟩
                      · skip
                        have ho1 := ovL_ok (T := T) (a := pu_2 + 1 + 1 + 1) (by rw [HGOu_3.out])
                        rw [HGOu_3.out] at ho1
                        dsimp only at ho1
                        rw [ho1] at RR
                        clear ho1
                        have HS3 := Lib.hid (show stI T b ⟨pu_2, 0, 0⟩ 3 = (⟨b.W, b.H, b.C, nu_3⟩, ⟨pu_3, 0, 0⟩) by show gS T 2 (stI T b ⟨pu_2, 0, 0⟩ 2).1 (stI T b ⟨pu_2, 0, 0⟩ 2).2 = _; rw [HS2.out]; have h := gS_2 (v := ⟨b.W, b.H, b.C, b.B⟩) HN.out (by rw [HGOu_3.out]); rw [HGOu_3.out] at h; exact h)
                        go_wp2_with fail
                        rw [rounds_succ]
                        have zo := RR.out.2.cell 2
                        go_upto_region 26 with fail
                        clear zo
                        obtain ⟨zl0, zl1, zl2, zl3⟩ := LL.out.cells4
                        have kq0 := cell_regrown zl0
                        have kq1 := cell_regrown zl1
                        have kq2 := cell_regrown zl2
                        have kq3 := cell_regrown zl3
                        clear zl0 zl1 zl2 zl3
                        refine wp_mono_tail 13 [Brings.one ?b27_0, Brings.one ?b28_1, Brings.one ?b29_2, Brings.one ?b30_3, Brings.one ?b31_4, Brings.one ?b32_5, Brings.one ?b33_6, Brings.one ?b34_7, Brings.one ?b35_8, Brings.one ?b36_9, Brings.one ?b37_10, Brings.one ?b38_11, Brings.one ?b39_12] (by kernel_rfl) (by kernel_rfl) ?_
                        rotate_left 13
                        simp only [List.take_succ_cons, List.take_zero, List.drop_succ_cons, List.drop_zero]
                        refine wpL_take (k' := 1) rfl (by kernel_rfl) (fun d os => ?t40) ?_
                        case t40 => (unfold bringsAt; go_simp; first | with_reducible exact take_one | exact take_one)
                        try simp only [Act.put, List.setIfInBounds_toArray, List.set_cons_zero, List.set_cons_succ]
                        refine wpL_take (k' := 2) rfl (by kernel_rfl) (fun d os => ?t41) ?_
                        case t41 => (unfold bringsAt; go_simp; first | with_reducible exact take_one | exact take_one)
                        try simp only [Act.put, List.setIfInBounds_toArray, List.set_cons_zero, List.set_cons_succ]
                        refine wpL_take (k' := 3) rfl (by kernel_rfl) (fun d os => ?t42) ?_
                        case t42 => (unfold bringsAt; go_simp; first | with_reducible exact take_one | exact take_one)
                        try simp only [Act.put, List.setIfInBounds_toArray, List.set_cons_zero, List.set_cons_succ]
                        refine wpL_take (k' := 4) rfl (by kernel_rfl) (fun d os => ?t43) ?_
                        case t43 => (unfold bringsAt; go_simp; first | with_reducible exact take_one | exact take_one)
                        try simp only [Act.put, List.setIfInBounds_toArray, List.set_cons_zero, List.set_cons_succ]
                        refine wpL_take (k' := 5) rfl (by kernel_rfl) (fun d os => ?t44) ?_
                        case t44 => (unfold bringsAt; go_simp; first | with_reducible exact take_one | exact take_one)
                        try simp only [Act.put, List.setIfInBounds_toArray, List.set_cons_zero, List.set_cons_succ]
                        refine wpL_take (k' := 6) rfl (by kernel_rfl) (fun d os => ?t45) ?_
                        case t45 => (unfold bringsAt; go_simp; first | with_reducible exact take_one | exact take_one)
                        try simp only [Act.put, List.setIfInBounds_toArray, List.set_cons_zero, List.set_cons_succ]
                        refine wpL_take (k' := 7) rfl (by kernel_rfl) (fun d os => ?t46) ?_
                        case t46 => (unfold bringsAt; go_simp; first | with_reducible exact take_one | exact take_one)
                        try simp only [Act.put, List.setIfInBounds_toArray, List.set_cons_zero, List.set_cons_succ]
                        refine wpL_take (k' := 8) rfl (by kernel_rfl) (fun d os => ?t47) ?_
                        case t47 => (unfold bringsAt; go_simp; first | with_reducible exact take_one | exact take_one)
                        try simp only [Act.put, List.setIfInBounds_toArray, List.set_cons_zero, List.set_cons_succ]
                        refine wpL_take (k' := 9) rfl (by kernel_rfl) (fun d os => ?t48) ?_
                        case t48 => (unfold bringsAt; go_simp; first | with_reducible exact take_one | exact take_one)
                        try simp only [Act.put, List.setIfInBounds_toArray, List.set_cons_zero, List.set_cons_succ]
                        refine wpL_take (k' := 10) rfl (by kernel_rfl) (fun d os => ?t49) ?_
                        case t49 => (unfold bringsAt; go_simp; first | with_reducible exact take_one | exact take_one)
                        try simp only [Act.put, List.setIfInBounds_toArray, List.set_cons_zero, List.set_cons_succ]
                        refine wpL_take (k' := 11) rfl (by kernel_rfl) (fun d os => ?t50) ?_
                        case t50 => (unfold bringsAt; go_simp; first | with_reducible exact take_one | exact take_one)
                        try simp only [Act.put, List.setIfInBounds_toArray, List.set_cons_zero, List.set_cons_succ]
                        refine wpL_take (k' := 12) rfl (by kernel_rfl) (fun d os => ?t51) ?_
                        case t51 => (unfold bringsAt; go_simp; first | with_reducible exact take_one | exact take_one)
                        try simp only [Act.put, List.setIfInBounds_toArray, List.set_cons_zero, List.set_cons_succ]
                        refine wpL_take (k' := 13) rfl (by kernel_rfl) (fun d os => ?t52) ?_
                        case t52 => (unfold bringsAt; go_simp; first | with_reducible exact take_one | exact take_one)
                        try simp only [Act.put, List.setIfInBounds_toArray, List.set_cons_zero, List.set_cons_succ]
                        refine wpL_nil ?_
                        intro w940 hH
                        have hb' := hH.below
                        clear kq0 kq1 kq2 kq3
                        have HB := Lib.hid ((HB.out).trans (hb'.mono (HB.out).size))
                        have BR := Lib.hid ((BR.out).below hb' (BR.out).lt)
                        have BV := Lib.hid ((BV.out).below hb' (BV.out).lt)
                        have LL := Lib.hid ((LL.out).below hb' (LL.out).lt)
                        clear hH hb'
                        obtain ⟨f0, f1, f2, f3⟩ := BV.out.frozens
                        obtain ⟨x0, x1, x2, x3⟩ := BV.out.cells4
                        go_upto_region 27 with fail
                        clear f0 f1 f2 f3 x0 x1 x2 x3
                        have BR := Lib.hid ((((BR.out.far (p := ⟨bv, 0, none⟩) hbb (.int .i64 b.W)).far (p := ⟨bv, 1, none⟩) hbb (.int .i64 b.H)).far (p := ⟨bv, 2, none⟩) hbb (.int .i64 b.C)).far (p := ⟨bv, 3, none⟩) hbb (.int .i64 nu_3))
                        have HB := Lib.hid ((((HB.out.setCell (p := ⟨bv, 0, none⟩) lbv (.int .i64 b.W)).setCell (p := ⟨bv, 1, none⟩) lbv (.int .i64 b.H)).setCell (p := ⟨bv, 2, none⟩) lbv (.int .i64 b.C)).setCell (p := ⟨bv, 3, none⟩) lbv (.int .i64 nu_3))
                        have BV := Lib.hid (ret_four' BV.out (.int .i64 b.W) (.int .i64 b.H) (.int .i64 b.C) (.int .i64 nu_3))
                        generalize (((w940.setCell ⟨bv, 0, none⟩ (.int .i64 b.W)).setCell ⟨bv, 1, none⟩ (.int .i64 b.H)).setCell ⟨bv, 2, none⟩ (.int .i64 b.C)).setCell ⟨bv, 3, none⟩ (.int .i64 nu_3) = wf at *
                        have HGE := Lib.hid (show getS T = endS ⟨b.W, b.H, b.C, nu_3⟩ ⟨pu_3, 0, 0⟩ by rw [HG.out, HS3.out])
                        by_cases hc : 2 < b.C
                        · skip
                          obtain ⟨c0, c1, c2, c3⟩ := BV.out.cells4
                          have t9 : decide (2 < b.C) = true := by simpa using hc
                          go_upto_region 28 with fail
                          clear c0 c1 c2 c3
                          have hge : getS T = (⟨0, 0, 0, 0⟩, 281) := by rw [HGE.out]; unfold endS; rw [if_neg (fun h => h rfl), if_pos hc]
                          rw [HRE.out] at hge
                          injection hge with ra rb
                          have RA := Lib.hid ra
                          have RB := Lib.hid rb
                          clear ra rb
                          obtain ⟨f0, f1, f2, f3⟩ := BR.out.frozens
                          obtain ⟨x0, x1, x2, x3⟩ := BR.out.cells4
                          go_wp2_with fail
                          have g8 := ret_four' BR.out (.int .i64 0) (.int .i64 0) (.int .i64 0) (.int .i64 0)
                          refine bodyPost_ret (results_row_tmp rfl _ _ w.heap.size 23 #[.int .i64 0, .int .i64 0, .int .i64 0, .int .i64 0] (0, 0) _ rfl g8 Try.underlying23 rfl (by kernel_rfl)) rfl ?_
                          exact ⟨by rw [RA.out, RB.out]; rfl, ((((HB.out.setCell (p := ⟨w.heap.size, 0, none⟩) (Nat.le_refl _) (.int .i64 0)).setCell (p := ⟨w.heap.size, 1, none⟩) (Nat.le_refl _) (.int .i64 0)).setCell (p := ⟨w.heap.size, 2, none⟩) (Nat.le_refl _) (.int .i64 0)).setCell (p := ⟨w.heap.size, 3, none⟩) (Nat.le_refl _) (.int .i64 0))⟩
                        · skip
                          obtain ⟨c0, c1, c2, c3⟩ := BV.out.cells4
                          have t9 : decide (2 < b.C) = false := by simpa using hc
                          have hc2 : b.C ≤ 2 := by omega
                          go_wp2_with fail
                          clear c0 c1 c2 c3
                          refine (rrecon_c ⟨b.W, b.H, b.C, nu_3⟩ _).mono ?_
                          rintro e wg ⟨rfl, hb'⟩
                          have BR := Lib.hid (BR.out.below hb' BR.out.lt)
                          have BV := Lib.hid (BV.out.below hb' BV.out.lt)
                          have HB := Lib.hid (HB.out.trans (hb'.mono HB.out.size))
                          clear hb'
                          obtain ⟨c0, c1, c2, c3⟩ := BV.out.cells4
                          cases hrv : rightVd ⟨b.W, b.H, b.C, nu_3⟩
                          · skip
                            have HRV := Lib.hid hrv
                            clear hrv
                            have hge : getS T = (⟨0, 0, 0, 0⟩, 280) := by rw [HGE.out]; unfold endS; rw [if_neg (fun h => h rfl), if_neg (show ¬ (2 < b.C) from by omega), if_neg (by rw [HRV.out]; decide)]
                            rw [HRE.out] at hge
                            injection hge with ra rb
                            have RA := Lib.hid ra
                            have RB := Lib.hid rb
                            clear ra rb
                            obtain ⟨f0, f1, f2, f3⟩ := BR.out.frozens
                            obtain ⟨x0, x1, x2, x3⟩ := BR.out.cells4
                            go_wp2_with fail
                            have g8 := ret_four' BR.out (.int .i64 0) (.int .i64 0) (.int .i64 0) (.int .i64 0)
                            refine bodyPost_ret (results_row_tmp rfl _ _ w.heap.size 23 #[.int .i64 0, .int .i64 0, .int .i64 0, .int .i64 0] (0, 0) _ rfl g8 Try.underlying23 rfl (by kernel_rfl)) rfl ?_
                            exact ⟨by rw [RA.out, RB.out]; rfl, ((((HB.out.setCell (p := ⟨w.heap.size, 0, none⟩) (Nat.le_refl _) (.int .i64 0)).setCell (p := ⟨w.heap.size, 1, none⟩) (Nat.le_refl _) (.int .i64 0)).setCell (p := ⟨w.heap.size, 2, none⟩) (Nat.le_refl _) (.int .i64 0)).setCell (p := ⟨w.heap.size, 3, none⟩) (Nat.le_refl _) (.int .i64 0))⟩
                          · skip
                            have HRV := Lib.hid hrv
                            clear hrv
                            have hge : getS T = (⟨b.W, b.H, b.C, nu_3⟩, 0) := by rw [HGE.out]; unfold endS; rw [if_neg (fun h => h rfl), if_neg (show ¬ (2 < b.C) from by omega), if_pos HRV.out]
                            rw [HRE.out] at hge
                            injection hge with ra rb
                            have RA := Lib.hid ra
                            have RB := Lib.hid rb
                            clear ra rb
                            obtain ⟨f0, f1, f2, f3⟩ := BR.out.frozens
                            obtain ⟨x0, x1, x2, x3⟩ := BR.out.cells4
                            go_wp2_with fail
                            have g8 := ret_four' BR.out (.int .i64 b.W) (.int .i64 b.H) (.int .i64 b.C) (.int .i64 nu_3)
                            refine bodyPost_ret (results_row_tmp rfl _ _ w.heap.size 23 #[.int .i64 b.W, .int .i64 b.H, .int .i64 b.C, .int .i64 nu_3] (0, 0) _ rfl g8 Try.underlying23 rfl (by kernel_rfl)) rfl ?_
                            exact ⟨by rw [RA.out, RB.out]; rfl, ((((HB.out.setCell (p := ⟨w.heap.size, 0, none⟩) (Nat.le_refl _) (.int .i64 b.W)).setCell (p := ⟨w.heap.size, 1, none⟩) (Nat.le_refl _) (.int .i64 b.H)).setCell (p := ⟨w.heap.size, 2, none⟩) (Nat.le_refl _) (.int .i64 b.C)).setCell (p := ⟨w.heap.size, 3, none⟩) (Nat.le_refl _) (.int .i64 nu_3))⟩
                  · skip
                    have hge_ : T.length ≤ pu_2 + 1 + 1 := by omega
                    have hg30 : getS T = (⟨0, 0, 0, 0⟩, 30) := by rw [HG.out]; exact endS_no (stI_stays (i := 3) (by decide) (by show (gS T 2 (stI T b ⟨pu_2, 0, 0⟩ 2).1 (stI T b ⟨pu_2, 0, 0⟩ 2).2).2.e = 30; rw [HS2.out]; exact gS_over hge_))
                    have HG30 := Lib.hid hg30
                    clear hg30
                    rw [nextL_end hge_] at hB
                    have ho_ : 0 < overL T (pu_2 + 1 + 1) 0 := by unfold overL; rw [if_neg (by omega)]; omega
                    obtain ⟨q0, hq0⟩ : ∃ q, q = overL T (pu_2 + 1 + 1) 0 := ⟨_, rfl⟩
                    rw [← hq0] at hB ho_
                    have hqb : q0 ≤ 1 := by have h := (ovL_bd T (pu_2 + 1 + 1) 0 1).2; rw [show ovL T (pu_2 + 1 + 1) 0 1 = overL T (pu_2 + 1 + 1) 0 from rfl] at h; omega
                    clear hq0
                    simp only [Bool.false_eq_true, if_false] at hB
                    refine (hB).mono ?_
                    rintro e wv8 ⟨rfl, hr_, hg_⟩
                    have BR := Lib.hid (RR.out.other hg_ BR.out (by decide))
                    have BV := Lib.hid (RR.out.other hg_ BV.out (by decide))
                    have LL := Lib.hid (RR.out.other hg_ LL.out (by decide))
                    have HB := Lib.hid (RGoes.below_ hg_ HB.out hgw)
                    have RR := Lib.hid hr_
                    clear hr_ hg_
                    clear hB
                    go_wp2_with fail
                    rw [rounds_succ]
                    have zo := RR.out.2.cell 2
                    have t5 : decide (0 < (q0 : Int)) = true := by simp; omega
                    have t6 : (0 : Int) < (q0 : Int) := by omega
                    go_upto_region 25 with fail
                    clear zo
                    have hge : getS T = (⟨0, 0, 0, 0⟩, 30) := HG30.out
                    rw [HRE.out] at hge
                    injection hge with ra rb
                    have RA := Lib.hid ra
                    have RB := Lib.hid rb
                    clear ra rb
                    obtain ⟨f0, f1, f2, f3⟩ := BR.out.frozens
                    obtain ⟨x0, x1, x2, x3⟩ := BR.out.cells4
                    go_wp2_with fail
                    have g8 := ret_four' BR.out (.int .i64 0) (.int .i64 0) (.int .i64 0) (.int .i64 0)
                    refine bodyPost_ret (results_row_tmp rfl _ _ w.heap.size 23 #[.int .i64 0, .int .i64 0, .int .i64 0, .int .i64 0] (0, 0) _ rfl g8 Try.underlying23 rfl (by kernel_rfl)) rfl ?_
                    exact ⟨by rw [RA.out, RB.out]; rfl, ((((HB.out.setCell (p := ⟨w.heap.size, 0, none⟩) (Nat.le_refl _) (.int .i64 0)).setCell (p := ⟨w.heap.size, 1, none⟩) (Nat.le_refl _) (.int .i64 0)).setCell (p := ⟨w.heap.size, 2, none⟩) (Nat.le_refl _) (.int .i64 0)).setCell (p := ⟨w.heap.size, 3, none⟩) (Nat.le_refl _) (.int .i64 0))⟩
                · skip
                  have HN := Lib.hid hn
                  rw [hn] at hB
                  simp only [if_true] at hB
                  clear hn hin
                  refine (hB).mono ?_
                  rintro e wv15 ⟨rfl, hr_, hg_⟩
                  have BR := Lib.hid (RR.out.other hg_ BR.out (by decide))
                  have BV := Lib.hid (RR.out.other hg_ BV.out (by decide))
                  have LL := Lib.hid (RR.out.other hg_ LL.out (by decide))
                  have HB := Lib.hid (RGoes.below_ hg_ HB.out hgw)
                  have RR := Lib.hid hr_
                  clear hr_ hg_
                  clear hB
                  go_wp2_with fail
                  have hpl := goG_place T 31 (pu_2 + 1 + 1) 1
                  have hbd := goG_bd31 T (pu_2 + 1 + 1)
                  have hC := rrgget_c _ g T (pu_2 + 1 + 1) 0 _ RR.out hlT (by omega) (by omega)
                  rcases hgou_4 : goG T (pu_2 + 1 + 1) 1 31 with ⟨nu_4, oku_4, pu_4⟩
                  rw [hgou_4] at hC hpl hbd
                  dsimp only at hC hpl hbd
                  have HGOu_4 := Lib.hid hgou_4
                  clear hgou_4
                  refine (hC).mono ?_
                  rintro e wc16 ⟨rfl, hr_, hg_⟩
                  have BR := Lib.hid (RR.out.other hg_ BR.out (by decide))
                  have BV := Lib.hid (RR.out.other hg_ BV.out (by decide))
                  have LL := Lib.hid (RR.out.other hg_ LL.out (by decide))
                  have HB := Lib.hid (RGoes.below_ hg_ HB.out hgw)
                  have RR := Lib.hid hr_
                  clear hr_ hg_
                  clear hC
                  have zl := LL.out.cell 2
                  have ff := LL.out.frozen 2
                  go_upto_region 22 with fail
                  clear zl ff
                  have BR := Lib.hid (BR.out.far (p := ⟨gl, 2, none⟩) (BR.out.ne_ LL.out (by decide)) (.int .i64 nu_4))
                  have BV := Lib.hid (BV.out.far (p := ⟨gl, 2, none⟩) (BV.out.ne_ LL.out (by decide)) (.int .i64 nu_4))
                  have HB := Lib.hid (HB.out.setCell (p := ⟨gl, 2, none⟩) lgl (.int .i64 nu_4))
                  have RR := Lib.hid (show RrI (wc16.setCell ⟨gl, 2, none⟩ (.int .i64 nu_4)) w.heap.size g T _ _ from ⟨RR.out.1, RR.out.2.far (p := ⟨gl, 2, none⟩) (RR.out.2.ne_ LL.out (by decide)) (.int .i64 nu_4)⟩)
                  have hl_ : Blk (wc16.setCell ⟨gl, 2, none⟩ (.int .i64 nu_4)) gl 3 #[.int .i64 b.W, .int .i64 b.H, .int .i64 nu_4, .int .i64 b.B] := LL.out.set_ 2 (.int .i64 nu_4)
                  have LL := Lib.hid hl_
                  clear hl_
                  generalize wc16.setCell ⟨gl, 2, none⟩ (.int .i64 nu_4) = ws17 at *
                  cases oku_4
                  · skip
                    go_upto_region 23 with fail
                    have hge : getS T = (⟨0, 0, 0, 0⟩, 30) := by rw [HG.out]; exact endS_no (stI_stays (i := 2) (by decide) (by show (gS T 1 (stI T b ⟨pu_2, 0, 0⟩ 1).1 (stI T b ⟨pu_2, 0, 0⟩ 1).2).2.e = 30; rw [HS1.out]; exact gS_no HN.out (by rw [HGOu_4.out])))
                    rw [HRE.out] at hge
                    injection hge with ra rb
                    have RA := Lib.hid ra
                    have RB := Lib.hid rb
                    clear ra rb
                    obtain ⟨f0, f1, f2, f3⟩ := BR.out.frozens
                    obtain ⟨x0, x1, x2, x3⟩ := BR.out.cells4
                    go_wp2_with fail
                    have g8 := ret_four' BR.out (.int .i64 0) (.int .i64 0) (.int .i64 0) (.int .i64 0)
                    refine bodyPost_ret (results_row_tmp rfl _ _ w.heap.size 23 #[.int .i64 0, .int .i64 0, .int .i64 0, .int .i64 0] (0, 0) _ rfl g8 Try.underlying23 rfl (by kernel_rfl)) rfl ?_
                    exact ⟨by rw [RA.out, RB.out]; rfl, ((((HB.out.setCell (p := ⟨w.heap.size, 0, none⟩) (Nat.le_refl _) (.int .i64 0)).setCell (p := ⟨w.heap.size, 1, none⟩) (Nat.le_refl _) (.int .i64 0)).setCell (p := ⟨w.heap.size, 2, none⟩) (Nat.le_refl _) (.int .i64 0)).setCell (p := ⟨w.heap.size, 3, none⟩) (Nat.le_refl _) (.int .i64 0))⟩
                  · skip
                    have ho1 := ovL_ok (T := T) (a := pu_2 + 1 + 1) (by rw [HGOu_4.out])
                    rw [HGOu_4.out] at ho1
                    dsimp only at ho1
                    rw [ho1] at RR
                    clear ho1
                    have HS2 := Lib.hid (show stI T b ⟨pu_2, 0, 0⟩ 2 = (⟨b.W, b.H, nu_4, b.B⟩, ⟨pu_4, 0, 0⟩) by show gS T 1 (stI T b ⟨pu_2, 0, 0⟩ 1).1 (stI T b ⟨pu_2, 0, 0⟩ 1).2 = _; rw [HS1.out]; have h := gS_1 (v := ⟨b.W, b.H, b.C, b.B⟩) HN.out (by rw [HGOu_4.out]); rw [HGOu_4.out] at h; exact h)
                    go_wp2_with fail
                    rw [rounds_succ]
                    go_wp2_with fail
                    have hB := rrbit_c _ g T (pu_4) 0 _ RR.out hlT (by omega) (by omega)
                    by_cases hin : pu_4 < T.length
                    · skip
                      rw [show overL T (pu_4) 0 = 0 by unfold overL; rw [if_pos hin]] at hB
                      cases hn : nextL T (pu_4)
                      · skip
                        have HS3 := Lib.hid (show stI T b ⟨pu_2, 0, 0⟩ 3 = (⟨b.W, b.H, nu_4, b.B⟩, ⟨pu_4 + 1, 0, 0⟩) by show gS T 2 (stI T b ⟨pu_2, 0, 0⟩ 2).1 (stI T b ⟨pu_2, 0, 0⟩ 2).2 = _; rw [HS2.out]; exact gS_zero hin hn)
                        rw [hn] at hB
                        simp only [Bool.false_eq_true, if_false] at hB
                        clear hn hin
                        refine (hB).mono ?_
                        rintro e wv19 ⟨rfl, hr_, hg_⟩
                        have BR := Lib.hid (RR.out.other hg_ BR.out (by decide))
                        have BV := Lib.hid (RR.out.other hg_ BV.out (by decide))
                        have LL := Lib.hid (RR.out.other hg_ LL.out (by decide))
                        have HB := Lib.hid (RGoes.below_ hg_ HB.out hgw)
                        have RR := Lib.hid hr_
                        clear hr_ hg_
                        clear hB
                        go_wp2_with fail
                        rw [rounds_succ]
                        have zo := RR.out.2.cell 2
                        go_upto_region 26 with fail
                        clear zo
                        obtain ⟨zl0, zl1, zl2, zl3⟩ := LL.out.cells4
                        have kq0 := cell_regrown zl0
                        have kq1 := cell_regrown zl1
                        have kq2 := cell_regrown zl2
                        have kq3 := cell_regrown zl3
                        clear zl0 zl1 zl2 zl3
                        refine wp_mono_tail 13 [Brings.one ?b53_0, Brings.one ?b54_1, Brings.one ?b55_2, Brings.one ?b56_3, Brings.one ?b57_4, Brings.one ?b58_5, Brings.one ?b59_6, Brings.one ?b60_7, Brings.one ?b61_8, Brings.one ?b62_9, Brings.one ?b63_10, Brings.one ?b64_11, Brings.one ?b65_12] (by kernel_rfl) (by kernel_rfl) ?_
                        rotate_left 13
                        simp only [List.take_succ_cons, List.take_zero, List.drop_succ_cons, List.drop_zero]
                        refine wpL_take (k' := 1) rfl (by kernel_rfl) (fun d os => ?t66) ?_
                        case t66 => (unfold bringsAt; go_simp; first | with_reducible exact take_one | exact take_one)
                        try simp only [Act.put, List.setIfInBounds_toArray, List.set_cons_zero, List.set_cons_succ]
                        refine wpL_take (k' := 2) rfl (by kernel_rfl) (fun d os => ?t67) ?_
                        case t67 => (unfold bringsAt; go_simp; first | with_reducible exact take_one | exact take_one)
                        try simp only [Act.put, List.setIfInBounds_toArray, List.set_cons_zero, List.set_cons_succ]
                        refine wpL_take (k' := 3) rfl (by kernel_rfl) (fun d os => ?t68) ?_
                        case t68 => (unfold bringsAt; go_simp; first | with_reducible exact take_one | exact take_one)
                        try simp only [Act.put, List.setIfInBounds_toArray, List.set_cons_zero, List.set_cons_succ]
                        refine wpL_take (k' := 4) rfl (by kernel_rfl) (fun d os => ?t69) ?_
                        case t69 => (unfold bringsAt; go_simp; first | with_reducible exact take_one | exact take_one)
                        try simp only [Act.put, List.setIfInBounds_toArray, List.set_cons_zero, List.set_cons_succ]
                        refine wpL_take (k' := 5) rfl (by kernel_rfl) (fun d os => ?t70) ?_
                        case t70 => (unfold bringsAt; go_simp; first | with_reducible exact take_one | exact take_one)
                        try simp only [Act.put, List.setIfInBounds_toArray, List.set_cons_zero, List.set_cons_succ]
                        refine wpL_take (k' := 6) rfl (by kernel_rfl) (fun d os => ?t71) ?_
                        case t71 => (unfold bringsAt; go_simp; first | with_reducible exact take_one | exact take_one)
                        try simp only [Act.put, List.setIfInBounds_toArray, List.set_cons_zero, List.set_cons_succ]
                        refine wpL_take (k' := 7) rfl (by kernel_rfl) (fun d os => ?t72) ?_
                        case t72 => (unfold bringsAt; go_simp; first | with_reducible exact take_one | exact take_one)
                        try simp only [Act.put, List.setIfInBounds_toArray, List.set_cons_zero, List.set_cons_succ]
                        refine wpL_take (k' := 8) rfl (by kernel_rfl) (fun d os => ?t73) ?_
                        case t73 => (unfold bringsAt; go_simp; first | with_reducible exact take_one | exact take_one)
                        try simp only [Act.put, List.setIfInBounds_toArray, List.set_cons_zero, List.set_cons_succ]
                        refine wpL_take (k' := 9) rfl (by kernel_rfl) (fun d os => ?t74) ?_
                        case t74 => (unfold bringsAt; go_simp; first | with_reducible exact take_one | exact take_one)
                        try simp only [Act.put, List.setIfInBounds_toArray, List.set_cons_zero, List.set_cons_succ]
                        refine wpL_take (k' := 10) rfl (by kernel_rfl) (fun d os => ?t75) ?_
                        case t75 => (unfold bringsAt; go_simp; first | with_reducible exact take_one | exact take_one)
                        try simp only [Act.put, List.setIfInBounds_toArray, List.set_cons_zero, List.set_cons_succ]
                        refine wpL_take (k' := 11) rfl (by kernel_rfl) (fun d os => ?t76) ?_
                        case t76 => (unfold bringsAt; go_simp; first | with_reducible exact take_one | exact take_one)
                        try simp only [Act.put, List.setIfInBounds_toArray, List.set_cons_zero, List.set_cons_succ]
                        refine wpL_take (k' := 12) rfl (by kernel_rfl) (fun d os => ?t77) ?_
                        case t77 => (unfold bringsAt; go_simp; first | with_reducible exact take_one | exact take_one)
                        try simp only [Act.put, List.setIfInBounds_toArray, List.set_cons_zero, List.set_cons_succ]
                        refine wpL_take (k' := 13) rfl (by kernel_rfl) (fun d os => ?t78) ?_
                        case t78 => (unfold bringsAt; go_simp; first | with_reducible exact take_one | exact take_one)
                        try simp only [Act.put, List.setIfInBounds_toArray, List.set_cons_zero, List.set_cons_succ]
                        refine wpL_nil ?_
                        intro w958 hH
                        have hb' := hH.below
                        clear kq0 kq1 kq2 kq3
                        have HB := Lib.hid ((HB.out).trans (hb'.mono (HB.out).size))
                        have BR := Lib.hid ((BR.out).below hb' (BR.out).lt)
                        have BV := Lib.hid ((BV.out).below hb' (BV.out).lt)
                        have LL := Lib.hid ((LL.out).below hb' (LL.out).lt)
                        clear hH hb'
                        obtain ⟨f0, f1, f2, f3⟩ := BV.out.frozens
                        obtain ⟨x0, x1, x2, x3⟩ := BV.out.cells4
                        go_upto_region 27 with fail
                        clear f0 f1 f2 f3 x0 x1 x2 x3
                        have BR := Lib.hid ((((BR.out.far (p := ⟨bv, 0, none⟩) hbb (.int .i64 b.W)).far (p := ⟨bv, 1, none⟩) hbb (.int .i64 b.H)).far (p := ⟨bv, 2, none⟩) hbb (.int .i64 nu_4)).far (p := ⟨bv, 3, none⟩) hbb (.int .i64 b.B))
                        have HB := Lib.hid ((((HB.out.setCell (p := ⟨bv, 0, none⟩) lbv (.int .i64 b.W)).setCell (p := ⟨bv, 1, none⟩) lbv (.int .i64 b.H)).setCell (p := ⟨bv, 2, none⟩) lbv (.int .i64 nu_4)).setCell (p := ⟨bv, 3, none⟩) lbv (.int .i64 b.B))
                        have BV := Lib.hid (ret_four' BV.out (.int .i64 b.W) (.int .i64 b.H) (.int .i64 nu_4) (.int .i64 b.B))
                        generalize (((w958.setCell ⟨bv, 0, none⟩ (.int .i64 b.W)).setCell ⟨bv, 1, none⟩ (.int .i64 b.H)).setCell ⟨bv, 2, none⟩ (.int .i64 nu_4)).setCell ⟨bv, 3, none⟩ (.int .i64 b.B) = wf at *
                        have HGE := Lib.hid (show getS T = endS ⟨b.W, b.H, nu_4, b.B⟩ ⟨pu_4 + 1, 0, 0⟩ by rw [HG.out, HS3.out])
                        by_cases hc : 2 < nu_4
                        · skip
                          obtain ⟨c0, c1, c2, c3⟩ := BV.out.cells4
                          have t9 : decide (2 < nu_4) = true := by simpa using hc
                          go_upto_region 28 with fail
                          clear c0 c1 c2 c3
                          have hge : getS T = (⟨0, 0, 0, 0⟩, 281) := by rw [HGE.out]; unfold endS; rw [if_neg (fun h => h rfl), if_pos hc]
                          rw [HRE.out] at hge
                          injection hge with ra rb
                          have RA := Lib.hid ra
                          have RB := Lib.hid rb
                          clear ra rb
                          obtain ⟨f0, f1, f2, f3⟩ := BR.out.frozens
                          obtain ⟨x0, x1, x2, x3⟩ := BR.out.cells4
                          go_wp2_with fail
                          have g8 := ret_four' BR.out (.int .i64 0) (.int .i64 0) (.int .i64 0) (.int .i64 0)
                          refine bodyPost_ret (results_row_tmp rfl _ _ w.heap.size 23 #[.int .i64 0, .int .i64 0, .int .i64 0, .int .i64 0] (0, 0) _ rfl g8 Try.underlying23 rfl (by kernel_rfl)) rfl ?_
                          exact ⟨by rw [RA.out, RB.out]; rfl, ((((HB.out.setCell (p := ⟨w.heap.size, 0, none⟩) (Nat.le_refl _) (.int .i64 0)).setCell (p := ⟨w.heap.size, 1, none⟩) (Nat.le_refl _) (.int .i64 0)).setCell (p := ⟨w.heap.size, 2, none⟩) (Nat.le_refl _) (.int .i64 0)).setCell (p := ⟨w.heap.size, 3, none⟩) (Nat.le_refl _) (.int .i64 0))⟩
                        · skip
                          obtain ⟨c0, c1, c2, c3⟩ := BV.out.cells4
                          have t9 : decide (2 < nu_4) = false := by simpa using hc
                          have hc2 : nu_4 ≤ 2 := by omega
                          go_wp2_with fail
                          clear c0 c1 c2 c3
                          refine (rrecon_c ⟨b.W, b.H, nu_4, b.B⟩ _).mono ?_
                          rintro e wg ⟨rfl, hb'⟩
                          have BR := Lib.hid (BR.out.below hb' BR.out.lt)
                          have BV := Lib.hid (BV.out.below hb' BV.out.lt)
                          have HB := Lib.hid (HB.out.trans (hb'.mono HB.out.size))
                          clear hb'
                          obtain ⟨c0, c1, c2, c3⟩ := BV.out.cells4
                          cases hrv : rightVd ⟨b.W, b.H, nu_4, b.B⟩
                          · skip
                            have HRV := Lib.hid hrv
                            clear hrv
                            have hge : getS T = (⟨0, 0, 0, 0⟩, 280) := by rw [HGE.out]; unfold endS; rw [if_neg (fun h => h rfl), if_neg (show ¬ (2 < nu_4) from by omega), if_neg (by rw [HRV.out]; decide)]
                            rw [HRE.out] at hge
                            injection hge with ra rb
                            have RA := Lib.hid ra
                            have RB := Lib.hid rb
                            clear ra rb
                            obtain ⟨f0, f1, f2, f3⟩ := BR.out.frozens
                            obtain ⟨x0, x1, x2, x3⟩ := BR.out.cells4
                            go_wp2_with fail
                            have g8 := ret_four' BR.out (.int .i64 0) (.int .i64 0) (.int .i64 0) (.int .i64 0)
                            refine bodyPost_ret (results_row_tmp rfl _ _ w.heap.size 23 #[.int .i64 0, .int .i64 0, .int .i64 0, .int .i64 0] (0, 0) _ rfl g8 Try.underlying23 rfl (by kernel_rfl)) rfl ?_
                            exact ⟨by rw [RA.out, RB.out]; rfl, ((((HB.out.setCell (p := ⟨w.heap.size, 0, none⟩) (Nat.le_refl _) (.int .i64 0)).setCell (p := ⟨w.heap.size, 1, none⟩) (Nat.le_refl _) (.int .i64 0)).setCell (p := ⟨w.heap.size, 2, none⟩) (Nat.le_refl _) (.int .i64 0)).setCell (p := ⟨w.heap.size, 3, none⟩) (Nat.le_refl _) (.int .i64 0))⟩
                          · skip
                            have HRV := Lib.hid hrv
                            clear hrv
                            have hge : getS T = (⟨b.W, b.H, nu_4, b.B⟩, 0) := by rw [HGE.out]; unfold endS; rw [if_neg (fun h => h rfl), if_neg (show ¬ (2 < nu_4) from by omega), if_pos HRV.out]
                            rw [HRE.out] at hge
                            injection hge with ra rb
                            have RA := Lib.hid ra
                            have RB := Lib.hid rb
                            clear ra rb
                            obtain ⟨f0, f1, f2, f3⟩ := BR.out.frozens
                            obtain ⟨x0, x1, x2, x3⟩ := BR.out.cells4
                            go_wp2_with fail
                            have g8 := ret_four' BR.out (.int .i64 b.W) (.int .i64 b.H) (.int .i64 nu_4) (.int .i64 b.B)
                            refine bodyPost_ret (results_row_tmp rfl _ _ w.heap.size 23 #[.int .i64 b.W, .int .i64 b.H, .int .i64 nu_4, .int .i64 b.B] (0, 0) _ rfl g8 Try.underlying23 rfl (by kernel_rfl)) rfl ?_
                            exact ⟨by rw [RA.out, RB.out]; rfl, ((((HB.out.setCell (p := ⟨w.heap.size, 0, none⟩) (Nat.le_refl _) (.int .i64 b.W)).setCell (p := ⟨w.heap.size, 1, none⟩) (Nat.le_refl _) (.int .i64 b.H)).setCell (p := ⟨w.heap.size, 2, none⟩) (Nat.le_refl _) (.int .i64 nu_4)).setCell (p := ⟨w.heap.size, 3, none⟩) (Nat.le_refl _) (.int .i64 b.B))⟩
                      · skip
                        have HN := Lib.hid hn
                        rw [hn] at hB
                        simp only [if_true] at hB
                        clear hn hin
                        refine (hB).mono ?_
                        rintro e wv21 ⟨rfl, hr_, hg_⟩
                        have BR := Lib.hid (RR.out.other hg_ BR.out (by decide))
                        have BV := Lib.hid (RR.out.other hg_ BV.out (by decide))
                        have LL := Lib.hid (RR.out.other hg_ LL.out (by decide))
                        have HB := Lib.hid (RGoes.below_ hg_ HB.out hgw)
                        have RR := Lib.hid hr_
                        clear hr_ hg_
                        clear hB
                        go_wp2_with fail
                        have hpl := goG_place T 31 (pu_4 + 1) 1
                        have hbd := goG_bd31 T (pu_4 + 1)
                        have hC := rrgget_c _ g T (pu_4 + 1) 0 _ RR.out hlT (by omega) (by omega)
                        rcases hgou_5 : goG T (pu_4 + 1) 1 31 with ⟨nu_5, oku_5, pu_5⟩
                        rw [hgou_5] at hC hpl hbd
                        dsimp only at hC hpl hbd
                        have HGOu_5 := Lib.hid hgou_5
                        clear hgou_5
                        refine (hC).mono ?_
                        rintro e wc22 ⟨rfl, hr_, hg_⟩
                        have BR := Lib.hid (RR.out.other hg_ BR.out (by decide))
                        have BV := Lib.hid (RR.out.other hg_ BV.out (by decide))
                        have LL := Lib.hid (RR.out.other hg_ LL.out (by decide))
                        have HB := Lib.hid (RGoes.below_ hg_ HB.out hgw)
                        have RR := Lib.hid hr_
                        clear hr_ hg_
                        clear hC
                        have zl := LL.out.cell 3
                        have ff := LL.out.frozen 3
                        go_upto_region 22 with fail
                        clear zl ff
                        have BR := Lib.hid (BR.out.far (p := ⟨gl, 3, none⟩) (BR.out.ne_ LL.out (by decide)) (.int .i64 nu_5))
                        have BV := Lib.hid (BV.out.far (p := ⟨gl, 3, none⟩) (BV.out.ne_ LL.out (by decide)) (.int .i64 nu_5))
                        have HB := Lib.hid (HB.out.setCell (p := ⟨gl, 3, none⟩) lgl (.int .i64 nu_5))
                        have RR := Lib.hid (show RrI (wc22.setCell ⟨gl, 3, none⟩ (.int .i64 nu_5)) w.heap.size g T _ _ from ⟨RR.out.1, RR.out.2.far (p := ⟨gl, 3, none⟩) (RR.out.2.ne_ LL.out (by decide)) (.int .i64 nu_5)⟩)
                        have hl_ : Blk (wc22.setCell ⟨gl, 3, none⟩ (.int .i64 nu_5)) gl 3 #[.int .i64 b.W, .int .i64 b.H, .int .i64 nu_4, .int .i64 nu_5] := LL.out.set_ 3 (.int .i64 nu_5)
                        have LL := Lib.hid hl_
                        clear hl_
                        generalize wc22.setCell ⟨gl, 3, none⟩ (.int .i64 nu_5) = ws23 at *
                        cases oku_5
                        · skip
                          go_upto_region 23 with fail
                          have hge : getS T = (⟨0, 0, 0, 0⟩, 30) := by rw [HG.out]; exact endS_no (stI_stays (i := 3) (by decide) (by show (gS T 2 (stI T b ⟨pu_2, 0, 0⟩ 2).1 (stI T b ⟨pu_2, 0, 0⟩ 2).2).2.e = 30; rw [HS2.out]; exact gS_no HN.out (by rw [HGOu_5.out])))
                          rw [HRE.out] at hge
                          injection hge with ra rb
                          have RA := Lib.hid ra
                          have RB := Lib.hid rb
                          clear ra rb
                          obtain ⟨f0, f1, f2, f3⟩ := BR.out.frozens
                          obtain ⟨x0, x1, x2, x3⟩ := BR.out.cells4
                          go_wp2_with fail
                          have g8 := ret_four' BR.out (.int .i64 0) (.int .i64 0) (.int .i64 0) (.int .i64 0)
                          refine bodyPost_ret (results_row_tmp rfl _ _ w.heap.size 23 #[.int .i64 0, .int .i64 0, .int .i64 0, .int .i64 0] (0, 0) _ rfl g8 Try.underlying23 rfl (by kernel_rfl)) rfl ?_
                          exact ⟨by rw [RA.out, RB.out]; rfl, ((((HB.out.setCell (p := ⟨w.heap.size, 0, none⟩) (Nat.le_refl _) (.int .i64 0)).setCell (p := ⟨w.heap.size, 1, none⟩) (Nat.le_refl _) (.int .i64 0)).setCell (p := ⟨w.heap.size, 2, none⟩) (Nat.le_refl _) (.int .i64 0)).setCell (p := ⟨w.heap.size, 3, none⟩) (Nat.le_refl _) (.int .i64 0))⟩
                        · skip
                          have ho1 := ovL_ok (T := T) (a := pu_4 + 1) (by rw [HGOu_5.out])
                          rw [HGOu_5.out] at ho1
                          dsimp only at ho1
                          rw [ho1] at RR
                          clear ho1
                          have HS3 := Lib.hid (show stI T b ⟨pu_2, 0, 0⟩ 3 = (⟨b.W, b.H, nu_4, nu_5⟩, ⟨pu_5, 0, 0⟩) by show gS T 2 (stI T b ⟨pu_2, 0, 0⟩ 2).1 (stI T b ⟨pu_2, 0, 0⟩ 2).2 = _; rw [HS2.out]; have h := gS_2 (v := ⟨b.W, b.H, nu_4, b.B⟩) HN.out (by rw [HGOu_5.out]); rw [HGOu_5.out] at h; exact h)
                          go_wp2_with fail
                          rw [rounds_succ]
                          have zo := RR.out.2.cell 2
                          go_upto_region 26 with fail
                          clear zo
                          obtain ⟨zl0, zl1, zl2, zl3⟩ := LL.out.cells4
                          have kq0 := cell_regrown zl0
                          have kq1 := cell_regrown zl1
                          have kq2 := cell_regrown zl2
                          have kq3 := cell_regrown zl3
                          clear zl0 zl1 zl2 zl3
                          refine wp_mono_tail 13 [Brings.one ?b79_0, Brings.one ?b80_1, Brings.one ?b81_2, Brings.one ?b82_3, Brings.one ?b83_4, Brings.one ?b84_5, Brings.one ?b85_6, Brings.one ?b86_7, Brings.one ?b87_8, Brings.one ?b88_9, Brings.one ?b89_10, Brings.one ?b90_11, Brings.one ?b91_12] (by kernel_rfl) (by kernel_rfl) ?_
                          rotate_left 13
                          simp only [List.take_succ_cons, List.take_zero, List.drop_succ_cons, List.drop_zero]
                          refine wpL_take (k' := 1) rfl (by kernel_rfl) (fun d os => ?t92) ?_
                          case t92 => (unfold bringsAt; go_simp; first | with_reducible exact take_one | exact take_one)
                          try simp only [Act.put, List.setIfInBounds_toArray, List.set_cons_zero, List.set_cons_succ]
                          refine wpL_take (k' := 2) rfl (by kernel_rfl) (fun d os => ?t93) ?_
                          case t93 => (unfold bringsAt; go_simp; first | with_reducible exact take_one | exact take_one)
                          try simp only [Act.put, List.setIfInBounds_toArray, List.set_cons_zero, List.set_cons_succ]
                          refine wpL_take (k' := 3) rfl (by kernel_rfl) (fun d os => ?t94) ?_
                          case t94 => (unfold bringsAt; go_simp; first | with_reducible exact take_one | exact take_one)
                          try simp only [Act.put, List.setIfInBounds_toArray, List.set_cons_zero, List.set_cons_succ]
                          refine wpL_take (k' := 4) rfl (by kernel_rfl) (fun d os => ?t95) ?_
                          case t95 => (unfold bringsAt; go_simp; first | with_reducible exact take_one | exact take_one)
                          try simp only [Act.put, List.setIfInBounds_toArray, List.set_cons_zero, List.set_cons_succ]
                          refine wpL_take (k' := 5) rfl (by kernel_rfl) (fun d os => ?t96) ?_
                          case t96 => (unfold bringsAt; go_simp; first | with_reducible exact take_one | exact take_one)
                          try simp only [Act.put, List.setIfInBounds_toArray, List.set_cons_zero, List.set_cons_succ]
                          refine wpL_take (k' := 6) rfl (by kernel_rfl) (fun d os => ?t97) ?_
                          case t97 => (unfold bringsAt; go_simp; first | with_reducible exact take_one | exact take_one)
                          try simp only [Act.put, List.setIfInBounds_toArray, List.set_cons_zero, List.set_cons_succ]
                          refine wpL_take (k' := 7) rfl (by kernel_rfl) (fun d os => ?t98) ?_
                          case t98 => (unfold bringsAt; go_simp; first | with_reducible exact take_one | exact take_one)
                          try simp only [Act.put, List.setIfInBounds_toArray, List.set_cons_zero, List.set_cons_succ]
                          refine wpL_take (k' := 8) rfl (by kernel_rfl) (fun d os => ?t99) ?_
                          case t99 => (unfold bringsAt; go_simp; first | with_reducible exact take_one | exact take_one)
                          try simp only [Act.put, List.setIfInBounds_toArray, List.set_cons_zero, List.set_cons_succ]
                          refine wpL_take (k' := 9) rfl (by kernel_rfl) (fun d os => ?t100) ?_
                          case t100 => (unfold bringsAt; go_simp; first | with_reducible exact take_one | exact take_one)
                          try simp only [Act.put, List.setIfInBounds_toArray, List.set_cons_zero, List.set_cons_succ]
                          refine wpL_take (k' := 10) rfl (by kernel_rfl) (fun d os => ?t101) ?_
                          case t101 => (unfold bringsAt; go_simp; first | with_reducible exact take_one | exact take_one)
                          try simp only [Act.put, List.setIfInBounds_toArray, List.set_cons_zero, List.set_cons_succ]
                          refine wpL_take (k' := 11) rfl (by kernel_rfl) (fun d os => ?t102) ?_
                          case t102 => (unfold bringsAt; go_simp; first | with_reducible exact take_one | exact take_one)
                          try simp only [Act.put, List.setIfInBounds_toArray, List.set_cons_zero, List.set_cons_succ]
                          refine wpL_take (k' := 12) rfl (by kernel_rfl) (fun d os => ?t103) ?_
                          case t103 => (unfold bringsAt; go_simp; first | with_reducible exact take_one | exact take_one)
                          try simp only [Act.put, List.setIfInBounds_toArray, List.set_cons_zero, List.set_cons_succ]
                          refine wpL_take (k' := 13) rfl (by kernel_rfl) (fun d os => ?t104) ?_
                          case t104 => (unfold bringsAt; go_simp; first | with_reducible exact take_one | exact take_one)
                          try simp only [Act.put, List.setIfInBounds_toArray, List.set_cons_zero, List.set_cons_succ]
                          refine wpL_nil ?_
                          intro w970 hH
                          have hb' := hH.below
                          clear kq0 kq1 kq2 kq3
                          have HB := Lib.hid ((HB.out).trans (hb'.mono (HB.out).size))
                          have BR := Lib.hid ((BR.out).below hb' (BR.out).lt)
                          have BV := Lib.hid ((BV.out).below hb' (BV.out).lt)
                          have LL := Lib.hid ((LL.out).below hb' (LL.out).lt)
                          clear hH hb'
                          obtain ⟨f0, f1, f2, f3⟩ := BV.out.frozens
                          obtain ⟨x0, x1, x2, x3⟩ := BV.out.cells4
                          go_upto_region 27 with fail
                          clear f0 f1 f2 f3 x0 x1 x2 x3
                          have BR := Lib.hid ((((BR.out.far (p := ⟨bv, 0, none⟩) hbb (.int .i64 b.W)).far (p := ⟨bv, 1, none⟩) hbb (.int .i64 b.H)).far (p := ⟨bv, 2, none⟩) hbb (.int .i64 nu_4)).far (p := ⟨bv, 3, none⟩) hbb (.int .i64 nu_5))
                          have HB := Lib.hid ((((HB.out.setCell (p := ⟨bv, 0, none⟩) lbv (.int .i64 b.W)).setCell (p := ⟨bv, 1, none⟩) lbv (.int .i64 b.H)).setCell (p := ⟨bv, 2, none⟩) lbv (.int .i64 nu_4)).setCell (p := ⟨bv, 3, none⟩) lbv (.int .i64 nu_5))
                          have BV := Lib.hid (ret_four' BV.out (.int .i64 b.W) (.int .i64 b.H) (.int .i64 nu_4) (.int .i64 nu_5))
                          generalize (((w970.setCell ⟨bv, 0, none⟩ (.int .i64 b.W)).setCell ⟨bv, 1, none⟩ (.int .i64 b.H)).setCell ⟨bv, 2, none⟩ (.int .i64 nu_4)).setCell ⟨bv, 3, none⟩ (.int .i64 nu_5) = wf at *
                          have HGE := Lib.hid (show getS T = endS ⟨b.W, b.H, nu_4, nu_5⟩ ⟨pu_5, 0, 0⟩ by rw [HG.out, HS3.out])
                          by_cases hc : 2 < nu_4
                          · skip
                            obtain ⟨c0, c1, c2, c3⟩ := BV.out.cells4
                            have t9 : decide (2 < nu_4) = true := by simpa using hc
                            go_upto_region 28 with fail
                            clear c0 c1 c2 c3
                            have hge : getS T = (⟨0, 0, 0, 0⟩, 281) := by rw [HGE.out]; unfold endS; rw [if_neg (fun h => h rfl), if_pos hc]
                            rw [HRE.out] at hge
                            injection hge with ra rb
                            have RA := Lib.hid ra
                            have RB := Lib.hid rb
                            clear ra rb
                            obtain ⟨f0, f1, f2, f3⟩ := BR.out.frozens
                            obtain ⟨x0, x1, x2, x3⟩ := BR.out.cells4
                            go_wp2_with fail
                            have g8 := ret_four' BR.out (.int .i64 0) (.int .i64 0) (.int .i64 0) (.int .i64 0)
                            refine bodyPost_ret (results_row_tmp rfl _ _ w.heap.size 23 #[.int .i64 0, .int .i64 0, .int .i64 0, .int .i64 0] (0, 0) _ rfl g8 Try.underlying23 rfl (by kernel_rfl)) rfl ?_
                            exact ⟨by rw [RA.out, RB.out]; rfl, ((((HB.out.setCell (p := ⟨w.heap.size, 0, none⟩) (Nat.le_refl _) (.int .i64 0)).setCell (p := ⟨w.heap.size, 1, none⟩) (Nat.le_refl _) (.int .i64 0)).setCell (p := ⟨w.heap.size, 2, none⟩) (Nat.le_refl _) (.int .i64 0)).setCell (p := ⟨w.heap.size, 3, none⟩) (Nat.le_refl _) (.int .i64 0))⟩
                          · skip
                            obtain ⟨c0, c1, c2, c3⟩ := BV.out.cells4
                            have t9 : decide (2 < nu_4) = false := by simpa using hc
                            have hc2 : nu_4 ≤ 2 := by omega
                            go_wp2_with fail
                            clear c0 c1 c2 c3
                            refine (rrecon_c ⟨b.W, b.H, nu_4, nu_5⟩ _).mono ?_
                            rintro e wg ⟨rfl, hb'⟩
                            have BR := Lib.hid (BR.out.below hb' BR.out.lt)
                            have BV := Lib.hid (BV.out.below hb' BV.out.lt)
                            have HB := Lib.hid (HB.out.trans (hb'.mono HB.out.size))
                            clear hb'
                            obtain ⟨c0, c1, c2, c3⟩ := BV.out.cells4
                            cases hrv : rightVd ⟨b.W, b.H, nu_4, nu_5⟩
                            · skip
                              have HRV := Lib.hid hrv
                              clear hrv
                              have hge : getS T = (⟨0, 0, 0, 0⟩, 280) := by rw [HGE.out]; unfold endS; rw [if_neg (fun h => h rfl), if_neg (show ¬ (2 < nu_4) from by omega), if_neg (by rw [HRV.out]; decide)]
                              rw [HRE.out] at hge
                              injection hge with ra rb
                              have RA := Lib.hid ra
                              have RB := Lib.hid rb
                              clear ra rb
                              obtain ⟨f0, f1, f2, f3⟩ := BR.out.frozens
                              obtain ⟨x0, x1, x2, x3⟩ := BR.out.cells4
                              go_wp2_with fail
                              have g8 := ret_four' BR.out (.int .i64 0) (.int .i64 0) (.int .i64 0) (.int .i64 0)
                              refine bodyPost_ret (results_row_tmp rfl _ _ w.heap.size 23 #[.int .i64 0, .int .i64 0, .int .i64 0, .int .i64 0] (0, 0) _ rfl g8 Try.underlying23 rfl (by kernel_rfl)) rfl ?_
                              exact ⟨by rw [RA.out, RB.out]; rfl, ((((HB.out.setCell (p := ⟨w.heap.size, 0, none⟩) (Nat.le_refl _) (.int .i64 0)).setCell (p := ⟨w.heap.size, 1, none⟩) (Nat.le_refl _) (.int .i64 0)).setCell (p := ⟨w.heap.size, 2, none⟩) (Nat.le_refl _) (.int .i64 0)).setCell (p := ⟨w.heap.size, 3, none⟩) (Nat.le_refl _) (.int .i64 0))⟩
                            · skip
                              have HRV := Lib.hid hrv
                              clear hrv
                              have hge : getS T = (⟨b.W, b.H, nu_4, nu_5⟩, 0) := by rw [HGE.out]; unfold endS; rw [if_neg (fun h => h rfl), if_neg (show ¬ (2 < nu_4) from by omega), if_pos HRV.out]
                              rw [HRE.out] at hge
                              injection hge with ra rb
                              have RA := Lib.hid ra
                              have RB := Lib.hid rb
                              clear ra rb
                              obtain ⟨f0, f1, f2, f3⟩ := BR.out.frozens
                              obtain ⟨x0, x1, x2, x3⟩ := BR.out.cells4
                              go_wp2_with fail
                              have g8 := ret_four' BR.out (.int .i64 b.W) (.int .i64 b.H) (.int .i64 nu_4) (.int .i64 nu_5)
                              refine bodyPost_ret (results_row_tmp rfl _ _ w.heap.size 23 #[.int .i64 b.W, .int .i64 b.H, .int .i64 nu_4, .int .i64 nu_5] (0, 0) _ rfl g8 Try.underlying23 rfl (by kernel_rfl)) rfl ?_
                              exact ⟨by rw [RA.out, RB.out]; rfl, ((((HB.out.setCell (p := ⟨w.heap.size, 0, none⟩) (Nat.le_refl _) (.int .i64 b.W)).setCell (p := ⟨w.heap.size, 1, none⟩) (Nat.le_refl _) (.int .i64 b.H)).setCell (p := ⟨w.heap.size, 2, none⟩) (Nat.le_refl _) (.int .i64 nu_4)).setCell (p := ⟨w.heap.size, 3, none⟩) (Nat.le_refl _) (.int .i64 nu_5))⟩
                    · skip
                      have hge_ : T.length ≤ pu_4 := by omega
                      have hg30 : getS T = (⟨0, 0, 0, 0⟩, 30) := by rw [HG.out]; exact endS_no (stI_stays (i := 3) (by decide) (by show (gS T 2 (stI T b ⟨pu_2, 0, 0⟩ 2).1 (stI T b ⟨pu_2, 0, 0⟩ 2).2).2.e = 30; rw [HS2.out]; exact gS_over hge_))
                      have HG30 := Lib.hid hg30
                      clear hg30
                      rw [nextL_end hge_] at hB
                      have ho_ : 0 < overL T (pu_4) 0 := by unfold overL; rw [if_neg (by omega)]; omega
                      obtain ⟨q0, hq0⟩ : ∃ q, q = overL T (pu_4) 0 := ⟨_, rfl⟩
                      rw [← hq0] at hB ho_
                      have hqb : q0 ≤ 1 := by have h := (ovL_bd T (pu_4) 0 1).2; rw [show ovL T (pu_4) 0 1 = overL T (pu_4) 0 from rfl] at h; omega
                      clear hq0
                      simp only [Bool.false_eq_true, if_false] at hB
                      refine (hB).mono ?_
                      rintro e wv18 ⟨rfl, hr_, hg_⟩
                      have BR := Lib.hid (RR.out.other hg_ BR.out (by decide))
                      have BV := Lib.hid (RR.out.other hg_ BV.out (by decide))
                      have LL := Lib.hid (RR.out.other hg_ LL.out (by decide))
                      have HB := Lib.hid (RGoes.below_ hg_ HB.out hgw)
                      have RR := Lib.hid hr_
                      clear hr_ hg_
                      clear hB
                      go_wp2_with fail
                      rw [rounds_succ]
                      have zo := RR.out.2.cell 2
                      have t5 : decide (0 < (q0 : Int)) = true := by simp; omega
                      have t6 : (0 : Int) < (q0 : Int) := by omega
                      go_upto_region 25 with fail
                      clear zo
                      have hge : getS T = (⟨0, 0, 0, 0⟩, 30) := HG30.out
                      rw [HRE.out] at hge
                      injection hge with ra rb
                      have RA := Lib.hid ra
                      have RB := Lib.hid rb
                      clear ra rb
                      obtain ⟨f0, f1, f2, f3⟩ := BR.out.frozens
                      obtain ⟨x0, x1, x2, x3⟩ := BR.out.cells4
                      go_wp2_with fail
                      have g8 := ret_four' BR.out (.int .i64 0) (.int .i64 0) (.int .i64 0) (.int .i64 0)
                      refine bodyPost_ret (results_row_tmp rfl _ _ w.heap.size 23 #[.int .i64 0, .int .i64 0, .int .i64 0, .int .i64 0] (0, 0) _ rfl g8 Try.underlying23 rfl (by kernel_rfl)) rfl ?_
                      exact ⟨by rw [RA.out, RB.out]; rfl, ((((HB.out.setCell (p := ⟨w.heap.size, 0, none⟩) (Nat.le_refl _) (.int .i64 0)).setCell (p := ⟨w.heap.size, 1, none⟩) (Nat.le_refl _) (.int .i64 0)).setCell (p := ⟨w.heap.size, 2, none⟩) (Nat.le_refl _) (.int .i64 0)).setCell (p := ⟨w.heap.size, 3, none⟩) (Nat.le_refl _) (.int .i64 0))⟩
              · skip
                have hge_ : T.length ≤ pu_2 + 1 := by omega
                have hg30 : getS T = (⟨0, 0, 0, 0⟩, 30) := by rw [HG.out]; exact endS_no (stI_stays (i := 2) (by decide) (by show (gS T 1 (stI T b ⟨pu_2, 0, 0⟩ 1).1 (stI T b ⟨pu_2, 0, 0⟩ 1).2).2.e = 30; rw [HS1.out]; exact gS_over hge_))
                have HG30 := Lib.hid hg30
                clear hg30
                rw [nextL_end hge_] at hB
                have ho_ : 0 < overL T (pu_2 + 1) 0 := by unfold overL; rw [if_neg (by omega)]; omega
                obtain ⟨q0, hq0⟩ : ∃ q, q = overL T (pu_2 + 1) 0 := ⟨_, rfl⟩
                rw [← hq0] at hB ho_
                have hqb : q0 ≤ 1 := by have h := (ovL_bd T (pu_2 + 1) 0 1).2; rw [show ovL T (pu_2 + 1) 0 1 = overL T (pu_2 + 1) 0 from rfl] at h; omega
                clear hq0
                simp only [Bool.false_eq_true, if_false] at hB
                refine (hB).mono ?_
                rintro e wv5 ⟨rfl, hr_, hg_⟩
                have BR := Lib.hid (RR.out.other hg_ BR.out (by decide))
                have BV := Lib.hid (RR.out.other hg_ BV.out (by decide))
                have LL := Lib.hid (RR.out.other hg_ LL.out (by decide))
                have HB := Lib.hid (RGoes.below_ hg_ HB.out hgw)
                have RR := Lib.hid hr_
                clear hr_ hg_
                clear hB
                go_wp2_with fail
                rw [rounds_succ]
                go_wp2_with fail
                have hB := rrbit_c _ g T (pu_2 + 1 + 1) q0 _ RR.out hlT (by omega) (by omega)
                rw [nextL_end (by omega)] at hB
                have hqq := ovL_bd T (pu_2 + 1 + 1) q0 1
                rw [show ovL T (pu_2 + 1 + 1) q0 1 = overL T (pu_2 + 1 + 1) q0 from rfl] at hqq
                obtain ⟨q3, hq_⟩ : ∃ q, q = overL T (pu_2 + 1 + 1) q0 := ⟨_, rfl⟩
                rw [← hq_] at hB hqq
                clear hq_
                simp only [Bool.false_eq_true, if_false] at hB
                refine (hB).mono ?_
                rintro e wv6 ⟨rfl, hr_, hg_⟩
                have BR := Lib.hid (RR.out.other hg_ BR.out (by decide))
                have BV := Lib.hid (RR.out.other hg_ BV.out (by decide))
                have LL := Lib.hid (RR.out.other hg_ LL.out (by decide))
                have HB := Lib.hid (RGoes.below_ hg_ HB.out hgw)
                have RR := Lib.hid hr_
                clear hr_ hg_
                clear hB
                go_wp2_with fail
                rw [rounds_succ]
                have zo := RR.out.2.cell 2
                have t5 : decide (0 < (q3 : Int)) = true := by simp; omega
                have t6 : (0 : Int) < (q3 : Int) := by omega
                go_upto_region 25 with fail
                clear zo
                have hge : getS T = (⟨0, 0, 0, 0⟩, 30) := HG30.out
                rw [HRE.out] at hge
                injection hge with ra rb
                have RA := Lib.hid ra
                have RB := Lib.hid rb
                clear ra rb
                obtain ⟨f0, f1, f2, f3⟩ := BR.out.frozens
                obtain ⟨x0, x1, x2, x3⟩ := BR.out.cells4
                go_wp2_with fail
                have g8 := ret_four' BR.out (.int .i64 0) (.int .i64 0) (.int .i64 0) (.int .i64 0)
                refine bodyPost_ret (results_row_tmp rfl _ _ w.heap.size 23 #[.int .i64 0, .int .i64 0, .int .i64 0, .int .i64 0] (0, 0) _ rfl g8 Try.underlying23 rfl (by kernel_rfl)) rfl ?_
                exact ⟨by rw [RA.out, RB.out]; rfl, ((((HB.out.setCell (p := ⟨w.heap.size, 0, none⟩) (Nat.le_refl _) (.int .i64 0)).setCell (p := ⟨w.heap.size, 1, none⟩) (Nat.le_refl _) (.int .i64 0)).setCell (p := ⟨w.heap.size, 2, none⟩) (Nat.le_refl _) (.int .i64 0)).setCell (p := ⟨w.heap.size, 3, none⟩) (Nat.le_refl _) (.int .i64 0))⟩
            · skip
              have HN := Lib.hid hn
              rw [hn] at hB
              simp only [if_true] at hB
              clear hn hin
              refine (hB).mono ?_
              rintro e wv25 ⟨rfl, hr_, hg_⟩
              have BR := Lib.hid (RR.out.other hg_ BR.out (by decide))
              have BV := Lib.hid (RR.out.other hg_ BV.out (by decide))
              have LL := Lib.hid (RR.out.other hg_ LL.out (by decide))
              have HB := Lib.hid (RGoes.below_ hg_ HB.out hgw)
              have RR := Lib.hid hr_
              clear hr_ hg_
              clear hB
              go_wp2_with fail
              have hpl := goG_place T 31 (pu_2 + 1) 1
              have hbd := goG_bd31 T (pu_2 + 1)
              have hC := rrgget_c _ g T (pu_2 + 1) 0 _ RR.out hlT (by omega) (by omega)
              rcases hgou_6 : goG T (pu_2 + 1) 1 31 with ⟨nu_6, oku_6, pu_6⟩
              rw [hgou_6] at hC hpl hbd
              dsimp only at hC hpl hbd
              have HGOu_6 := Lib.hid hgou_6
              clear hgou_6
              refine (hC).mono ?_
              rintro e wc26 ⟨rfl, hr_, hg_⟩
              have BR := Lib.hid (RR.out.other hg_ BR.out (by decide))
              have BV := Lib.hid (RR.out.other hg_ BV.out (by decide))
              have LL := Lib.hid (RR.out.other hg_ LL.out (by decide))
              have HB := Lib.hid (RGoes.below_ hg_ HB.out hgw)
              have RR := Lib.hid hr_
              clear hr_ hg_
              clear hC
              have zl := LL.out.cell 0
              have ff := LL.out.frozen 0
              go_upto_region 22 with fail
              clear zl ff
              have BR := Lib.hid (BR.out.far (p := ⟨gl, 0, none⟩) (BR.out.ne_ LL.out (by decide)) (.int .i64 nu_6))
              have BV := Lib.hid (BV.out.far (p := ⟨gl, 0, none⟩) (BV.out.ne_ LL.out (by decide)) (.int .i64 nu_6))
              have HB := Lib.hid (HB.out.setCell (p := ⟨gl, 0, none⟩) lgl (.int .i64 nu_6))
              have RR := Lib.hid (show RrI (wc26.setCell ⟨gl, 0, none⟩ (.int .i64 nu_6)) w.heap.size g T _ _ from ⟨RR.out.1, RR.out.2.far (p := ⟨gl, 0, none⟩) (RR.out.2.ne_ LL.out (by decide)) (.int .i64 nu_6)⟩)
              have hl_ : Blk (wc26.setCell ⟨gl, 0, none⟩ (.int .i64 nu_6)) gl 3 #[.int .i64 nu_6, .int .i64 b.H, .int .i64 b.C, .int .i64 b.B] := LL.out.set_ 0 (.int .i64 nu_6)
              have LL := Lib.hid hl_
              clear hl_
              generalize wc26.setCell ⟨gl, 0, none⟩ (.int .i64 nu_6) = ws27 at *
              cases oku_6
              · skip
                go_upto_region 23 with fail
                have hge : getS T = (⟨0, 0, 0, 0⟩, 30) := by rw [HG.out]; exact endS_no (stI_stays (i := 1) (by decide) (by show (gS T 0 (stI T b ⟨pu_2, 0, 0⟩ 0).1 (stI T b ⟨pu_2, 0, 0⟩ 0).2).2.e = 30; rw [HS0.out]; exact gS_no HN.out (by rw [HGOu_6.out])))
                rw [HRE.out] at hge
                injection hge with ra rb
                have RA := Lib.hid ra
                have RB := Lib.hid rb
                clear ra rb
                obtain ⟨f0, f1, f2, f3⟩ := BR.out.frozens
                obtain ⟨x0, x1, x2, x3⟩ := BR.out.cells4
                go_wp2_with fail
                have g8 := ret_four' BR.out (.int .i64 0) (.int .i64 0) (.int .i64 0) (.int .i64 0)
                refine bodyPost_ret (results_row_tmp rfl _ _ w.heap.size 23 #[.int .i64 0, .int .i64 0, .int .i64 0, .int .i64 0] (0, 0) _ rfl g8 Try.underlying23 rfl (by kernel_rfl)) rfl ?_
                exact ⟨by rw [RA.out, RB.out]; rfl, ((((HB.out.setCell (p := ⟨w.heap.size, 0, none⟩) (Nat.le_refl _) (.int .i64 0)).setCell (p := ⟨w.heap.size, 1, none⟩) (Nat.le_refl _) (.int .i64 0)).setCell (p := ⟨w.heap.size, 2, none⟩) (Nat.le_refl _) (.int .i64 0)).setCell (p := ⟨w.heap.size, 3, none⟩) (Nat.le_refl _) (.int .i64 0))⟩
              · skip
                have ho1 := ovL_ok (T := T) (a := pu_2 + 1) (by rw [HGOu_6.out])
                rw [HGOu_6.out] at ho1
                dsimp only at ho1
                rw [ho1] at RR
                clear ho1
                go_wp2_with fail
                rw [rounds_succ]
                go_wp2_with fail
                have hpl := goG_place T 31 (pu_6) 1
                have hbd := goG_bd31 T (pu_6)
                have hC := rrgget_c _ g T (pu_6) 0 _ RR.out hlT (by omega) (by omega)
                rcases hgou_7 : goG T (pu_6) 1 31 with ⟨nu_7, oku_7, pu_7⟩
                rw [hgou_7] at hC hpl hbd
                dsimp only at hC hpl hbd
                have HGOu_7 := Lib.hid hgou_7
                clear hgou_7
                refine (hC).mono ?_
                rintro e wc28 ⟨rfl, hr_, hg_⟩
                have BR := Lib.hid (RR.out.other hg_ BR.out (by decide))
                have BV := Lib.hid (RR.out.other hg_ BV.out (by decide))
                have LL := Lib.hid (RR.out.other hg_ LL.out (by decide))
                have HB := Lib.hid (RGoes.below_ hg_ HB.out hgw)
                have RR := Lib.hid hr_
                clear hr_ hg_
                clear hC
                have zl := LL.out.cell 1
                have ff := LL.out.frozen 1
                go_upto_region 22 with fail
                clear zl ff
                have BR := Lib.hid (BR.out.far (p := ⟨gl, 1, none⟩) (BR.out.ne_ LL.out (by decide)) (.int .i64 nu_7))
                have BV := Lib.hid (BV.out.far (p := ⟨gl, 1, none⟩) (BV.out.ne_ LL.out (by decide)) (.int .i64 nu_7))
                have HB := Lib.hid (HB.out.setCell (p := ⟨gl, 1, none⟩) lgl (.int .i64 nu_7))
                have RR := Lib.hid (show RrI (wc28.setCell ⟨gl, 1, none⟩ (.int .i64 nu_7)) w.heap.size g T _ _ from ⟨RR.out.1, RR.out.2.far (p := ⟨gl, 1, none⟩) (RR.out.2.ne_ LL.out (by decide)) (.int .i64 nu_7)⟩)
                have hl_ : Blk (wc28.setCell ⟨gl, 1, none⟩ (.int .i64 nu_7)) gl 3 #[.int .i64 nu_6, .int .i64 nu_7, .int .i64 b.C, .int .i64 b.B] := LL.out.set_ 1 (.int .i64 nu_7)
                have LL := Lib.hid hl_
                clear hl_
                generalize wc28.setCell ⟨gl, 1, none⟩ (.int .i64 nu_7) = ws29 at *
                cases oku_7
                · skip
                  go_upto_region 23 with fail
                  have hge : getS T = (⟨0, 0, 0, 0⟩, 30) := by rw [HG.out]; exact endS_no (stI_stays (i := 1) (by decide) (by show (gS T 0 (stI T b ⟨pu_2, 0, 0⟩ 0).1 (stI T b ⟨pu_2, 0, 0⟩ 0).2).2.e = 30; rw [HS0.out]; exact gS_no2 HN.out (by rw [HGOu_6.out]) (by rw [HGOu_6.out]; dsimp only; rw [HGOu_7.out])))
                  rw [HRE.out] at hge
                  injection hge with ra rb
                  have RA := Lib.hid ra
                  have RB := Lib.hid rb
                  clear ra rb
                  obtain ⟨f0, f1, f2, f3⟩ := BR.out.frozens
                  obtain ⟨x0, x1, x2, x3⟩ := BR.out.cells4
                  go_wp2_with fail
                  have g8 := ret_four' BR.out (.int .i64 0) (.int .i64 0) (.int .i64 0) (.int .i64 0)
                  refine bodyPost_ret (results_row_tmp rfl _ _ w.heap.size 23 #[.int .i64 0, .int .i64 0, .int .i64 0, .int .i64 0] (0, 0) _ rfl g8 Try.underlying23 rfl (by kernel_rfl)) rfl ?_
                  exact ⟨by rw [RA.out, RB.out]; rfl, ((((HB.out.setCell (p := ⟨w.heap.size, 0, none⟩) (Nat.le_refl _) (.int .i64 0)).setCell (p := ⟨w.heap.size, 1, none⟩) (Nat.le_refl _) (.int .i64 0)).setCell (p := ⟨w.heap.size, 2, none⟩) (Nat.le_refl _) (.int .i64 0)).setCell (p := ⟨w.heap.size, 3, none⟩) (Nat.le_refl _) (.int .i64 0))⟩
                · skip
                  have ho1 := ovL_ok (T := T) (a := pu_6) (by rw [HGOu_7.out])
                  rw [HGOu_7.out] at ho1
                  dsimp only at ho1
                  rw [ho1] at RR
                  clear ho1
                  have HS1 := Lib.hid (show stI T b ⟨pu_2, 0, 0⟩ 1 = (⟨nu_6, nu_7, b.C, b.B⟩, ⟨pu_7, 0, 0⟩) by show gS T 0 (stI T b ⟨pu_2, 0, 0⟩ 0).1 (stI T b ⟨pu_2, 0, 0⟩ 0).2 = _; rw [HS0.out]; have h := gS_0 (v := ⟨b.W, b.H, b.C, b.B⟩) HN.out (by rw [HGOu_6.out]) (by rw [HGOu_6.out]; dsimp only; rw [HGOu_7.out]); rw [HGOu_6.out] at h; dsimp only at h; rw [HGOu_7.out] at h; exact h)
                  go_wp2_with fail
                  rw [rounds_succ]
                  go_wp2_with fail
                  have hB := rrbit_c _ g T (pu_7) 0 _ RR.out hlT (by omega) (by omega)
                  by_cases hin : pu_7 < T.length
                  · skip
                    rw [show overL T (pu_7) 0 = 0 by unfold overL; rw [if_pos hin]] at hB
                    cases hn : nextL T (pu_7)
                    · skip
                      have HS2 := Lib.hid (show stI T b ⟨pu_2, 0, 0⟩ 2 = (⟨nu_6, nu_7, b.C, b.B⟩, ⟨pu_7 + 1, 0, 0⟩) by show gS T 1 (stI T b ⟨pu_2, 0, 0⟩ 1).1 (stI T b ⟨pu_2, 0, 0⟩ 1).2 = _; rw [HS1.out]; exact gS_zero hin hn)
                      rw [hn] at hB
                      simp only [Bool.false_eq_true, if_false] at hB
                      clear hn hin
                      refine (hB).mono ?_
                      rintro e wv32 ⟨rfl, hr_, hg_⟩
                      have BR := Lib.hid (RR.out.other hg_ BR.out (by decide))
                      have BV := Lib.hid (RR.out.other hg_ BV.out (by decide))
                      have LL := Lib.hid (RR.out.other hg_ LL.out (by decide))
                      have HB := Lib.hid (RGoes.below_ hg_ HB.out hgw)
                      have RR := Lib.hid hr_
                      clear hr_ hg_
                      clear hB
                      go_wp2_with fail
                      rw [rounds_succ]
                      go_wp2_with fail
                      have hB := rrbit_c _ g T (pu_7 + 1) 0 _ RR.out hlT (by omega) (by omega)
                      by_cases hin : pu_7 + 1 < T.length
                      · skip
                        rw [show overL T (pu_7 + 1) 0 = 0 by unfold overL; rw [if_pos hin]] at hB
                        cases hn : nextL T (pu_7 + 1)
                        · skip
                          have HS3 := Lib.hid (show stI T b ⟨pu_2, 0, 0⟩ 3 = (⟨nu_6, nu_7, b.C, b.B⟩, ⟨pu_7 + 1 + 1, 0, 0⟩) by show gS T 2 (stI T b ⟨pu_2, 0, 0⟩ 2).1 (stI T b ⟨pu_2, 0, 0⟩ 2).2 = _; rw [HS2.out]; exact gS_zero hin hn)
                          rw [hn] at hB
                          simp only [Bool.false_eq_true, if_false] at hB
                          clear hn hin
                          refine (hB).mono ?_
                          rintro e wv34 ⟨rfl, hr_, hg_⟩
                          have BR := Lib.hid (RR.out.other hg_ BR.out (by decide))
                          have BV := Lib.hid (RR.out.other hg_ BV.out (by decide))
                          have LL := Lib.hid (RR.out.other hg_ LL.out (by decide))
                          have HB := Lib.hid (RGoes.below_ hg_ HB.out hgw)
                          have RR := Lib.hid hr_
                          clear hr_ hg_
                          clear hB
                          go_wp2_with fail
                          rw [rounds_succ]
                          have zo := RR.out.2.cell 2
                          go_upto_region 26 with fail
                          clear zo
                          obtain ⟨zl0, zl1, zl2, zl3⟩ := LL.out.cells4
                          have kq0 := cell_regrown zl0
                          have kq1 := cell_regrown zl1
                          have kq2 := cell_regrown zl2
                          have kq3 := cell_regrown zl3
                          clear zl0 zl1 zl2 zl3
                          refine wp_mono_tail 13 [Brings.one ?b105_0, Brings.one ?b106_1, Brings.one ?b107_2, Brings.one ?b108_3, Brings.one ?b109_4, Brings.one ?b110_5, Brings.one ?b111_6, Brings.one ?b112_7, Brings.one ?b113_8, Brings.one ?b114_9, Brings.one ?b115_10, Brings.one ?b116_11, Brings.one ?b117_12] (by kernel_rfl) (by kernel_rfl) ?_
                          rotate_left 13
                          simp only [List.take_succ_cons, List.take_zero, List.drop_succ_cons, List.drop_zero]
                          refine wpL_take (k' := 1) rfl (by kernel_rfl) (fun d os => ?t118) ?_
                          case t118 => (unfold bringsAt; go_simp; first | with_reducible exact take_one | exact take_one)
                          try simp only [Act.put, List.setIfInBounds_toArray, List.set_cons_zero, List.set_cons_succ]
                          refine wpL_take (k' := 2) rfl (by kernel_rfl) (fun d os => ?t119) ?_
                          case t119 => (unfold bringsAt; go_simp; first | with_reducible exact take_one | exact take_one)
                          try simp only [Act.put, List.setIfInBounds_toArray, List.set_cons_zero, List.set_cons_succ]
                          refine wpL_take (k' := 3) rfl (by kernel_rfl) (fun d os => ?t120) ?_
                          case t120 => (unfold bringsAt; go_simp; first | with_reducible exact take_one | exact take_one)
                          try simp only [Act.put, List.setIfInBounds_toArray, List.set_cons_zero, List.set_cons_succ]
                          refine wpL_take (k' := 4) rfl (by kernel_rfl) (fun d os => ?t121) ?_
                          case t121 => (unfold bringsAt; go_simp; first | with_reducible exact take_one | exact take_one)
                          try simp only [Act.put, List.setIfInBounds_toArray, List.set_cons_zero, List.set_cons_succ]
                          refine wpL_take (k' := 5) rfl (by kernel_rfl) (fun d os => ?t122) ?_
                          case t122 => (unfold bringsAt; go_simp; first | with_reducible exact take_one | exact take_one)
                          try simp only [Act.put, List.setIfInBounds_toArray, List.set_cons_zero, List.set_cons_succ]
                          refine wpL_take (k' := 6) rfl (by kernel_rfl) (fun d os => ?t123) ?_
                          case t123 => (unfold bringsAt; go_simp; first | with_reducible exact take_one | exact take_one)
                          try simp only [Act.put, List.setIfInBounds_toArray, List.set_cons_zero, List.set_cons_succ]
                          refine wpL_take (k' := 7) rfl (by kernel_rfl) (fun d os => ?t124) ?_
                          case t124 => (unfold bringsAt; go_simp; first | with_reducible exact take_one | exact take_one)
                          try simp only [Act.put, List.setIfInBounds_toArray, List.set_cons_zero, List.set_cons_succ]
                          refine wpL_take (k' := 8) rfl (by kernel_rfl) (fun d os => ?t125) ?_
                          case t125 => (unfold bringsAt; go_simp; first | with_reducible exact take_one | exact take_one)
                          try simp only [Act.put, List.setIfInBounds_toArray, List.set_cons_zero, List.set_cons_succ]
                          refine wpL_take (k' := 9) rfl (by kernel_rfl) (fun d os => ?t126) ?_
                          case t126 => (unfold bringsAt; go_simp; first | with_reducible exact take_one | exact take_one)
                          try simp only [Act.put, List.setIfInBounds_toArray, List.set_cons_zero, List.set_cons_succ]
                          refine wpL_take (k' := 10) rfl (by kernel_rfl) (fun d os => ?t127) ?_
                          case t127 => (unfold bringsAt; go_simp; first | with_reducible exact take_one | exact take_one)
                          try simp only [Act.put, List.setIfInBounds_toArray, List.set_cons_zero, List.set_cons_succ]
                          refine wpL_take (k' := 11) rfl (by kernel_rfl) (fun d os => ?t128) ?_
                          case t128 => (unfold bringsAt; go_simp; first | with_reducible exact take_one | exact take_one)
                          try simp only [Act.put, List.setIfInBounds_toArray, List.set_cons_zero, List.set_cons_succ]
                          refine wpL_take (k' := 12) rfl (by kernel_rfl) (fun d os => ?t129) ?_
                          case t129 => (unfold bringsAt; go_simp; first | with_reducible exact take_one | exact take_one)
                          try simp only [Act.put, List.setIfInBounds_toArray, List.set_cons_zero, List.set_cons_succ]
                          refine wpL_take (k' := 13) rfl (by kernel_rfl) (fun d os => ?t130) ?_
                          case t130 => (unfold bringsAt; go_simp; first | with_reducible exact take_one | exact take_one)
                          try simp only [Act.put, List.setIfInBounds_toArray, List.set_cons_zero, List.set_cons_succ]
                          refine wpL_nil ?_
                          intro w1003 hH
                          have hb' := hH.below
                          clear kq0 kq1 kq2 kq3
                          have HB := Lib.hid ((HB.out).trans (hb'.mono (HB.out).size))
                          have BR := Lib.hid ((BR.out).below hb' (BR.out).lt)
                          have BV := Lib.hid ((BV.out).below hb' (BV.out).lt)
                          have LL := Lib.hid ((LL.out).below hb' (LL.out).lt)
                          clear hH hb'
                          obtain ⟨f0, f1, f2, f3⟩ := BV.out.frozens
                          obtain ⟨x0, x1, x2, x3⟩ := BV.out.cells4
                          go_upto_region 27 with fail
                          clear f0 f1 f2 f3 x0 x1 x2 x3
                          have BR := Lib.hid ((((BR.out.far (p := ⟨bv, 0, none⟩) hbb (.int .i64 nu_6)).far (p := ⟨bv, 1, none⟩) hbb (.int .i64 nu_7)).far (p := ⟨bv, 2, none⟩) hbb (.int .i64 b.C)).far (p := ⟨bv, 3, none⟩) hbb (.int .i64 b.B))
                          have HB := Lib.hid ((((HB.out.setCell (p := ⟨bv, 0, none⟩) lbv (.int .i64 nu_6)).setCell (p := ⟨bv, 1, none⟩) lbv (.int .i64 nu_7)).setCell (p := ⟨bv, 2, none⟩) lbv (.int .i64 b.C)).setCell (p := ⟨bv, 3, none⟩) lbv (.int .i64 b.B))
                          have BV := Lib.hid (ret_four' BV.out (.int .i64 nu_6) (.int .i64 nu_7) (.int .i64 b.C) (.int .i64 b.B))
                          generalize (((w1003.setCell ⟨bv, 0, none⟩ (.int .i64 nu_6)).setCell ⟨bv, 1, none⟩ (.int .i64 nu_7)).setCell ⟨bv, 2, none⟩ (.int .i64 b.C)).setCell ⟨bv, 3, none⟩ (.int .i64 b.B) = wf at *
                          have HGE := Lib.hid (show getS T = endS ⟨nu_6, nu_7, b.C, b.B⟩ ⟨pu_7 + 1 + 1, 0, 0⟩ by rw [HG.out, HS3.out])
                          by_cases hc : 2 < b.C
                          · skip
                            obtain ⟨c0, c1, c2, c3⟩ := BV.out.cells4
                            have t9 : decide (2 < b.C) = true := by simpa using hc
                            go_upto_region 28 with fail
                            clear c0 c1 c2 c3
                            have hge : getS T = (⟨0, 0, 0, 0⟩, 281) := by rw [HGE.out]; unfold endS; rw [if_neg (fun h => h rfl), if_pos hc]
                            rw [HRE.out] at hge
                            injection hge with ra rb
                            have RA := Lib.hid ra
                            have RB := Lib.hid rb
                            clear ra rb
                            obtain ⟨f0, f1, f2, f3⟩ := BR.out.frozens
                            obtain ⟨x0, x1, x2, x3⟩ := BR.out.cells4
                            go_wp2_with fail
                            have g8 := ret_four' BR.out (.int .i64 0) (.int .i64 0) (.int .i64 0) (.int .i64 0)
                            refine bodyPost_ret (results_row_tmp rfl _ _ w.heap.size 23 #[.int .i64 0, .int .i64 0, .int .i64 0, .int .i64 0] (0, 0) _ rfl g8 Try.underlying23 rfl (by kernel_rfl)) rfl ?_
                            exact ⟨by rw [RA.out, RB.out]; rfl, ((((HB.out.setCell (p := ⟨w.heap.size, 0, none⟩) (Nat.le_refl _) (.int .i64 0)).setCell (p := ⟨w.heap.size, 1, none⟩) (Nat.le_refl _) (.int .i64 0)).setCell (p := ⟨w.heap.size, 2, none⟩) (Nat.le_refl _) (.int .i64 0)).setCell (p := ⟨w.heap.size, 3, none⟩) (Nat.le_refl _) (.int .i64 0))⟩
                          · skip
                            obtain ⟨c0, c1, c2, c3⟩ := BV.out.cells4
                            have t9 : decide (2 < b.C) = false := by simpa using hc
                            have hc2 : b.C ≤ 2 := by omega
                            go_wp2_with fail
                            clear c0 c1 c2 c3
                            refine (rrecon_c ⟨nu_6, nu_7, b.C, b.B⟩ _).mono ?_
                            rintro e wg ⟨rfl, hb'⟩
                            have BR := Lib.hid (BR.out.below hb' BR.out.lt)
                            have BV := Lib.hid (BV.out.below hb' BV.out.lt)
                            have HB := Lib.hid (HB.out.trans (hb'.mono HB.out.size))
                            clear hb'
                            obtain ⟨c0, c1, c2, c3⟩ := BV.out.cells4
                            cases hrv : rightVd ⟨nu_6, nu_7, b.C, b.B⟩
                            · skip
                              have HRV := Lib.hid hrv
                              clear hrv
                              have hge : getS T = (⟨0, 0, 0, 0⟩, 280) := by rw [HGE.out]; unfold endS; rw [if_neg (fun h => h rfl), if_neg (show ¬ (2 < b.C) from by omega), if_neg (by rw [HRV.out]; decide)]
                              rw [HRE.out] at hge
                              injection hge with ra rb
                              have RA := Lib.hid ra
                              have RB := Lib.hid rb
                              clear ra rb
                              obtain ⟨f0, f1, f2, f3⟩ := BR.out.frozens
                              obtain ⟨x0, x1, x2, x3⟩ := BR.out.cells4
                              go_wp2_with fail
                              have g8 := ret_four' BR.out (.int .i64 0) (.int .i64 0) (.int .i64 0) (.int .i64 0)
                              refine bodyPost_ret (results_row_tmp rfl _ _ w.heap.size 23 #[.int .i64 0, .int .i64 0, .int .i64 0, .int .i64 0] (0, 0) _ rfl g8 Try.underlying23 rfl (by kernel_rfl)) rfl ?_
                              exact ⟨by rw [RA.out, RB.out]; rfl, ((((HB.out.setCell (p := ⟨w.heap.size, 0, none⟩) (Nat.le_refl _) (.int .i64 0)).setCell (p := ⟨w.heap.size, 1, none⟩) (Nat.le_refl _) (.int .i64 0)).setCell (p := ⟨w.heap.size, 2, none⟩) (Nat.le_refl _) (.int .i64 0)).setCell (p := ⟨w.heap.size, 3, none⟩) (Nat.le_refl _) (.int .i64 0))⟩
                            · skip
                              have HRV := Lib.hid hrv
                              clear hrv
                              have hge : getS T = (⟨nu_6, nu_7, b.C, b.B⟩, 0) := by rw [HGE.out]; unfold endS; rw [if_neg (fun h => h rfl), if_neg (show ¬ (2 < b.C) from by omega), if_pos HRV.out]
                              rw [HRE.out] at hge
                              injection hge with ra rb
                              have RA := Lib.hid ra
                              have RB := Lib.hid rb
                              clear ra rb
                              obtain ⟨f0, f1, f2, f3⟩ := BR.out.frozens
                              obtain ⟨x0, x1, x2, x3⟩ := BR.out.cells4
                              go_wp2_with fail
                              have g8 := ret_four' BR.out (.int .i64 nu_6) (.int .i64 nu_7) (.int .i64 b.C) (.int .i64 b.B)
                              refine bodyPost_ret (results_row_tmp rfl _ _ w.heap.size 23 #[.int .i64 nu_6, .int .i64 nu_7, .int .i64 b.C, .int .i64 b.B] (0, 0) _ rfl g8 Try.underlying23 rfl (by kernel_rfl)) rfl ?_
                              exact ⟨by rw [RA.out, RB.out]; rfl, ((((HB.out.setCell (p := ⟨w.heap.size, 0, none⟩) (Nat.le_refl _) (.int .i64 nu_6)).setCell (p := ⟨w.heap.size, 1, none⟩) (Nat.le_refl _) (.int .i64 nu_7)).setCell (p := ⟨w.heap.size, 2, none⟩) (Nat.le_refl _) (.int .i64 b.C)).setCell (p := ⟨w.heap.size, 3, none⟩) (Nat.le_refl _) (.int .i64 b.B))⟩
                        · skip
                          have HN := Lib.hid hn
                          rw [hn] at hB
                          simp only [if_true] at hB
                          clear hn hin
                          refine (hB).mono ?_
                          rintro e wv36 ⟨rfl, hr_, hg_⟩
                          have BR := Lib.hid (RR.out.other hg_ BR.out (by decide))
                          have BV := Lib.hid (RR.out.other hg_ BV.out (by decide))
                          have LL := Lib.hid (RR.out.other hg_ LL.out (by decide))
                          have HB := Lib.hid (RGoes.below_ hg_ HB.out hgw)
                          have RR := Lib.hid hr_
                          clear hr_ hg_
                          clear hB
                          go_wp2_with fail
                          have hpl := goG_place T 31 (pu_7 + 1 + 1) 1
                          have hbd := goG_bd31 T (pu_7 + 1 + 1)
                          have hC := rrgget_c _ g T (pu_7 + 1 + 1) 0 _ RR.out hlT (by omega) (by omega)
                          rcases hgou_8 : goG T (pu_7 + 1 + 1) 1 31 with ⟨nu_8, oku_8, pu_8⟩
                          rw [hgou_8] at hC hpl hbd
                          dsimp only at hC hpl hbd
                          have HGOu_8 := Lib.hid hgou_8
                          clear hgou_8
                          refine (hC).mono ?_
                          rintro e wc37 ⟨rfl, hr_, hg_⟩
                          have BR := Lib.hid (RR.out.other hg_ BR.out (by decide))
                          have BV := Lib.hid (RR.out.other hg_ BV.out (by decide))
                          have LL := Lib.hid (RR.out.other hg_ LL.out (by decide))
                          have HB := Lib.hid (RGoes.below_ hg_ HB.out hgw)
                          have RR := Lib.hid hr_
                          clear hr_ hg_
                          clear hC
                          have zl := LL.out.cell 3
                          have ff := LL.out.frozen 3
                          go_upto_region 22 with fail
                          clear zl ff
                          have BR := Lib.hid (BR.out.far (p := ⟨gl, 3, none⟩) (BR.out.ne_ LL.out (by decide)) (.int .i64 nu_8))
                          have BV := Lib.hid (BV.out.far (p := ⟨gl, 3, none⟩) (BV.out.ne_ LL.out (by decide)) (.int .i64 nu_8))
                          have HB := Lib.hid (HB.out.setCell (p := ⟨gl, 3, none⟩) lgl (.int .i64 nu_8))
                          have RR := Lib.hid (show RrI (wc37.setCell ⟨gl, 3, none⟩ (.int .i64 nu_8)) w.heap.size g T _ _ from ⟨RR.out.1, RR.out.2.far (p := ⟨gl, 3, none⟩) (RR.out.2.ne_ LL.out (by decide)) (.int .i64 nu_8)⟩)
                          have hl_ : Blk (wc37.setCell ⟨gl, 3, none⟩ (.int .i64 nu_8)) gl 3 #[.int .i64 nu_6, .int .i64 nu_7, .int .i64 b.C, .int .i64 nu_8] := LL.out.set_ 3 (.int .i64 nu_8)
                          have LL := Lib.hid hl_
                          clear hl_
                          generalize wc37.setCell ⟨gl, 3, none⟩ (.int .i64 nu_8) = ws38 at *
                          cases oku_8
                          · skip
                            go_upto_region 23 with fail
                            have hge : getS T = (⟨0, 0, 0, 0⟩, 30) := by rw [HG.out]; exact endS_no (stI_stays (i := 3) (by decide) (by show (gS T 2 (stI T b ⟨pu_2, 0, 0⟩ 2).1 (stI T b ⟨pu_2, 0, 0⟩ 2).2).2.e = 30; rw [HS2.out]; exact gS_no HN.out (by rw [HGOu_8.out])))
                            rw [HRE.out] at hge
                            injection hge with ra rb
                            have RA := Lib.hid ra
                            have RB := Lib.hid rb
                            clear ra rb
                            obtain ⟨f0, f1, f2, f3⟩ := BR.out.frozens
                            obtain ⟨x0, x1, x2, x3⟩ := BR.out.cells4
                            go_wp2_with fail
                            have g8 := ret_four' BR.out (.int .i64 0) (.int .i64 0) (.int .i64 0) (.int .i64 0)
                            refine bodyPost_ret (results_row_tmp rfl _ _ w.heap.size 23 #[.int .i64 0, .int .i64 0, .int .i64 0, .int .i64 0] (0, 0) _ rfl g8 Try.underlying23 rfl (by kernel_rfl)) rfl ?_
                            exact ⟨by rw [RA.out, RB.out]; rfl, ((((HB.out.setCell (p := ⟨w.heap.size, 0, none⟩) (Nat.le_refl _) (.int .i64 0)).setCell (p := ⟨w.heap.size, 1, none⟩) (Nat.le_refl _) (.int .i64 0)).setCell (p := ⟨w.heap.size, 2, none⟩) (Nat.le_refl _) (.int .i64 0)).setCell (p := ⟨w.heap.size, 3, none⟩) (Nat.le_refl _) (.int .i64 0))⟩
                          · skip
                            have ho1 := ovL_ok (T := T) (a := pu_7 + 1 + 1) (by rw [HGOu_8.out])
                            rw [HGOu_8.out] at ho1
                            dsimp only at ho1
                            rw [ho1] at RR
                            clear ho1
                            have HS3 := Lib.hid (show stI T b ⟨pu_2, 0, 0⟩ 3 = (⟨nu_6, nu_7, b.C, nu_8⟩, ⟨pu_8, 0, 0⟩) by show gS T 2 (stI T b ⟨pu_2, 0, 0⟩ 2).1 (stI T b ⟨pu_2, 0, 0⟩ 2).2 = _; rw [HS2.out]; have h := gS_2 (v := ⟨nu_6, nu_7, b.C, b.B⟩) HN.out (by rw [HGOu_8.out]); rw [HGOu_8.out] at h; exact h)
                            go_wp2_with fail
                            rw [rounds_succ]
                            have zo := RR.out.2.cell 2
                            go_upto_region 26 with fail
                            clear zo
                            obtain ⟨zl0, zl1, zl2, zl3⟩ := LL.out.cells4
                            have kq0 := cell_regrown zl0
                            have kq1 := cell_regrown zl1
                            have kq2 := cell_regrown zl2
                            have kq3 := cell_regrown zl3
                            clear zl0 zl1 zl2 zl3
                            refine wp_mono_tail 13 [Brings.one ?b131_0, Brings.one ?b132_1, Brings.one ?b133_2, Brings.one ?b134_3, Brings.one ?b135_4, Brings.one ?b136_5, Brings.one ?b137_6, Brings.one ?b138_7, Brings.one ?b139_8, Brings.one ?b140_9, Brings.one ?b141_10, Brings.one ?b142_11, Brings.one ?b143_12] (by kernel_rfl) (by kernel_rfl) ?_
                            rotate_left 13
                            simp only [List.take_succ_cons, List.take_zero, List.drop_succ_cons, List.drop_zero]
                            refine wpL_take (k' := 1) rfl (by kernel_rfl) (fun d os => ?t144) ?_
                            case t144 => (unfold bringsAt; go_simp; first | with_reducible exact take_one | exact take_one)
                            try simp only [Act.put, List.setIfInBounds_toArray, List.set_cons_zero, List.set_cons_succ]
                            refine wpL_take (k' := 2) rfl (by kernel_rfl) (fun d os => ?t145) ?_
                            case t145 => (unfold bringsAt; go_simp; first | with_reducible exact take_one | exact take_one)
                            try simp only [Act.put, List.setIfInBounds_toArray, List.set_cons_zero, List.set_cons_succ]
                            refine wpL_take (k' := 3) rfl (by kernel_rfl) (fun d os => ?t146) ?_
                            case t146 => (unfold bringsAt; go_simp; first | with_reducible exact take_one | exact take_one)
                            try simp only [Act.put, List.setIfInBounds_toArray, List.set_cons_zero, List.set_cons_succ]
                            refine wpL_take (k' := 4) rfl (by kernel_rfl) (fun d os => ?t147) ?_
                            case t147 => (unfold bringsAt; go_simp; first | with_reducible exact take_one | exact take_one)
                            try simp only [Act.put, List.setIfInBounds_toArray, List.set_cons_zero, List.set_cons_succ]
                            refine wpL_take (k' := 5) rfl (by kernel_rfl) (fun d os => ?t148) ?_
                            case t148 => (unfold bringsAt; go_simp; first | with_reducible exact take_one | exact take_one)
                            try simp only [Act.put, List.setIfInBounds_toArray, List.set_cons_zero, List.set_cons_succ]
                            refine wpL_take (k' := 6) rfl (by kernel_rfl) (fun d os => ?t149) ?_
                            case t149 => (unfold bringsAt; go_simp; first | with_reducible exact take_one | exact take_one)
                            try simp only [Act.put, List.setIfInBounds_toArray, List.set_cons_zero, List.set_cons_succ]
                            refine wpL_take (k' := 7) rfl (by kernel_rfl) (fun d os => ?t150) ?_
                            case t150 => (unfold bringsAt; go_simp; first | with_reducible exact take_one | exact take_one)
                            try simp only [Act.put, List.setIfInBounds_toArray, List.set_cons_zero, List.set_cons_succ]
                            refine wpL_take (k' := 8) rfl (by kernel_rfl) (fun d os => ?t151) ?_
                            case t151 => (unfold bringsAt; go_simp; first | with_reducible exact take_one | exact take_one)
                            try simp only [Act.put, List.setIfInBounds_toArray, List.set_cons_zero, List.set_cons_succ]
                            refine wpL_take (k' := 9) rfl (by kernel_rfl) (fun d os => ?t152) ?_
                            case t152 => (unfold bringsAt; go_simp; first | with_reducible exact take_one | exact take_one)
                            try simp only [Act.put, List.setIfInBounds_toArray, List.set_cons_zero, List.set_cons_succ]
                            refine wpL_take (k' := 10) rfl (by kernel_rfl) (fun d os => ?t153) ?_
                            case t153 => (unfold bringsAt; go_simp; first | with_reducible exact take_one | exact take_one)
                            try simp only [Act.put, List.setIfInBounds_toArray, List.set_cons_zero, List.set_cons_succ]
                            refine wpL_take (k' := 11) rfl (by kernel_rfl) (fun d os => ?t154) ?_
                            case t154 => (unfold bringsAt; go_simp; first | with_reducible exact take_one | exact take_one)
                            try simp only [Act.put, List.setIfInBounds_toArray, List.set_cons_zero, List.set_cons_succ]
                            refine wpL_take (k' := 12) rfl (by kernel_rfl) (fun d os => ?t155) ?_
                            case t155 => (unfold bringsAt; go_simp; first | with_reducible exact take_one | exact take_one)
                            try simp only [Act.put, List.setIfInBounds_toArray, List.set_cons_zero, List.set_cons_succ]
                            refine wpL_take (k' := 13) rfl (by kernel_rfl) (fun d os => ?t156) ?_
                            case t156 => (unfold bringsAt; go_simp; first | with_reducible exact take_one | exact take_one)
                            try simp only [Act.put, List.setIfInBounds_toArray, List.set_cons_zero, List.set_cons_succ]
                            refine wpL_nil ?_
                            intro w1015 hH
                            have hb' := hH.below
                            clear kq0 kq1 kq2 kq3
                            have HB := Lib.hid ((HB.out).trans (hb'.mono (HB.out).size))
                            have BR := Lib.hid ((BR.out).below hb' (BR.out).lt)
                            have BV := Lib.hid ((BV.out).below hb' (BV.out).lt)
                            have LL := Lib.hid ((LL.out).below hb' (LL.out).lt)
                            clear hH hb'
                            obtain ⟨f0, f1, f2, f3⟩ := BV.out.frozens
                            obtain ⟨x0, x1, x2, x3⟩ := BV.out.cells4
                            go_upto_region 27 with fail
                            clear f0 f1 f2 f3 x0 x1 x2 x3
                            have BR := Lib.hid ((((BR.out.far (p := ⟨bv, 0, none⟩) hbb (.int .i64 nu_6)).far (p := ⟨bv, 1, none⟩) hbb (.int .i64 nu_7)).far (p := ⟨bv, 2, none⟩) hbb (.int .i64 b.C)).far (p := ⟨bv, 3, none⟩) hbb (.int .i64 nu_8))
                            have HB := Lib.hid ((((HB.out.setCell (p := ⟨bv, 0, none⟩) lbv (.int .i64 nu_6)).setCell (p := ⟨bv, 1, none⟩) lbv (.int .i64 nu_7)).setCell (p := ⟨bv, 2, none⟩) lbv (.int .i64 b.C)).setCell (p := ⟨bv, 3, none⟩) lbv (.int .i64 nu_8))
                            have BV := Lib.hid (ret_four' BV.out (.int .i64 nu_6) (.int .i64 nu_7) (.int .i64 b.C) (.int .i64 nu_8))
                            generalize (((w1015.setCell ⟨bv, 0, none⟩ (.int .i64 nu_6)).setCell ⟨bv, 1, none⟩ (.int .i64 nu_7)).setCell ⟨bv, 2, none⟩ (.int .i64 b.C)).setCell ⟨bv, 3, none⟩ (.int .i64 nu_8) = wf at *
                            have HGE := Lib.hid (show getS T = endS ⟨nu_6, nu_7, b.C, nu_8⟩ ⟨pu_8, 0, 0⟩ by rw [HG.out, HS3.out])
                            by_cases hc : 2 < b.C
                            · skip
                              obtain ⟨c0, c1, c2, c3⟩ := BV.out.cells4
                              have t9 : decide (2 < b.C) = true := by simpa using hc
                              go_upto_region 28 with fail
                              clear c0 c1 c2 c3
                              have hge : getS T = (⟨0, 0, 0, 0⟩, 281) := by rw [HGE.out]; unfold endS; rw [if_neg (fun h => h rfl), if_pos hc]
                              rw [HRE.out] at hge
                              injection hge with ra rb
                              have RA := Lib.hid ra
                              have RB := Lib.hid rb
                              clear ra rb
                              obtain ⟨f0, f1, f2, f3⟩ := BR.out.frozens
                              obtain ⟨x0, x1, x2, x3⟩ := BR.out.cells4
                              go_wp2_with fail
                              have g8 := ret_four' BR.out (.int .i64 0) (.int .i64 0) (.int .i64 0) (.int .i64 0)
                              refine bodyPost_ret (results_row_tmp rfl _ _ w.heap.size 23 #[.int .i64 0, .int .i64 0, .int .i64 0, .int .i64 0] (0, 0) _ rfl g8 Try.underlying23 rfl (by kernel_rfl)) rfl ?_
                              exact ⟨by rw [RA.out, RB.out]; rfl, ((((HB.out.setCell (p := ⟨w.heap.size, 0, none⟩) (Nat.le_refl _) (.int .i64 0)).setCell (p := ⟨w.heap.size, 1, none⟩) (Nat.le_refl _) (.int .i64 0)).setCell (p := ⟨w.heap.size, 2, none⟩) (Nat.le_refl _) (.int .i64 0)).setCell (p := ⟨w.heap.size, 3, none⟩) (Nat.le_refl _) (.int .i64 0))⟩
                            · skip
                              obtain ⟨c0, c1, c2, c3⟩ := BV.out.cells4
                              have t9 : decide (2 < b.C) = false := by simpa using hc
                              have hc2 : b.C ≤ 2 := by omega
                              go_wp2_with fail
                              clear c0 c1 c2 c3
                              refine (rrecon_c ⟨nu_6, nu_7, b.C, nu_8⟩ _).mono ?_
                              rintro e wg ⟨rfl, hb'⟩
                              have BR := Lib.hid (BR.out.below hb' BR.out.lt)
                              have BV := Lib.hid (BV.out.below hb' BV.out.lt)
                              have HB := Lib.hid (HB.out.trans (hb'.mono HB.out.size))
                              clear hb'
                              obtain ⟨c0, c1, c2, c3⟩ := BV.out.cells4
                              cases hrv : rightVd ⟨nu_6, nu_7, b.C, nu_8⟩
                              · skip
                                have HRV := Lib.hid hrv
                                clear hrv
                                have hge : getS T = (⟨0, 0, 0, 0⟩, 280) := by rw [HGE.out]; unfold endS; rw [if_neg (fun h => h rfl), if_neg (show ¬ (2 < b.C) from by omega), if_neg (by rw [HRV.out]; decide)]
                                rw [HRE.out] at hge
                                injection hge with ra rb
                                have RA := Lib.hid ra
                                have RB := Lib.hid rb
                                clear ra rb
                                obtain ⟨f0, f1, f2, f3⟩ := BR.out.frozens
                                obtain ⟨x0, x1, x2, x3⟩ := BR.out.cells4
                                go_wp2_with fail
                                have g8 := ret_four' BR.out (.int .i64 0) (.int .i64 0) (.int .i64 0) (.int .i64 0)
                                refine bodyPost_ret (results_row_tmp rfl _ _ w.heap.size 23 #[.int .i64 0, .int .i64 0, .int .i64 0, .int .i64 0] (0, 0) _ rfl g8 Try.underlying23 rfl (by kernel_rfl)) rfl ?_
                                exact ⟨by rw [RA.out, RB.out]; rfl, ((((HB.out.setCell (p := ⟨w.heap.size, 0, none⟩) (Nat.le_refl _) (.int .i64 0)).setCell (p := ⟨w.heap.size, 1, none⟩) (Nat.le_refl _) (.int .i64 0)).setCell (p := ⟨w.heap.size, 2, none⟩) (Nat.le_refl _) (.int .i64 0)).setCell (p := ⟨w.heap.size, 3, none⟩) (Nat.le_refl _) (.int .i64 0))⟩
                              · skip
                                have HRV := Lib.hid hrv
                                clear hrv
                                have hge : getS T = (⟨nu_6, nu_7, b.C, nu_8⟩, 0) := by rw [HGE.out]; unfold endS; rw [if_neg (fun h => h rfl), if_neg (show ¬ (2 < b.C) from by omega), if_pos HRV.out]
                                rw [HRE.out] at hge
                                injection hge with ra rb
                                have RA := Lib.hid ra
                                have RB := Lib.hid rb
                                clear ra rb
                                obtain ⟨f0, f1, f2, f3⟩ := BR.out.frozens
                                obtain ⟨x0, x1, x2, x3⟩ := BR.out.cells4
                                go_wp2_with fail
                                have g8 := ret_four' BR.out (.int .i64 nu_6) (.int .i64 nu_7) (.int .i64 b.C) (.int .i64 nu_8)
                                refine bodyPost_ret (results_row_tmp rfl _ _ w.heap.size 23 #[.int .i64 nu_6, .int .i64 nu_7, .int .i64 b.C, .int .i64 nu_8] (0, 0) _ rfl g8 Try.underlying23 rfl (by kernel_rfl)) rfl ?_
                                exact ⟨by rw [RA.out, RB.out]; rfl, ((((HB.out.setCell (p := ⟨w.heap.size, 0, none⟩) (Nat.le_refl _) (.int .i64 nu_6)).setCell (p := ⟨w.heap.size, 1, none⟩) (Nat.le_refl _) (.int .i64 nu_7)).setCell (p := ⟨w.heap.size, 2, none⟩) (Nat.le_refl _) (.int .i64 b.C)).setCell (p := ⟨w.heap.size, 3, none⟩) (Nat.le_refl _) (.int .i64 nu_8))⟩
                      · skip
                        have hge_ : T.length ≤ pu_7 + 1 := by omega
                        have hg30 : getS T = (⟨0, 0, 0, 0⟩, 30) := by rw [HG.out]; exact endS_no (stI_stays (i := 3) (by decide) (by show (gS T 2 (stI T b ⟨pu_2, 0, 0⟩ 2).1 (stI T b ⟨pu_2, 0, 0⟩ 2).2).2.e = 30; rw [HS2.out]; exact gS_over hge_))
                        have HG30 := Lib.hid hg30
                        clear hg30
                        rw [nextL_end hge_] at hB
                        have ho_ : 0 < overL T (pu_7 + 1) 0 := by unfold overL; rw [if_neg (by omega)]; omega
                        obtain ⟨q0, hq0⟩ : ∃ q, q = overL T (pu_7 + 1) 0 := ⟨_, rfl⟩
                        rw [← hq0] at hB ho_
                        have hqb : q0 ≤ 1 := by have h := (ovL_bd T (pu_7 + 1) 0 1).2; rw [show ovL T (pu_7 + 1) 0 1 = overL T (pu_7 + 1) 0 from rfl] at h; omega
                        clear hq0
                        simp only [Bool.false_eq_true, if_false] at hB
                        refine (hB).mono ?_
                        rintro e wv33 ⟨rfl, hr_, hg_⟩
                        have BR := Lib.hid (RR.out.other hg_ BR.out (by decide))
                        have BV := Lib.hid (RR.out.other hg_ BV.out (by decide))
                        have LL := Lib.hid (RR.out.other hg_ LL.out (by decide))
                        have HB := Lib.hid (RGoes.below_ hg_ HB.out hgw)
                        have RR := Lib.hid hr_
                        clear hr_ hg_
                        clear hB
                        go_wp2_with fail
                        rw [rounds_succ]
                        have zo := RR.out.2.cell 2
                        have t5 : decide (0 < (q0 : Int)) = true := by simp; omega
                        have t6 : (0 : Int) < (q0 : Int) := by omega
                        go_upto_region 25 with fail
                        clear zo
                        have hge : getS T = (⟨0, 0, 0, 0⟩, 30) := HG30.out
                        rw [HRE.out] at hge
                        injection hge with ra rb
                        have RA := Lib.hid ra
                        have RB := Lib.hid rb
                        clear ra rb
                        obtain ⟨f0, f1, f2, f3⟩ := BR.out.frozens
                        obtain ⟨x0, x1, x2, x3⟩ := BR.out.cells4
                        go_wp2_with fail
                        have g8 := ret_four' BR.out (.int .i64 0) (.int .i64 0) (.int .i64 0) (.int .i64 0)
                        refine bodyPost_ret (results_row_tmp rfl _ _ w.heap.size 23 #[.int .i64 0, .int .i64 0, .int .i64 0, .int .i64 0] (0, 0) _ rfl g8 Try.underlying23 rfl (by kernel_rfl)) rfl ?_
                        exact ⟨by rw [RA.out, RB.out]; rfl, ((((HB.out.setCell (p := ⟨w.heap.size, 0, none⟩) (Nat.le_refl _) (.int .i64 0)).setCell (p := ⟨w.heap.size, 1, none⟩) (Nat.le_refl _) (.int .i64 0)).setCell (p := ⟨w.heap.size, 2, none⟩) (Nat.le_refl _) (.int .i64 0)).setCell (p := ⟨w.heap.size, 3, none⟩) (Nat.le_refl _) (.int .i64 0))⟩
                    · skip
                      have HN := Lib.hid hn
                      rw [hn] at hB
                      simp only [if_true] at hB
                      clear hn hin
                      refine (hB).mono ?_
                      rintro e wv40 ⟨rfl, hr_, hg_⟩
                      have BR := Lib.hid (RR.out.other hg_ BR.out (by decide))
                      have BV := Lib.hid (RR.out.other hg_ BV.out (by decide))
                      have LL := Lib.hid (RR.out.other hg_ LL.out (by decide))
                      have HB := Lib.hid (RGoes.below_ hg_ HB.out hgw)
                      have RR := Lib.hid hr_
                      clear hr_ hg_
                      clear hB
                      go_wp2_with fail
                      have hpl := goG_place T 31 (pu_7 + 1) 1
                      have hbd := goG_bd31 T (pu_7 + 1)
                      have hC := rrgget_c _ g T (pu_7 + 1) 0 _ RR.out hlT (by omega) (by omega)
                      rcases hgou_9 : goG T (pu_7 + 1) 1 31 with ⟨nu_9, oku_9, pu_9⟩
                      rw [hgou_9] at hC hpl hbd
                      dsimp only at hC hpl hbd
                      have HGOu_9 := Lib.hid hgou_9
                      clear hgou_9
                      refine (hC).mono ?_
                      rintro e wc41 ⟨rfl, hr_, hg_⟩
                      have BR := Lib.hid (RR.out.other hg_ BR.out (by decide))
                      have BV := Lib.hid (RR.out.other hg_ BV.out (by decide))
                      have LL := Lib.hid (RR.out.other hg_ LL.out (by decide))
                      have HB := Lib.hid (RGoes.below_ hg_ HB.out hgw)
                      have RR := Lib.hid hr_
                      clear hr_ hg_
                      clear hC
                      have zl := LL.out.cell 2
                      have ff := LL.out.frozen 2
                      go_upto_region 22 with fail
                      clear zl ff
                      have BR := Lib.hid (BR.out.far (p := ⟨gl, 2, none⟩) (BR.out.ne_ LL.out (by decide)) (.int .i64 nu_9))
                      have BV := Lib.hid (BV.out.far (p := ⟨gl, 2, none⟩) (BV.out.ne_ LL.out (by decide)) (.int .i64 nu_9))
                      have HB := Lib.hid (HB.out.setCell (p := ⟨gl, 2, none⟩) lgl (.int .i64 nu_9))
                      have RR := Lib.hid (show RrI (wc41.setCell ⟨gl, 2, none⟩ (.int .i64 nu_9)) w.heap.size g T _ _ from ⟨RR.out.1, RR.out.2.far (p := ⟨gl, 2, none⟩) (RR.out.2.ne_ LL.out (by decide)) (.int .i64 nu_9)⟩)
                      have hl_ : Blk (wc41.setCell ⟨gl, 2, none⟩ (.int .i64 nu_9)) gl 3 #[.int .i64 nu_6, .int .i64 nu_7, .int .i64 nu_9, .int .i64 b.B] := LL.out.set_ 2 (.int .i64 nu_9)
                      have LL := Lib.hid hl_
                      clear hl_
                      generalize wc41.setCell ⟨gl, 2, none⟩ (.int .i64 nu_9) = ws42 at *
                      cases oku_9
                      · skip
                        go_upto_region 23 with fail
                        have hge : getS T = (⟨0, 0, 0, 0⟩, 30) := by rw [HG.out]; exact endS_no (stI_stays (i := 2) (by decide) (by show (gS T 1 (stI T b ⟨pu_2, 0, 0⟩ 1).1 (stI T b ⟨pu_2, 0, 0⟩ 1).2).2.e = 30; rw [HS1.out]; exact gS_no HN.out (by rw [HGOu_9.out])))
                        rw [HRE.out] at hge
                        injection hge with ra rb
                        have RA := Lib.hid ra
                        have RB := Lib.hid rb
                        clear ra rb
                        obtain ⟨f0, f1, f2, f3⟩ := BR.out.frozens
                        obtain ⟨x0, x1, x2, x3⟩ := BR.out.cells4
                        go_wp2_with fail
                        have g8 := ret_four' BR.out (.int .i64 0) (.int .i64 0) (.int .i64 0) (.int .i64 0)
                        refine bodyPost_ret (results_row_tmp rfl _ _ w.heap.size 23 #[.int .i64 0, .int .i64 0, .int .i64 0, .int .i64 0] (0, 0) _ rfl g8 Try.underlying23 rfl (by kernel_rfl)) rfl ?_
                        exact ⟨by rw [RA.out, RB.out]; rfl, ((((HB.out.setCell (p := ⟨w.heap.size, 0, none⟩) (Nat.le_refl _) (.int .i64 0)).setCell (p := ⟨w.heap.size, 1, none⟩) (Nat.le_refl _) (.int .i64 0)).setCell (p := ⟨w.heap.size, 2, none⟩) (Nat.le_refl _) (.int .i64 0)).setCell (p := ⟨w.heap.size, 3, none⟩) (Nat.le_refl _) (.int .i64 0))⟩
                      · skip
                        have ho1 := ovL_ok (T := T) (a := pu_7 + 1) (by rw [HGOu_9.out])
                        rw [HGOu_9.out] at ho1
                        dsimp only at ho1
                        rw [ho1] at RR
                        clear ho1
                        have HS2 := Lib.hid (show stI T b ⟨pu_2, 0, 0⟩ 2 = (⟨nu_6, nu_7, nu_9, b.B⟩, ⟨pu_9, 0, 0⟩) by show gS T 1 (stI T b ⟨pu_2, 0, 0⟩ 1).1 (stI T b ⟨pu_2, 0, 0⟩ 1).2 = _; rw [HS1.out]; have h := gS_1 (v := ⟨nu_6, nu_7, b.C, b.B⟩) HN.out (by rw [HGOu_9.out]); rw [HGOu_9.out] at h; exact h)
                        go_wp2_with fail
                        rw [rounds_succ]
                        go_wp2_with fail
                        have hB := rrbit_c _ g T (pu_9) 0 _ RR.out hlT (by omega) (by omega)
                        by_cases hin : pu_9 < T.length
                        · skip
                          rw [show overL T (pu_9) 0 = 0 by unfold overL; rw [if_pos hin]] at hB
                          cases hn : nextL T (pu_9)
                          · skip
                            have HS3 := Lib.hid (show stI T b ⟨pu_2, 0, 0⟩ 3 = (⟨nu_6, nu_7, nu_9, b.B⟩, ⟨pu_9 + 1, 0, 0⟩) by show gS T 2 (stI T b ⟨pu_2, 0, 0⟩ 2).1 (stI T b ⟨pu_2, 0, 0⟩ 2).2 = _; rw [HS2.out]; exact gS_zero hin hn)
                            rw [hn] at hB
                            simp only [Bool.false_eq_true, if_false] at hB
                            clear hn hin
                            refine (hB).mono ?_
                            rintro e wv44 ⟨rfl, hr_, hg_⟩
                            have BR := Lib.hid (RR.out.other hg_ BR.out (by decide))
                            have BV := Lib.hid (RR.out.other hg_ BV.out (by decide))
                            have LL := Lib.hid (RR.out.other hg_ LL.out (by decide))
                            have HB := Lib.hid (RGoes.below_ hg_ HB.out hgw)
                            have RR := Lib.hid hr_
                            clear hr_ hg_
                            clear hB
                            go_wp2_with fail
                            rw [rounds_succ]
                            have zo := RR.out.2.cell 2
                            go_upto_region 26 with fail
                            clear zo
                            obtain ⟨zl0, zl1, zl2, zl3⟩ := LL.out.cells4
                            have kq0 := cell_regrown zl0
                            have kq1 := cell_regrown zl1
                            have kq2 := cell_regrown zl2
                            have kq3 := cell_regrown zl3
                            clear zl0 zl1 zl2 zl3
                            refine wp_mono_tail 13 [Brings.one ?b157_0, Brings.one ?b158_1, Brings.one ?b159_2, Brings.one ?b160_3, Brings.one ?b161_4, Brings.one ?b162_5, Brings.one ?b163_6, Brings.one ?b164_7, Brings.one ?b165_8, Brings.one ?b166_9, Brings.one ?b167_10, Brings.one ?b168_11, Brings.one ?b169_12] (by kernel_rfl) (by kernel_rfl) ?_
                            rotate_left 13
                            simp only [List.take_succ_cons, List.take_zero, List.drop_succ_cons, List.drop_zero]
                            refine wpL_take (k' := 1) rfl (by kernel_rfl) (fun d os => ?t170) ?_
                            case t170 => (unfold bringsAt; go_simp; first | with_reducible exact take_one | exact take_one)
                            try simp only [Act.put, List.setIfInBounds_toArray, List.set_cons_zero, List.set_cons_succ]
                            refine wpL_take (k' := 2) rfl (by kernel_rfl) (fun d os => ?t171) ?_
                            case t171 => (unfold bringsAt; go_simp; first | with_reducible exact take_one | exact take_one)
                            try simp only [Act.put, List.setIfInBounds_toArray, List.set_cons_zero, List.set_cons_succ]
                            refine wpL_take (k' := 3) rfl (by kernel_rfl) (fun d os => ?t172) ?_
                            case t172 => (unfold bringsAt; go_simp; first | with_reducible exact take_one | exact take_one)
                            try simp only [Act.put, List.setIfInBounds_toArray, List.set_cons_zero, List.set_cons_succ]
                            refine wpL_take (k' := 4) rfl (by kernel_rfl) (fun d os => ?t173) ?_
                            case t173 => (unfold bringsAt; go_simp; first | with_reducible exact take_one | exact take_one)
                            try simp only [Act.put, List.setIfInBounds_toArray, List.set_cons_zero, List.set_cons_succ]
                            refine wpL_take (k' := 5) rfl (by kernel_rfl) (fun d os => ?t174) ?_
                            case t174 => (unfold bringsAt; go_simp; first | with_reducible exact take_one | exact take_one)
                            try simp only [Act.put, List.setIfInBounds_toArray, List.set_cons_zero, List.set_cons_succ]
                            refine wpL_take (k' := 6) rfl (by kernel_rfl) (fun d os => ?t175) ?_
                            case t175 => (unfold bringsAt; go_simp; first | with_reducible exact take_one | exact take_one)
                            try simp only [Act.put, List.setIfInBounds_toArray, List.set_cons_zero, List.set_cons_succ]
                            refine wpL_take (k' := 7) rfl (by kernel_rfl) (fun d os => ?t176) ?_
                            case t176 => (unfold bringsAt; go_simp; first | with_reducible exact take_one | exact take_one)
                            try simp only [Act.put, List.setIfInBounds_toArray, List.set_cons_zero, List.set_cons_succ]
                            refine wpL_take (k' := 8) rfl (by kernel_rfl) (fun d os => ?t177) ?_
                            case t177 => (unfold bringsAt; go_simp; first | with_reducible exact take_one | exact take_one)
                            try simp only [Act.put, List.setIfInBounds_toArray, List.set_cons_zero, List.set_cons_succ]
                            refine wpL_take (k' := 9) rfl (by kernel_rfl) (fun d os => ?t178) ?_
                            case t178 => (unfold bringsAt; go_simp; first | with_reducible exact take_one | exact take_one)
                            try simp only [Act.put, List.setIfInBounds_toArray, List.set_cons_zero, List.set_cons_succ]
                            refine wpL_take (k' := 10) rfl (by kernel_rfl) (fun d os => ?t179) ?_
                            case t179 => (unfold bringsAt; go_simp; first | with_reducible exact take_one | exact take_one)
                            try simp only [Act.put, List.setIfInBounds_toArray, List.set_cons_zero, List.set_cons_succ]
                            refine wpL_take (k' := 11) rfl (by kernel_rfl) (fun d os => ?t180) ?_
                            case t180 => (unfold bringsAt; go_simp; first | with_reducible exact take_one | exact take_one)
                            try simp only [Act.put, List.setIfInBounds_toArray, List.set_cons_zero, List.set_cons_succ]
                            refine wpL_take (k' := 12) rfl (by kernel_rfl) (fun d os => ?t181) ?_
                            case t181 => (unfold bringsAt; go_simp; first | with_reducible exact take_one | exact take_one)
                            try simp only [Act.put, List.setIfInBounds_toArray, List.set_cons_zero, List.set_cons_succ]
                            refine wpL_take (k' := 13) rfl (by kernel_rfl) (fun d os => ?t182) ?_
                            case t182 => (unfold bringsAt; go_simp; first | with_reducible exact take_one | exact take_one)
                            try simp only [Act.put, List.setIfInBounds_toArray, List.set_cons_zero, List.set_cons_succ]
                            refine wpL_nil ?_
                            intro w1033 hH
                            have hb' := hH.below
                            clear kq0 kq1 kq2 kq3
                            have HB := Lib.hid ((HB.out).trans (hb'.mono (HB.out).size))
                            have BR := Lib.hid ((BR.out).below hb' (BR.out).lt)
                            have BV := Lib.hid ((BV.out).below hb' (BV.out).lt)
                            have LL := Lib.hid ((LL.out).below hb' (LL.out).lt)
                            clear hH hb'
                            obtain ⟨f0, f1, f2, f3⟩ := BV.out.frozens
                            obtain ⟨x0, x1, x2, x3⟩ := BV.out.cells4
                            go_upto_region 27 with fail
                            clear f0 f1 f2 f3 x0 x1 x2 x3
                            have BR := Lib.hid ((((BR.out.far (p := ⟨bv, 0, none⟩) hbb (.int .i64 nu_6)).far (p := ⟨bv, 1, none⟩) hbb (.int .i64 nu_7)).far (p := ⟨bv, 2, none⟩) hbb (.int .i64 nu_9)).far (p := ⟨bv, 3, none⟩) hbb (.int .i64 b.B))
                            have HB := Lib.hid ((((HB.out.setCell (p := ⟨bv, 0, none⟩) lbv (.int .i64 nu_6)).setCell (p := ⟨bv, 1, none⟩) lbv (.int .i64 nu_7)).setCell (p := ⟨bv, 2, none⟩) lbv (.int .i64 nu_9)).setCell (p := ⟨bv, 3, none⟩) lbv (.int .i64 b.B))
                            have BV := Lib.hid (ret_four' BV.out (.int .i64 nu_6) (.int .i64 nu_7) (.int .i64 nu_9) (.int .i64 b.B))
                            generalize (((w1033.setCell ⟨bv, 0, none⟩ (.int .i64 nu_6)).setCell ⟨bv, 1, none⟩ (.int .i64 nu_7)).setCell ⟨bv, 2, none⟩ (.int .i64 nu_9)).setCell ⟨bv, 3, none⟩ (.int .i64 b.B) = wf at *
                            have HGE := Lib.hid (show getS T = endS ⟨nu_6, nu_7, nu_9, b.B⟩ ⟨pu_9 + 1, 0, 0⟩ by rw [HG.out, HS3.out])
                            by_cases hc : 2 < nu_9
                            · skip
                              obtain ⟨c0, c1, c2, c3⟩ := BV.out.cells4
                              have t9 : decide (2 < nu_9) = true := by simpa using hc
                              go_upto_region 28 with fail
                              clear c0 c1 c2 c3
                              have hge : getS T = (⟨0, 0, 0, 0⟩, 281) := by rw [HGE.out]; unfold endS; rw [if_neg (fun h => h rfl), if_pos hc]
                              rw [HRE.out] at hge
                              injection hge with ra rb
                              have RA := Lib.hid ra
                              have RB := Lib.hid rb
                              clear ra rb
                              obtain ⟨f0, f1, f2, f3⟩ := BR.out.frozens
                              obtain ⟨x0, x1, x2, x3⟩ := BR.out.cells4
                              go_wp2_with fail
                              have g8 := ret_four' BR.out (.int .i64 0) (.int .i64 0) (.int .i64 0) (.int .i64 0)
                              refine bodyPost_ret (results_row_tmp rfl _ _ w.heap.size 23 #[.int .i64 0, .int .i64 0, .int .i64 0, .int .i64 0] (0, 0) _ rfl g8 Try.underlying23 rfl (by kernel_rfl)) rfl ?_
                              exact ⟨by rw [RA.out, RB.out]; rfl, ((((HB.out.setCell (p := ⟨w.heap.size, 0, none⟩) (Nat.le_refl _) (.int .i64 0)).setCell (p := ⟨w.heap.size, 1, none⟩) (Nat.le_refl _) (.int .i64 0)).setCell (p := ⟨w.heap.size, 2, none⟩) (Nat.le_refl _) (.int .i64 0)).setCell (p := ⟨w.heap.size, 3, none⟩) (Nat.le_refl _) (.int .i64 0))⟩
                            · skip
                              obtain ⟨c0, c1, c2, c3⟩ := BV.out.cells4
                              have t9 : decide (2 < nu_9) = false := by simpa using hc
                              have hc2 : nu_9 ≤ 2 := by omega
                              go_wp2_with fail
                              clear c0 c1 c2 c3
                              refine (rrecon_c ⟨nu_6, nu_7, nu_9, b.B⟩ _).mono ?_
                              rintro e wg ⟨rfl, hb'⟩
                              have BR := Lib.hid (BR.out.below hb' BR.out.lt)
                              have BV := Lib.hid (BV.out.below hb' BV.out.lt)
                              have HB := Lib.hid (HB.out.trans (hb'.mono HB.out.size))
                              clear hb'
                              obtain ⟨c0, c1, c2, c3⟩ := BV.out.cells4
                              cases hrv : rightVd ⟨nu_6, nu_7, nu_9, b.B⟩
                              · skip
                                have HRV := Lib.hid hrv
                                clear hrv
                                have hge : getS T = (⟨0, 0, 0, 0⟩, 280) := by rw [HGE.out]; unfold endS; rw [if_neg (fun h => h rfl), if_neg (show ¬ (2 < nu_9) from by omega), if_neg (by rw [HRV.out]; decide)]
                                rw [HRE.out] at hge
                                injection hge with ra rb
                                have RA := Lib.hid ra
                                have RB := Lib.hid rb
                                clear ra rb
                                obtain ⟨f0, f1, f2, f3⟩ := BR.out.frozens
                                obtain ⟨x0, x1, x2, x3⟩ := BR.out.cells4
                                go_wp2_with fail
                                have g8 := ret_four' BR.out (.int .i64 0) (.int .i64 0) (.int .i64 0) (.int .i64 0)
                                refine bodyPost_ret (results_row_tmp rfl _ _ w.heap.size 23 #[.int .i64 0, .int .i64 0, .int .i64 0, .int .i64 0] (0, 0) _ rfl g8 Try.underlying23 rfl (by kernel_rfl)) rfl ?_
                                exact ⟨by rw [RA.out, RB.out]; rfl, ((((HB.out.setCell (p := ⟨w.heap.size, 0, none⟩) (Nat.le_refl _) (.int .i64 0)).setCell (p := ⟨w.heap.size, 1, none⟩) (Nat.le_refl _) (.int .i64 0)).setCell (p := ⟨w.heap.size, 2, none⟩) (Nat.le_refl _) (.int .i64 0)).setCell (p := ⟨w.heap.size, 3, none⟩) (Nat.le_refl _) (.int .i64 0))⟩
                              · skip
                                have HRV := Lib.hid hrv
                                clear hrv
                                have hge : getS T = (⟨nu_6, nu_7, nu_9, b.B⟩, 0) := by rw [HGE.out]; unfold endS; rw [if_neg (fun h => h rfl), if_neg (show ¬ (2 < nu_9) from by omega), if_pos HRV.out]
                                rw [HRE.out] at hge
                                injection hge with ra rb
                                have RA := Lib.hid ra
                                have RB := Lib.hid rb
                                clear ra rb
                                obtain ⟨f0, f1, f2, f3⟩ := BR.out.frozens
                                obtain ⟨x0, x1, x2, x3⟩ := BR.out.cells4
                                go_wp2_with fail
                                have g8 := ret_four' BR.out (.int .i64 nu_6) (.int .i64 nu_7) (.int .i64 nu_9) (.int .i64 b.B)
                                refine bodyPost_ret (results_row_tmp rfl _ _ w.heap.size 23 #[.int .i64 nu_6, .int .i64 nu_7, .int .i64 nu_9, .int .i64 b.B] (0, 0) _ rfl g8 Try.underlying23 rfl (by kernel_rfl)) rfl ?_
                                exact ⟨by rw [RA.out, RB.out]; rfl, ((((HB.out.setCell (p := ⟨w.heap.size, 0, none⟩) (Nat.le_refl _) (.int .i64 nu_6)).setCell (p := ⟨w.heap.size, 1, none⟩) (Nat.le_refl _) (.int .i64 nu_7)).setCell (p := ⟨w.heap.size, 2, none⟩) (Nat.le_refl _) (.int .i64 nu_9)).setCell (p := ⟨w.heap.size, 3, none⟩) (Nat.le_refl _) (.int .i64 b.B))⟩
                          · skip
                            have HN := Lib.hid hn
                            rw [hn] at hB
                            simp only [if_true] at hB
                            clear hn hin
                            refine (hB).mono ?_
                            rintro e wv46 ⟨rfl, hr_, hg_⟩
                            have BR := Lib.hid (RR.out.other hg_ BR.out (by decide))
                            have BV := Lib.hid (RR.out.other hg_ BV.out (by decide))
                            have LL := Lib.hid (RR.out.other hg_ LL.out (by decide))
                            have HB := Lib.hid (RGoes.below_ hg_ HB.out hgw)
                            have RR := Lib.hid hr_
                            clear hr_ hg_
                            clear hB
                            go_wp2_with fail
                            have hpl := goG_place T 31 (pu_9 + 1) 1
                            have hbd := goG_bd31 T (pu_9 + 1)
                            have hC := rrgget_c _ g T (pu_9 + 1) 0 _ RR.out hlT (by omega) (by omega)
                            rcases hgou_10 : goG T (pu_9 + 1) 1 31 with ⟨nu_10, oku_10, pu_10⟩
                            rw [hgou_10] at hC hpl hbd
                            dsimp only at hC hpl hbd
                            have HGOu_10 := Lib.hid hgou_10
                            clear hgou_10
                            refine (hC).mono ?_
                            rintro e wc47 ⟨rfl, hr_, hg_⟩
                            have BR := Lib.hid (RR.out.other hg_ BR.out (by decide))
                            have BV := Lib.hid (RR.out.other hg_ BV.out (by decide))
                            have LL := Lib.hid (RR.out.other hg_ LL.out (by decide))
                            have HB := Lib.hid (RGoes.below_ hg_ HB.out hgw)
                            have RR := Lib.hid hr_
                            clear hr_ hg_
                            clear hC
                            have zl := LL.out.cell 3
                            have ff := LL.out.frozen 3
                            go_upto_region 22 with fail
                            clear zl ff
                            have BR := Lib.hid (BR.out.far (p := ⟨gl, 3, none⟩) (BR.out.ne_ LL.out (by decide)) (.int .i64 nu_10))
                            have BV := Lib.hid (BV.out.far (p := ⟨gl, 3, none⟩) (BV.out.ne_ LL.out (by decide)) (.int .i64 nu_10))
                            have HB := Lib.hid (HB.out.setCell (p := ⟨gl, 3, none⟩) lgl (.int .i64 nu_10))
                            have RR := Lib.hid (show RrI (wc47.setCell ⟨gl, 3, none⟩ (.int .i64 nu_10)) w.heap.size g T _ _ from ⟨RR.out.1, RR.out.2.far (p := ⟨gl, 3, none⟩) (RR.out.2.ne_ LL.out (by decide)) (.int .i64 nu_10)⟩)
                            have hl_ : Blk (wc47.setCell ⟨gl, 3, none⟩ (.int .i64 nu_10)) gl 3 #[.int .i64 nu_6, .int .i64 nu_7, .int .i64 nu_9, .int .i64 nu_10] := LL.out.set_ 3 (.int .i64 nu_10)
                            have LL := Lib.hid hl_
                            clear hl_
                            generalize wc47.setCell ⟨gl, 3, none⟩ (.int .i64 nu_10) = ws48 at *
                            cases oku_10
                            · skip
                              go_upto_region 23 with fail
                              have hge : getS T = (⟨0, 0, 0, 0⟩, 30) := by rw [HG.out]; exact endS_no (stI_stays (i := 3) (by decide) (by show (gS T 2 (stI T b ⟨pu_2, 0, 0⟩ 2).1 (stI T b ⟨pu_2, 0, 0⟩ 2).2).2.e = 30; rw [HS2.out]; exact gS_no HN.out (by rw [HGOu_10.out])))
                              rw [HRE.out] at hge
                              injection hge with ra rb
                              have RA := Lib.hid ra
                              have RB := Lib.hid rb
                              clear ra rb
                              obtain ⟨f0, f1, f2, f3⟩ := BR.out.frozens
                              obtain ⟨x0, x1, x2, x3⟩ := BR.out.cells4
                              go_wp2_with fail
                              have g8 := ret_four' BR.out (.int .i64 0) (.int .i64 0) (.int .i64 0) (.int .i64 0)
                              refine bodyPost_ret (results_row_tmp rfl _ _ w.heap.size 23 #[.int .i64 0, .int .i64 0, .int .i64 0, .int .i64 0] (0, 0) _ rfl g8 Try.underlying23 rfl (by kernel_rfl)) rfl ?_
                              exact ⟨by rw [RA.out, RB.out]; rfl, ((((HB.out.setCell (p := ⟨w.heap.size, 0, none⟩) (Nat.le_refl _) (.int .i64 0)).setCell (p := ⟨w.heap.size, 1, none⟩) (Nat.le_refl _) (.int .i64 0)).setCell (p := ⟨w.heap.size, 2, none⟩) (Nat.le_refl _) (.int .i64 0)).setCell (p := ⟨w.heap.size, 3, none⟩) (Nat.le_refl _) (.int .i64 0))⟩
                            · skip
                              have ho1 := ovL_ok (T := T) (a := pu_9 + 1) (by rw [HGOu_10.out])
                              rw [HGOu_10.out] at ho1
                              dsimp only at ho1
                              rw [ho1] at RR
                              clear ho1
                              have HS3 := Lib.hid (show stI T b ⟨pu_2, 0, 0⟩ 3 = (⟨nu_6, nu_7, nu_9, nu_10⟩, ⟨pu_10, 0, 0⟩) by show gS T 2 (stI T b ⟨pu_2, 0, 0⟩ 2).1 (stI T b ⟨pu_2, 0, 0⟩ 2).2 = _; rw [HS2.out]; have h := gS_2 (v := ⟨nu_6, nu_7, nu_9, b.B⟩) HN.out (by rw [HGOu_10.out]); rw [HGOu_10.out] at h; exact h)
                              go_wp2_with fail
                              rw [rounds_succ]
                              have zo := RR.out.2.cell 2
                              go_upto_region 26 with fail
                              clear zo
                              obtain ⟨zl0, zl1, zl2, zl3⟩ := LL.out.cells4
                              have kq0 := cell_regrown zl0
                              have kq1 := cell_regrown zl1
                              have kq2 := cell_regrown zl2
                              have kq3 := cell_regrown zl3
                              clear zl0 zl1 zl2 zl3
                              refine wp_mono_tail 13 [Brings.one ?b183_0, Brings.one ?b184_1, Brings.one ?b185_2, Brings.one ?b186_3, Brings.one ?b187_4, Brings.one ?b188_5, Brings.one ?b189_6, Brings.one ?b190_7, Brings.one ?b191_8, Brings.one ?b192_9, Brings.one ?b193_10, Brings.one ?b194_11, Brings.one ?b195_12] (by kernel_rfl) (by kernel_rfl) ?_
                              rotate_left 13
                              simp only [List.take_succ_cons, List.take_zero, List.drop_succ_cons, List.drop_zero]
                              refine wpL_take (k' := 1) rfl (by kernel_rfl) (fun d os => ?t196) ?_
                              case t196 => (unfold bringsAt; go_simp; first | with_reducible exact take_one | exact take_one)
                              try simp only [Act.put, List.setIfInBounds_toArray, List.set_cons_zero, List.set_cons_succ]
                              refine wpL_take (k' := 2) rfl (by kernel_rfl) (fun d os => ?t197) ?_
                              case t197 => (unfold bringsAt; go_simp; first | with_reducible exact take_one | exact take_one)
                              try simp only [Act.put, List.setIfInBounds_toArray, List.set_cons_zero, List.set_cons_succ]
                              refine wpL_take (k' := 3) rfl (by kernel_rfl) (fun d os => ?t198) ?_
                              case t198 => (unfold bringsAt; go_simp; first | with_reducible exact take_one | exact take_one)
                              try simp only [Act.put, List.setIfInBounds_toArray, List.set_cons_zero, List.set_cons_succ]
                              refine wpL_take (k' := 4) rfl (by kernel_rfl) (fun d os => ?t199) ?_
                              case t199 => (unfold bringsAt; go_simp; first | with_reducible exact take_one | exact take_one)
                              try simp only [Act.put, List.setIfInBounds_toArray, List.set_cons_zero, List.set_cons_succ]
                              refine wpL_take (k' := 5) rfl (by kernel_rfl) (fun d os => ?t200) ?_
                              case t200 => (unfold bringsAt; go_simp; first | with_reducible exact take_one | exact take_one)
                              try simp only [Act.put, List.setIfInBounds_toArray, List.set_cons_zero, List.set_cons_succ]
                              refine wpL_take (k' := 6) rfl (by kernel_rfl) (fun d os => ?t201) ?_
                              case t201 => (unfold bringsAt; go_simp; first | with_reducible exact take_one | exact take_one)
                              try simp only [Act.put, List.setIfInBounds_toArray, List.set_cons_zero, List.set_cons_succ]
                              refine wpL_take (k' := 7) rfl (by kernel_rfl) (fun d os => ?t202) ?_
                              case t202 => (unfold bringsAt; go_simp; first | with_reducible exact take_one | exact take_one)
                              try simp only [Act.put, List.setIfInBounds_toArray, List.set_cons_zero, List.set_cons_succ]
                              refine wpL_take (k' := 8) rfl (by kernel_rfl) (fun d os => ?t203) ?_
                              case t203 => (unfold bringsAt; go_simp; first | with_reducible exact take_one | exact take_one)
                              try simp only [Act.put, List.setIfInBounds_toArray, List.set_cons_zero, List.set_cons_succ]
                              refine wpL_take (k' := 9) rfl (by kernel_rfl) (fun d os => ?t204) ?_
                              case t204 => (unfold bringsAt; go_simp; first | with_reducible exact take_one | exact take_one)
                              try simp only [Act.put, List.setIfInBounds_toArray, List.set_cons_zero, List.set_cons_succ]
                              refine wpL_take (k' := 10) rfl (by kernel_rfl) (fun d os => ?t205) ?_
                              case t205 => (unfold bringsAt; go_simp; first | with_reducible exact take_one | exact take_one)
                              try simp only [Act.put, List.setIfInBounds_toArray, List.set_cons_zero, List.set_cons_succ]
                              refine wpL_take (k' := 11) rfl (by kernel_rfl) (fun d os => ?t206) ?_
                              case t206 => (unfold bringsAt; go_simp; first | with_reducible exact take_one | exact take_one)
                              try simp only [Act.put, List.setIfInBounds_toArray, List.set_cons_zero, List.set_cons_succ]
                              refine wpL_take (k' := 12) rfl (by kernel_rfl) (fun d os => ?t207) ?_
                              case t207 => (unfold bringsAt; go_simp; first | with_reducible exact take_one | exact take_one)
                              try simp only [Act.put, List.setIfInBounds_toArray, List.set_cons_zero, List.set_cons_succ]
                              refine wpL_take (k' := 13) rfl (by kernel_rfl) (fun d os => ?t208) ?_
                              case t208 => (unfold bringsAt; go_simp; first | with_reducible exact take_one | exact take_one)
                              try simp only [Act.put, List.setIfInBounds_toArray, List.set_cons_zero, List.set_cons_succ]
                              refine wpL_nil ?_
                              intro w1045 hH
                              have hb' := hH.below
                              clear kq0 kq1 kq2 kq3
                              have HB := Lib.hid ((HB.out).trans (hb'.mono (HB.out).size))
                              have BR := Lib.hid ((BR.out).below hb' (BR.out).lt)
                              have BV := Lib.hid ((BV.out).below hb' (BV.out).lt)
                              have LL := Lib.hid ((LL.out).below hb' (LL.out).lt)
                              clear hH hb'
                              obtain ⟨f0, f1, f2, f3⟩ := BV.out.frozens
                              obtain ⟨x0, x1, x2, x3⟩ := BV.out.cells4
                              go_upto_region 27 with fail
                              clear f0 f1 f2 f3 x0 x1 x2 x3
                              have BR := Lib.hid ((((BR.out.far (p := ⟨bv, 0, none⟩) hbb (.int .i64 nu_6)).far (p := ⟨bv, 1, none⟩) hbb (.int .i64 nu_7)).far (p := ⟨bv, 2, none⟩) hbb (.int .i64 nu_9)).far (p := ⟨bv, 3, none⟩) hbb (.int .i64 nu_10))
                              have HB := Lib.hid ((((HB.out.setCell (p := ⟨bv, 0, none⟩) lbv (.int .i64 nu_6)).setCell (p := ⟨bv, 1, none⟩) lbv (.int .i64 nu_7)).setCell (p := ⟨bv, 2, none⟩) lbv (.int .i64 nu_9)).setCell (p := ⟨bv, 3, none⟩) lbv (.int .i64 nu_10))
                              have BV := Lib.hid (ret_four' BV.out (.int .i64 nu_6) (.int .i64 nu_7) (.int .i64 nu_9) (.int .i64 nu_10))
                              generalize (((w1045.setCell ⟨bv, 0, none⟩ (.int .i64 nu_6)).setCell ⟨bv, 1, none⟩ (.int .i64 nu_7)).setCell ⟨bv, 2, none⟩ (.int .i64 nu_9)).setCell ⟨bv, 3, none⟩ (.int .i64 nu_10) = wf at *
                              have HGE := Lib.hid (show getS T = endS ⟨nu_6, nu_7, nu_9, nu_10⟩ ⟨pu_10, 0, 0⟩ by rw [HG.out, HS3.out])
                              by_cases hc : 2 < nu_9
                              · skip
                                obtain ⟨c0, c1, c2, c3⟩ := BV.out.cells4
                                have t9 : decide (2 < nu_9) = true := by simpa using hc
                                go_upto_region 28 with fail
                                clear c0 c1 c2 c3
                                have hge : getS T = (⟨0, 0, 0, 0⟩, 281) := by rw [HGE.out]; unfold endS; rw [if_neg (fun h => h rfl), if_pos hc]
                                rw [HRE.out] at hge
                                injection hge with ra rb
                                have RA := Lib.hid ra
                                have RB := Lib.hid rb
                                clear ra rb
                                obtain ⟨f0, f1, f2, f3⟩ := BR.out.frozens
                                obtain ⟨x0, x1, x2, x3⟩ := BR.out.cells4
                                go_wp2_with fail
                                have g8 := ret_four' BR.out (.int .i64 0) (.int .i64 0) (.int .i64 0) (.int .i64 0)
                                refine bodyPost_ret (results_row_tmp rfl _ _ w.heap.size 23 #[.int .i64 0, .int .i64 0, .int .i64 0, .int .i64 0] (0, 0) _ rfl g8 Try.underlying23 rfl (by kernel_rfl)) rfl ?_
                                exact ⟨by rw [RA.out, RB.out]; rfl, ((((HB.out.setCell (p := ⟨w.heap.size, 0, none⟩) (Nat.le_refl _) (.int .i64 0)).setCell (p := ⟨w.heap.size, 1, none⟩) (Nat.le_refl _) (.int .i64 0)).setCell (p := ⟨w.heap.size, 2, none⟩) (Nat.le_refl _) (.int .i64 0)).setCell (p := ⟨w.heap.size, 3, none⟩) (Nat.le_refl _) (.int .i64 0))⟩
                              · skip
                                obtain ⟨c0, c1, c2, c3⟩ := BV.out.cells4
                                have t9 : decide (2 < nu_9) = false := by simpa using hc
                                have hc2 : nu_9 ≤ 2 := by omega
                                go_wp2_with fail
                                clear c0 c1 c2 c3
                                refine (rrecon_c ⟨nu_6, nu_7, nu_9, nu_10⟩ _).mono ?_
                                rintro e wg ⟨rfl, hb'⟩
                                have BR := Lib.hid (BR.out.below hb' BR.out.lt)
                                have BV := Lib.hid (BV.out.below hb' BV.out.lt)
                                have HB := Lib.hid (HB.out.trans (hb'.mono HB.out.size))
                                clear hb'
                                obtain ⟨c0, c1, c2, c3⟩ := BV.out.cells4
                                cases hrv : rightVd ⟨nu_6, nu_7, nu_9, nu_10⟩
                                · skip
                                  have HRV := Lib.hid hrv
                                  clear hrv
                                  have hge : getS T = (⟨0, 0, 0, 0⟩, 280) := by rw [HGE.out]; unfold endS; rw [if_neg (fun h => h rfl), if_neg (show ¬ (2 < nu_9) from by omega), if_neg (by rw [HRV.out]; decide)]
                                  rw [HRE.out] at hge
                                  injection hge with ra rb
                                  have RA := Lib.hid ra
                                  have RB := Lib.hid rb
                                  clear ra rb
                                  obtain ⟨f0, f1, f2, f3⟩ := BR.out.frozens
                                  obtain ⟨x0, x1, x2, x3⟩ := BR.out.cells4
                                  go_wp2_with fail
                                  have g8 := ret_four' BR.out (.int .i64 0) (.int .i64 0) (.int .i64 0) (.int .i64 0)
                                  refine bodyPost_ret (results_row_tmp rfl _ _ w.heap.size 23 #[.int .i64 0, .int .i64 0, .int .i64 0, .int .i64 0] (0, 0) _ rfl g8 Try.underlying23 rfl (by kernel_rfl)) rfl ?_
                                  exact ⟨by rw [RA.out, RB.out]; rfl, ((((HB.out.setCell (p := ⟨w.heap.size, 0, none⟩) (Nat.le_refl _) (.int .i64 0)).setCell (p := ⟨w.heap.size, 1, none⟩) (Nat.le_refl _) (.int .i64 0)).setCell (p := ⟨w.heap.size, 2, none⟩) (Nat.le_refl _) (.int .i64 0)).setCell (p := ⟨w.heap.size, 3, none⟩) (Nat.le_refl _) (.int .i64 0))⟩
                                · skip
                                  have HRV := Lib.hid hrv
                                  clear hrv
                                  have hge : getS T = (⟨nu_6, nu_7, nu_9, nu_10⟩, 0) := by rw [HGE.out]; unfold endS; rw [if_neg (fun h => h rfl), if_neg (show ¬ (2 < nu_9) from by omega), if_pos HRV.out]
                                  rw [HRE.out] at hge
                                  injection hge with ra rb
                                  have RA := Lib.hid ra
                                  have RB := Lib.hid rb
                                  clear ra rb
                                  obtain ⟨f0, f1, f2, f3⟩ := BR.out.frozens
                                  obtain ⟨x0, x1, x2, x3⟩ := BR.out.cells4
                                  go_wp2_with fail
                                  have g8 := ret_four' BR.out (.int .i64 nu_6) (.int .i64 nu_7) (.int .i64 nu_9) (.int .i64 nu_10)
                                  refine bodyPost_ret (results_row_tmp rfl _ _ w.heap.size 23 #[.int .i64 nu_6, .int .i64 nu_7, .int .i64 nu_9, .int .i64 nu_10] (0, 0) _ rfl g8 Try.underlying23 rfl (by kernel_rfl)) rfl ?_
                                  exact ⟨by rw [RA.out, RB.out]; rfl, ((((HB.out.setCell (p := ⟨w.heap.size, 0, none⟩) (Nat.le_refl _) (.int .i64 nu_6)).setCell (p := ⟨w.heap.size, 1, none⟩) (Nat.le_refl _) (.int .i64 nu_7)).setCell (p := ⟨w.heap.size, 2, none⟩) (Nat.le_refl _) (.int .i64 nu_9)).setCell (p := ⟨w.heap.size, 3, none⟩) (Nat.le_refl _) (.int .i64 nu_10))⟩
                        · skip
                          have hge_ : T.length ≤ pu_9 := by omega
                          have hg30 : getS T = (⟨0, 0, 0, 0⟩, 30) := by rw [HG.out]; exact endS_no (stI_stays (i := 3) (by decide) (by show (gS T 2 (stI T b ⟨pu_2, 0, 0⟩ 2).1 (stI T b ⟨pu_2, 0, 0⟩ 2).2).2.e = 30; rw [HS2.out]; exact gS_over hge_))
                          have HG30 := Lib.hid hg30
                          clear hg30
                          rw [nextL_end hge_] at hB
                          have ho_ : 0 < overL T (pu_9) 0 := by unfold overL; rw [if_neg (by omega)]; omega
                          obtain ⟨q0, hq0⟩ : ∃ q, q = overL T (pu_9) 0 := ⟨_, rfl⟩
                          rw [← hq0] at hB ho_
                          have hqb : q0 ≤ 1 := by have h := (ovL_bd T (pu_9) 0 1).2; rw [show ovL T (pu_9) 0 1 = overL T (pu_9) 0 from rfl] at h; omega
                          clear hq0
                          simp only [Bool.false_eq_true, if_false] at hB
                          refine (hB).mono ?_
                          rintro e wv43 ⟨rfl, hr_, hg_⟩
                          have BR := Lib.hid (RR.out.other hg_ BR.out (by decide))
                          have BV := Lib.hid (RR.out.other hg_ BV.out (by decide))
                          have LL := Lib.hid (RR.out.other hg_ LL.out (by decide))
                          have HB := Lib.hid (RGoes.below_ hg_ HB.out hgw)
                          have RR := Lib.hid hr_
                          clear hr_ hg_
                          clear hB
                          go_wp2_with fail
                          rw [rounds_succ]
                          have zo := RR.out.2.cell 2
                          have t5 : decide (0 < (q0 : Int)) = true := by simp; omega
                          have t6 : (0 : Int) < (q0 : Int) := by omega
                          go_upto_region 25 with fail
                          clear zo
                          have hge : getS T = (⟨0, 0, 0, 0⟩, 30) := HG30.out
                          rw [HRE.out] at hge
                          injection hge with ra rb
                          have RA := Lib.hid ra
                          have RB := Lib.hid rb
                          clear ra rb
                          obtain ⟨f0, f1, f2, f3⟩ := BR.out.frozens
                          obtain ⟨x0, x1, x2, x3⟩ := BR.out.cells4
                          go_wp2_with fail
                          have g8 := ret_four' BR.out (.int .i64 0) (.int .i64 0) (.int .i64 0) (.int .i64 0)
                          refine bodyPost_ret (results_row_tmp rfl _ _ w.heap.size 23 #[.int .i64 0, .int .i64 0, .int .i64 0, .int .i64 0] (0, 0) _ rfl g8 Try.underlying23 rfl (by kernel_rfl)) rfl ?_
                          exact ⟨by rw [RA.out, RB.out]; rfl, ((((HB.out.setCell (p := ⟨w.heap.size, 0, none⟩) (Nat.le_refl _) (.int .i64 0)).setCell (p := ⟨w.heap.size, 1, none⟩) (Nat.le_refl _) (.int .i64 0)).setCell (p := ⟨w.heap.size, 2, none⟩) (Nat.le_refl _) (.int .i64 0)).setCell (p := ⟨w.heap.size, 3, none⟩) (Nat.le_refl _) (.int .i64 0))⟩
                  · skip
                    have hge_ : T.length ≤ pu_7 := by omega
                    have hg30 : getS T = (⟨0, 0, 0, 0⟩, 30) := by rw [HG.out]; exact endS_no (stI_stays (i := 2) (by decide) (by show (gS T 1 (stI T b ⟨pu_2, 0, 0⟩ 1).1 (stI T b ⟨pu_2, 0, 0⟩ 1).2).2.e = 30; rw [HS1.out]; exact gS_over hge_))
                    have HG30 := Lib.hid hg30
                    clear hg30
                    rw [nextL_end hge_] at hB
                    have ho_ : 0 < overL T (pu_7) 0 := by unfold overL; rw [if_neg (by omega)]; omega
                    obtain ⟨q0, hq0⟩ : ∃ q, q = overL T (pu_7) 0 := ⟨_, rfl⟩
                    rw [← hq0] at hB ho_
                    have hqb : q0 ≤ 1 := by have h := (ovL_bd T (pu_7) 0 1).2; rw [show ovL T (pu_7) 0 1 = overL T (pu_7) 0 from rfl] at h; omega
                    clear hq0
                    simp only [Bool.false_eq_true, if_false] at hB
                    refine (hB).mono ?_
                    rintro e wv30 ⟨rfl, hr_, hg_⟩
                    have BR := Lib.hid (RR.out.other hg_ BR.out (by decide))
                    have BV := Lib.hid (RR.out.other hg_ BV.out (by decide))
                    have LL := Lib.hid (RR.out.other hg_ LL.out (by decide))
                    have HB := Lib.hid (RGoes.below_ hg_ HB.out hgw)
                    have RR := Lib.hid hr_
                    clear hr_ hg_
                    clear hB
                    go_wp2_with fail
                    rw [rounds_succ]
                    go_wp2_with fail
                    have hB := rrbit_c _ g T (pu_7 + 1) q0 _ RR.out hlT (by omega) (by omega)
                    rw [nextL_end (by omega)] at hB
                    have hqq := ovL_bd T (pu_7 + 1) q0 1
                    rw [show ovL T (pu_7 + 1) q0 1 = overL T (pu_7 + 1) q0 from rfl] at hqq
                    obtain ⟨q3, hq_⟩ : ∃ q, q = overL T (pu_7 + 1) q0 := ⟨_, rfl⟩
                    rw [← hq_] at hB hqq
                    clear hq_
                    simp only [Bool.false_eq_true, if_false] at hB
                    refine (hB).mono ?_
                    rintro e wv31 ⟨rfl, hr_, hg_⟩
                    have BR := Lib.hid (RR.out.other hg_ BR.out (by decide))
                    have BV := Lib.hid (RR.out.other hg_ BV.out (by decide))
                    have LL := Lib.hid (RR.out.other hg_ LL.out (by decide))
                    have HB := Lib.hid (RGoes.below_ hg_ HB.out hgw)
                    have RR := Lib.hid hr_
                    clear hr_ hg_
                    clear hB
                    go_wp2_with fail
                    rw [rounds_succ]
                    have zo := RR.out.2.cell 2
                    have t5 : decide (0 < (q3 : Int)) = true := by simp; omega
                    have t6 : (0 : Int) < (q3 : Int) := by omega
                    go_upto_region 25 with fail
                    clear zo
                    have hge : getS T = (⟨0, 0, 0, 0⟩, 30) := HG30.out
                    rw [HRE.out] at hge
                    injection hge with ra rb
                    have RA := Lib.hid ra
                    have RB := Lib.hid rb
                    clear ra rb
                    obtain ⟨f0, f1, f2, f3⟩ := BR.out.frozens
                    obtain ⟨x0, x1, x2, x3⟩ := BR.out.cells4
                    go_wp2_with fail
                    have g8 := ret_four' BR.out (.int .i64 0) (.int .i64 0) (.int .i64 0) (.int .i64 0)
                    refine bodyPost_ret (results_row_tmp rfl _ _ w.heap.size 23 #[.int .i64 0, .int .i64 0, .int .i64 0, .int .i64 0] (0, 0) _ rfl g8 Try.underlying23 rfl (by kernel_rfl)) rfl ?_
                    exact ⟨by rw [RA.out, RB.out]; rfl, ((((HB.out.setCell (p := ⟨w.heap.size, 0, none⟩) (Nat.le_refl _) (.int .i64 0)).setCell (p := ⟨w.heap.size, 1, none⟩) (Nat.le_refl _) (.int .i64 0)).setCell (p := ⟨w.heap.size, 2, none⟩) (Nat.le_refl _) (.int .i64 0)).setCell (p := ⟨w.heap.size, 3, none⟩) (Nat.le_refl _) (.int .i64 0))⟩
          · skip
            have hge_ : T.length ≤ pu_2 := by omega
            have hg30 : getS T = (⟨0, 0, 0, 0⟩, 30) := by rw [HG.out]; exact endS_no (stI_stays (i := 1) (by decide) (by show (gS T 0 (stI T b ⟨pu_2, 0, 0⟩ 0).1 (stI T b ⟨pu_2, 0, 0⟩ 0).2).2.e = 30; rw [HS0.out]; exact gS_over hge_))
            have HG30 := Lib.hid hg30
            clear hg30
            rw [nextL_end hge_] at hB
            have ho_ : 0 < overL T (pu_2) 0 := by unfold overL; rw [if_neg (by omega)]; omega
            obtain ⟨q0, hq0⟩ : ∃ q, q = overL T (pu_2) 0 := ⟨_, rfl⟩
            rw [← hq0] at hB ho_
            have hqb : q0 ≤ 1 := by have h := (ovL_bd T (pu_2) 0 1).2; rw [show ovL T (pu_2) 0 1 = overL T (pu_2) 0 from rfl] at h; omega
            clear hq0
            simp only [Bool.false_eq_true, if_false] at hB
            refine (hB).mono ?_
            rintro e wv1 ⟨rfl, hr_, hg_⟩
            have BR := Lib.hid (RR.out.other hg_ BR.out (by decide))
            have BV := Lib.hid (RR.out.other hg_ BV.out (by decide))
            have LL := Lib.hid (RR.out.other hg_ LL.out (by decide))
            have HB := Lib.hid (RGoes.below_ hg_ HB.out hgw)
            have RR := Lib.hid hr_
            clear hr_ hg_
            clear hB
            go_wp2_with fail
            rw [rounds_succ]
            go_wp2_with fail
            have hB := rrbit_c _ g T (pu_2 + 1) q0 _ RR.out hlT (by omega) (by omega)
            rw [nextL_end (by omega)] at hB
            have hqq := ovL_bd T (pu_2 + 1) q0 1
            rw [show ovL T (pu_2 + 1) q0 1 = overL T (pu_2 + 1) q0 from rfl] at hqq
            obtain ⟨q2, hq_⟩ : ∃ q, q = overL T (pu_2 + 1) q0 := ⟨_, rfl⟩
            rw [← hq_] at hB hqq
            clear hq_
            simp only [Bool.false_eq_true, if_false] at hB
            refine (hB).mono ?_
            rintro e wv2 ⟨rfl, hr_, hg_⟩
            have BR := Lib.hid (RR.out.other hg_ BR.out (by decide))
            have BV := Lib.hid (RR.out.other hg_ BV.out (by decide))
            have LL := Lib.hid (RR.out.other hg_ LL.out (by decide))
            have HB := Lib.hid (RGoes.below_ hg_ HB.out hgw)
            have RR := Lib.hid hr_
            clear hr_ hg_
            clear hB
            go_wp2_with fail
            rw [rounds_succ]
            go_wp2_with fail
            have hB := rrbit_c _ g T (pu_2 + 1 + 1) q2 _ RR.out hlT (by omega) (by omega)
            rw [nextL_end (by omega)] at hB
            have hqq := ovL_bd T (pu_2 + 1 + 1) q2 1
            rw [show ovL T (pu_2 + 1 + 1) q2 1 = overL T (pu_2 + 1 + 1) q2 from rfl] at hqq
            obtain ⟨q3, hq_⟩ : ∃ q, q = overL T (pu_2 + 1 + 1) q2 := ⟨_, rfl⟩
            rw [← hq_] at hB hqq
            clear hq_
            simp only [Bool.false_eq_true, if_false] at hB
            refine (hB).mono ?_
            rintro e wv3 ⟨rfl, hr_, hg_⟩
            have BR := Lib.hid (RR.out.other hg_ BR.out (by decide))
            have BV := Lib.hid (RR.out.other hg_ BV.out (by decide))
            have LL := Lib.hid (RR.out.other hg_ LL.out (by decide))
            have HB := Lib.hid (RGoes.below_ hg_ HB.out hgw)
            have RR := Lib.hid hr_
            clear hr_ hg_
            clear hB
            go_wp2_with fail
            rw [rounds_succ]
            have zo := RR.out.2.cell 2
            have t5 : decide (0 < (q3 : Int)) = true := by simp; omega
            have t6 : (0 : Int) < (q3 : Int) := by omega
            go_upto_region 25 with fail
            clear zo
            have hge : getS T = (⟨0, 0, 0, 0⟩, 30) := HG30.out
            rw [HRE.out] at hge
            injection hge with ra rb
            have RA := Lib.hid ra
            have RB := Lib.hid rb
            clear ra rb
            obtain ⟨f0, f1, f2, f3⟩ := BR.out.frozens
            obtain ⟨x0, x1, x2, x3⟩ := BR.out.cells4
            go_wp2_with fail
            have g8 := ret_four' BR.out (.int .i64 0) (.int .i64 0) (.int .i64 0) (.int .i64 0)
            refine bodyPost_ret (results_row_tmp rfl _ _ w.heap.size 23 #[.int .i64 0, .int .i64 0, .int .i64 0, .int .i64 0] (0, 0) _ rfl g8 Try.underlying23 rfl (by kernel_rfl)) rfl ?_
            exact ⟨by rw [RA.out, RB.out]; rfl, ((((HB.out.setCell (p := ⟨w.heap.size, 0, none⟩) (Nat.le_refl _) (.int .i64 0)).setCell (p := ⟨w.heap.size, 1, none⟩) (Nat.le_refl _) (.int .i64 0)).setCell (p := ⟨w.heap.size, 2, none⟩) (Nat.le_refl _) (.int .i64 0)).setCell (p := ⟨w.heap.size, 3, none⟩) (Nat.le_refl _) (.int .i64 0))⟩

end Go.Proofs.Ytgdlleoefncikaa
