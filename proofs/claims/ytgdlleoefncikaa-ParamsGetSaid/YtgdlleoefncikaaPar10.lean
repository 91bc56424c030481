/- Params: a video got. -/
import Derived.Test.YtgdlleoefncikaaPar9
namespace Go.Proofs.Ytgdlleoefncikaa
open Go.RowKit Go.Sort
set_option linter.unusedVariables false
set_option linter.unusedSimpArgs false
theorem SrcI.other {w w' : World} {B s g k : Nat} {xs : List Int} {st : Rs} {t : TypeId} {cs : Array Value} (h : SrcI w B s g xs st) (hq : ButQ (fun j => j = s ∨ j = g) w w') (hb : Blk w k t cs) (h1 : t ≠ 65) (h2 : t ≠ 84) : Blk w' k t cs := by
  obtain ⟨a, rv, _, c, _⟩ := h
  exact hq.blk hb (by rintro (e | e); exact hb.ne_ a h1 e; exact hb.ne_ c h2 e)
/-- A group that is got: which one, what was, what is. -/
def gS (T : List Bool) (i : Nat) (v : Vd) (s : Rs) : Vd × Rs :=
  if (flS T s).1 = true then
    match i with
    | 0 => (⟨(cdS T (flS T s).2).1, (cdS T (cdS T (flS T s).2).2).1, v.C, v.B⟩, (cdS T (cdS T (flS T s).2).2).2)
    | 1 => (⟨v.W, v.H, (cdS T (flS T s).2).1, v.B⟩, (cdS T (flS T s).2).2)
    | _ => (⟨v.W, v.H, v.C, (cdS T (flS T s).2).1⟩, (cdS T (flS T s).2).2)
  else (v, (flS T s).2)
def stI (T : List Bool) (v : Vd) (s : Rs) : Nat → Vd × Rs
  | 0 => (v, s)
  | i + 1 => gS T i (stI T v s i).1 (stI T v s i).2
def endS (v : Vd) (s : Rs) : Vd × Int := if s.e ≠ 0 then (⟨0, 0, 0, 0⟩, s.e) else if 2 < v.C then (⟨0, 0, 0, 0⟩, 281) else if rightVd v = true then (v, 0) else (⟨0, 0, 0, 0⟩, 280)
/-- The video that bits are, and the error. -/
def getS (T : List Bool) : Vd × Int :=
  if (bgS T ⟨0, 0, 0⟩).2.1 ≠ 0 then (⟨0, 0, 0, 0⟩, (bgS T ⟨0, 0, 0⟩).2.1)
  else endS (stI T (bgS T ⟨0, 0, 0⟩).1 (bgS T ⟨0, 0, 0⟩).2.2 3).1 (stI T (bgS T ⟨0, 0, 0⟩).1 (bgS T ⟨0, 0, 0⟩).2.2 3).2
theorem flS_bd (T : List Bool) (s : Rs) : (flS T s).2.a ≤ s.a + 1 ∧ (flS T s).2.o ≤ s.o + 1 := by
  unfold flS
  split
  · exact ⟨Nat.le_add_right _ _, Nat.le_add_right _ _⟩
  · refine ⟨Nat.le_refl _, ?_⟩
    have h := ovL_bd T s.a s.o 1
    have e : ovL T s.a s.o 1 = overL T s.a s.o := rfl
    rw [e] at h
    exact h.2
theorem bgS_bd (T : List Bool) : (bgS T ⟨0, 0, 0⟩).2.2.a ≤ 126 ∧ (bgS T ⟨0, 0, 0⟩).2.2.o ≤ 126 := by
  have h1 := cdS_bd T ⟨0, 0, 0⟩
  have h2 := cdS_bd T (cdS T ⟨0, 0, 0⟩).2
  unfold bgS
  dsimp only at h1
  split
  · dsimp only; omega
  · split
    · dsimp only; omega
    · split <;> (dsimp only; omega)
set_option maxRecDepth 100000 in
set_option maxHeartbeats 6400000 in
theorem pget_c (A : Option Addr) (c : Nat) (xs : List Int) (w : World) (hA : ReadsB w A xs) (h8 : Byte8 xs) (hl : xs.length ≤ 1000000) : Calls Try.prog 16 #[.slice A xs.length c] w fun e w' => e = .returned (.tuple #[vdV (getS (unp xs)).1, .int .i64 (getS (unp xs)).2]) ∧ Below w.heap.size w w' := by
  obtain ⟨T, hT⟩ : ∃ T, T = unp xs := ⟨_, rfl⟩
  have HT := Lib.hid hT
  rw [← hT]
  obtain ⟨⟨rv, re⟩, hre⟩ : ∃ r, r = getS T := ⟨_, rfl⟩
  rw [← hre]
  dsimp only
  unfold getS at hre
  have hbb := bgS_bd T
  have h9 := fun B s g w h => sbegun_c B s g xs ⟨0, 0, 0⟩ w h h8 hl (by decide) (by decide)
  rw [← hT] at h9
  rcases hbg : bgS T ⟨0, 0, 0⟩ with ⟨v0, e0, s0⟩
  rw [hbg] at h9 hbb hre
  dsimp only at h9 hbb hre
  have H9 := Lib.hid h9
  have HA := Lib.hid hA
  have HB := Lib.hid (Below.refl w.heap.size w)
  have HBB := Lib.hid hbb
  have H8 := Lib.hid h8
  have HC := Lib.hid (show ∀ B s g w st, SrcI w B s g xs st → st.a ≤ 500000 → st.o ≤ 500000 → Calls Try.prog 32 #[.pointer (some ⟨s, 0, none⟩)] w fun e w' => e = .returned (.int .i64 (cdS T st).1) ∧ SrcI w' B s g xs (cdS T st).2 ∧ ButQ (fun j => j = s ∨ j = g) w w' from fun B s g w st h a1 a2 => by rw [hT]; exact scode_c B s g xs st w h h8 hl a1 a2)
  have HF := Lib.hid (show ∀ B s g w st, SrcI w B s g xs st → st.a ≤ 500000 → st.o ≤ 500000 → Calls Try.prog 31 #[.pointer (some ⟨s, 0, none⟩)] w fun e w' => e = .returned (.bool (flS T st).1) ∧ SrcI w' B s g xs (flS T st).2 ∧ ButQ (fun j => j = s ∨ j = g) w w' from fun B s g w st h a1 a2 => by rw [hT]; exact sflag_c B s g xs st w h h8 hl a1 a2)
  clear h9 hA hbb hbg hT h8
  obtain ⟨vf, hvf⟩ : ∃ q, q = stI T v0 s0 3 := ⟨_, rfl⟩
  rw [← hvf] at hre
  have HVF := Lib.hid hvf
  clear hvf
  obtain ⟨vz, sz⟩ := vf
  dsimp only at hre
  have HRE := Lib.hid hre
  clear hre
  go_enter Try.func16, Try.ntmps16
  go_wp2_with fail
  have HB := Lib.hid (below_alloc_ (HB.out) (.cells #[.int .i64 0, .int .i64 0, .int .i64 0, .int .i64 0] 23))
  have hzw : (w.alloc (.cells #[.int .i64 0, .int .i64 0, .int .i64 0, .int .i64 0] 23)).heap.size = w.heap.size + 1 := by simp only [World.size_alloc]
  have BR := Blk.new (w) 23 #[.int .i64 0, .int .i64 0, .int .i64 0, .int .i64 0]
  skip
  have BR := Lib.hid BR
  generalize w.alloc (.cells #[.int .i64 0, .int .i64 0, .int .i64 0, .int .i64 0] 23) = w1 at *
  have HZ := Lib.hid hzw
  clear hzw
  refine (new_c A c xs _ (HA.out.kept HB.out) (by omega)).mono ?_
  rintro e w2 ⟨g, rfl, hr, hb'⟩
  have HB := Lib.hid ((HB.out).trans (hb'.mono (HB.out).size))
  have BR := Lib.hid ((BR.out).below hb' (BR.out).lt)
  have RD := Lib.hid hr
  have hz2 := Lib.hid hb'.size
  clear hr hb'
  go_upto_region 2 with fail
  have hb' := below_alloc_ (Below.refl w2.heap.size w2) (.cells #[.pointer (some ⟨g, 0, none⟩), .int .i64 0] 65)
  have SR := Lib.hid (show SrcI (w2.alloc (.cells #[.pointer (some ⟨g, 0, none⟩), .int .i64 0] 65)) w1.heap.size w2.heap.size g xs ⟨0, 0, 0⟩ from ⟨Blk.new _ _ _, RD.out.kept hb'⟩)
  have hgb : w.heap.size ≤ g := by obtain ⟨_, h1, _⟩ := RD.out; have := HZ.out; omega
  have hsb : w.heap.size ≤ w2.heap.size := HB.out.size
  have HB := Lib.hid (HB.out.trans (hb'.mono HB.out.size))
  have BR := Lib.hid (BR.out.below hb' BR.out.lt)
  obtain ⟨s, hs⟩ : ∃ s, s = w2.heap.size := ⟨_, rfl⟩
  have hbl : w.heap.size < s := by rw [hs]; have := HZ.out; have := hz2.out; omega
  rw [← hs] at SR hsb ⊢
  clear hs hb' RD hz2
  generalize w2.alloc (.cells #[.pointer (some ⟨g, 0, none⟩), .int .i64 0] 65) = w3 at *
  go_wp2_with fail
  refine (H9.out _ _ _ _ SR.out).mono ?_
  rintro e w4 ⟨rfl, hs_, hq_⟩
  have BR := Lib.hid (SR.out.other hq_ BR.out (by decide) (by decide))
  have HB := Lib.hid (hq_.below HB.out HB.out.size (by rintro i (h | h) <;> omega))
  have SR := Lib.hid hs_
  clear hs_ hq_
  go_upto_region 3 with fail
  have hbr := Lib.hid BR.out.lt
  have hb' := below_alloc_ (Below.refl w4.heap.size w4) (.cells #[.int .i64 v0.W, .int .i64 v0.H, .int .i64 v0.C, .int .i64 v0.B] 23)
  have SR := Lib.hid (SR.out.kept_ hb')
  have HB := Lib.hid ((HB.out).trans (hb'.mono (HB.out).size))
  have BR := Lib.hid ((BR.out).below hb' (BR.out).lt)
  have BV := Lib.hid (Blk.new w4 23 #[.int .i64 v0.W, .int .i64 v0.H, .int .i64 v0.C, .int .i64 v0.B])
  obtain ⟨bv, hbv⟩ : ∃ b, b = w4.heap.size := ⟨_, rfl⟩
  have hvl : w.heap.size < bv := by rw [hbv]; exact hbr.out
  rw [← hbv] at BV ⊢
  clear hbv hb'
  generalize w4.alloc (.cells #[.int .i64 v0.W, .int .i64 v0.H, .int .i64 v0.C, .int .i64 v0.B] 23) = w5 at *
  by_cases he0 : e0 = 0
  rotate_left
  · skip
    have t1 : (e0 != 0) = true := by simpa using he0
    have HE0 := Lib.hid (show e0 ≠ 0 from he0)
    have hr_ : ((rv, re) : Vd × Int) = (⟨0, 0, 0, 0⟩, e0) := by rw [HRE.out]; rw [if_pos HE0.out]
    injection hr_ with ra rb
    have RA := Lib.hid ra
    have RB := Lib.hid rb
    clear ra rb
    obtain ⟨f0, f1, f2, f3⟩ := BR.out.frozens
    obtain ⟨y0, y1, y2, y3⟩ := BR.out.cells4
    go_wp2_with fail
    have g8 := ret_four' BR.out (.int .i64 0) (.int .i64 0) (.int .i64 0) (.int .i64 0)
    refine bodyPost_ret (results_row_tmp rfl _ _ w.heap.size 23 #[.int .i64 0, .int .i64 0, .int .i64 0, .int .i64 0] (0, 0) _ rfl g8 Try.underlying23 rfl (by kernel_rfl)) rfl ?_
    exact ⟨by rw [RA.out, RB.out]; rfl, ((((HB.out.setCell (p := ⟨w.heap.size, 0, none⟩) (Nat.le_refl _) (.int .i64 0)).setCell (p := ⟨w.heap.size, 1, none⟩) (Nat.le_refl _) (.int .i64 0)).setCell (p := ⟨w.heap.size, 2, none⟩) (Nat.le_refl _) (.int .i64 0)).setCell (p := ⟨w.heap.size, 3, none⟩) (Nat.le_refl _) (.int .i64 0))⟩
  · skip
    subst he0
    go_wp2_with fail
    refine (pgroups_c _ _).mono ?_
    rintro e w6 ⟨g1, g2, g3, rfl, hg1, hg2, hg3, q1, q2, q3, hb'⟩
    have SR := Lib.hid (SR.out.kept_ hb')
    have HB := Lib.hid ((HB.out).trans (hb'.mono (HB.out).size))
    have BR := Lib.hid ((BR.out).below hb' (BR.out).lt)
    have BV := Lib.hid ((BV.out).below hb' (BV.out).lt)
    have G1 := Lib.hid q1
    have G2 := Lib.hid q2
    have G3 := Lib.hid q3
    clear q1 q2 q3 hb' hg1 hg2 hg3
    have i0 := Lib.hid (fun a b c w => (idx_grp a b c w).1)
    have i1 := Lib.hid (fun a b c w => (idx_grp a b c w).2.1)
    have i2 := Lib.hid (fun a b c w => (idx_grp a b c w).2.2)
    go_wp2_with fail
    go_loopw [25] (fun iv wr => ∃ i : Nat, i ≤ 3 ∧ iv = .int .i64 i ∧ Blk wr bv 23 #[.int .i64 (stI T v0 s0 i).1.W, .int .i64 (stI T v0 s0 i).1.H, .int .i64 (stI T v0 s0 i).1.C, .int .i64 (stI T v0 s0 i).1.B] ∧ SrcI wr w1.heap.size s g xs (stI T v0 s0 i).2 ∧ (stI T v0 s0 i).2.a ≤ 126 + 200 * i ∧ (stI T v0 s0 i).2.o ≤ 126 + 200 * i ∧ Blk wr g1 57 #[.pointer (some ⟨bv, 0, none⟩), .pointer (some ⟨bv, 1, none⟩)] ∧ Blk wr g2 57 #[.pointer (some ⟨bv, 2, none⟩)] ∧ Blk wr g3 57 #[.pointer (some ⟨bv, 3, none⟩)] ∧ Blk wr w.heap.size 23 #[.int .i64 0, .int .i64 0, .int .i64 0, .int .i64 0] ∧ Below w.heap.size w wr) (fun iv _ => 3 - (intOf iv).toNat)
    case atStart => exact ⟨0, Nat.zero_le _, rfl, BV.out, SR.out, HBB.out.1, HBB.out.2, G1.out, G2.out, G3.out, BR.out, HB.out⟩
    case round =>
      clear BV SR G1 G2 G3 BR HB
      obtain ⟨i, hi, rfl, p1, p2, pa, po, p3, p4, p5, p6, p7⟩ := hrel
      rcases hst : stI T v0 s0 i with ⟨v, st⟩
      rw [hst] at p1 p2 pa po
      dsimp only at p1 p2 pa po
      have BV := Lib.hid p1
      have SR := Lib.hid p2
      have G1 := Lib.hid p3
      have G2 := Lib.hid p4
      have G3 := Lib.hid p5
      have BR := Lib.hid p6
      have HB := Lib.hid p7
      have HST := Lib.hid hst
      obtain ⟨wo, ewo⟩ : ∃ q, q = wr := ⟨_, rfl⟩
      subst ewo
      clear p1 p2 p3 p4 p5 p6 p7 hst
      by_cases hil : i < 3
      · skip
        have hbf := flS_bd T st
        have HFL := HF.out _ _ _ wo st SR.out (by omega) (by omega)
        rcases hfl : flS T st with ⟨f, s2⟩
        rw [hfl] at HFL hbf
        dsimp only at HFL hbf
        have HFL := Lib.hid HFL
        have HFE := Lib.hid hfl
        clear hfl
        rcases (by omega : i = 0 ∨ i = 1 ∨ i = 2) with rfl | rfl | rfl
        · have ii := i0.out
          go_wp2_with fail
          clear ii
          refine (HFL.out).mono ?_
          rintro e w7 ⟨rfl, hs_, hq_⟩
          have BV := Lib.hid (SR.out.other hq_ BV.out (by decide) (by decide))
          have G1 := Lib.hid (SR.out.other hq_ G1.out (by decide) (by decide))
          have G2 := Lib.hid (SR.out.other hq_ G2.out (by decide) (by decide))
          have G3 := Lib.hid (SR.out.other hq_ G3.out (by decide) (by decide))
          have BR := Lib.hid (SR.out.other hq_ BR.out (by decide) (by decide))
          have HB := Lib.hid (hq_.below HB.out HB.out.size (by rintro i (h | h) <;> omega))
          have SR := Lib.hid hs_
          clear hs_ hq_
          cases f with
          | false =>
            have HN := Lib.hid (show stI T v0 s0 1 = (v, s2) by show gS T 0 (stI T v0 s0 0).1 (stI T v0 s0 0).2 = _; rw [HST.out]; unfold gS; dsimp only; rw [HFE.out]; rfl)
            go_wp2_with fail
            go_roundw
            case rel => exact ⟨1, by omega, by go_num, by rw [HN.out]; exact BV.out, by rw [HN.out]; exact SR.out, by rw [HN.out]; dsimp only; omega, by rw [HN.out]; dsimp only; omega, G1.out, G2.out, G3.out, BR.out, HB.out⟩
            case measure => simp [intOf]
          | true =>
            go_wp2_with fail
            refine wp_loop_rounds 3 ?_
            rw [rounds_succ]
            have zg := G1.out.cell 0
            go_upto_region 12 with fail
            clear zg
            have hbc := cdS_bd T s2
            have HCD := HC.out _ _ _ _ s2 SR.out (by omega) (by omega)
            rcases hcd0 : cdS T s2 with ⟨n0, t0⟩
            rw [hcd0] at HCD hbc
            dsimp only at HCD hbc
            have HCD := Lib.hid HCD
            have HCE0 := Lib.hid hcd0
            clear hcd0
            go_wp2_with fail
            refine (HCD.out).mono ?_
            rintro e w8 ⟨rfl, hs_, hq_⟩
            have BV := Lib.hid (SR.out.other hq_ BV.out (by decide) (by decide))
            have G1 := Lib.hid (SR.out.other hq_ G1.out (by decide) (by decide))
            have G2 := Lib.hid (SR.out.other hq_ G2.out (by decide) (by decide))
            have G3 := Lib.hid (SR.out.other hq_ G3.out (by decide) (by decide))
            have BR := Lib.hid (SR.out.other hq_ BR.out (by decide) (by decide))
            have HB := Lib.hid (hq_.below HB.out HB.out.size (by rintro i (h | h) <;> omega))
            have SR := Lib.hid hs_
            clear hs_ hq_
            clear HCD
            have zc := BV.out.cell 0
            have ff := BV.out.frozen 0
            go_wp2_with fail
            clear zc ff
            have G1 := Lib.hid (G1.out.far (p := ⟨bv, 0, none⟩) (G1.out.ne_ BV.out (by decide)) (.int .i64 n0))
            have G2 := Lib.hid (G2.out.far (p := ⟨bv, 0, none⟩) (G2.out.ne_ BV.out (by decide)) (.int .i64 n0))
            have G3 := Lib.hid (G3.out.far (p := ⟨bv, 0, none⟩) (G3.out.ne_ BV.out (by decide)) (.int .i64 n0))
            have BR := Lib.hid (BR.out.far (p := ⟨bv, 0, none⟩) (by dsimp only; omega) (.int .i64 n0))
            have HB := Lib.hid (HB.out.setCell (p := ⟨bv, 0, none⟩) (by dsimp only; omega) (.int .i64 n0))
            have SR := Lib.hid (SR.out.setv (i := 0) BV.out (.int .i64 n0))
            have hbv_ : Blk (w8.setCell ⟨bv, 0, none⟩ (.int .i64 n0)) bv 23 #[.int .i64 n0, .int .i64 v.H, .int .i64 v.C, .int .i64 v.B] := BV.out.set_ 0 (.int .i64 n0)
            have BV := Lib.hid hbv_
            clear hbv_
            generalize w8.setCell ⟨bv, 0, none⟩ (.int .i64 n0) = w9 at *
            rw [rounds_succ]
            have zg := G1.out.cell 1
            go_upto_region 12 with fail
            clear zg
            have hbc := cdS_bd T t0
            have HCD := HC.out _ _ _ _ t0 SR.out (by omega) (by omega)
            rcases hcd1 : cdS T t0 with ⟨n1, t1⟩
            rw [hcd1] at HCD hbc
            dsimp only at HCD hbc
            have HCD := Lib.hid HCD
            have HCE1 := Lib.hid hcd1
            clear hcd1
            go_wp2_with fail
            refine (HCD.out).mono ?_
            rintro e w10 ⟨rfl, hs_, hq_⟩
            have BV := Lib.hid (SR.out.other hq_ BV.out (by decide) (by decide))
            have G1 := Lib.hid (SR.out.other hq_ G1.out (by decide) (by decide))
            have G2 := Lib.hid (SR.out.other hq_ G2.out (by decide) (by decide))
            have G3 := Lib.hid (SR.out.other hq_ G3.out (by decide) (by decide))
            have BR := Lib.hid (SR.out.other hq_ BR.out (by decide) (by decide))
            have HB := Lib.hid (hq_.below HB.out HB.out.size (by rintro i (h | h) <;> omega))
            have SR := Lib.hid hs_
            clear hs_ hq_
            clear HCD
            have zc := BV.out.cell 1
            have ff := BV.out.frozen 1
            go_wp2_with fail
            clear zc ff
            have G1 := Lib.hid (G1.out.far (p := ⟨bv, 1, none⟩) (G1.out.ne_ BV.out (by decide)) (.int .i64 n1))
            have G2 := Lib.hid (G2.out.far (p := ⟨bv, 1, none⟩) (G2.out.ne_ BV.out (by decide)) (.int .i64 n1))
            have G3 := Lib.hid (G3.out.far (p := ⟨bv, 1, none⟩) (G3.out.ne_ BV.out (by decide)) (.int .i64 n1))
            have BR := Lib.hid (BR.out.far (p := ⟨bv, 1, none⟩) (by dsimp only; omega) (.int .i64 n1))
            have HB := Lib.hid (HB.out.setCell (p := ⟨bv, 1, none⟩) (by dsimp only; omega) (.int .i64 n1))
            have SR := Lib.hid (SR.out.setv (i := 1) BV.out (.int .i64 n1))
            have hbv_ : Blk (w10.setCell ⟨bv, 1, none⟩ (.int .i64 n1)) bv 23 #[.int .i64 n0, .int .i64 n1, .int .i64 v.C, .int .i64 v.B] := BV.out.set_ 1 (.int .i64 n1)
            have BV := Lib.hid hbv_
            clear hbv_
            generalize w10.setCell ⟨bv, 1, none⟩ (.int .i64 n1) = w11 at *
            rw [rounds_succ]
            have HN := Lib.hid (show stI T v0 s0 1 = (⟨n0, n1, v.C, v.B⟩, t1) by show gS T 0 (stI T v0 s0 0).1 (stI T v0 s0 0).2 = _; rw [HST.out]; unfold gS; dsimp only; rw [HFE.out]; dsimp only; rw [HCE0.out]; dsimp only; rw [HCE1.out]; rfl)
            go_wp2_with fail
            go_roundw
            case rel => exact ⟨1, by omega, by go_num, by rw [HN.out]; exact BV.out, by rw [HN.out]; exact SR.out, by rw [HN.out]; dsimp only; omega, by rw [HN.out]; dsimp only; omega, G1.out, G2.out, G3.out, BR.out, HB.out⟩
            case measure => simp [intOf]
        · have ii := i1.out
          go_wp2_with fail
          clear ii
          refine (HFL.out).mono ?_
          rintro e w12 ⟨rfl, hs_, hq_⟩
          have BV := Lib.hid (SR.out.other hq_ BV.out (by decide) (by decide))
          have G1 := Lib.hid (SR.out.other hq_ G1.out (by decide) (by decide))
          have G2 := Lib.hid (SR.out.other hq_ G2.out (by decide) (by decide))
          have G3 := Lib.hid (SR.out.other hq_ G3.out (by decide) (by decide))
          have BR := Lib.hid (SR.out.other hq_ BR.out (by decide) (by decide))
          have HB := Lib.hid (hq_.below HB.out HB.out.size (by rintro i (h | h) <;> omega))
          have SR := Lib.hid hs_
          clear hs_ hq_
          cases f with
          | false =>
            have HN := Lib.hid (show stI T v0 s0 2 = (v, s2) by show gS T 1 (stI T v0 s0 1).1 (stI T v0 s0 1).2 = _; rw [HST.out]; unfold gS; dsimp only; rw [HFE.out]; rfl)
            go_wp2_with fail
            go_roundw
            case rel => exact ⟨2, by omega, by go_num, by rw [HN.out]; exact BV.out, by rw [HN.out]; exact SR.out, by rw [HN.out]; dsimp only; omega, by rw [HN.out]; dsimp only; omega, G1.out, G2.out, G3.out, BR.out, HB.out⟩
            case measure => simp [intOf]
          | true =>
            go_wp2_with fail
            refine wp_loop_rounds 2 ?_
            rw [rounds_succ]
            have zg := G2.out.cell 0
            go_upto_region 12 with fail
            clear zg
            have hbc := cdS_bd T s2
            have HCD := HC.out _ _ _ _ s2 SR.out (by omega) (by omega)
            rcases hcd0 : cdS T s2 with ⟨n0, t0⟩
            rw [hcd0] at HCD hbc
            dsimp only at HCD hbc
            have HCD := Lib.hid HCD
            have HCE0 := Lib.hid hcd0
            clear hcd0
            go_wp2_with fail
            refine (HCD.out).mono ?_
            rintro e w13 ⟨rfl, hs_, hq_⟩
            have BV := Lib.hid (SR.out.other hq_ BV.out (by decide) (by decide))
            have G1 := Lib.hid (SR.out.other hq_ G1.out (by decide) (by decide))
            have G2 := Lib.hid (SR.out.other hq_ G2.out (by decide) (by decide))
            have G3 := Lib.hid (SR.out.other hq_ G3.out (by decide) (by decide))
            have BR := Lib.hid (SR.out.other hq_ BR.out (by decide) (by decide))
            have HB := Lib.hid (hq_.below HB.out HB.out.size (by rintro i (h | h) <;> omega))
            have SR := Lib.hid hs_
            clear hs_ hq_
            clear HCD
            have zc := BV.out.cell 2
            have ff := BV.out.frozen 2
            go_wp2_with fail
            clear zc ff
            have G1 := Lib.hid (G1.out.far (p := ⟨bv, 2, none⟩) (G1.out.ne_ BV.out (by decide)) (.int .i64 n0))
            have G2 := Lib.hid (G2.out.far (p := ⟨bv, 2, none⟩) (G2.out.ne_ BV.out (by decide)) (.int .i64 n0))
            have G3 := Lib.hid (G3.out.far (p := ⟨bv, 2, none⟩) (G3.out.ne_ BV.out (by decide)) (.int .i64 n0))
            have BR := Lib.hid (BR.out.far (p := ⟨bv, 2, none⟩) (by dsimp only; omega) (.int .i64 n0))
            have HB := Lib.hid (HB.out.setCell (p := ⟨bv, 2, none⟩) (by dsimp only; omega) (.int .i64 n0))
            have SR := Lib.hid (SR.out.setv (i := 2) BV.out (.int .i64 n0))
            have hbv_ : Blk (w13.setCell ⟨bv, 2, none⟩ (.int .i64 n0)) bv 23 #[.int .i64 v.W, .int .i64 v.H, .int .i64 n0, .int .i64 v.B] := BV.out.set_ 2 (.int .i64 n0)
            have BV := Lib.hid hbv_
            clear hbv_
            generalize w13.setCell ⟨bv, 2, none⟩ (.int .i64 n0) = w14 at *
            rw [rounds_succ]
            have HN := Lib.hid (show stI T v0 s0 2 = (⟨v.W, v.H, n0, v.B⟩, t0) by show gS T 1 (stI T v0 s0 1).1 (stI T v0 s0 1).2 = _; rw [HST.out]; unfold gS; dsimp only; rw [HFE.out]; dsimp only; rw [HCE0.out]; rfl)
            go_wp2_with fail
            go_roundw
            case rel => exact ⟨2, by omega, by go_num, by rw [HN.out]; exact BV.out, by rw [HN.out]; exact SR.out, by rw [HN.out]; dsimp only; omega, by rw [HN.out]; dsimp only; omega, G1.out, G2.out, G3.out, BR.out, HB.out⟩
            case measure => simp [intOf]
        · have ii := i2.out
          go_wp2_with fail
          clear ii
          refine (HFL.out).mono ?_
          rintro e w15 ⟨rfl, hs_, hq_⟩
          have BV := Lib.hid (SR.out.other hq_ BV.out (by decide) (by decide))
          have G1 := Lib.hid (SR.out.other hq_ G1.out (by decide) (by decide))
          have G2 := Lib.hid (SR.out.other hq_ G2.out (by decide) (by decide))
          have G3 := Lib.hid (SR.out.other hq_ G3.out (by decide) (by decide))
          have BR := Lib.hid (SR.out.other hq_ BR.out (by decide) (by decide))
          have HB := Lib.hid (hq_.below HB.out HB.out.size (by rintro i (h | h) <;> omega))
          have SR := Lib.hid hs_
          clear hs_ hq_
          cases f with
          | false =>
            have HN := Lib.hid (show stI T v0 s0 3 = (v, s2) by show gS T 2 (stI T v0 s0 2).1 (stI T v0 s0 2).2 = _; rw [HST.out]; unfold gS; dsimp only; rw [HFE.out]; rfl)
            go_wp2_with fail
            go_roundw
            case rel => exact ⟨3, by omega, by go_num, by rw [HN.out]; exact BV.out, by rw [HN.out]; exact SR.out, by rw [HN.out]; dsimp only; omega, by rw [HN.out]; dsimp only; omega, G1.out, G2.out, G3.out, BR.out, HB.out⟩
            case measure => simp [intOf]
          | true =>
            go_wp2_with fail
            refine wp_loop_rounds 2 ?_
            rw [rounds_succ]
            have zg := G3.out.cell 0
            go_upto_region 12 with fail
            clear zg
            have hbc := cdS_bd T s2
            have HCD := HC.out _ _ _ _ s2 SR.out (by omega) (by omega)
            rcases hcd0 : cdS T s2 with ⟨n0, t0⟩
            rw [hcd0] at HCD hbc
            dsimp only at HCD hbc
            have HCD := Lib.hid HCD
            have HCE0 := Lib.hid hcd0
            clear hcd0
            go_wp2_with fail
            refine (HCD.out).mono ?_
            rintro e w16 ⟨rfl, hs_, hq_⟩
            have BV := Lib.hid (SR.out.other hq_ BV.out (by decide) (by decide))
            have G1 := Lib.hid (SR.out.other hq_ G1.out (by decide) (by decide))
            have G2 := Lib.hid (SR.out.other hq_ G2.out (by decide) (by decide))
            have G3 := Lib.hid (SR.out.other hq_ G3.out (by decide) (by decide))
            have BR := Lib.hid (SR.out.other hq_ BR.out (by decide) (by decide))
            have HB := Lib.hid (hq_.below HB.out HB.out.size (by rintro i (h | h) <;> omega))
            have SR := Lib.hid hs_
            clear hs_ hq_
            clear HCD
            have zc := BV.out.cell 3
            have ff := BV.out.frozen 3
            go_wp2_with fail
            clear zc ff
            have G1 := Lib.hid (G1.out.far (p := ⟨bv, 3, none⟩) (G1.out.ne_ BV.out (by decide)) (.int .i64 n0))
            have G2 := Lib.hid (G2.out.far (p := ⟨bv, 3, none⟩) (G2.out.ne_ BV.out (by decide)) (.int .i64 n0))
            have G3 := Lib.hid (G3.out.far (p := ⟨bv, 3, none⟩) (G3.out.ne_ BV.out (by decide)) (.int .i64 n0))
            have BR := Lib.hid (BR.out.far (p := ⟨bv, 3, none⟩) (by dsimp only; omega) (.int .i64 n0))
            have HB := Lib.hid (HB.out.setCell (p := ⟨bv, 3, none⟩) (by dsimp only; omega) (.int .i64 n0))
            have SR := Lib.hid (SR.out.setv (i := 3) BV.out (.int .i64 n0))
            have hbv_ : Blk (w16.setCell ⟨bv, 3, none⟩ (.int .i64 n0)) bv 23 #[.int .i64 v.W, .int .i64 v.H, .int .i64 v.C, .int .i64 n0] := BV.out.set_ 3 (.int .i64 n0)
            have BV := Lib.hid hbv_
            clear hbv_
            generalize w16.setCell ⟨bv, 3, none⟩ (.int .i64 n0) = w17 at *
            rw [rounds_succ]
            have HN := Lib.hid (show stI T v0 s0 3 = (⟨v.W, v.H, v.C, n0⟩, t0) by show gS T 2 (stI T v0 s0 2).1 (stI T v0 s0 2).2 = _; rw [HST.out]; unfold gS; dsimp only; rw [HFE.out]; dsimp only; rw [HCE0.out]; rfl)
            go_wp2_with fail
            go_roundw
            case rel => exact ⟨3, by omega, by go_num, by rw [HN.out]; exact BV.out, by rw [HN.out]; exact SR.out, by rw [HN.out]; dsimp only; omega, by rw [HN.out]; dsimp only; omega, G1.out, G2.out, G3.out, BR.out, HB.out⟩
            case measure => simp [intOf]
      · skip
        obtain rfl : i = 3 := by omega
        have hvv : (vz, sz) = (v, st) := by rw [HVF.out, HST.out]
        injection hvv with e1 e2
        subst e1
        subst e2
        skip
        by_cases hse : sz.e = 0
        rotate_left
        · skip
          have t1 : (sz.e != 0) = true := by simpa using hse
          have HSE := Lib.hid (show sz.e ≠ 0 from hse)
          have hr_ : ((rv, re) : Vd × Int) = (⟨0, 0, 0, 0⟩, sz.e) := by rw [HRE.out, if_neg (show ¬ ((0 : Int) ≠ 0) from fun h => h rfl)]; unfold endS; rw [if_pos HSE.out]
          injection hr_ with ra rb
          have RA := Lib.hid ra
          have RB := Lib.hid rb
          clear ra rb
          have z0 := SR.out.1.cell 0
          have z1 := SR.out.1.cell 1
          go_upto_region 16 with fail
          clear z0 z1
          have HS0 := Lib.hid SR.out.1
          have HS := HS0
          have BR0 := BR
          have HB0 := HB
          clear HB
          have HS := Lib.hid ((HS.out).drew)
          have BR := Lib.hid ((BR.out).drew)
          refine wp_region_held_drew (S := (fun w' => w'.cell? ⟨s, 0, none⟩ = some (.pointer (some ⟨g, 0, none⟩)) ∧ w'.cell? ⟨s, 1, none⟩ = some (.int .i64 sz.e))) (by kernel_rfl) ?hS0 (fun hHeld => ?_)
          case hS0 => exact ⟨(HS.out).cell 0, (HS.out).cell 1⟩
          refine wpAnyH_take (i := 0) (oi := ⟨some 49, _, _, _, _, _⟩) (v := ?v1) rfl (by kernel_rfl) (by kernel_rfl) (by kernel_rfl) (fun _ _ _ h => h) (Or.inl ⟨by rfl, ?h1⟩) (by assumption) ?r1
          case h1 => (intro w hSw; (try dsimp only at hSw); go_simp; try with_reducible rfl)
          try simp only [Act.put, List.setIfInBounds_toArray, List.set_cons_zero, List.set_cons_succ]
          refine wpAnyH_take (i := 1) (oi := ⟨some 50, _, _, _, _, _⟩) (v := ?v2) rfl (by kernel_rfl) (by kernel_rfl) (by kernel_rfl) (fun _ _ _ h => h) (Or.inl ⟨by rfl, ?h2⟩) (by assumption) ?r2
          case h2 => (intro w hSw; (try dsimp only at hSw); go_simp; try with_reducible rfl)
          try simp only [Act.put, List.setIfInBounds_toArray, List.set_cons_zero, List.set_cons_succ]
          refine wpAnyH_take (i := 2) (oi := ⟨some 51, _, _, _, _, _⟩) (v := ?v3) rfl (by kernel_rfl) (by kernel_rfl) (by kernel_rfl) (fun _ _ _ h => h) (Or.inl ⟨by rfl, ?h3⟩) (by assumption) ?r3
          case h3 => (intro w hSw; (try dsimp only at hSw); go_simp; try with_reducible rfl)
          try simp only [Act.put, List.setIfInBounds_toArray, List.set_cons_zero, List.set_cons_succ]
          refine wpAnyH_take (i := 3) (oi := ⟨some 52, _, _, _, _, _⟩) (v := ?v4) rfl (by kernel_rfl) (by kernel_rfl) (by kernel_rfl) (fun _ _ _ h => h) (Or.inl ⟨by rfl, ?h4⟩) (by assumption) ?r4
          case h4 => (intro w hSw; (try dsimp only at hSw); go_simp; try with_reducible rfl)
          try simp only [Act.put, List.setIfInBounds_toArray, List.set_cons_zero, List.set_cons_succ]
          refine wpAnyH_take (i := 4) (oi := ⟨some 53, _, _, _, _, _⟩) (v := ?v5) rfl (by kernel_rfl) (by kernel_rfl) (by kernel_rfl) (fun _ _ _ h => h) (Or.inl ⟨by rfl, ?h5⟩) (by assumption) ?r5
          case h5 => (intro w hSw; (try dsimp only at hSw); go_simp; try with_reducible rfl)
          try simp only [Act.put, List.setIfInBounds_toArray, List.set_cons_zero, List.set_cons_succ]
          refine wpAnyH_ready (rs := [5]) (by kernel_rfl) (by simp) ?_
          refine (AllReadyH.cons (o := ⟨none, _, _, _, _, _⟩) rfl (fun K hK => ?_) AllReadyH.nil)
          obtain ⟨f0, f1, f2, f3⟩ := BR0.out.frozens
          obtain ⟨y0, y1, y2, y3⟩ := BR0.out.cells4
          go_simp
          clear f0 f1 f2 f3 y0 y1 y2 y3
          have HB := Lib.hid (Below.drew ((((HB0.out.setCell (p := ⟨w.heap.size, 0, none⟩) (Nat.le_refl _) (.int .i64 0)).setCell (p := ⟨w.heap.size, 1, none⟩) (Nat.le_refl _) (.int .i64 0)).setCell (p := ⟨w.heap.size, 2, none⟩) (Nat.le_refl _) (.int .i64 0)).setCell (p := ⟨w.heap.size, 3, none⟩) (Nat.le_refl _) (.int .i64 0)))
          have HS := Lib.hid (Blk.drew ((((HS0.out.far (p := ⟨w.heap.size, 0, none⟩) (HS0.out.ne_ BR0.out (by decide)) (.int .i64 0)).far (p := ⟨w.heap.size, 1, none⟩) (HS0.out.ne_ BR0.out (by decide)) (.int .i64 0)).far (p := ⟨w.heap.size, 2, none⟩) (HS0.out.ne_ BR0.out (by decide)) (.int .i64 0)).far (p := ⟨w.heap.size, 3, none⟩) (HS0.out.ne_ BR0.out (by decide)) (.int .i64 0)))
          have BR := Lib.hid (Blk.drew (ret_four' BR0.out (.int .i64 0) (.int .i64 0) (.int .i64 0) (.int .i64 0)))
          clear HS0 BR0 HB0
          generalize ((((wo.setCell ⟨w.heap.size, 0, none⟩ (.int .i64 0)).setCell ⟨w.heap.size, 1, none⟩ (.int .i64 0)).setCell ⟨w.heap.size, 2, none⟩ (.int .i64 0)).setCell ⟨w.heap.size, 3, none⟩ (.int .i64 0)).drew = w60 at *
          refine hK.out _ _ ?hS6 (fun hHeld => ?_)
          case hS6 => exact ⟨(HS.out).cell 0, (HS.out).cell 1⟩
          clear hK K
          try simp only [Act.put, List.setIfInBounds_toArray, List.set_cons_zero, List.set_cons_succ]
          refine wpAnyH_take (i := 6) (oi := ⟨some 3, _, _, _, _, _⟩) (v := ?v7) rfl (by kernel_rfl) (by kernel_rfl) (by kernel_rfl) (fun _ _ _ h => h) (Or.inl ⟨by rfl, ?h7⟩) (by assumption) ?r7
          case h7 => (intro w hSw; (try dsimp only at hSw); go_simp; try with_reducible rfl)
          try simp only [Act.put, List.setIfInBounds_toArray, List.set_cons_zero, List.set_cons_succ]
          refine wpAnyH_done (by kernel_rfl) ?_ _
          clear hHeld
          go_wp2_with fail
          refine bodyPost_ret (results_row_tmp rfl _ _ w.heap.size 23 #[.int .i64 0, .int .i64 0, .int .i64 0, .int .i64 0] (0, 0) _ rfl BR.out Try.underlying23 rfl (by kernel_rfl)) rfl ?_
          exact ⟨by rw [RA.out, RB.out]; rfl, HB.out⟩
        · skip
          have t1 : (sz.e != 0) = false := by simpa using hse
          have HSE := Lib.hid hse
          have z0 := SR.out.1.cell 0
          have z1 := SR.out.1.cell 1
          obtain ⟨c0, c1, c2, c3⟩ := BV.out.cells4
          by_cases hc : 2 < vz.C
          · skip
            have hr_ : ((rv, re) : Vd × Int) = (⟨0, 0, 0, 0⟩, 281) := by rw [HRE.out]; rw [if_neg (show ¬ ((0 : Int) ≠ 0) from fun h => h rfl)]; unfold endS; rw [if_neg (show ¬ (sz.e ≠ 0) from fun h => h HSE.out), if_pos hc]
            injection hr_ with ra rb
            have RA := Lib.hid ra
            have RB := Lib.hid rb
            clear ra rb
            obtain ⟨f0, f1, f2, f3⟩ := BR.out.frozens
            obtain ⟨y0, y1, y2, y3⟩ := BR.out.cells4
            go_wp2_with fail
            have g8 := ret_four' BR.out (.int .i64 0) (.int .i64 0) (.int .i64 0) (.int .i64 0)
            refine bodyPost_ret (results_row_tmp rfl _ _ w.heap.size 23 #[.int .i64 0, .int .i64 0, .int .i64 0, .int .i64 0] (0, 0) _ rfl g8 Try.underlying23 rfl (by kernel_rfl)) rfl ?_
            exact ⟨by rw [RA.out, RB.out]; rfl, ((((HB.out.setCell (p := ⟨w.heap.size, 0, none⟩) (Nat.le_refl _) (.int .i64 0)).setCell (p := ⟨w.heap.size, 1, none⟩) (Nat.le_refl _) (.int .i64 0)).setCell (p := ⟨w.heap.size, 2, none⟩) (Nat.le_refl _) (.int .i64 0)).setCell (p := ⟨w.heap.size, 3, none⟩) (Nat.le_refl _) (.int .i64 0))⟩
          · skip
            have hc2 : vz.C ≤ 2 := by omega
            have t2 : decide (2 < vz.C) = false := by simp; omega
            go_wp2_with fail
            clear z0 z1 c0 c1 c2 c3
            refine (precon_c vz _).mono ?_
            rintro e w18 ⟨rfl, hb'⟩
            have BV := Lib.hid (BV.out.below hb' BV.out.lt)
            have BR := Lib.hid (BR.out.below hb' BR.out.lt)
            have HB := Lib.hid (HB.out.trans (hb'.mono HB.out.size))
            clear hb'
            obtain ⟨c0, c1, c2, c3⟩ := BV.out.cells4
            cases hrv : rightVd vz with
            | false =>
              have HRV := Lib.hid hrv
              clear hrv
              have hr_ : ((rv, re) : Vd × Int) = (⟨0, 0, 0, 0⟩, 280) := by rw [HRE.out]; rw [if_neg (show ¬ ((0 : Int) ≠ 0) from fun h => h rfl)]; unfold endS; rw [if_neg (show ¬ (sz.e ≠ 0) from fun h => h HSE.out), if_neg (by omega), if_neg (by rw [HRV.out]; decide)]
              injection hr_ with ra rb
              have RA := Lib.hid ra
              have RB := Lib.hid rb
              clear ra rb
              obtain ⟨f0, f1, f2, f3⟩ := BR.out.frozens
              obtain ⟨y0, y1, y2, y3⟩ := BR.out.cells4
              go_wp2_with fail
              have g8 := ret_four' BR.out (.int .i64 0) (.int .i64 0) (.int .i64 0) (.int .i64 0)
              refine bodyPost_ret (results_row_tmp rfl _ _ w.heap.size 23 #[.int .i64 0, .int .i64 0, .int .i64 0, .int .i64 0] (0, 0) _ rfl g8 Try.underlying23 rfl (by kernel_rfl)) rfl ?_
              exact ⟨by rw [RA.out, RB.out]; rfl, ((((HB.out.setCell (p := ⟨w.heap.size, 0, none⟩) (Nat.le_refl _) (.int .i64 0)).setCell (p := ⟨w.heap.size, 1, none⟩) (Nat.le_refl _) (.int .i64 0)).setCell (p := ⟨w.heap.size, 2, none⟩) (Nat.le_refl _) (.int .i64 0)).setCell (p := ⟨w.heap.size, 3, none⟩) (Nat.le_refl _) (.int .i64 0))⟩
            | true =>
              have HRV := Lib.hid hrv
              clear hrv
              have hr_ : ((rv, re) : Vd × Int) = (vz, 0) := by rw [HRE.out]; rw [if_neg (show ¬ ((0 : Int) ≠ 0) from fun h => h rfl)]; unfold endS; rw [if_neg (show ¬ (sz.e ≠ 0) from fun h => h HSE.out), if_neg (by omega), if_pos HRV.out]
              injection hr_ with ra rb
              have RA := Lib.hid ra
              have RB := Lib.hid rb
              clear ra rb
              obtain ⟨f0, f1, f2, f3⟩ := BR.out.frozens
              obtain ⟨y0, y1, y2, y3⟩ := BR.out.cells4
              go_wp2_with fail
              have g8 := ret_four' BR.out (.int .i64 vz.W) (.int .i64 vz.H) (.int .i64 vz.C) (.int .i64 vz.B)
              refine bodyPost_ret (results_row_tmp rfl _ _ w.heap.size 23 #[.int .i64 vz.W, .int .i64 vz.H, .int .i64 vz.C, .int .i64 vz.B] (0, 0) _ rfl g8 Try.underlying23 rfl (by kernel_rfl)) rfl ?_
              exact ⟨by rw [RA.out, RB.out]; rfl, ((((HB.out.setCell (p := ⟨w.heap.size, 0, none⟩) (Nat.le_refl _) (.int .i64 vz.W)).setCell (p := ⟨w.heap.size, 1, none⟩) (Nat.le_refl _) (.int .i64 vz.H)).setCell (p := ⟨w.heap.size, 2, none⟩) (Nat.le_refl _) (.int .i64 vz.C)).setCell (p := ⟨w.heap.size, 3, none⟩) (Nat.le_refl _) (.int .i64 vz.B))⟩

end Go.Proofs.Ytgdlleoefncikaa
