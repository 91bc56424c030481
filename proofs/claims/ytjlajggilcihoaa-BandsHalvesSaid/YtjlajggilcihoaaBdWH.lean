/- What the law BandsHalves of layer 10 answers: true. -/
import Derived.Test.YtjlajggilcihoaaBdF
import Derived.Test.YtjlajggilcihoaaOpen
namespace Go.Proofs.Ytjlajggilcihoaa
open Go.RowKit Go.Sort
set_option linter.unusedVariables false
set_option linter.unusedSimpArgs false


theorem bandK_par {w h : Int} {d k : Nat} (hok : okF w h d = true) (h4 : 4 ≤ k) (hk : k < 3 * d + 1) :
    (bandK w h d (k - 3)).l = (bandK w h d k).l - 1 ∧ (bandK w h d (k - 3)).o = (bandK w h d k).o ∧ 2 * (bandK w h d (k - 3)).w = (bandK w h d k).w ∧ 2 * (bandK w h d (k - 3)).h = (bandK w h d k).h ∧ 2 * (bandK w h d (k - 3)).x = (bandK w h d k).x ∧ 2 * (bandK w h d (k - 3)).y = (bandK w h d k).y := by
  obtain ⟨w1, w2, h1, h2, d0, d6, e1, e2⟩ := okF_t hok
  obtain ⟨l, o, rfl, o1, o3, l1⟩ : ∃ l o : Nat, k = 3 * (l + 1) + o ∧ 1 ≤ o ∧ o ≤ 3 ∧ l + 1 < d := ⟨(k - 1) / 3 - 1, (k - 1) % 3 + 1, by omega, by omega, by omega, by omega⟩
  rw [show 3 * (l + 1) + o - 3 = 3 * l + o by omega, bandK_at w h d o1 o3, bandK_at w h d o1 o3]
  unfold bandI
  have es : (d : Int) - max ((l : Int) + 1 - 1) 0 = (d : Int) - max (((l + 1 : Nat) : Int) + 1 - 1) 0 + 1 := by omega
  obtain ⟨s, hs⟩ : ∃ s, s = (d : Int) - max (((l + 1 : Nat) : Int) + 1 - 1) 0 := ⟨_, rfl⟩
  have s0 : 0 ≤ s := by omega
  have sd : s + 1 ≤ d := by omega
  rw [← hs] at es ⊢
  rw [es, p2_succ s0]
  have hw : 2 * (w / (p2 s * 2)) = w / p2 s ∧ 2 * (h / (p2 s * 2)) = h / p2 s := by
    rcases p2_in d0 d6 with ⟨q, q'⟩ | ⟨q, q'⟩ | ⟨q, q'⟩ | ⟨q, q'⟩ | ⟨q, q'⟩ | ⟨q, q'⟩ | ⟨q, q'⟩ <;> rw [q] at e1 e2 <;>
      rcases p2_in s0 (by omega) with ⟨u, u'⟩ | ⟨u, u'⟩ | ⟨u, u'⟩ | ⟨u, u'⟩ | ⟨u, u'⟩ | ⟨u, u'⟩ | ⟨u, u'⟩ <;> rw [u] <;> omega
  refine ⟨by dsimp only; omega, rfl, hw.1, hw.2, ?_, ?_⟩
  · dsimp only
    split
    · exact hw.1
    · rfl
  · dsimp only
    split
    · exact hw.2
    · rfl
theorem bandK_bd {w h : Int} {d k : Nat} (hok : okF w h d = true) (hk : k < 3 * d + 1) :
    (bandK w h d k).l = (if k = 0 then 0 else (((k - 1) / 3 + 1 : Nat) : Int)) ∧ (0 ≤ (bandK w h d k).o ∧ (bandK w h d k).o ≤ 3) ∧ (0 ≤ (bandK w h d k).x ∧ (bandK w h d k).x ≤ 1024) ∧ (0 ≤ (bandK w h d k).y ∧ (bandK w h d k).y ≤ 1024) ∧ (0 ≤ (bandK w h d k).w ∧ (bandK w h d k).w ≤ 1024) ∧ (0 ≤ (bandK w h d k).h ∧ (bandK w h d k).h ≤ 1024) := by
  obtain ⟨w1, w2, h1, h2, d0, d6, e1, e2⟩ := okF_t hok
  have hd : ∀ (n s : Int), 1 ≤ n → n ≤ 1024 → 0 ≤ s → s ≤ 6 → 0 ≤ n / p2 s ∧ n / p2 s ≤ 1024 := fun n s n1 n2 s0 s6 => by
    rcases p2_in s0 s6 with ⟨u, _⟩ | ⟨u, _⟩ | ⟨u, _⟩ | ⟨u, _⟩ | ⟨u, _⟩ | ⟨u, _⟩ | ⟨u, _⟩ <;> rw [u] <;> omega
  have hb : ∀ l o : Int, 0 ≤ l → l ≤ d → 0 ≤ o → o ≤ 3 → (0 ≤ (bandI w h d l o).o ∧ (bandI w h d l o).o ≤ 3) ∧ (0 ≤ (bandI w h d l o).x ∧ (bandI w h d l o).x ≤ 1024) ∧ (0 ≤ (bandI w h d l o).y ∧ (bandI w h d l o).y ≤ 1024) ∧ (0 ≤ (bandI w h d l o).w ∧ (bandI w h d l o).w ≤ 1024) ∧ (0 ≤ (bandI w h d l o).h ∧ (bandI w h d l o).h ≤ 1024) := fun l o l0 l1 o0 o1 => by
    have a := hd w ((d : Int) - max (l - 1) 0) w1 w2 (by omega) (by omega)
    have b := hd h ((d : Int) - max (l - 1) 0) h1 h2 (by omega) (by omega)
    unfold bandI
    refine ⟨⟨o0, o1⟩, ?_, ?_, a, b⟩
    · dsimp only; split
      · exact a
      · omega
    · dsimp only; split
      · exact b
      · omega
  unfold bandK
  split
  · exact ⟨rfl, hb 0 0 (by omega) (by omega) (by omega) (by omega)⟩
  · exact ⟨rfl, hb _ _ (by omega) (by omega) (by omega) (by omega)⟩
theorem getK {w h d : Int} {n i : Nat} (hi : i < (bandsK w h d n).length) : (bandsK w h d n)[i] = bandK w h d i := by simp [bandsK]
set_option maxRecDepth 100000 in
set_option maxHeartbeats 16000000 in
theorem halves_c (w h dd : Int) (w_ : World) (w0 : 0 ≤ w) (w255 : w ≤ 255) (h0 : 0 ≤ h) (h255 : h ≤ 255) (d0 : 0 ≤ dd) (d255 : dd ≤ 255) :
    Calls Try.prog 4 #[.int .u8 w, .int .u8 h, .int .u8 dd] w_ fun e w' => e = .returned (.bool true) ∧ Below w_.heap.size w_ w' := by
  obtain ⟨r, F1, r0, r1⟩ : ∃ r : Int, dd.tmod 7 = r ∧ 0 ≤ r ∧ r ≤ 6 := ⟨_, rfl, by rw [Int.tmod_eq_emod_of_nonneg d0]; omega, by rw [Int.tmod_eq_emod_of_nonneg d0]; omega⟩
  obtain ⟨wa, F2, wa0, wa1⟩ : ∃ a : Int, w.tmod 16 = a ∧ 0 ≤ a ∧ a ≤ 15 := ⟨_, rfl, by rw [Int.tmod_eq_emod_of_nonneg w0]; omega, by rw [Int.tmod_eq_emod_of_nonneg w0]; omega⟩
  obtain ⟨ha, F3, ha0, ha1⟩ : ∃ a : Int, h.tmod 16 = a ∧ 0 ≤ a ∧ a ≤ 15 := ⟨_, rfl, by rw [Int.tmod_eq_emod_of_nonneg h0]; omega, by rw [Int.tmod_eq_emod_of_nonneg h0]; omega⟩
  obtain ⟨n, rfl⟩ := Int.eq_ofNat_of_zero_le r0
  have FQ0 : p2 (n : Int) = 2 ^ n := by unfold p2; rw [Int.toNat_natCast]
  have hp := p2_in r0 r1
  obtain ⟨q, hq⟩ : ∃ q, p2 (n : Int) = q := ⟨_, rfl⟩
  have FQ : (2 : Int) ^ n = q := by rw [← FQ0, hq]
  have FQ2 : (2 : Int) ^ ((n : Int)).toNat = q := by rw [Int.toNat_natCast, FQ]
  obtain ⟨W, FW⟩ : ∃ W, (1 + wa) * q = W := ⟨_, rfl⟩
  obtain ⟨H, FH⟩ : ∃ H, (1 + ha) * q = H := ⟨_, rfl⟩
  have hok : okF W H n = true := by
    unfold okF; rw [hq] at hp ⊢; apply decide_eq_true; rw [← FW, ← FH]
    rcases hp with ⟨e, _⟩ | ⟨e, _⟩ | ⟨e, _⟩ | ⟨e, _⟩ | ⟨e, _⟩ | ⟨e, _⟩ | ⟨e, _⟩ <;> rw [e] <;> omega
  have hbd := okF_t hok
  have W0 : 1 ≤ W := hbd.1
  have W1 : W ≤ 1024 := hbd.2.1
  have H0 : 1 ≤ H := hbd.2.2.1
  have H1 : H ≤ 1024 := hbd.2.2.2.1
  have G1 : IntKind.i64.wrap (n : Int) = n := IntWalk.i64_in _ (by omega)
  have G2 : IntKind.i64.wrap wa = wa := IntWalk.i64_in _ (by omega)
  have G3 : IntKind.i64.wrap ha = ha := IntWalk.i64_in _ (by omega)
  have G4 : IntKind.i64.wrap (1 + wa) = 1 + wa := IntWalk.i64_in _ (by omega)
  have G5 : IntKind.i64.wrap (1 + ha) = 1 + ha := IntWalk.i64_in _ (by omega)
  have G6 : IntKind.i64.wrap W = W := IntWalk.i64_in _ (by omega)
  have G7 : IntKind.i64.wrap H = H := IntWalk.i64_in _ (by omega)
  have HOK := Lib.hid hok
  have HL := Lib.hid (show bandsI W H n = bandsK W H n (3 * n + 1) by unfold bandsI; rw [if_pos hok, Int.toNat_natCast])
  have HN := Lib.hid (show cntI (n : Int) = ((3 * n + 1 : Nat) : Int) by unfold cntI; rw [if_pos ⟨r0, r1⟩]; omega)
  have n64 : (n : Int) ≤ 64 := by omega
  have n6 : n ≤ 6 := by omega
  have HB := Lib.hid (Below.refl w_.heap.size w_)
  have HB1 := Lib.hid (Below.refl w_.heap.size w_)
  clear hok hbd hp hq FQ0
  go_enter Try.func4, Try.ntmps4
  go_wp2_with fail
  refine (first_c _).mono ?_
  rintro e w1 ⟨rfl, hb'⟩
  have HB1 := Lib.hid ((HB1.out).trans (hb'.mono (HB1.out).size))
  clear hb'
  go_upto_region 4 with fail
  have HB1 := Lib.hid ((HB1.out).drew)
  refine wp_region_held_drew (S := (fun _ => True)) (by kernel_rfl) ?hS0 (fun hHeld => ?_)
  case hS0 => exact trivial
  refine wpAnyH_take (i := 0) (oi := ⟨some 18, _, _, _, _, _⟩) (v := ?v40) rfl (by kernel_rfl) (by kernel_rfl) (by kernel_rfl) (fun _ _ _ h => h) (Or.inl ⟨by rfl, ?h40⟩) (by assumption) ?r40
  case h40 => (intro w hSw; (try dsimp only at hSw); go_simp; try with_reducible rfl)
  try simp only [Act.put, List.setIfInBounds_toArray, List.set_cons_zero, List.set_cons_succ]
  refine wpAnyH_take (i := 1) (oi := ⟨some 19, _, _, _, _, _⟩) (v := ?v41) rfl (by kernel_rfl) (by kernel_rfl) (by kernel_rfl) (fun _ _ _ h => h) (Or.inl ⟨by rfl, ?h41⟩) (by assumption) ?r41
  case h41 => (intro w hSw; (try dsimp only at hSw); go_simp; try with_reducible rfl)
  try simp only [Act.put, List.setIfInBounds_toArray, List.set_cons_zero, List.set_cons_succ]
  refine wpAnyH_take (i := 2) (oi := ⟨some 20, _, _, _, _, _⟩) (v := ?v42) rfl (by kernel_rfl) (by kernel_rfl) (by kernel_rfl) (fun _ _ _ h => h) (Or.inl ⟨by rfl, ?h42⟩) (by assumption) ?r42
  case h42 => (intro w hSw; (try dsimp only at hSw); go_simp; try with_reducible rfl)
  try simp only [Act.put, List.setIfInBounds_toArray, List.set_cons_zero, List.set_cons_succ]
  refine wpAnyH_take (i := 3) (oi := ⟨some 21, _, _, _, _, _⟩) (v := ?v43) rfl (by kernel_rfl) (by kernel_rfl) (by kernel_rfl) (fun _ _ _ h => h) (Or.inl ⟨by rfl, ?h43⟩) (by assumption) ?r43
  case h43 => (intro w hSw; (try dsimp only at hSw); go_simp; try with_reducible rfl)
  try simp only [Act.put, List.setIfInBounds_toArray, List.set_cons_zero, List.set_cons_succ]
  refine wpAnyH_take (i := 4) (oi := ⟨some 22, _, _, _, _, _⟩) (v := ?v44) rfl (by kernel_rfl) (by kernel_rfl) (by kernel_rfl) (fun _ _ _ h => h) (Or.inl ⟨by rfl, ?h44⟩) (by assumption) ?r44
  case h44 => (intro w hSw; (try dsimp only at hSw); go_simp; try with_reducible rfl)
  try simp only [Act.put, List.setIfInBounds_toArray, List.set_cons_zero, List.set_cons_succ]
  refine wpAnyH_take (i := 5) (oi := ⟨some 23, _, _, _, _, _⟩) (v := ?v45) rfl (by kernel_rfl) (by kernel_rfl) (by kernel_rfl) (fun _ _ _ h => h) (Or.inl ⟨by rfl, ?h45⟩) (by assumption) ?r45
  case h45 => (intro w hSw; (try dsimp only at hSw); go_simp; try with_reducible rfl)
  try simp only [Act.put, List.setIfInBounds_toArray, List.set_cons_zero, List.set_cons_succ]
  refine wpAnyH_take (i := 6) (oi := ⟨some 24, _, _, _, _, _⟩) (v := ?v46) rfl (by kernel_rfl) (by kernel_rfl) (by kernel_rfl) (fun _ _ _ h => h) (Or.inl ⟨by rfl, ?h46⟩) (by assumption) ?r46
  case h46 => (intro w hSw; (try dsimp only at hSw); go_simp; try with_reducible rfl)
  try simp only [Act.put, List.setIfInBounds_toArray, List.set_cons_zero, List.set_cons_succ]
  refine wpAnyH_take (i := 7) (oi := ⟨some 25, _, _, _, _, _⟩) (v := ?v47) rfl (by kernel_rfl) (by kernel_rfl) (by kernel_rfl) (fun _ _ _ h => h) (Or.inl ⟨by rfl, ?h47⟩) (by assumption) ?r47
  case h47 => (intro w hSw; (try dsimp only at hSw); go_simp; try with_reducible rfl)
  try simp only [Act.put, List.setIfInBounds_toArray, List.set_cons_zero, List.set_cons_succ]
  refine wpAnyH_take (i := 8) (oi := ⟨some 26, _, _, _, _, _⟩) (v := ?v48) rfl (by kernel_rfl) (by kernel_rfl) (by kernel_rfl) (fun _ _ _ h => h) (Or.inl ⟨by rfl, ?h48⟩) (by assumption) ?r48
  case h48 => (intro w hSw; (try dsimp only at hSw); go_simp; try with_reducible rfl)
  try simp only [Act.put, List.setIfInBounds_toArray, List.set_cons_zero, List.set_cons_succ]
  refine wpAnyH_take (i := 9) (oi := ⟨some 27, _, _, _, _, _⟩) (v := ?v49) rfl (by kernel_rfl) (by kernel_rfl) (by kernel_rfl) (fun _ _ _ h => h) (Or.inl ⟨by rfl, ?h49⟩) (by assumption) ?r49
  case h49 => (intro w hSw; (try dsimp only at hSw); go_simp; try with_reducible rfl)
  try simp only [Act.put, List.setIfInBounds_toArray, List.set_cons_zero, List.set_cons_succ]
  refine wpAnyH_take (i := 10) (oi := ⟨some 28, _, _, _, _, _⟩) (v := ?v50) rfl (by kernel_rfl) (by kernel_rfl) (by kernel_rfl) (fun _ _ _ h => h) (Or.inl ⟨by rfl, ?h50⟩) (by assumption) ?r50
  case h50 => (intro w hSw; (try dsimp only at hSw); go_simp; try with_reducible rfl)
  try simp only [Act.put, List.setIfInBounds_toArray, List.set_cons_zero, List.set_cons_succ]
  refine wpAnyH_take (i := 11) (oi := ⟨some 29, _, _, _, _, _⟩) (v := ?v51) rfl (by kernel_rfl) (by kernel_rfl) (by kernel_rfl) (fun _ _ _ h => h) (Or.inl ⟨by rfl, ?h51⟩) (by assumption) ?r51
  case h51 => (intro w hSw; (try dsimp only at hSw); go_simp; try with_reducible rfl)
  try simp only [Act.put, List.setIfInBounds_toArray, List.set_cons_zero, List.set_cons_succ]
  refine wpAnyH_take (i := 12) (oi := ⟨some 30, _, _, _, _, _⟩) (v := ?v52) rfl (by kernel_rfl) (by kernel_rfl) (by kernel_rfl) (fun _ _ _ h => h) (Or.inl ⟨by rfl, ?h52⟩) (by assumption) ?r52
  case h52 => (intro w hSw; (try dsimp only at hSw); go_simp; try with_reducible rfl)
  try simp only [Act.put, List.setIfInBounds_toArray, List.set_cons_zero, List.set_cons_succ]
  refine wpAnyH_ready (rs := [13]) (by kernel_rfl) (by simp) ?_
  refine (AllReadyH.cons (o := ⟨some 31, _, _, _, _, _⟩) rfl (fun K hK => ?_) AllReadyH.nil)
  go_simp
  have HS1 := HB1
  refine (blist_c W H n _).mono ?_
  rintro e w2 ⟨v, rfl, ho, hb'⟩
  have HB1 := Lib.hid ((HB1.out).trans (hb'.mono (HB1.out).size))
  clear hb'
  rw [HL.out] at ho
  obtain ⟨A1, c1, rfl, hq⟩ := ho.slice
  have RL := Lib.hid hq
  rw [bandsK_length]
  clear ho hq
  refine hK.out _ _ ?hS53 (fun hHeld => ?_)
  case hS53 => exact trivial
  clear hK K
  try simp only [Act.put, List.setIfInBounds_toArray, List.set_cons_zero, List.set_cons_succ]
  refine wpAnyH_take (i := 14) (oi := ⟨some 8, _, _, _, _, _⟩) (v := ?v54) rfl (by kernel_rfl) (by kernel_rfl) (by kernel_rfl) (fun _ _ _ h => h) (Or.inl ⟨by rfl, ?h54⟩) (by assumption) ?r54
  case h54 => (intro w hSw; (try dsimp only at hSw); go_simp; try with_reducible rfl)
  try simp only [Act.put, List.setIfInBounds_toArray, List.set_cons_zero, List.set_cons_succ]
  refine wpAnyH_done (by kernel_rfl) ?_ _
  clear hHeld
  have HB := Lib.hid HB1.out
  obtain ⟨N, hN⟩ : ∃ N, N = 3 * n + 1 := ⟨_, rfl⟩
  rw [← hN] at HN HL RL ⊢
  have HNN := Lib.hid hN
  have N19 : N ≤ 19 := by omega
  have HLN := Lib.hid (bandsK_length W H (n : Int) N)
  clear hN
  have HB1 := Lib.hid (Below.refl w2.heap.size w2)
  go_wp2_with fail
  refine (Calls.bel (bcount_c n _)).mono ?_
  rintro e w3 ⟨rfl, hb'⟩
  have HB1 := Lib.hid ((HB1.out).trans (hb'.mono (HB1.out).size))
  clear hb'
  rw [HN.out]
  go_wp2_with fail
  go_loopw [39] (fun v wr => ∃ k : Nat, k ≤ N ∧ v = .int .i64 k ∧ Below w2.heap.size w2 wr) (fun v _ => N - (intOf v).toNat)
  case atStart => exact ⟨0, Nat.zero_le _, rfl, HB1.out⟩
  case round =>
    obtain ⟨k, hk, rfl, hb⟩ := hrel
    have HB1 := Lib.hid hb
    obtain ⟨wo, ewo⟩ : ∃ wo, wo = wr := ⟨_, rfl⟩
    subst ewo
    clear hb
    by_cases hlt : k < N
    · skip
      have hkl : k < (bandsK W H (n : Int) N).length := by rw [HLN.out]; exact hlt
      obtain ⟨ad, rfl, _, d0, d1, d2, d3, d4, d5⟩ := ReadsB.at_ (RL.out.kept HB1.out) hkl
      rw [getK hkl] at d0 d1 d2 d3 d4 d5
      have bd := bandK_bd (k := k) HOK.out (by have := HNN.out; omega)
      have i1 : (0 : Int) ≤ (k : Int) := by omega
      have i2 : (k : Int) < (N : Int) := by omega
      by_cases h4 : 4 ≤ k
      · skip
        obtain ⟨k3, hk3⟩ : ∃ k3, k3 = k - 3 := ⟨_, rfl⟩
        have hp := bandK_par (k := k) HOK.out h4 (by have := HNN.out; omega)
        rw [← hk3] at hp
        have bd3 := bandK_bd (k := k3) HOK.out (by have := HNN.out; omega)
        have hkl3 : k3 < (bandsK W H (n : Int) N).length := by rw [HLN.out]; omega
        obtain ⟨pp, hpp⟩ : ∃ p, p = bandK W H n k3 := ⟨_, rfl⟩
        obtain ⟨bb, hbb⟩ : ∃ p, p = bandK W H n k := ⟨_, rfl⟩
        rw [← hpp, ← hbb] at hp
        rw [← hpp] at bd3
        rw [← hbb] at bd d0 d1 d2 d3 d4 d5
        have EP := Lib.hid hpp
        clear hpp hbb bd
        obtain ⟨pl, po, px, py, pw, ph⟩ := pp
        obtain ⟨bl, bo, bx, by_, bw, bh⟩ := bb
        dsimp only at hp bd3 d0 d1 d2 d3 d4 d5
        obtain ⟨p1, p2', p3, p4, p5, p6⟩ := hp
        obtain rfl : bl = pl + 1 := by omega
        subst p2' p3 p4 p5 p6
        obtain ⟨q1, ⟨q2, q3⟩, ⟨q4, q5⟩, ⟨q6, q7⟩, ⟨q8, q9⟩, ⟨q10, q11⟩⟩ := bd3
        have l0 : 1 ≤ pl := by rw [q1]; split <;> omega
        have l1 : pl ≤ 10 := by rw [q1]; split <;> omega
        clear q1 p1
        have HP := Lib.hid (show parI (k : Int) = (k3 : Int) by unfold parI; rw [if_neg (by omega)]; omega)
        have j1 : (0 : Int) ≤ (k3 : Int) := by omega
        have j2 : (k3 : Int) < (N : Int) := by omega
        have j3 : ¬ (k3 : Int) < 0 := by omega
        have E1 : pl + 1 - 1 = pl := by omega
        have c1 : decide ((k3 : Int) < 0) = false := decide_eq_false j3
        have c2 : decide (pl + 1 < 2) = false := decide_eq_false (by omega)
        have HK3 := Lib.hid hkl3
        clear hk3 hkl3
        go_upto_region 10 with fail
        clear d0 d1 d2 d3 d4 d5
        have HB1 := Lib.hid (below_alloc_ (HB1.out) (.cells #[.int .i64 (pl + 1), .int .i64 po, .int .i64 (2 * px), .int .i64 (2 * py), .int .i64 (2 * pw), .int .i64 (2 * ph)] 31))
        have hzw : (wo.alloc (.cells #[.int .i64 (pl + 1), .int .i64 po, .int .i64 (2 * px), .int .i64 (2 * py), .int .i64 (2 * pw), .int .i64 (2 * ph)] 31)).heap.size = wo.heap.size + 1 := by simp only [World.size_alloc]
        have BA := Blk.new (wo) 31 #[.int .i64 (pl + 1), .int .i64 po, .int .i64 (2 * px), .int .i64 (2 * py), .int .i64 (2 * pw), .int .i64 (2 * ph)]
        skip
        have BA := Lib.hid BA
        generalize wo.alloc (.cells #[.int .i64 (pl + 1), .int .i64 po, .int .i64 (2 * px), .int .i64 (2 * py), .int .i64 (2 * pw), .int .i64 (2 * ph)] 31) = w4 at *
        clear hzw
        obtain ⟨zBA0, zBA1, zBA2, zBA3, zBA4, zBA5⟩ := (BA.out).cells6
        go_wp2_with fail
        refine (bparent_c k _).mono ?_
        rintro e wz ⟨rfl, rfl⟩
        rw [HP.out]
        obtain ⟨ad2, e7, _, g0, g1, g2, g3, g4, g5⟩ := ReadsB.at_ (RL.out.kept HB1.out) HK3.out
        injection e7 with e7
        subst e7
        rw [getK HK3.out, ← EP.out] at g0 g1 g2 g3 g4 g5
        dsimp only at g0 g1 g2 g3 g4 g5
        go_upto_region 15 with fail
        clear g0 g1 g2 g3 g4 g5
        clear zBA0 zBA1 zBA2 zBA3 zBA4 zBA5
        have HB1 := Lib.hid (below_alloc_ (HB1.out) (.cells #[.int .i64 pl, .int .i64 po, .int .i64 px, .int .i64 py, .int .i64 pw, .int .i64 ph] 31))
        have BA := Lib.hid ((BA.out).alloc (.cells #[.int .i64 pl, .int .i64 po, .int .i64 px, .int .i64 py, .int .i64 pw, .int .i64 ph] 31))
        have hzw : (w4.alloc (.cells #[.int .i64 pl, .int .i64 po, .int .i64 px, .int .i64 py, .int .i64 pw, .int .i64 ph] 31)).heap.size = w4.heap.size + 1 := by simp only [World.size_alloc]
        have BP := Blk.new (w4) 31 #[.int .i64 pl, .int .i64 po, .int .i64 px, .int .i64 py, .int .i64 pw, .int .i64 ph]
        skip
        have BP := Lib.hid BP
        generalize w4.alloc (.cells #[.int .i64 pl, .int .i64 po, .int .i64 px, .int .i64 py, .int .i64 pw, .int .i64 ph] 31) = w5 at *
        clear hzw
        obtain ⟨zBA0, zBA1, zBA2, zBA3, zBA4, zBA5⟩ := (BA.out).cells6
        obtain ⟨zBP0, zBP1, zBP2, zBP3, zBP4, zBP5⟩ := (BP.out).cells6
        go_wp2_with fail
        clear zBA0 zBA1 zBA2 zBA3 zBA4 zBA5
        clear zBP0 zBP1 zBP2 zBP3 zBP4 zBP5
        go_roundw
        case rel => exact ⟨k + 1, by omega, by go_num, HB1.out⟩
        case measure => simp [intOf]; omega
      · skip
        have HP := Lib.hid (show parI (k : Int) = -1 by unfold parI; rw [if_pos (by omega)])
        generalize bandK W H n k = bb at *
        obtain ⟨bl, bo, bx, by_, bw, bh⟩ := bb
        dsimp only at *
        have hl : bl < 2 := by rw [bd.1]; split <;> omega
        have hl2 : 0 ≤ bl := by rw [bd.1]; split <;> omega
        have c1 : decide (bl < 2) = true := decide_eq_true hl
        clear bd
        go_upto_region 10 with fail
        clear d0 d1 d2 d3 d4 d5
        have HB1 := Lib.hid (below_alloc_ (HB1.out) (.cells #[.int .i64 bl, .int .i64 bo, .int .i64 bx, .int .i64 by_, .int .i64 bw, .int .i64 bh] 31))
        have hzw : (wo.alloc (.cells #[.int .i64 bl, .int .i64 bo, .int .i64 bx, .int .i64 by_, .int .i64 bw, .int .i64 bh] 31)).heap.size = wo.heap.size + 1 := by simp only [World.size_alloc]
        have BA := Blk.new (wo) 31 #[.int .i64 bl, .int .i64 bo, .int .i64 bx, .int .i64 by_, .int .i64 bw, .int .i64 bh]
        skip
        have BA := Lib.hid BA
        generalize wo.alloc (.cells #[.int .i64 bl, .int .i64 bo, .int .i64 bx, .int .i64 by_, .int .i64 bw, .int .i64 bh] 31) = w4 at *
        clear hzw
        obtain ⟨zBA0, zBA1, zBA2, zBA3, zBA4, zBA5⟩ := (BA.out).cells6
        go_wp2_with fail
        refine (bparent_c k _).mono ?_
        rintro e wz ⟨rfl, rfl⟩
        rw [HP.out]
        go_wp2_with fail
        clear zBA0 zBA1 zBA2 zBA3 zBA4 zBA5
        go_roundw
        case rel => exact ⟨k + 1, by omega, by go_num, HB1.out⟩
        case measure => simp [intOf]; omega
    · skip
      obtain rfl : k = N := by omega
      go_wp2_with fail
      go_ret
      exact ⟨rfl, HB.out.trans (HB1.out.mono HB.out.size)⟩

theorem bandsHalves_walk (x0 x1 x2 : Int) (v0 v1 v2 : Value) (w : World) (k0 : IsInt .u8 v0 x0) (k1 : IsInt .u8 v1 x1) (k2 : IsInt .u8 v2 x2) :
    Calls Try.prog 4 #[v0, v1, v2] w fun e w' => e = .returned (.bool true) ∧ Below w.heap.size w w' := by
  have b0 := k0.bd8
  have b1 := k1.bd8
  have b2 := k2.bd8
  obtain ⟨rfl, _⟩ := k0
  obtain ⟨rfl, _⟩ := k1
  obtain ⟨rfl, _⟩ := k2
  exact halves_c x0 x1 x2 w b0.1 b0.2 b1.1 b1.2 b2.1 b2.2

end Go.Proofs.Ytjlajggilcihoaa
