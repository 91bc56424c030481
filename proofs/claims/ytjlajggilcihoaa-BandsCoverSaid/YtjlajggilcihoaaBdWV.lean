/- What the law BandsCover of layer 10 answers: true. -/
import Derived.Test.YtjlajggilcihoaaBdWC
import Derived.Test.YtjlajggilcihoaaBdC1
namespace Go.Proofs.Ytjlajggilcihoaa
open Go.RowKit Go.Sort
set_option linter.unusedVariables false
set_option linter.unusedSimpArgs false

theorem getBK {w h d : Int} {n i : Nat} (hi : i < (bandsK w h d n).length) : (bandsK w h d n)[i] = bandK w h d i := by simp [bandsK]
theorem lay_next {a c d k : Nat} {V : List Int} (hok : okF a c d = true) (hl : V.length = a * c) {l o : Int} {x y bw bh : Nat} (hb : bandK a c d k = ⟨l, o, x, y, bw, bh⟩) (b1 : 1 ≤ bw) (b2 : 1 ≤ bh) (hx : x + bw ≤ a) (hy : y + bh ≤ c) :
    layB a c (qL a c d a V k).length ⟨l, o, x, y, bw, bh⟩ bw bh (cutL V a x y bw (bw * bh)).length = true ∧ layV a c (qL a c d a V k) ⟨l, o, x, y, bw, bh⟩ bw bh (cutL V a x y bw (bw * bh)) = qL a c d a V (k + 1) := by
  obtain ⟨w1, w2, h1, h2, _, _, _, _⟩ := okF_t hok
  have hq : (qL a c d a V k).length = V.length := tab_length _ _
  have hB : layB a c (qL a c d a V k).length ⟨l, o, x, y, bw, bh⟩ bw bh (cutL V a x y bw (bw * bh)).length = true := by
    unfold layB inB
    rw [hq, hl, okB_mk (by omega) (by omega) (by omega) (by omega), cutL_length, okB_mk b1 (by omega) b2 (by omega)]
    simp
    omega
  refine ⟨hB, ?_⟩
  unfold layV
  rw [if_pos hB]
  simp only [Int.toNat_natCast]
  rw [hq]
  have hb' : bandK a c d k = ⟨(bandK a c d k).l, (bandK a c d k).o, x, y, bw, bh⟩ := by rw [hb]
  exact qL_succ a c d hb' hx
theorem qL_all {a c d : Nat} {V : List Int} (hok : okF a c d = true) (hl : V.length = a * c) : qL a c d a V (3 * d + 1) = V := by
  unfold qL
  conv => rhs; rw [← tab_rdn V]
  refine tab_congr fun i hi => ?_
  rw [cov_all hok (by omega)]
  rfl
theorem nL_all {a c d : Nat} {n : Nat} (hok : okF a c d = true) (hl : n = a * c) {i : Nat} (hi : i < n) : rdn (nL a c d a n (3 * d + 1)) i = 1 := by
  unfold nL
  rw [rdn_tab _ _ hi]
  exact cov_all hok (by omega)
theorem RowI.ownn {w : World} {B g n : Nat} {xs : List Int} (h : RowI w g xs) (hB : B ≤ g) (hm : xs.length ≤ maxLen) (hn : xs.length = n) : OwnI w B (.slice (some ⟨g, 0, none⟩) n n) xs := by
  subst hn
  exact h.own hB hm
set_option maxRecDepth 100000 in
set_option maxHeartbeats 16000000 in
theorem bco_1 (W H : Int) (V : List Int) (A : Option Addr) (c : Nat) (dep : Int) (w : World) (hR : ReadsI w A V) (hc : V.length ≤ c) (hc2 : c ≤ 9223372036854775807) (d0 : 0 ≤ dep) (d1 : dep ≤ 255) (h1 : 5000 < V.length) :
    Calls Try.prog 6 #[plV W H (.slice A V.length c), .int .u8 dep] w fun e w' => e = .returned (.bool true) ∧ Below w.heap.size w w' := by
  have RP := Lib.hid hR
  have HB := Lib.hid (Below.refl w.heap.size w)
  obtain ⟨dd, F1, F2, F3⟩ : ∃ dd : Nat, dep.tmod 7 = dd ∧ dd ≤ 6 ∧ dd = (dep % 7).toNat := ⟨(dep % 7).toNat, by rw [Int.tmod_eq_emod_of_nonneg d0]; omega, by omega, rfl⟩
  have F4 : IntKind.i64.wrap (dd : Int) = dd := IntWalk.i64_in _ (by omega)
  have F5 : (0 : Int) ≤ (dd : Int) := by omega
  have q1 : (5000 : Int) < (V.length : Int) := by omega
  have HL1 := Lib.hid (bandsI_len W H dd)
  clear h1
  clear hR F3
  go_enter Try.func6, Try.ntmps6
  go_wp2_with fail
  have RP := Lib.hid ((RP.out).alloc (.cells #[.int .i64 W, .int .i64 H, .slice A V.length c] 39))
  have HB := Lib.hid (below_alloc_ (HB.out) (.cells #[.int .i64 W, .int .i64 H, .slice A V.length c] 39))
  have hzw : (w.alloc (.cells #[.int .i64 W, .int .i64 H, .slice A V.length c] 39)).heap.size = w.heap.size + 1 := by simp only [World.size_alloc]
  have B2 := Blk.new (w) 39 #[.int .i64 W, .int .i64 H, .slice A V.length c]
  skip
  have B2 := Lib.hid B2
  generalize w.alloc (.cells #[.int .i64 W, .int .i64 H, .slice A V.length c] 39) = w1 at *
  clear hzw
  have HB1 := Lib.hid (Below.refl w1.heap.size w1)
  refine (first_c _).mono ?_
  rintro e w2 ⟨rfl, hb'⟩
  have HB1 := Lib.hid ((HB1.out).trans (hb'.mono (HB1.out).size))
  clear hb'
  obtain ⟨zB20, zB21, zB22⟩ := (B2.out.below HB1.out B2.out.lt).cells3
  go_wp2_with fail
  clear zB20 zB21 zB22
  refine (blist_c W H dd _).mono ?_
  rintro e w3 ⟨v, rfl, ho, hb'⟩
  have HB1 := Lib.hid ((HB1.out).trans (hb'.mono (HB1.out).size))
  clear hb'
  obtain ⟨A1, c1, rfl, hq⟩ := ho.slice
  have RL := Lib.hid hq
  clear ho hq
  have HL2 : (bandsI W H dd).length ≤ 19 := HL1.out
  clear RL
  generalize (bandsI W H dd).length = N at *
  obtain ⟨zB20, zB21, zB22⟩ := (B2.out.below HB1.out B2.out.lt).cells3
  go_wp2_with fail
  clear zB20 zB21 zB22
  go_ret
  exact ⟨rfl, HB.out.trans (HB1.out.mono HB.out.size)⟩

set_option maxRecDepth 100000 in
set_option maxHeartbeats 16000000 in
theorem bco_2 (W H : Int) (V : List Int) (A : Option Addr) (c : Nat) (dep : Int) (w : World) (hR : ReadsI w A V) (hc : V.length ≤ c) (hc2 : c ≤ 9223372036854775807) (d0 : 0 ≤ dep) (d1 : dep ≤ 255) (h1 : ¬ 5000 < V.length) (h2 : okB W H V.length = false) :
    Calls Try.prog 6 #[plV W H (.slice A V.length c), .int .u8 dep] w fun e w' => e = .returned (.bool true) ∧ Below w.heap.size w w' := by
  have RP := Lib.hid hR
  have HB := Lib.hid (Below.refl w.heap.size w)
  obtain ⟨dd, F1, F2, F3⟩ : ∃ dd : Nat, dep.tmod 7 = dd ∧ dd ≤ 6 ∧ dd = (dep % 7).toNat := ⟨(dep % 7).toNat, by rw [Int.tmod_eq_emod_of_nonneg d0]; omega, by omega, rfl⟩
  have F4 : IntKind.i64.wrap (dd : Int) = dd := IntWalk.i64_in _ (by omega)
  have F5 : (0 : Int) ≤ (dd : Int) := by omega
  have q1 : (V.length : Int) ≤ 5000 := by omega
  have G2 := Lib.hid h2
  clear h1 h2
  clear hR F3
  go_enter Try.func6, Try.ntmps6
  go_wp2_with fail
  have RP := Lib.hid ((RP.out).alloc (.cells #[.int .i64 W, .int .i64 H, .slice A V.length c] 39))
  have HB := Lib.hid (below_alloc_ (HB.out) (.cells #[.int .i64 W, .int .i64 H, .slice A V.length c] 39))
  have hzw : (w.alloc (.cells #[.int .i64 W, .int .i64 H, .slice A V.length c] 39)).heap.size = w.heap.size + 1 := by simp only [World.size_alloc]
  have B2 := Blk.new (w) 39 #[.int .i64 W, .int .i64 H, .slice A V.length c]
  skip
  have B2 := Lib.hid B2
  generalize w.alloc (.cells #[.int .i64 W, .int .i64 H, .slice A V.length c] 39) = w1 at *
  clear hzw
  have HB1 := Lib.hid (Below.refl w1.heap.size w1)
  refine (first_c _).mono ?_
  rintro e w2 ⟨rfl, hb'⟩
  have HB1 := Lib.hid ((HB1.out).trans (hb'.mono (HB1.out).size))
  clear hb'
  obtain ⟨zB20, zB21, zB22⟩ := (B2.out.below HB1.out B2.out.lt).cells3
  go_wp2_with fail
  clear zB20 zB21 zB22
  refine (blist_c W H dd _).mono ?_
  rintro e w3 ⟨v, rfl, ho, hb'⟩
  have HB1 := Lib.hid ((HB1.out).trans (hb'.mono (HB1.out).size))
  clear hb'
  obtain ⟨A1, c1, rfl, hq⟩ := ho.slice
  have RL := Lib.hid hq
  clear ho hq
  clear RL
  generalize (bandsI W H dd).length = N at *
  obtain ⟨zB20, zB21, zB22⟩ := (B2.out.below HB1.out B2.out.lt).cells3
  go_wp2_with fail
  clear zB20 zB21 zB22
  refine (rright_c W H A V.length c _ (by omega)).mono ?_
  rintro e w4 ⟨rfl, hb'⟩
  have HB1 := Lib.hid ((HB1.out).trans (hb'.mono (HB1.out).size))
  clear hb'
  rw [G2.out]
  go_wp2_with fail
  go_ret
  exact ⟨rfl, HB.out.trans (HB1.out.mono HB.out.size)⟩

set_option maxRecDepth 100000 in
set_option maxHeartbeats 16000000 in
theorem bco_3 (W H : Int) (V : List Int) (A : Option Addr) (c : Nat) (dep : Int) (w : World) (hR : ReadsI w A V) (hc : V.length ≤ c) (hc2 : c ≤ 9223372036854775807) (d0 : 0 ≤ dep) (d1 : dep ≤ 255) (h1 : ¬ 5000 < V.length) (h2 : okB W H V.length = true) (h3 : okF W H ((dep % 7).toNat : Int) = false) :
    Calls Try.prog 6 #[plV W H (.slice A V.length c), .int .u8 dep] w fun e w' => e = .returned (.bool true) ∧ Below w.heap.size w w' := by
  have RP := Lib.hid hR
  have HB := Lib.hid (Below.refl w.heap.size w)
  obtain ⟨dd, F1, F2, F3⟩ : ∃ dd : Nat, dep.tmod 7 = dd ∧ dd ≤ 6 ∧ dd = (dep % 7).toNat := ⟨(dep % 7).toNat, by rw [Int.tmod_eq_emod_of_nonneg d0]; omega, by omega, rfl⟩
  have F4 : IntKind.i64.wrap (dd : Int) = dd := IntWalk.i64_in _ (by omega)
  have F5 : (0 : Int) ≤ (dd : Int) := by omega
  have q1 : (V.length : Int) ≤ 5000 := by omega
  have G2 := Lib.hid h2
  have G3 := Lib.hid (show bandsI W H dd = [] by rw [F3]; unfold bandsI; rw [if_neg (by rw [h3]; decide)])
  clear h1 h2 h3
  clear hR F3
  go_enter Try.func6, Try.ntmps6
  go_wp2_with fail
  have RP := Lib.hid ((RP.out).alloc (.cells #[.int .i64 W, .int .i64 H, .slice A V.length c] 39))
  have HB := Lib.hid (below_alloc_ (HB.out) (.cells #[.int .i64 W, .int .i64 H, .slice A V.length c] 39))
  have hzw : (w.alloc (.cells #[.int .i64 W, .int .i64 H, .slice A V.length c] 39)).heap.size = w.heap.size + 1 := by simp only [World.size_alloc]
  have B2 := Blk.new (w) 39 #[.int .i64 W, .int .i64 H, .slice A V.length c]
  skip
  have B2 := Lib.hid B2
  generalize w.alloc (.cells #[.int .i64 W, .int .i64 H, .slice A V.length c] 39) = w1 at *
  clear hzw
  have HB1 := Lib.hid (Below.refl w1.heap.size w1)
  refine (first_c _).mono ?_
  rintro e w2 ⟨rfl, hb'⟩
  have HB1 := Lib.hid ((HB1.out).trans (hb'.mono (HB1.out).size))
  clear hb'
  obtain ⟨zB20, zB21, zB22⟩ := (B2.out.below HB1.out B2.out.lt).cells3
  go_wp2_with fail
  clear zB20 zB21 zB22
  refine (blist_c W H dd _).mono ?_
  rintro e w3 ⟨v, rfl, ho, hb'⟩
  have HB1 := Lib.hid ((HB1.out).trans (hb'.mono (HB1.out).size))
  clear hb'
  obtain ⟨A1, c1, rfl, hq⟩ := ho.slice
  have RL := Lib.hid hq
  clear ho hq
  clear RL
  rw [G3.out]
  simp only [List.length_nil]
  obtain ⟨zB20, zB21, zB22⟩ := (B2.out.below HB1.out B2.out.lt).cells3
  go_wp2_with fail
  clear zB20 zB21 zB22
  refine (rright_c W H A V.length c _ (by omega)).mono ?_
  rintro e w4 ⟨rfl, hb'⟩
  have HB1 := Lib.hid ((HB1.out).trans (hb'.mono (HB1.out).size))
  clear hb'
  rw [G2.out]
  go_wp2_with fail
  go_ret
  exact ⟨rfl, HB.out.trans (HB1.out.mono HB.out.size)⟩

set_option maxRecDepth 100000 in
set_option maxHeartbeats 16000000 in
theorem bco_4 (a e : Nat) (V : List Int) (ad : Addr) (c : Nat) (dep : Int) (w : World) (hR : ReadsI w (some ad) V) (hc : V.length ≤ c) (hc2 : c ≤ 9223372036854775807) (d0 : 0 ≤ dep) (d1 : dep ≤ 255) (a1 : 1 ≤ a) (a2 : a ≤ 1024) (b1 : 1 ≤ e) (b2 : e ≤ 1024) (hl : V.length = a * e) (h1 : ¬ 5000 < V.length) (h3 : okF a e ((dep % 7).toNat : Int) = true) :
    Calls Try.prog 6 #[plV a e (.slice (some ad) V.length c), .int .u8 dep] w fun e w' => e = .returned (.bool true) ∧ Below w.heap.size w w' := by
  have RP := Lib.hid hR
  have HB := Lib.hid (Below.refl w.heap.size w)
  obtain ⟨dd, F1, F2, F3⟩ : ∃ dd : Nat, dep.tmod 7 = dd ∧ dd ≤ 6 ∧ dd = (dep % 7).toNat := ⟨(dep % 7).toNat, by rw [Int.tmod_eq_emod_of_nonneg d0]; omega, by omega, rfl⟩
  have F4 : IntKind.i64.wrap (dd : Int) = dd := IntWalk.i64_in _ (by omega)
  have F5 : (0 : Int) ≤ (dd : Int) := by omega
  have q1 : (V.length : Int) ≤ 5000 := by omega
  have G2 := Lib.hid (show okB a e V.length = true by rw [hl]; exact okB_mk a1 a2 b1 b2)
  have HOK := Lib.hid (show okF a e dd = true by rw [F3]; exact h3)
  have HL := Lib.hid hl
  obtain ⟨N, hN⟩ : ∃ N, N = 3 * dd + 1 := ⟨_, rfl⟩
  have G3 := Lib.hid (show bandsI a e dd = bandsK a e dd N by unfold bandsI; rw [if_pos HOK.out, hN]; simp)
  have G4 := Lib.hid (show (bandsI a e dd).length = N by rw [G3.out, bandsK_length])
  have HN := Lib.hid hN
  have n19 : N ≤ 19 := by omega
  have n0 : 1 ≤ N := by omega
  clear h1 h3 hl hN
  clear hR F3
  go_enter Try.func6, Try.ntmps6
  go_wp2_with fail
  have RP := Lib.hid ((RP.out).alloc (.cells #[.int .i64 a, .int .i64 e, .slice (some ad) V.length c] 39))
  have HB := Lib.hid (below_alloc_ (HB.out) (.cells #[.int .i64 a, .int .i64 e, .slice (some ad) V.length c] 39))
  have hzw : (w.alloc (.cells #[.int .i64 a, .int .i64 e, .slice (some ad) V.length c] 39)).heap.size = w.heap.size + 1 := by simp only [World.size_alloc]
  have B2 := Blk.new (w) 39 #[.int .i64 a, .int .i64 e, .slice (some ad) V.length c]
  skip
  have B2 := Lib.hid B2
  generalize w.alloc (.cells #[.int .i64 a, .int .i64 e, .slice (some ad) V.length c] 39) = w1 at *
  clear hzw
  have HB1 := Lib.hid (Below.refl w1.heap.size w1)
  refine (first_c _).mono ?_
  rintro e w2 ⟨rfl, hb'⟩
  have HB1 := Lib.hid ((HB1.out).trans (hb'.mono (HB1.out).size))
  clear hb'
  obtain ⟨zB20, zB21, zB22⟩ := (B2.out.below HB1.out B2.out.lt).cells3
  go_wp2_with fail
  clear zB20 zB21 zB22
  refine (blist_c a e dd _).mono ?_
  rintro e w3 ⟨v, rfl, ho, hb'⟩
  have HB1 := Lib.hid ((HB1.out).trans (hb'.mono (HB1.out).size))
  clear hb'
  obtain ⟨A1, c1, rfl, hq⟩ := ho.slice
  have RL := Lib.hid hq
  clear ho hq
  rw [G4.out]
  have RL := Lib.hid (show ReadsB _ A1 (bandsK a e dd N) by rw [← G3.out]; exact RL.out)
  have q3 : ((N : Int) == 0) = false := by simp; omega
  obtain ⟨zB20, zB21, zB22⟩ := (B2.out.below HB1.out B2.out.lt).cells3
  go_wp2_with fail
  clear zB20 zB21 zB22
  refine (rright_c a e (some ad) V.length c _ (by omega)).mono ?_
  rintro e w4 ⟨rfl, hb'⟩
  have HB1 := Lib.hid ((HB1.out).trans (hb'.mono (HB1.out).size))
  have RL := Lib.hid ((RL.out).kept hb')
  clear hb'
  rw [G2.out]
  have B2 := Lib.hid (B2.out.below HB1.out B2.out.lt)
  have RP := Lib.hid (RP.out.kept HB1.out)
  have HB := Lib.hid (HB.out.trans (HB1.out.mono HB.out.size))
  have HB1 := Lib.hid (Below.refl w4.heap.size w4)
  obtain ⟨zB20, zB21, zB22⟩ := (B2.out.below HB1.out B2.out.lt).cells3
  go_wp2_with fail
  clear zB20 zB21 zB22
  have n5 : V.length ≤ 5000 := by omega
  have hszo := HB1.out.size
  refine (rnew_yes a e _ a1 a2 b1 b2).mono ?_
  rintro e w5 ⟨gq, rfl, hge, hr, hb'⟩
  have HB1 := Lib.hid ((HB1.out).trans (hb'.mono (HB1.out).size))
  clear hb'
  rw [← HL.out] at hr ⊢
  have Rgq := Lib.hid hr
  have GEgq := Lib.hid (show w4.heap.size ≤ gq by omega)
  clear hr hge hszo
  obtain ⟨zB20, zB21, zB22⟩ := (B2.out.below HB1.out B2.out.lt).cells3
  go_upto_region 8 with fail
  clear zB20 zB21 zB22
  have hlt := HB1.out.size
  have HB1 := Lib.hid (below_alloc_ (HB1.out) (.cells #[.int .i64 a, .int .i64 e, .slice (some ⟨gq, 0, none⟩) V.length V.length] 39))
  have Rgq := Lib.hid ((Rgq.out).alloc (.cells #[.int .i64 a, .int .i64 e, .slice (some ⟨gq, 0, none⟩) V.length V.length] 39))
  have hzw : (w5.alloc (.cells #[.int .i64 a, .int .i64 e, .slice (some ⟨gq, 0, none⟩) V.length V.length] 39)).heap.size = w5.heap.size + 1 := by simp only [World.size_alloc]
  have B7 := Blk.new (w5) 39 #[.int .i64 a, .int .i64 e, .slice (some ⟨gq, 0, none⟩) V.length V.length]
  skip
  have B7 := Lib.hid B7
  generalize w5.alloc (.cells #[.int .i64 a, .int .i64 e, .slice (some ⟨gq, 0, none⟩) V.length V.length] 39) = w6 at *
  have hszb7 : w6.heap.size = w5.heap.size + 1 := hzw
  obtain ⟨b7, hb7⟩ : ∃ n, n = w5.heap.size := ⟨_, rfl⟩
  have GEb7 := Lib.hid (show w4.heap.size ≤ b7 by omega)
  rw [← hb7] at B7 ⊢
  clear hzw hlt hszb7
  clear hb7
  obtain ⟨zB20, zB21, zB22⟩ := (B2.out.below HB1.out B2.out.lt).cells3
  go_wp2_with fail
  clear zB20 zB21 zB22
  have hszo := HB1.out.size
  have hq7 := Rgq.out.lt
  refine (rnew_yes a e _ a1 a2 b1 b2).mono ?_
  rintro e w7 ⟨gn, rfl, hge, hr, hb'⟩
  have HB1 := Lib.hid ((HB1.out).trans (hb'.mono (HB1.out).size))
  have Rgq := Lib.hid ((Rgq.out).kept hb')
  have B7 := Lib.hid ((B7.out).below hb' (B7.out).lt)
  clear hb'
  rw [← HL.out] at hr ⊢
  have Rgn := Lib.hid hr
  have GEgn := Lib.hid (show w4.heap.size ≤ gn by omega)
  have hqn : gq ≠ gn := by omega
  clear hq7
  clear hr hge hszo
  obtain ⟨zB20, zB21, zB22⟩ := (B2.out.below HB1.out B2.out.lt).cells3
  go_upto_region 9 with fail
  clear zB20 zB21 zB22
  have hlt := HB1.out.size
  have HB1 := Lib.hid (below_alloc_ (HB1.out) (.cells #[.int .i64 a, .int .i64 e, .slice (some ⟨gn, 0, none⟩) V.length V.length] 39))
  have Rgq := Lib.hid ((Rgq.out).alloc (.cells #[.int .i64 a, .int .i64 e, .slice (some ⟨gn, 0, none⟩) V.length V.length] 39))
  have B7 := Lib.hid ((B7.out).alloc (.cells #[.int .i64 a, .int .i64 e, .slice (some ⟨gn, 0, none⟩) V.length V.length] 39))
  have Rgn := Lib.hid ((Rgn.out).alloc (.cells #[.int .i64 a, .int .i64 e, .slice (some ⟨gn, 0, none⟩) V.length V.length] 39))
  have hzw : (w7.alloc (.cells #[.int .i64 a, .int .i64 e, .slice (some ⟨gn, 0, none⟩) V.length V.length] 39)).heap.size = w7.heap.size + 1 := by simp only [World.size_alloc]
  have B8 := Blk.new (w7) 39 #[.int .i64 a, .int .i64 e, .slice (some ⟨gn, 0, none⟩) V.length V.length]
  skip
  have B8 := Lib.hid B8
  generalize w7.alloc (.cells #[.int .i64 a, .int .i64 e, .slice (some ⟨gn, 0, none⟩) V.length V.length] 39) = w8 at *
  have hszb8 : w8.heap.size = w7.heap.size + 1 := hzw
  obtain ⟨b8, hb8⟩ : ∃ n, n = w7.heap.size := ⟨_, rfl⟩
  have GEb8 := Lib.hid (show w4.heap.size ≤ b8 by omega)
  rw [← hb8] at B8 ⊢
  clear hzw hlt hszb8 hb8
  obtain ⟨zB20, zB21, zB22⟩ := (B2.out.below HB1.out B2.out.lt).cells3
  go_wp2_with fail
  clear zB20 zB21 zB22
  have Oq := Lib.hid (show OwnI w8 w4.heap.size (.slice (some ⟨gq, 0, none⟩) V.length V.length) (qL a e dd a V 0) by rw [qL_zero]; exact Rgq.out.ownn (by have := GEgq.out; omega) (by simp; unfold maxLen; omega) (by simp))
  have GN := GEgn
  rw [← nL_zero a e dd a] at Rgn
  go_loopw [53] (fun v wr => ∃ k : Nat, k ≤ N ∧ v = .int .i64 k ∧ Blk wr b7 39 #[.int .i64 a, .int .i64 e, .slice (some ⟨gq, 0, none⟩) V.length V.length] ∧ Blk wr b8 39 #[.int .i64 a, .int .i64 e, .slice (some ⟨gn, 0, none⟩) V.length V.length] ∧ OwnI wr w4.heap.size (.slice (some ⟨gq, 0, none⟩) V.length V.length) (qL a e dd a V k) ∧ RowI wr gn (nL a e dd a V.length k) ∧ Below w4.heap.size w4 wr) (fun v _ => N - (intOf v).toNat)
  case atStart => exact ⟨0, Nat.zero_le _, rfl, B7.out, B8.out, Oq.out, Rgn.out, HB1.out⟩
  case round =>
    obtain ⟨k, hk, rfl, h7, h8, hq, hn, hb⟩ := hrel
    have HB1 := Lib.hid hb
    have B7 := Lib.hid h7
    have B8 := Lib.hid h8
    have Oq := Lib.hid hq
    have Rn := Lib.hid hn
    obtain ⟨wo, ewo⟩ : ∃ wo, wo = wr := ⟨_, rfl⟩
    subst ewo
    clear hb h7 h8 hq hn
    by_cases hlt : k < N
    · skip
      have i1 : (0 : Int) ≤ (k : Int) := by omega
      have i2 : (k : Int) < (N : Int) := by omega
      obtain ⟨bx, by_, bw, bh, hbd, w1b, h1b, hxb, hyb⟩ := band_nat HOK.out (k := k) (by have := HN.out; omega)
      obtain ⟨l, hll⟩ : ∃ l, l = (bandK a e dd k).l := ⟨_, rfl⟩
      obtain ⟨o, hoo⟩ : ∃ o, o = (bandK a e dd k).o := ⟨_, rfl⟩
      rw [← hll, ← hoo] at hbd
      clear hll hoo
      have HBD := Lib.hid hbd
      have LN := lay_next HOK.out HL.out hbd w1b h1b hxb hyb
      have LN1 := Lib.hid LN.1
      have LN2 := Lib.hid LN.2
      clear LN
      obtain ⟨al, rfl, l1, z0, z1, z2, z3, z4, z5⟩ := ReadsB.at_ (RL.out.kept HB1.out) (i := k) (by rw [bandsK_length]; exact hlt)
      rw [getBK, hbd] at z0 z1 z2 z3 z4 z5
      dsimp only at z0 z1 z2 z3 z4 z5
      clear hbd l1
      obtain ⟨zB20, zB21, zB22⟩ := (B2.out.below HB1.out B2.out.lt).cells3
      obtain ⟨zB70, zB71, zB72⟩ := (B7.out).cells3
      obtain ⟨zB80, zB81, zB82⟩ := (B8.out).cells3
      go_upto_region 12 with fail
      clear zB20 zB21 zB22
      clear zB70 zB71 zB72
      clear zB80 zB81 zB82
      clear z0 z1 z2 z3 z4 z5
      have HB1 := Lib.hid (below_alloc_ (HB1.out) (.cells #[.int .i64 l, .int .i64 o, .int .i64 bx, .int .i64 by_, .int .i64 bw, .int .i64 bh] 31))
      have B7 := Lib.hid ((B7.out).alloc (.cells #[.int .i64 l, .int .i64 o, .int .i64 bx, .int .i64 by_, .int .i64 bw, .int .i64 bh] 31))
      have B8 := Lib.hid ((B8.out).alloc (.cells #[.int .i64 l, .int .i64 o, .int .i64 bx, .int .i64 by_, .int .i64 bw, .int .i64 bh] 31))
      have Oq := Lib.hid ((Oq.out).alloc (.cells #[.int .i64 l, .int .i64 o, .int .i64 bx, .int .i64 by_, .int .i64 bw, .int .i64 bh] 31))
      have Rn := Lib.hid ((Rn.out).alloc (.cells #[.int .i64 l, .int .i64 o, .int .i64 bx, .int .i64 by_, .int .i64 bw, .int .i64 bh] 31))
      have hzw : (wo.alloc (.cells #[.int .i64 l, .int .i64 o, .int .i64 bx, .int .i64 by_, .int .i64 bw, .int .i64 bh] 31)).heap.size = wo.heap.size + 1 := by simp only [World.size_alloc]
      have B10 := Blk.new (wo) 31 #[.int .i64 l, .int .i64 o, .int .i64 bx, .int .i64 by_, .int .i64 bw, .int .i64 bh]
      skip
      have B10 := Lib.hid B10
      generalize wo.alloc (.cells #[.int .i64 l, .int .i64 o, .int .i64 bx, .int .i64 by_, .int .i64 bw, .int .i64 bh] 31) = w9 at *
      clear hzw
      obtain ⟨b10, hb10⟩ : ∃ n, n = wo.heap.size := ⟨_, rfl⟩
      skip
      rw [← hb10] at B10 ⊢
      clear hb10
      obtain ⟨zB20, zB21, zB22⟩ := (B2.out.below HB1.out B2.out.lt).cells3
      obtain ⟨zB70, zB71, zB72⟩ := (B7.out).cells3
      obtain ⟨zB80, zB81, zB82⟩ := (B8.out).cells3
      obtain ⟨zB100, zB101, zB102, zB103, zB104, zB105⟩ := (B10.out).cells6
      go_wp2_with fail
      clear zB20 zB21 zB22
      clear zB70 zB71 zB72
      clear zB80 zB81 zB82
      clear zB100 zB101 zB102 zB103 zB104 zB105
      refine (bcut_yes a e V ad c l o bx by_ bw bh _ (RP.out.kept HB1.out) a1 a2 b1 b2 HL.out hc hc2 w1b h1b hxb hyb).mono ?_
      rintro e w10 ⟨v, rfl, ho, hb'⟩
      have HB1 := Lib.hid ((HB1.out).trans (hb'.mono (HB1.out).size))
      have B7 := Lib.hid ((B7.out).below hb' (B7.out).lt)
      have B8 := Lib.hid ((B8.out).below hb' (B8.out).lt)
      have Oq := Lib.hid ((Oq.out).kept hb')
      have Rn := Lib.hid ((Rn.out).kept hb')
      have B10 := Lib.hid ((B10.out).below hb' (B10.out).lt)
      clear hb'
      dsimp only at ho ⊢
      obtain ⟨A11, c11, rfl, hq⟩ := ho.slice
      have R11 := Lib.hid hq
      clear ho hq
      obtain ⟨zB20, zB21, zB22⟩ := (B2.out.below HB1.out B2.out.lt).cells3
      obtain ⟨zB70, zB71, zB72⟩ := (B7.out).cells3
      obtain ⟨zB80, zB81, zB82⟩ := (B8.out).cells3
      obtain ⟨zB100, zB101, zB102, zB103, zB104, zB105⟩ := (B10.out).cells6
      go_upto_region 13 with fail
      clear zB20 zB21 zB22
      clear zB70 zB71 zB72
      clear zB80 zB81 zB82
      clear zB100 zB101 zB102 zB103 zB104 zB105
      have HB1 := Lib.hid (below_alloc_ (HB1.out) (.cells #[.int .i64 bw, .int .i64 bh, .slice A11 (cutL V a bx by_ bw (bw * bh)).length c11] 39))
      have B7 := Lib.hid ((B7.out).alloc (.cells #[.int .i64 bw, .int .i64 bh, .slice A11 (cutL V a bx by_ bw (bw * bh)).length c11] 39))
      have B8 := Lib.hid ((B8.out).alloc (.cells #[.int .i64 bw, .int .i64 bh, .slice A11 (cutL V a bx by_ bw (bw * bh)).length c11] 39))
      have Oq := Lib.hid ((Oq.out).alloc (.cells #[.int .i64 bw, .int .i64 bh, .slice A11 (cutL V a bx by_ bw (bw * bh)).length c11] 39))
      have Rn := Lib.hid ((Rn.out).alloc (.cells #[.int .i64 bw, .int .i64 bh, .slice A11 (cutL V a bx by_ bw (bw * bh)).length c11] 39))
      have B10 := Lib.hid ((B10.out).alloc (.cells #[.int .i64 bw, .int .i64 bh, .slice A11 (cutL V a bx by_ bw (bw * bh)).length c11] 39))
      have R11 := Lib.hid ((R11.out).alloc (.cells #[.int .i64 bw, .int .i64 bh, .slice A11 (cutL V a bx by_ bw (bw * bh)).length c11] 39))
      have hzw : (w10.alloc (.cells #[.int .i64 bw, .int .i64 bh, .slice A11 (cutL V a bx by_ bw (bw * bh)).length c11] 39)).heap.size = w10.heap.size + 1 := by simp only [World.size_alloc]
      have B11 := Blk.new (w10) 39 #[.int .i64 bw, .int .i64 bh, .slice A11 (cutL V a bx by_ bw (bw * bh)).length c11]
      skip
      have B11 := Lib.hid B11
      generalize w10.alloc (.cells #[.int .i64 bw, .int .i64 bh, .slice A11 (cutL V a bx by_ bw (bw * bh)).length c11] 39) = w11 at *
      clear hzw
      obtain ⟨b11, hb11⟩ : ∃ n, n = w10.heap.size := ⟨_, rfl⟩
      skip
      rw [← hb11] at B11 ⊢
      clear hb11
      obtain ⟨zB20, zB21, zB22⟩ := (B2.out.below HB1.out B2.out.lt).cells3
      obtain ⟨zB70, zB71, zB72⟩ := (B7.out).cells3
      obtain ⟨zB80, zB81, zB82⟩ := (B8.out).cells3
      obtain ⟨zB100, zB101, zB102, zB103, zB104, zB105⟩ := (B10.out).cells6
      obtain ⟨zB110, zB111, zB112⟩ := (B11.out).cells3
      go_wp2_with fail
      clear zB20 zB21 zB22
      clear zB70 zB71 zB72
      clear zB80 zB81 zB82
      clear zB100 zB101 zB102 zB103 zB104 zB105
      clear zB110 zB111 zB112
      have hbs := HB1.out.size
      refine (blay_c a e (qL a e dd a V k) (.slice (some ⟨gq, 0, none⟩) V.length V.length) ⟨l, o, bx, by_, bw, bh⟩ bw bh (cutL V a bx by_ bw (bw * bh)) A11 c11 w4.heap.size _ Oq.out R11.out (by rw [cutL_length]; have := Nat.mul_le_mul (show bw ≤ 1024 by omega) (show bh ≤ 1024 by omega); omega)).mono ?_
      rintro e' w12 ⟨rfl, ho2, hg2⟩
      rw [LN1.out]
      rw [LN2.out] at ho2
      have Rn := Lib.hid (Rn.out.grown hg2 (by simp only [Value.ownBlock]; intro h; injection h with h; exact hqn h.symm))
      have B7 := Lib.hid (Blk.app B7.out Oq.out (by decide) hg2)
      have B8 := Lib.hid (Blk.app B8.out Oq.out (by decide) hg2)
      have B10 := Lib.hid (Blk.app B10.out Oq.out (by decide) hg2)
      have B11 := Lib.hid (Blk.app B11.out Oq.out (by decide) hg2)
      have HB1 := Lib.hid (below_app HB1.out Oq.out hbs hg2)
      have Oq := Lib.hid ho2
      clear ho2 hg2 hbs R11
      obtain ⟨zB20, zB21, zB22⟩ := (B2.out.below HB1.out B2.out.lt).cells3
      obtain ⟨zB70, zB71, zB72⟩ := (B7.out).cells3
      obtain ⟨zB80, zB81, zB82⟩ := (B8.out).cells3
      obtain ⟨zB100, zB101, zB102, zB103, zB104, zB105⟩ := (B10.out).cells6
      go_wp2_with fail
      clear zB20 zB21 zB22
      clear zB70 zB71 zB72
      clear zB80 zB81 zB82
      clear zB100 zB101 zB102 zB103 zB104 zB105
      have hn7 : gn ≠ b7 := Blk.ne_ Rn.out B7.out (by decide)
      have hn8 : gn ≠ b8 := Blk.ne_ Rn.out B8.out (by decide)
      have hn10 : gn ≠ b10 := Blk.ne_ Rn.out B10.out (by decide)
      have hn2 : gn ≠ w.heap.size := by have := GN.out; have := B2.out.lt; omega
      have GNL := Lib.hid Rn.out.lt
      rw [← midL_zero a e dd a V.length k bx by_ bw] at Rn
      have B2l := Lib.hid (B2.out.below HB1.out B2.out.lt)
      have HBl := Lib.hid HB1.out
      go_loopw [67] (fun v wr => ∃ y : Nat, y ≤ bh ∧ v = .int .i64 y ∧ w12.grownBy wr (some gn) ∧ RowI wr gn (midL a e dd a V.length k bx by_ bw y 0)) (fun v _ => bh - (intOf v).toNat)
      case atStart => exact ⟨0, Nat.zero_le _, rfl, World.grownBy.refl _ _, Rn.out⟩
      case round =>
        obtain ⟨y, hy, rfl, hg, hn⟩ := hrel
        have HG := Lib.hid hg
        have Rn := Lib.hid hn
        obtain ⟨wy, ewy⟩ : ∃ wy, wy = wr := ⟨_, rfl⟩
        subst ewy
        clear hg hn
        by_cases hyl : y < bh
        · skip
          have B2x := B2l.out.grown HG.out (by intro h; injection h with h; exact hn2 h.symm)
          obtain ⟨zB20, zB21, zB22⟩ := B2x.cells3
          clear B2x
          have B8x := B8.out.grown HG.out (by intro h; injection h with h; exact hn8 h.symm)
          obtain ⟨zB80, zB81, zB82⟩ := B8x.cells3
          clear B8x
          have B10x := B10.out.grown HG.out (by intro h; injection h with h; exact hn10 h.symm)
          obtain ⟨zB100, zB101, zB102, zB103, zB104, zB105⟩ := B10x.cells6
          clear B10x
          go_wp2_with fail
          clear zB20 zB21 zB22
          clear zB80 zB81 zB82
          clear zB100 zB101 zB102 zB103 zB104 zB105
          have HGy := Lib.hid HG.out
          skip
          go_loopw [72] (fun v wr => ∃ x : Nat, x ≤ bw ∧ v = .int .i64 x ∧ w12.grownBy wr (some gn) ∧ RowI wr gn (midL a e dd a V.length k bx by_ bw y x)) (fun v _ => bw - (intOf v).toNat)
          case atStart => exact ⟨0, Nat.zero_le _, rfl, HG.out, Rn.out⟩
          case round =>
            obtain ⟨x, hx, rfl, hg, hn⟩ := hrel
            have HG := Lib.hid hg
            have Rn := Lib.hid hn
            obtain ⟨wx, ewx⟩ : ∃ wx, wx = wr := ⟨_, rfl⟩
            subst ewx
            clear hg hn
            by_cases hxl : x < bw
            · skip
              obtain ⟨pl, hpl⟩ : ∃ pl : Nat, pl = (by_ + y) * a + bx + x := ⟨_, rfl⟩
              have hin : pl < V.length := by have := row_le (a := a) (b := e) HL.out hyl hyb hxb; omega
              have hin0 := hin
              rw [hpl] at hin0
              obtain ⟨m1, m2⟩ := midL_at a e dd (a := a) (n := V.length) k (y := y) (by_ := by_) hxl hxb hin0
              rw [← hpl] at m1 m2
              obtain ⟨cv, hcv⟩ : ∃ cv, cv = covK a e dd a k pl := ⟨_, rfl⟩
              have hcb := covK_bd a e dd a k pl
              rw [← hcv] at m1 m2 hcb
              have M2 := Lib.hid m2
              have zn := Rn.out.cell (i := pl) (by rw [midL_length]; exact hin)
              have fn := Rn.out.frozen pl
              rw [show (midL a e dd a V.length k bx by_ bw y x).getD pl 0 = cv from m1] at zn
              have W3 : IntKind.i64.wrap (cv + 1) = cv + 1 := IntWalk.i64_in _ (by omega)
              have e1 : (((by_ : Int) + (y : Int)) * (a : Int) + (bx : Int) + (x : Int)) = (pl : Int) := by rw [hpl]; push_cast; rfl
              have p1 : (pl : Int) < (V.length : Int) := by omega
              have p0 : (0 : Int) ≤ (pl : Int) := by omega
              have r1 : ((by_ : Int) + (y : Int)) * (a : Int) ≤ 5000 ∧ 0 ≤ ((by_ : Int) + (y : Int)) * (a : Int) := by constructor; omega; exact Int.mul_nonneg (by omega) (by omega)
              have W4 : IntKind.i64.wrap ((by_ : Int) + (y : Int)) = (by_ : Int) + (y : Int) := IntWalk.i64_in _ (by omega)
              have W5 : IntKind.i64.wrap (((by_ : Int) + (y : Int)) * (a : Int)) = ((by_ : Int) + (y : Int)) * (a : Int) := IntWalk.i64_in _ (by omega)
              have W6 : IntKind.i64.wrap (((by_ : Int) + (y : Int)) * (a : Int) + (bx : Int)) = ((by_ : Int) + (y : Int)) * (a : Int) + (bx : Int) := IntWalk.i64_in _ (by omega)
              have W7 : IntKind.i64.wrap (((by_ : Int) + (y : Int)) * (a : Int) + (bx : Int) + (x : Int)) = (pl : Int) := by rw [e1]; exact IntWalk.i64_in _ (by omega)
              have HE := Lib.hid e1
              clear m1 m2 hcb hpl hin0 hcv e1
              have B2x := B2l.out.grown HG.out (by intro h; injection h with h; exact hn2 h.symm)
              obtain ⟨zB20, zB21, zB22⟩ := B2x.cells3
              clear B2x
              have B8x := B8.out.grown HG.out (by intro h; injection h with h; exact hn8 h.symm)
              obtain ⟨zB80, zB81, zB82⟩ := B8x.cells3
              clear B8x
              have B10x := B10.out.grown HG.out (by intro h; injection h with h; exact hn10 h.symm)
              obtain ⟨zB100, zB101, zB102, zB103, zB104, zB105⟩ := B10x.cells6
              clear B10x
              go_wp2_with fail
              clear zB20 zB21 zB22
              clear zB80 zB81 zB82
              clear zB100 zB101 zB102 zB103 zB104 zB105
              have hrs := RowI.set_ Rn.out pl (cv + 1)
              rw [M2.out] at hrs
              go_roundw
              case rel => exact ⟨x + 1, by omega, by go_num, only_setCell HG.out (.inl rfl) _, hrs⟩
              case measure => simp [intOf]; omega
            · skip
              obtain rfl : x = bw := by omega
              have B2x := B2l.out.grown HG.out (by intro h; injection h with h; exact hn2 h.symm)
              obtain ⟨zB20, zB21, zB22⟩ := B2x.cells3
              clear B2x
              have B8x := B8.out.grown HG.out (by intro h; injection h with h; exact hn8 h.symm)
              obtain ⟨zB80, zB81, zB82⟩ := B8x.cells3
              clear B8x
              have B10x := B10.out.grown HG.out (by intro h; injection h with h; exact hn10 h.symm)
              obtain ⟨zB100, zB101, zB102, zB103, zB104, zB105⟩ := B10x.cells6
              clear B10x
              go_wp2_with fail
              clear zB20 zB21 zB22
              clear zB80 zB81 zB82
              clear zB100 zB101 zB102 zB103 zB104 zB105
              rw [midL_row] at Rn
              go_roundw
              case rel => exact ⟨y + 1, by omega, by go_num, HG.out, Rn.out⟩
              case measure => simp [intOf]; omega
        · skip
          obtain rfl : y = bh := by omega
          have B2x := B2l.out.grown HG.out (by intro h; injection h with h; exact hn2 h.symm)
          obtain ⟨zB20, zB21, zB22⟩ := B2x.cells3
          clear B2x
          have B8x := B8.out.grown HG.out (by intro h; injection h with h; exact hn8 h.symm)
          obtain ⟨zB80, zB81, zB82⟩ := B8x.cells3
          clear B8x
          have B10x := B10.out.grown HG.out (by intro h; injection h with h; exact hn10 h.symm)
          obtain ⟨zB100, zB101, zB102, zB103, zB104, zB105⟩ := B10x.cells6
          clear B10x
          go_wp2_with fail
          clear zB20 zB21 zB22
          clear zB80 zB81 zB82
          clear zB100 zB101 zB102 zB103 zB104 zB105
          have hme := midL_end a e dd (a := a) V.length (k := k) (x := bx) (y := by_) (bw := bw) (bh := y) (by rw [HBD.out])
          rw [hme] at Rn
          clear hme
          have B7 := Lib.hid (B7.out.grown HG.out (by intro h; injection h with h; exact hn7 h.symm))
          have B8 := Lib.hid (B8.out.grown HG.out (by intro h; injection h with h; exact hn8 h.symm))
          have Oq := Lib.hid (OwnI.grown Oq.out HG.out (.inr (by simp only [Value.ownBlock]; intro h; injection h with h; exact hqn h)))
          have HB1 := Lib.hid (HBl.out.grown HG.out HBl.out.size (fun g hg => by injection hg with hg; rw [← hg]; exact GN.out))
          go_roundw
          case rel => exact ⟨k + 1, by omega, by go_num, B7.out, B8.out, Oq.out, Rn.out, HB1.out⟩
          case measure => simp [intOf]; omega
    · skip
      obtain rfl : k = N := by omega
      have HQ := Lib.hid (show qL a e dd a V k = V by rw [HN.out]; exact qL_all HOK.out HL.out)
      rw [HQ.out] at Oq
      obtain ⟨zB20, zB21, zB22⟩ := (B2.out.below HB1.out B2.out.lt).cells3
      obtain ⟨zB70, zB71, zB72⟩ := (B7.out).cells3
      obtain ⟨zB80, zB81, zB82⟩ := (B8.out).cells3
      go_wp2_with fail
      go_loop [99] (fun v => ∃ j : Nat, j ≤ V.length ∧ v = .int .i64 j) (fun v => V.length - (intOf v).toNat)
      case atStart => exact ⟨0, Nat.zero_le _, rfl⟩
      case round =>
        obtain ⟨j, hj, rfl⟩ := hrel
        by_cases hjl : j < V.length
        · skip
          have j1 : (0 : Int) ≤ (j : Int) := by omega
          have j2 : (j : Int) < (V.length : Int) := by omega
          have zn := Rn.out.cell (i := j) (by unfold nL; rw [tab_length]; exact hjl)
          have e1 := nL_all HOK.out HL.out hjl
          rw [← HN.out] at e1
          rw [show (nL a e dd a V.length k).getD j 0 = 1 from e1] at zn
          clear e1
          go_wp2_with fail
          go_round
          case rel => exact ⟨j + 1, by omega, by go_num⟩
          case measure => simp [intOf]; omega
        · skip
          go_wp2_with fail
          clear zB20 zB21 zB22
          clear zB70 zB71 zB72
          clear zB80 zB81 zB82
          refine (rsame_n a e V a e V V.length V.length rfl rfl (some ad) (some ⟨gq, 0, none⟩) c V.length _ (RP.out.kept HB1.out) Oq.out.reads (by omega) (by omega)).mono ?_
          rintro e w13 ⟨rfl, hb'⟩
          have HB1 := Lib.hid ((HB1.out).trans (hb'.mono (HB1.out).size))
          have B7 := Lib.hid ((B7.out).below hb' (B7.out).lt)
          have B8 := Lib.hid ((B8.out).below hb' (B8.out).lt)
          have Oq := Lib.hid ((Oq.out).kept hb')
          have Rn := Lib.hid ((Rn.out).kept hb')
          clear hb'
          rw [show eqB a e V a e V = true from by simp [eqB]]
          go_wp2_with fail
          go_ret
          exact ⟨rfl, HB.out.trans (HB1.out.mono HB.out.size)⟩

theorem bandsCover_walk (x0 : Int × Int × List Int) (x1 : Int) (v0 v1 : Value) (w : World) (k0 : IsPlaneC w v0 x0) (k1 : IsInt .u8 v1 x1) :
    Calls Try.prog 6 #[v0, v1] w fun e w' => e = .returned (.bool true) ∧ Below w.heap.size w w' := by
  obtain ⟨W, H, V⟩ := x0
  obtain ⟨A, c, rfl, hp, hn, _, _, _, hc, hc2⟩ := k0.form
  have b8 := k1.bd8
  obtain ⟨rfl, _⟩ := k1
  by_cases h1 : 5000 < V.length
  · exact bco_1 W H V A c x1 w hp hc hc2 b8.1 b8.2 h1
  cases h2 : okB W H V.length with
  | false => exact bco_2 W H V A c x1 w hp hc hc2 b8.1 b8.2 h1 h2
  | true =>
    cases h3 : okF W H ((x1 % 7).toNat : Int) with
    | false => exact bco_3 W H V A c x1 w hp hc hc2 b8.1 b8.2 h1 h2 h3
    | true =>
      obtain ⟨a, e, rfl, rfl, a1, a2, b1, b2, hl⟩ := okB_nat h2
      obtain ⟨ad, rfl, _⟩ := hp.2 (by rw [hl]; exact Nat.mul_pos a1 b1)
      exact bco_4 a e V ad c x1 w hp hc hc2 b8.1 b8.2 a1 a2 b1 b2 hl h1 h3

end Go.Proofs.Ytjlajggilcihoaa
