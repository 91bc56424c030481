/- Bands: all of them, told one by one. -/
import Derived.Test.YtjlajggilcihoaaBd3
import Derived.Test.YtjlajggilcihoaaPl8
import Derived.Deep.DeepCutAuto
import Derived.Deep.CutBlock
namespace Go.Proofs.Ytjlajggilcihoaa
open Go.RowKit Go.Shelf
set_option linter.unusedVariables false
set_option linter.unusedSimpArgs false
attribute [local go_sem] Oper.semAt_some

/-- The k-th band. -/
def bandK (w h d : Int) (k : Nat) : Bd := if k = 0 then bandI w h d 0 0 else bandI w h d (((k - 1) / 3 + 1 : Nat) : Int) (((k - 1) % 3 + 1 : Nat) : Int)
theorem bandK_zero (w h d : Int) : bandK w h d 0 = bandI w h d 0 0 := rfl
theorem bandK_at (w h d : Int) {l o : Nat} (h1 : 1 ≤ o) (h2 : o ≤ 3) : bandK w h d (3 * l + o) = bandI w h d ((l : Int) + 1) (o : Int) := by
  unfold bandK
  rw [if_neg (by omega), show (3 * l + o - 1) / 3 + 1 = l + 1 by omega, show (3 * l + o - 1) % 3 + 1 = o by omega]
  norm_cast
def BdEl (w h d : Int) (k : Nat) (args : Array Value) (_ : World) : Prop := args = #[.int .i64 (k : Int), bdV (bandK w h d k)]
theorem ball_c (w h d : Int) (W : World) :
    Calls Try.prog 11 #[.int .i64 w, .int .i64 h, .int .i64 d] W fun e W' => e = .returned (.func (.func 24) #[] #[.pointer (some ⟨W.heap.size, 0, none⟩), .pointer (some ⟨W.heap.size + 1, 0, none⟩), .pointer (some ⟨W.heap.size + 1 + 1, 0, none⟩)]) ∧
      W' = ((W.alloc (.cells #[.int .i64 w] 3)).alloc (.cells #[.int .i64 h] 3)).alloc (.cells #[.int .i64 d] 3) := by
  go_enter Try.func11, Try.ntmps11
  go_wp2_with fail
  go_ret
  exact ⟨rfl, rfl⟩
set_option maxRecDepth 100000 in
set_option maxHeartbeats 6400000 in
theorem ball_yes (w h d : Int) (g1 g2 g3 : Nat) (w0 : World) (hok : okF w h d = true) (b1 : Blk w0 g1 3 #[.int .i64 w]) (b2 : Blk w0 g2 3 #[.int .i64 h]) (b3 : Blk w0 g3 3 #[.int .i64 d]) :
    Sq Try.prog 24 #[.pointer (some ⟨g1, 0, none⟩), .pointer (some ⟨g2, 0, none⟩), .pointer (some ⟨g3, 0, none⟩)] (fun k => k = g1 ∨ k = g2 ∨ k = g3) (3 * d.toNat + 1) (BdEl w h d) w0 := by
  intro n' l J Jx W hW hJ hY h0
  obtain ⟨w0, w1, hh0, hh1, d0, d1, _⟩ := okF_t hok
  have Hok := Lib.hid hok
  have B1 := Lib.hid (b1.below hW b1.lt)
  have B2 := Lib.hid (b2.below hW b2.lt)
  have B3 := Lib.hid (b3.below hW b3.lt)
  have HY := Lib.hid hY
  have HJ := Lib.hid hJ
  have H0 := Lib.hid h0
  have L1 := B1.out.lt
  have L2 := B2.out.lt
  have L3 := B3.out.lt
  have HBD := Lib.hid (fun (l o : Int) (W : World) (l0 : 0 ≤ l) (l1 : l ≤ d) (o0 : 0 ≤ o) (o1 : o ≤ 3) => bband_c w h d l o W (by omega) w1 (by omega) hh1 l0 l1 (by omega) o0 o1)
  have c1 := B1.out.cells1
  have c2 := B2.out.cells1
  have c3 := B3.out.cells1
  clear hok hW hY h0 hJ b1 b2 b3
  show Calls Try.prog _ #[.func (.yield l) #[] #[], .pointer (some ⟨g1, 0, none⟩), .pointer (some ⟨g2, 0, none⟩), .pointer (some ⟨g3, 0, none⟩)] W _
  go_enter Try.func24, Try.ntmps24
  go_wp2_with fail
  try go_step3
  go_upto_region 0 with fail
  refine (wpIn_wide (n := n' + 1)).1 ?_
  gi_wp2_with fail
  refine ⟨trivial, (callsIn_wide.2 (bfits_c w h d _)).mono ?_⟩
  rintro e w1 ⟨rfl, rfl⟩
  rw [Hok.out]
  gi_wp2_with fail
  refine ⟨trivial, (callsIn_wide.2 (HBD.out 0 0 _ (by omega) (by omega) (by omega) (by omega))).mono ?_⟩
  rintro e w1 ⟨rfl, hb⟩
  have hs1 := hb.size
  have J0 := Lib.hid (HJ.out 0 _ _ H0.out hb)
  have HK := Lib.hid (show KeepB (fun k => k = g1 ∨ k = g2 ∨ k = g3) W w1 from KeepB.of_below hb (fun k hk => by rcases hk with hk | hk | hk <;> omega))
  clear hb c1 c2 c3
  obtain ⟨fn, tmps, assign, body, hyy, hR⟩ := HY.out (0) #[.int .i64 0, bdV (bandI w h d 0 0)] w1 (by omega) J0.out HK.out hs1 rfl
  gi_wp2_with fail
  refine hR.mono ?_
  clear hR hyy
  rintro e W3 (⟨rfl, hJ3, hk3⟩ | ⟨rfl, hJx3⟩)
  · have J1 := Lib.hid hJ3
    have HK1 := Lib.hid (HK.out.trans hk3)
    have hs3 := hk3.size
    clear hJ3 hk3 J0 HK
    gi_wp2_with fail
    have c3 : W3.cell? ⟨g3, 0, none⟩ = some (.int .i64 d) := (HK1.out.cell (.inr (.inr rfl))).trans B3.out.cells1
    go_wp2_with fail
    go_step3
    go_wp2_with fail
    clear c3
    go_loopw [5, 23] (fun u5 u23 wr => ∃ l i : Nat, i = 3 * l + 1 ∧ (l : Int) ≤ d ∧ u5 = .int .i64 i ∧ u23 = .int .i64 l ∧ J (3 * l + 1) wr ∧ KeepB (fun k => k = g1 ∨ k = g2 ∨ k = g3) W wr ∧ W.heap.size ≤ wr.heap.size) (fun _ v _ => (d - intOf v).toNat)
    case atStart => exact ⟨0, 1, rfl, by omega, rfl, rfl, J1.out, HK1.out, by omega⟩
    case round =>
      obtain ⟨l', i, hi, hl, rfl, rfl, hj, hb, hs⟩ := hrel
      have HI := Lib.hid hi
      clear hi
      have J1 := Lib.hid hj
      have HK1 := Lib.hid hb
      obtain ⟨wo, ewo⟩ : ∃ wo, wo = wr := ⟨_, rfl⟩
      subst ewo
      clear hj hb hs1 hs3
      by_cases hlt : (l' : Int) < d
      · go_wp2_with fail
        go_loopw [5, 7] (fun u5 u7 wr => ∃ oo kk : Nat, kk = 3 * l' + oo ∧ 1 ≤ oo ∧ oo ≤ 4 ∧ u5 = .int .i64 kk ∧ u7 = .int .i64 oo ∧ J (3 * l' + oo) wr ∧ KeepB (fun k => k = g1 ∨ k = g2 ∨ k = g3) W wr ∧ W.heap.size ≤ wr.heap.size) (fun _ v _ => (4 - intOf v).toNat)
        case atStart => exact ⟨1, i, HI.out, by omega, by omega, rfl, rfl, J1.out, HK1.out, hs⟩
        case round =>
          obtain ⟨oo, kk, hkk, o1, o4, rfl, rfl, hj2, hb2, hs2⟩ := hrel
          have HKK := Lib.hid hkk
          have J2 := Lib.hid hj2
          have HK2 := Lib.hid hb2
          obtain ⟨wi, ewi⟩ : ∃ wi, wi = wr := ⟨_, rfl⟩
          subst ewi
          clear hj2 hb2
          by_cases ho : oo ≤ 3
          · have c1 : wi.cell? ⟨g1, 0, none⟩ = some (.int .i64 w) := (HK2.out.cell (.inl rfl)).trans B1.out.cells1
            have c2 : wi.cell? ⟨g2, 0, none⟩ = some (.int .i64 h) := (HK2.out.cell (.inr (.inl rfl))).trans B2.out.cells1
            have c3 : wi.cell? ⟨g3, 0, none⟩ = some (.int .i64 d) := (HK2.out.cell (.inr (.inr rfl))).trans B3.out.cells1
            have E1 : (l' : Int) + 1 = ((l' + 1 : Nat) : Int) := by omega
            have HE := Lib.hid (bandK_at w h d (l := l') (o := oo) o1 ho)
            rw [← hkk] at J2 HE
            have hlk : kk < 3 * d.toNat + 1 := by omega
            clear E1 hkk
            go_upto_region 8 with fail
            refine (wpIn_wide (n := n' + 1)).1 ?_
            gi_wp2_with fail
            refine ⟨trivial, (callsIn_wide.2 (HBD.out ((l' : Int) + 1) oo _ (by omega) (by omega) (by omega) (by omega))).mono ?_⟩
            rintro e w4 ⟨rfl, hb⟩
            rw [← HE.out]
            have hs4 := hb.size
            have J4 := Lib.hid (HJ.out kk _ _ J2.out hb)
            have HK4 := Lib.hid (show KeepB (fun k => k = g1 ∨ k = g2 ∨ k = g3) W w4 from HK2.out.trans (KeepB.of_below hb (fun k hk => by rcases hk with hk | hk | hk <;> omega)))
            clear hb c1 c2 c3
            obtain ⟨fn, tmps, assign, body, hyy, hR⟩ := HY.out (kk) #[.int .i64 (kk : Nat), bdV (bandK w h d kk)] w4 (by omega) J4.out HK4.out (by omega) rfl
            gi_wp2_with fail
            refine hR.mono ?_
            clear hR hyy
            rintro e W3 (⟨rfl, hJ3, hk3⟩ | ⟨rfl, hJx3⟩)
            · have J5 := Lib.hid hJ3
              have HK5 := Lib.hid (HK4.out.trans hk3)
              have hs5 := hk3.size
              clear hJ3 hk3
              gi_wp2_with fail
              go_wp2_with fail
              go_roundw
              case rel => exact ⟨oo + 1, kk + 1, by have := HKK.out; omega, by omega, by omega, by go_num, by go_num, by rw [show 3 * l' + (oo + 1) = kk + 1 by have := HKK.out; omega]; exact J5.out, HK5.out, by omega⟩
              case measure => simp [intOf]; omega
            · have HX := Lib.hid hJx3
              clear hJx3
              gi_wp2_with fail
              go_wp2_with fail
              try rw [Exit.noGoto_normal]
              go_end0
              exact ⟨⟨_, rfl⟩, .inr HX.out⟩
          · obtain rfl : oo = 4 := by omega
            go_wp2_with fail
            go_roundw
            case rel => exact ⟨l' + 1, kk, by have := HKK.out; omega, by omega, rfl, by go_num, J2.out, HK2.out, hs2⟩
            case measure => simp [intOf]; omega
      · have E : 3 * d.toNat + 1 = 3 * l' + 1 := by omega
        go_wp2_with fail
        try rw [Exit.noGoto_normal]
        go_end0
        exact ⟨⟨_, rfl⟩, .inl (by rw [E]; exact J1.out)⟩
  · have HX := Lib.hid hJx3
    clear hJx3
    gi_wp2_with fail
    go_wp2_with fail
    rw [Exit.noGoto_ret]
    refine bodyPost_ret (results_none rfl _ _ _) rfl ?_
    exact ⟨⟨_, rfl⟩, .inr HX.out⟩
set_option maxRecDepth 100000 in
set_option maxHeartbeats 6400000 in
theorem ball_no (w h d : Int) (g1 g2 g3 : Nat) (El : Nat → Array Value → World → Prop) (w0 : World) (hok : okF w h d = false) (b1 : Blk w0 g1 3 #[.int .i64 w]) (b2 : Blk w0 g2 3 #[.int .i64 h]) (b3 : Blk w0 g3 3 #[.int .i64 d]) :
    Sq Try.prog 24 #[.pointer (some ⟨g1, 0, none⟩), .pointer (some ⟨g2, 0, none⟩), .pointer (some ⟨g3, 0, none⟩)] (fun k => k = g1 ∨ k = g2 ∨ k = g3) 0 El w0 := by
  intro n' l J Jx W hW hJ hY h0
  have Hok := Lib.hid hok
  have c1 := (b1.below hW b1.lt).cells1
  have c2 := (b2.below hW b2.lt).cells1
  have c3 := (b3.below hW b3.lt).cells1
  have H0 := Lib.hid h0
  clear hok hW hY h0 hJ b1 b2 b3
  show Calls Try.prog _ #[.func (.yield l) #[] #[], .pointer (some ⟨g1, 0, none⟩), .pointer (some ⟨g2, 0, none⟩), .pointer (some ⟨g3, 0, none⟩)] W _
  go_enter Try.func24, Try.ntmps24
  go_wp2_with fail
  try go_step3
  go_wp2_with fail
  refine (bfits_c w h d _).mono ?_
  rintro e w1 ⟨rfl, rfl⟩
  rw [Hok.out]
  go_wp2_with fail
  rw [Exit.noGoto_ret]
  refine bodyPost_ret (results_none rfl _ _ _) rfl ?_
  exact ⟨⟨_, rfl⟩, .inl H0.out⟩
set_option maxRecDepth 100000 in
set_option maxHeartbeats 6400000 in
theorem ballF_yes (w h d : Int) (g1 g2 g3 : Nat) (kf : Nat) (caps : Array Value) (hcf : ∀ (args : Array Value) (W : World), (callFunc kf args).run Try.prog W = .ok (.enter kf args) W) (w0 : World) (hok : okF w h d = true) (b1 : Blk w0 g1 3 #[.int .i64 w]) (b2 : Blk w0 g2 3 #[.int .i64 h]) (b3 : Blk w0 g3 3 #[.int .i64 d]) :
    SqF Try.prog 24 #[.pointer (some ⟨g1, 0, none⟩), .pointer (some ⟨g2, 0, none⟩), .pointer (some ⟨g3, 0, none⟩)] kf caps (fun k => k = g1 ∨ k = g2 ∨ k = g3) (3 * d.toNat + 1) (BdEl w h d) w0 := by
  intro J Jx W hW hJ hY h0
  obtain ⟨w0, w1, hh0, hh1, d0, d1, _⟩ := okF_t hok
  have Hok := Lib.hid hok
  have B1 := Lib.hid (b1.below hW b1.lt)
  have B2 := Lib.hid (b2.below hW b2.lt)
  have B3 := Lib.hid (b3.below hW b3.lt)
  have HY := Lib.hid hY
  have HJ := Lib.hid hJ
  have H0 := Lib.hid h0
  have L1 := B1.out.lt
  have L2 := B2.out.lt
  have L3 := B3.out.lt
  have HBD := Lib.hid (fun (l o : Int) (W : World) (l0 : 0 ≤ l) (l1 : l ≤ d) (o0 : 0 ≤ o) (o1 : o ≤ 3) => bband_c w h d l o W (by omega) w1 (by omega) hh1 l0 l1 (by omega) o0 o1)
  have c1 := B1.out.cells1
  have c2 := B2.out.cells1
  have c3 := B3.out.cells1
  clear hok hW hY h0 hJ b1 b2 b3
  show Calls Try.prog _ #[.func (.func kf) #[] caps, .pointer (some ⟨g1, 0, none⟩), .pointer (some ⟨g2, 0, none⟩), .pointer (some ⟨g3, 0, none⟩)] W _
  go_enter Try.func24, Try.ntmps24
  go_wp2_with fail
  try go_step3
  go_wp2_with fail
  refine (bfits_c w h d _).mono ?_
  rintro e w1 ⟨rfl, rfl⟩
  rw [Hok.out]
  go_wp2_with fail
  refine (HBD.out 0 0 _ (by omega) (by omega) (by omega) (by omega)).mono ?_
  rintro e w1 ⟨rfl, hb⟩
  have hs1 := hb.size
  have J0 := Lib.hid (HJ.out 0 _ _ H0.out hb)
  have HK := Lib.hid (show KeepB (fun k => k = g1 ∨ k = g2 ∨ k = g3) W w1 from KeepB.of_below hb (fun k hk => by rcases hk with hk | hk | hk <;> omega))
  clear hb c1 c2 c3
  go_wp2_with fail
  refine (HY.out (0) #[.int .i64 0, bdV (bandI w h d 0 0)] w1 (by omega) J0.out HK.out hs1 rfl).mono ?_
  rintro e W3 (⟨rfl, hJ3, hk3⟩ | ⟨rfl, hJx3⟩)
  · have J1 := Lib.hid hJ3
    have HK1 := Lib.hid (HK.out.trans hk3)
    have hs3 := hk3.size
    clear hJ3 hk3 J0 HK
    have c3 : W3.cell? ⟨g3, 0, none⟩ = some (.int .i64 d) := (HK1.out.cell (.inr (.inr rfl))).trans B3.out.cells1
    go_wp2_with fail
    go_step3
    go_wp2_with fail
    clear c3
    go_loopw [5, 23] (fun u5 u23 wr => ∃ l i : Nat, i = 3 * l + 1 ∧ (l : Int) ≤ d ∧ u5 = .int .i64 i ∧ u23 = .int .i64 l ∧ J (3 * l + 1) wr ∧ KeepB (fun k => k = g1 ∨ k = g2 ∨ k = g3) W wr ∧ W.heap.size ≤ wr.heap.size) (fun _ v _ => (d - intOf v).toNat)
    case atStart => exact ⟨0, 1, rfl, by omega, rfl, rfl, J1.out, HK1.out, by omega⟩
    case round =>
      obtain ⟨l', i, hi, hl, rfl, rfl, hj, hb, hs⟩ := hrel
      have HI := Lib.hid hi
      clear hi
      have J1 := Lib.hid hj
      have HK1 := Lib.hid hb
      obtain ⟨wo, ewo⟩ : ∃ wo, wo = wr := ⟨_, rfl⟩
      subst ewo
      clear hj hb hs1 hs3
      by_cases hlt : (l' : Int) < d
      · go_wp2_with fail
        go_loopw [5, 7] (fun u5 u7 wr => ∃ oo kk : Nat, kk = 3 * l' + oo ∧ 1 ≤ oo ∧ oo ≤ 4 ∧ u5 = .int .i64 kk ∧ u7 = .int .i64 oo ∧ J (3 * l' + oo) wr ∧ KeepB (fun k => k = g1 ∨ k = g2 ∨ k = g3) W wr ∧ W.heap.size ≤ wr.heap.size) (fun _ v _ => (4 - intOf v).toNat)
        case atStart => exact ⟨1, i, HI.out, by omega, by omega, rfl, rfl, J1.out, HK1.out, hs⟩
        case round =>
          obtain ⟨oo, kk, hkk, o1, o4, rfl, rfl, hj2, hb2, hs2⟩ := hrel
          have HKK := Lib.hid hkk
          have J2 := Lib.hid hj2
          have HK2 := Lib.hid hb2
          obtain ⟨wi, ewi⟩ : ∃ wi, wi = wr := ⟨_, rfl⟩
          subst ewi
          clear hj2 hb2
          by_cases ho : oo ≤ 3
          · have c1 : wi.cell? ⟨g1, 0, none⟩ = some (.int .i64 w) := (HK2.out.cell (.inl rfl)).trans B1.out.cells1
            have c2 : wi.cell? ⟨g2, 0, none⟩ = some (.int .i64 h) := (HK2.out.cell (.inr (.inl rfl))).trans B2.out.cells1
            have c3 : wi.cell? ⟨g3, 0, none⟩ = some (.int .i64 d) := (HK2.out.cell (.inr (.inr rfl))).trans B3.out.cells1
            have E1 : (l' : Int) + 1 = ((l' + 1 : Nat) : Int) := by omega
            have HE := Lib.hid (bandK_at w h d (l := l') (o := oo) o1 ho)
            rw [← hkk] at J2 HE
            have hlk : kk < 3 * d.toNat + 1 := by omega
            clear E1 hkk
            go_wp2_with fail
            refine (HBD.out ((l' : Int) + 1) oo _ (by omega) (by omega) (by omega) (by omega)).mono ?_
            rintro e w4 ⟨rfl, hb⟩
            rw [← HE.out]
            have hs4 := hb.size
            have J4 := Lib.hid (HJ.out kk _ _ J2.out hb)
            have HK4 := Lib.hid (show KeepB (fun k => k = g1 ∨ k = g2 ∨ k = g3) W w4 from HK2.out.trans (KeepB.of_below hb (fun k hk => by rcases hk with hk | hk | hk <;> omega)))
            clear hb c1 c2 c3
            go_wp2_with fail
            refine (HY.out (kk) #[.int .i64 (kk : Nat), bdV (bandK w h d kk)] w4 (by omega) J4.out HK4.out (by omega) rfl).mono ?_
            rintro e W3 (⟨rfl, hJ3, hk3⟩ | ⟨rfl, hJx3⟩)
            · have J5 := Lib.hid hJ3
              have HK5 := Lib.hid (HK4.out.trans hk3)
              have hs5 := hk3.size
              clear hJ3 hk3
              go_wp2_with fail
              go_roundw
              case rel => exact ⟨oo + 1, kk + 1, by have := HKK.out; omega, by omega, by omega, by go_num, by go_num, by rw [show 3 * l' + (oo + 1) = kk + 1 by have := HKK.out; omega]; exact J5.out, HK5.out, by omega⟩
              case measure => simp [intOf]; omega
            · have HX := Lib.hid hJx3
              clear hJx3
              go_wp2_with fail
              try rw [Exit.noGoto_normal]
              go_end0
              exact ⟨⟨_, rfl⟩, .inr HX.out⟩
          · obtain rfl : oo = 4 := by omega
            go_wp2_with fail
            go_roundw
            case rel => exact ⟨l' + 1, kk, by have := HKK.out; omega, by omega, rfl, by go_num, J2.out, HK2.out, hs2⟩
            case measure => simp [intOf]; omega
      · have E : 3 * d.toNat + 1 = 3 * l' + 1 := by omega
        go_wp2_with fail
        try rw [Exit.noGoto_normal]
        go_end0
        exact ⟨⟨_, rfl⟩, .inl (by rw [E]; exact J1.out)⟩
  · have HX := Lib.hid hJx3
    clear hJx3
    go_wp2_with fail
    rw [Exit.noGoto_ret]
    refine bodyPost_ret (results_none rfl _ _ _) rfl ?_
    exact ⟨⟨_, rfl⟩, .inr HX.out⟩
set_option maxRecDepth 100000 in
set_option maxHeartbeats 6400000 in
theorem ballF_no (w h d : Int) (g1 g2 g3 : Nat) (kf : Nat) (caps : Array Value) (El : Nat → Array Value → World → Prop) (w0 : World) (hok : okF w h d = false) (b1 : Blk w0 g1 3 #[.int .i64 w]) (b2 : Blk w0 g2 3 #[.int .i64 h]) (b3 : Blk w0 g3 3 #[.int .i64 d]) :
    SqF Try.prog 24 #[.pointer (some ⟨g1, 0, none⟩), .pointer (some ⟨g2, 0, none⟩), .pointer (some ⟨g3, 0, none⟩)] kf caps (fun k => k = g1 ∨ k = g2 ∨ k = g3) 0 El w0 := by
  intro J Jx W hW hJ hY h0
  have Hok := Lib.hid hok
  have c1 := (b1.below hW b1.lt).cells1
  have c2 := (b2.below hW b2.lt).cells1
  have c3 := (b3.below hW b3.lt).cells1
  have H0 := Lib.hid h0
  clear hok hW hY h0 hJ b1 b2 b3
  show Calls Try.prog _ #[.func (.func kf) #[] caps, .pointer (some ⟨g1, 0, none⟩), .pointer (some ⟨g2, 0, none⟩), .pointer (some ⟨g3, 0, none⟩)] W _
  go_enter Try.func24, Try.ntmps24
  go_wp2_with fail
  try go_step3
  go_wp2_with fail
  refine (bfits_c w h d _).mono ?_
  rintro e w1 ⟨rfl, rfl⟩
  rw [Hok.out]
  go_wp2_with fail
  rw [Exit.noGoto_ret]
  refine bodyPost_ret (results_none rfl _ _ _) rfl ?_
  exact ⟨⟨_, rfl⟩, .inl H0.out⟩

end Go.Proofs.Ytjlajggilcihoaa
