/- Planes: their rows, told one by one. -/
import Derived.Test.YtjlajggilcihoaaPl8
import Derived.Test.YtjlajggilcihoaaPl7
import Derived.Test.YtjlajggilcihoaaWalk
import Derived.Deep.DeepCutAuto
import Derived.Deep.CutBlock
namespace Go.Proofs.Ytjlajggilcihoaa
open Go.RowKit Go.Shelf
set_option linter.unusedVariables false
set_option linter.unusedSimpArgs false
attribute [local go_sem] Oper.semAt_some

/-- The k-th row of a list that is a wide. -/
def rowL (a : Nat) (V : List Int) (k : Nat) : List Int := (V.drop (k * a)).take a
theorem rowL_length {a : Nat} {V : List Int} {k : Nat} (h : k * a + a ≤ V.length) : (rowL a V k).length = a := by simp [rowL]; omega
theorem rdn_rowL {a : Nat} {V : List Int} {k x : Nat} (hx : x < a) : rdn (rowL a V k) x = rdn V (k * a + x) := by
  unfold rowL rdn
  simp [List.getD_eq_getElem?_getD, List.getElem?_take, hx]
theorem ReadsI.sub {w : World} {ad : Addr} {V : List Int} {a k : Nat} (h : ReadsI w (some ad) V) (ha : 0 < a) (hk : k * a + a ≤ V.length) : ReadsI w (some (ad.add (k * a))) (rowL a V k) := by
  refine ⟨by simp, fun _ => ⟨_, rfl, ?_, fun j u hu => ?_⟩⟩
  · obtain ⟨ad', e, hb, _⟩ := h.2 (by omega)
    injection e with e
    subst e
    rw [block_of_add]
    exact hb
  · rw [List.getElem?_map] at hu
    have hj : j < a := by
      rcases Nat.lt_or_ge j a with h1 | h1
      · exact h1
      · rw [List.getElem?_eq_none (by rw [rowL_length hk]; exact h1)] at hu; cases hu
    rw [List.getElem?_eq_getElem (by rw [rowL_length hk]; exact hj)] at hu
    simp only [Option.map_some, Option.some.injEq] at hu
    rw [add_of_add, h.cellv (i := k * a + j) (by omega), ← hu, ← rdn_rowL hj]
    simp [rdn, List.getD_eq_getElem?_getD, rowL_length hk, hj]

theorem prows_c (W H : Int) (v : Value) (w : World) :
    Calls Try.prog 32 #[plV W H v] w fun e w' => e = .returned (.func (.func 38) #[] #[.pointer (some ⟨w.heap.size, 0, none⟩)]) ∧ w' = w.alloc (.cells #[.int .i64 W, .int .i64 H, v] 39) := by
  go_enter Try.func32, Try.ntmps32
  go_wp2_with fail
  go_ret
  exact ⟨rfl, rfl⟩
/-- The k-th round of a plane's rows: its number, and a row of its own that lies at n1 or beyond. -/
def RowEl (a : Nat) (V : List Int) (n1 : Nat) (k : Nat) (args : Array Value) (W : World) : Prop := ∃ v, args = #[.int .i64 (k : Int), v] ∧ OwnI W n1 v (rowL a V k)

set_option maxRecDepth 100000 in
set_option maxHeartbeats 6400000 in
theorem prowsF_yes (a b : Nat) (ad : Addr) (V : List Int) (c B : Nat) (kf : Nat) (q1 q2 q3 q4 : Value) (hcf : ∀ (args : Array Value) (W : World), (callFunc kf args).run Try.prog W = .ok (.enter kf args) W) (w : World) (h1 : 1 ≤ a) (h2 : a ≤ 1024) (h3 : 1 ≤ b) (h4 : b ≤ 1024) (hl : V.length = a * b) (hc : V.length ≤ c) (hc2 : c ≤ 9223372036854775807)
    (hb : Blk w B 39 #[.int .i64 a, .int .i64 b, .slice (some ad) V.length c]) (hR : ReadsI w (some ad) V) :
    SqF Try.prog 38 #[.pointer (some ⟨B, 0, none⟩)] kf #[q1, q2, q3, q4] (fun k => k = B ∨ k = ad.block) b (RowEl a V w.heap.size) w := by
  intro J Jx W hW hJ hY h0
  have hok : okB a b V.length = true := by rw [hl]; exact okB_mk h1 h2 h3 h4
  have Hok := Lib.hid hok
  have ha := area_bd (W := a) (H := b) (by omega) (by omega) (by omega) (by omega)
  have hN : ((a * b : Nat) : Int) = (a : Int) * (b : Int) := Int.natCast_mul a b
  have hnn : V.length ≤ 1048576 := by omega
  have HN := Lib.hid hl
  have hbW := hb.below hW hb.lt
  have HbW := Lib.hid hbW
  have HRW := Lib.hid (hR.kept hW)
  have HY := Lib.hid hY
  have HJ := Lib.hid hJ
  have H0 := Lib.hid h0
  have HwW := Lib.hid hW.size
  have hadl : ad.block < W.heap.size := by obtain ⟨ad', e, hbl, _⟩ := HRW.out.2 (by have : 1 * 1 ≤ a * b := Nat.mul_le_mul h1 h3; omega); injection e with e; subst e; exact hbl
  clear hl hN ha hok hb hW hY h0 hJ hR
  obtain ⟨⟨c0, c1, c2⟩, _⟩ := hbW.three
  clear hbW
  show Calls Try.prog _ #[.func (.func kf) #[] #[q1, q2, q3, q4], .pointer (some ⟨B, 0, none⟩)] W _
  go_enter Try.func38, Try.ntmps38
  go_wp2_with fail
  refine (pright_c a b (some ad) V.length c _ (by omega)).mono ?_
  rintro e w1 ⟨rfl, hb1⟩
  rw [Hok.out]
  have hWW := Lib.hid hb1
  have hw1 := hb1.size
  have b1 := HbW.out.below hb1 HbW.out.lt
  obtain ⟨⟨d0, d1, d2⟩, _⟩ := b1.three
  have J0 := Lib.hid (HJ.out 0 _ _ H0.out hb1)
  clear c0 c1 c2 hb1 b1
  go_wp2_with fail
  go_loopw [9] (fun v wr => ∃ y : Nat, y ≤ b ∧ v = .int .i64 y ∧ J y wr ∧ KeepB (fun k => k = B ∨ k = ad.block) W wr ∧ W.heap.size ≤ wr.heap.size) (fun v _ => b - (intOf v).toNat)
  case atStart => exact ⟨0, Nat.zero_le _, rfl, J0.out, KeepB.of_below hWW.out (fun k hk => hk.elim (fun e => e ▸ HbW.out.lt) (fun e => e ▸ hadl)), hw1⟩
  case round =>
    obtain ⟨y, hy, rfl, hj, hb, hs⟩ := hrel
    have HJ1 := Lib.hid hj
    have HB := Lib.hid hb
    have e0 : wr.cell? ⟨B, 0, none⟩ = some (.int .i64 a) := (hb.cell (.inl rfl)).trans (HbW.out.cell 0)
    have e2 : wr.cell? ⟨B, 2, none⟩ = some (.slice (some ad) V.length c) := (hb.cell (.inl rfl)).trans (HbW.out.cell 2)
    clear hj hb d0 d1 d2 J0 hWW hw1
    by_cases hlt : y < b
    · have hle : y * a + a ≤ V.length := by
        have : (y + 1) * a ≤ b * a := Nat.mul_le_mul_right a (by omega)
        rw [Nat.mul_comm b a, Nat.add_mul] at this
        have := HN.out
        omega
      have E1 : (y : Int) * (a : Int) = ((y * a : Nat) : Int) := (Int.natCast_mul y a).symm
      have E2 : ((y : Int) + 1) * (a : Int) = ((y * a + a : Nat) : Int) := by rw [Int.add_mul, E1]; omega
      have HRr := Lib.hid (show ReadsI wr (some ad) V from ⟨HRW.out.1, fun h => by
        obtain ⟨ad', e, hbl, hcl⟩ := HRW.out.2 h
        refine ⟨ad', e, by omega, fun j u hu => ?_⟩
        injection e with e
        subst e
        rw [HB.out.cell (p := ad.add j) (.inr (block_of_add _ _))]
        exact hcl j u hu⟩)
      have HSUB := Lib.hid (HRr.out.sub (by omega) hle)
      have hrl : (rowL a V y).length = a := rowL_length hle
      generalize hlo : y * a = lo at *
      have L1 : (0 : Int) ≤ (lo : Int) := by omega
      have L2 : (lo : Int) ≤ 1048576 := by omega
      have L3 : ((lo + a : Nat) : Int) ≤ 1048576 := by omega
      have L4 : lo ≤ c := by omega
      have L5 : lo + a ≤ c := by omega
      have L6 : ¬ c = lo := by omega
      have L7 : lo ≤ lo + a := by omega
      have HLO := Lib.hid hlo
      clear hlo
      have HRL := Lib.hid hrl
      clear hrl
      have hcl := sclone_c (some (ad.add lo)) (c - lo) (rowL a V y) wr HSUB.out (by rw [HRL.out]; omega)
      rw [HRL.out] at hcl
      have HCL := Lib.hid hcl
      clear hcl
      go_wp2_with fail
      refine HCL.out.mono ?_
      rintro e w2 ⟨v, rfl, ho, hb2⟩
      have HJ2 := Lib.hid (HJ.out y _ _ HJ1.out hb2)
      have HB2 := Lib.hid (HB.out.trans (KeepB.of_below hb2 (fun k hk => hk.elim (fun e => by have := HbW.out.lt; omega) (fun e => by omega))))
      have hs2 := hb2.size
      have HO := Lib.hid (show RowEl a V w.heap.size y #[.int .i64 (y : Int), v] w2 from ⟨v, rfl, ho.lower (by have := HwW.out; omega)⟩)
      clear ho hb2 e0 e2
      go_wp2_with fail
      refine (HY.out y #[.int .i64 (y : Int), v] w2 hlt HJ2.out HB2.out (by omega) HO.out).mono ?_
      rintro e W3 (⟨rfl, hJ3, hk3⟩ | ⟨rfl, hJx3⟩)
      · have HJ3 := Lib.hid hJ3
        have HK3 := Lib.hid hk3
        clear hJ3 hk3
        go_wp2_with fail
        go_roundw
        case rel => exact ⟨y + 1, by omega, by go_num, HJ3.out, HB2.out.trans HK3.out, Nat.le_trans (Nat.le_trans hs hs2) HK3.out.size⟩
        case measure => simp [intOf]; omega
      · have HX3 := Lib.hid hJx3
        clear hJx3
        go_wp2_with fail
        refine bodyPost_ret (results_none rfl _ _ _) rfl ?_
        exact ⟨⟨_, rfl⟩, .inr HX3.out⟩
    · obtain rfl : y = b := by omega
      go_wp2_with fail
      go_end0
      exact ⟨⟨_, rfl⟩, .inl HJ1.out⟩

theorem prowsF_no (W H : Int) (A : Option Addr) (n c B : Nat) (kf : Nat) (q1 q2 q3 q4 : Value) (hcf : ∀ (args : Array Value) (W : World), (callFunc kf args).run Try.prog W = .ok (.enter kf args) W) (K : Nat → Prop) (El : Nat → Array Value → World → Prop) (w : World) (hn : n ≤ 9223372036854775807) (hok : okB W H n = false)
    (hb : Blk w B 39 #[.int .i64 W, .int .i64 H, .slice A n c]) :
    SqF Try.prog 38 #[.pointer (some ⟨B, 0, none⟩)] kf #[q1, q2, q3, q4] K 0 El w := by
  intro J Jx W1 hW hJ hY h0
  have Hok := Lib.hid hok
  have hbW := hb.below hW hb.lt
  have HJ := Lib.hid hJ
  have H0 := Lib.hid h0
  clear hok hb hW hY h0 hJ
  obtain ⟨⟨c0, c1, c2⟩, _⟩ := hbW.three
  clear hbW
  show Calls Try.prog _ #[.func (.func kf) #[] #[q1, q2, q3, q4], .pointer (some ⟨B, 0, none⟩)] W1 _
  go_enter Try.func38, Try.ntmps38
  go_wp2_with fail
  refine (pright_c W H A n c _ (by omega)).mono ?_
  rintro e w1 ⟨rfl, hb1⟩
  rw [Hok.out]
  have J0 := Lib.hid (HJ.out 0 _ _ H0.out hb1)
  clear hb1
  go_wp2_with fail
  refine bodyPost_ret (results_none rfl _ _ _) rfl ?_
  exact ⟨⟨_, rfl⟩, .inl J0.out⟩

set_option maxRecDepth 100000 in
set_option maxHeartbeats 6400000 in
theorem prows_yes (a b : Nat) (ad : Addr) (V : List Int) (c B : Nat) (w : World) (h1 : 1 ≤ a) (h2 : a ≤ 1024) (h3 : 1 ≤ b) (h4 : b ≤ 1024) (hl : V.length = a * b) (hc : V.length ≤ c) (hc2 : c ≤ 9223372036854775807)
    (hb : Blk w B 39 #[.int .i64 a, .int .i64 b, .slice (some ad) V.length c]) (hR : ReadsI w (some ad) V) :
    Sq Try.prog 38 #[.pointer (some ⟨B, 0, none⟩)] (fun k => k = B ∨ k = ad.block) b (RowEl a V w.heap.size) w := by
  intro n' l J Jx W hW hJ hY h0
  have hok : okB a b V.length = true := by rw [hl]; exact okB_mk h1 h2 h3 h4
  have Hok := Lib.hid hok
  have ha := area_bd (W := a) (H := b) (by omega) (by omega) (by omega) (by omega)
  have hN : ((a * b : Nat) : Int) = (a : Int) * (b : Int) := Int.natCast_mul a b
  have hnn : V.length ≤ 1048576 := by omega
  have HN := Lib.hid hl
  have hbW := hb.below hW hb.lt
  have HbW := Lib.hid hbW
  have HRW := Lib.hid (hR.kept hW)
  have HY := Lib.hid hY
  have HJ := Lib.hid hJ
  have H0 := Lib.hid h0
  have HwW := Lib.hid hW.size
  have hadl : ad.block < W.heap.size := by obtain ⟨ad', e, hbl, _⟩ := HRW.out.2 (by have : 1 * 1 ≤ a * b := Nat.mul_le_mul h1 h3; omega); injection e with e; subst e; exact hbl
  clear hl hN ha hok hb hW hY h0 hJ hR
  obtain ⟨⟨c0, c1, c2⟩, _⟩ := hbW.three
  clear hbW
  show Calls Try.prog _ #[.func (.yield l) #[] #[], .pointer (some ⟨B, 0, none⟩)] W _
  go_enter Try.func38, Try.ntmps38
  go_wp2_with fail
  refine (pright_c a b (some ad) V.length c _ (by omega)).mono ?_
  rintro e w1 ⟨rfl, hb1⟩
  rw [Hok.out]
  have hWW := Lib.hid hb1
  have hw1 := hb1.size
  have b1 := HbW.out.below hb1 HbW.out.lt
  obtain ⟨⟨d0, d1, d2⟩, _⟩ := b1.three
  have J0 := Lib.hid (HJ.out 0 _ _ H0.out hb1)
  clear c0 c1 c2 hb1 b1
  go_wp2_with fail
  go_loopw [9] (fun v wr => ∃ y : Nat, y ≤ b ∧ v = .int .i64 y ∧ J y wr ∧ KeepB (fun k => k = B ∨ k = ad.block) W wr ∧ W.heap.size ≤ wr.heap.size) (fun v _ => b - (intOf v).toNat)
  case atStart => exact ⟨0, Nat.zero_le _, rfl, J0.out, KeepB.of_below hWW.out (fun k hk => hk.elim (fun e => e ▸ HbW.out.lt) (fun e => e ▸ hadl)), hw1⟩
  case round =>
    obtain ⟨y, hy, rfl, hj, hb, hs⟩ := hrel
    have HJ1 := Lib.hid hj
    have HB := Lib.hid hb
    have e0 : wr.cell? ⟨B, 0, none⟩ = some (.int .i64 a) := (hb.cell (.inl rfl)).trans (HbW.out.cell 0)
    have e2 : wr.cell? ⟨B, 2, none⟩ = some (.slice (some ad) V.length c) := (hb.cell (.inl rfl)).trans (HbW.out.cell 2)
    clear hj hb d0 d1 d2 J0 hWW hw1
    by_cases hlt : y < b
    · have hle : y * a + a ≤ V.length := by
        have : (y + 1) * a ≤ b * a := Nat.mul_le_mul_right a (by omega)
        rw [Nat.mul_comm b a, Nat.add_mul] at this
        have := HN.out
        omega
      have E1 : (y : Int) * (a : Int) = ((y * a : Nat) : Int) := (Int.natCast_mul y a).symm
      have E2 : ((y : Int) + 1) * (a : Int) = ((y * a + a : Nat) : Int) := by rw [Int.add_mul, E1]; omega
      have HRr := Lib.hid (show ReadsI wr (some ad) V from ⟨HRW.out.1, fun h => by
        obtain ⟨ad', e, hbl, hcl⟩ := HRW.out.2 h
        refine ⟨ad', e, by omega, fun j u hu => ?_⟩
        injection e with e
        subst e
        rw [HB.out.cell (p := ad.add j) (.inr (block_of_add _ _))]
        exact hcl j u hu⟩)
      have HSUB := Lib.hid (HRr.out.sub (by omega) hle)
      have hrl : (rowL a V y).length = a := rowL_length hle
      generalize hlo : y * a = lo at *
      have L1 : (0 : Int) ≤ (lo : Int) := by omega
      have L2 : (lo : Int) ≤ 1048576 := by omega
      have L3 : ((lo + a : Nat) : Int) ≤ 1048576 := by omega
      have L4 : lo ≤ c := by omega
      have L5 : lo + a ≤ c := by omega
      have L6 : ¬ c = lo := by omega
      have L7 : lo ≤ lo + a := by omega
      have HLO := Lib.hid hlo
      clear hlo
      have HRL := Lib.hid hrl
      clear hrl
      have hcl := sclone_c (some (ad.add lo)) (c - lo) (rowL a V y) wr HSUB.out (by rw [HRL.out]; omega)
      rw [HRL.out] at hcl
      have HCL := Lib.hid hcl
      clear hcl
      go_upto_region 4 with fail
      refine (wpIn_wide (n := n' + 1)).1 ?_
      gi_wp2_with fail
      refine ⟨trivial, (callsIn_wide.2 HCL.out).mono ?_⟩
      rintro e w2 ⟨v, rfl, ho, hb2⟩
      have HJ2 := Lib.hid (HJ.out y _ _ HJ1.out hb2)
      have HB2 := Lib.hid (HB.out.trans (KeepB.of_below hb2 (fun k hk => hk.elim (fun e => by have := HbW.out.lt; omega) (fun e => by omega))))
      have hs2 := hb2.size
      have HO := Lib.hid (show RowEl a V w.heap.size y #[.int .i64 (y : Int), v] w2 from ⟨v, rfl, ho.lower (by have := HwW.out; omega)⟩)
      clear ho hb2 e0 e2
      obtain ⟨fn, tmps, assign, body, hyy, hR⟩ := HY.out y #[.int .i64 (y : Int), v] w2 hlt HJ2.out HB2.out (by omega) HO.out
      gi_wp2_with fail
      refine hR.mono ?_
      clear hR hyy
      rintro e W3 (⟨rfl, hJ3, hk3⟩ | ⟨rfl, hJx3⟩)
      · have HJ3 := Lib.hid hJ3
        have HK3 := Lib.hid hk3
        clear hJ3 hk3
        gi_wp2_with fail
        go_wp2_with fail
        go_roundw
        case rel => exact ⟨y + 1, by omega, by go_num, HJ3.out, HB2.out.trans HK3.out, Nat.le_trans (Nat.le_trans hs hs2) HK3.out.size⟩
        case measure => simp [intOf]; omega
      · have HX3 := Lib.hid hJx3
        clear hJx3
        gi_wp2_with fail
        go_wp2_with fail
        refine bodyPost_ret (results_none rfl _ _ _) rfl ?_
        exact ⟨⟨_, rfl⟩, .inr HX3.out⟩
    · obtain rfl : y = b := by omega
      go_wp2_with fail
      go_end0
      exact ⟨⟨_, rfl⟩, .inl HJ1.out⟩

theorem prows_no (W H : Int) (A : Option Addr) (n c B : Nat) (K : Nat → Prop) (El : Nat → Array Value → World → Prop) (w : World) (hn : n ≤ 9223372036854775807) (hok : okB W H n = false)
    (hb : Blk w B 39 #[.int .i64 W, .int .i64 H, .slice A n c]) :
    Sq Try.prog 38 #[.pointer (some ⟨B, 0, none⟩)] K 0 El w := by
  intro n' l J Jx W1 hW hJ hY h0
  have Hok := Lib.hid hok
  have hbW := hb.below hW hb.lt
  have HJ := Lib.hid hJ
  have H0 := Lib.hid h0
  clear hok hb hW hY h0 hJ
  obtain ⟨⟨c0, c1, c2⟩, _⟩ := hbW.three
  clear hbW
  show Calls Try.prog _ #[.func (.yield l) #[] #[], .pointer (some ⟨B, 0, none⟩)] W1 _
  go_enter Try.func38, Try.ntmps38
  go_wp2_with fail
  refine (pright_c W H A n c _ (by omega)).mono ?_
  rintro e w1 ⟨rfl, hb1⟩
  rw [Hok.out]
  have J0 := Lib.hid (HJ.out 0 _ _ H0.out hb1)
  clear hb1
  go_wp2_with fail
  refine bodyPost_ret (results_none rfl _ _ _) rfl ?_
  exact ⟨⟨_, rfl⟩, .inl J0.out⟩

end Go.Proofs.Ytjlajggilcihoaa
