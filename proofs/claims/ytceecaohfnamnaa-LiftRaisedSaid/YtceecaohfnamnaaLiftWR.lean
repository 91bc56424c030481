/- The walk of LiftRaised. -/
import Derived.Test.YtceecaohfnamnaaLiftWB
namespace Go.Proofs.Ytceecaohfnamnaa
open Go.RowKit
set_option linter.unusedVariables false
set_option linter.unusedSimpArgs false

theorem fwd_up_bd (f b : Int) (xs : List Int) (hl : rightL xs.length = true) (hf : rightF f = true) (h : Small 1125899906842624 xs) (hb : -2147483648 ≤ b ∧ b ≤ 2147483647) :
    ∀ j, j < xs.length → -9223372036854775808 ≤ rdn (fwdZ f (upZ b xs)) j ∧ rdn (fwdZ f (upZ b xs)) j ≤ 9223372036854775807 := by
  have hin : In64 (upZ b xs) := by
    intro j
    by_cases hj : j < xs.length
    · unfold upZ
      rw [rdn_tab _ _ hj]
      have := h j
      exact wrap64_id (by omega) (by omega)
    · unfold rdn
      rw [List.getD_eq_getElem?_getD, List.getElem?_eq_none (by unfold upZ; rw [tab_length]; omega)]
      exact wrap64_id (by simp) (by simp)
  intro j hj
  have h1 : fwdZ f (upZ b xs) = allZ 0 1 (stepZ f false) (allZ 1 (-1) (stepZ f true) (upZ b xs)) := if_pos ⟨hf, by unfold upZ; rw [tab_length]; exact hl⟩
  have := in64_all (in64_all hin 1 (-1) (stepZ f true)) 0 1 (stepZ f false) j
  rw [← h1] at this
  rw [← this]
  exact wrap64_bd _

set_option maxRecDepth 100000 in
set_option maxHeartbeats 6400000 in
theorem raised_long (f b : Int) (A : Option Addr) (c : Nat) (xs : List Int) (W : World) (hR : ReadsI W A xs) (hm : xs.length ≤ 9223372036854775807) (h : 300 < xs.length) :
    Calls Try.prog 6 #[.int .i64 f, .slice A xs.length c, .int .i32 b] W fun e W' => e = .returned (.bool true) ∧ Below W.heap.size W W' := by
  have HR0 := Lib.hid hR
  clear hR
  go_enter Try.func6, Try.ntmps6
  go_wp2_with fail
  refine (first_c _).mono ?_
  rintro e w1 ⟨rfl, hb⟩
  have HR1 := Lib.hid (HR0.out.kept hb)
  have Hb1 := Lib.hid hb
  clear hb HR0
  go_wp2_with fail
  all_goals (go_ret; first | exact ⟨rfl, Hb1.out⟩ | exact ⟨ret_bool (by simp_all), Hb1.out⟩)

set_option maxRecDepth 100000 in
set_option maxHeartbeats 6400000 in
theorem raised_nil (f b : Int) (A : Option Addr) (c : Nat) (xs : List Int) (W : World) (hR : ReadsI W A xs) (hm : xs.length ≤ 9223372036854775807) (h : xs.length = 0) :
    Calls Try.prog 6 #[.int .i64 f, .slice A xs.length c, .int .i32 b] W fun e W' => e = .returned (.bool true) ∧ Below W.heap.size W W' := by
  have HR0 := Lib.hid hR
  clear hR
  have hm2 : xs.length ≤ 300 := by omega
  (first | (have hb0 : (((xs.length : Int) : Int) == 0) = true := by rw [beq_iff_eq]; omega) | (have hb0 : (((xs.length : Int) : Int) == 0) = false := by rw [beq_eq_false_iff_ne]; omega))
  clear h
  go_enter Try.func6, Try.ntmps6
  go_wp2_with fail
  refine (first_c _).mono ?_
  rintro e w1 ⟨rfl, hb⟩
  have HR1 := Lib.hid (HR0.out.kept hb)
  have Hb1 := Lib.hid hb
  clear hb HR0
  go_wp2_with fail
  all_goals (go_ret; first | exact ⟨rfl, Hb1.out⟩ | exact ⟨ret_bool (by simp_all), Hb1.out⟩)

set_option maxRecDepth 100000 in
set_option maxHeartbeats 6400000 in
theorem raised_odd (f b : Int) (A : Option Addr) (c : Nat) (xs : List Int) (W : World) (hR : ReadsI W A xs) (hm : xs.length ≤ 9223372036854775807) (h : xs.length % 2 = 1) (hm2 : xs.length ≤ 300) :
    Calls Try.prog 6 #[.int .i64 f, .slice A xs.length c, .int .i32 b] W fun e W' => e = .returned (.bool true) ∧ Below W.heap.size W W' := by
  have HR0 := Lib.hid hR
  clear hR
  (first | (have hb0 : (((xs.length : Int) : Int) == 0) = true := by rw [beq_iff_eq]; omega) | (have hb0 : (((xs.length : Int) : Int) == 0) = false := by rw [beq_eq_false_iff_ne]; omega))
  (first | (have hb1 : (((xs.length : Int) % 2 : Int) == 1) = true := by rw [beq_iff_eq]; omega) | (have hb1 : (((xs.length : Int) % 2 : Int) == 1) = false := by rw [beq_eq_false_iff_ne]; omega))
  clear h
  go_enter Try.func6, Try.ntmps6
  go_wp2_with fail
  refine (first_c _).mono ?_
  rintro e w1 ⟨rfl, hb⟩
  have HR1 := Lib.hid (HR0.out.kept hb)
  have Hb1 := Lib.hid hb
  clear hb HR0
  go_wp2_with fail
  all_goals (go_ret; first | exact ⟨rfl, Hb1.out⟩ | exact ⟨ret_bool (by simp_all), Hb1.out⟩)

set_option maxRecDepth 100000 in
set_option maxHeartbeats 6400000 in
theorem raised_wrong (f b : Int) (A : Option Addr) (c : Nat) (xs : List Int) (W : World) (hR : ReadsI W A xs) (hm : xs.length ≤ 9223372036854775807) (h : xs.length % 2 = 0) (h2 : 2 ≤ xs.length) (hm2 : xs.length ≤ 300) (hf : rightF f = false) :
    Calls Try.prog 6 #[.int .i64 f, .slice A xs.length c, .int .i32 b] W fun e W' => e = .returned (.bool true) ∧ Below W.heap.size W W' := by
  have HR0 := Lib.hid hR
  clear hR
  have Hf := Lib.hid hf
  (first | (have hb0 : (((xs.length : Int) : Int) == 0) = true := by rw [beq_iff_eq]; omega) | (have hb0 : (((xs.length : Int) : Int) == 0) = false := by rw [beq_eq_false_iff_ne]; omega))
  (first | (have hb1 : (((xs.length : Int) % 2 : Int) == 1) = true := by rw [beq_iff_eq]; omega) | (have hb1 : (((xs.length : Int) % 2 : Int) == 1) = false := by rw [beq_eq_false_iff_ne]; omega))
  clear h hf
  go_enter Try.func6, Try.ntmps6
  go_wp2_with fail
  refine (first_c _).mono ?_
  rintro e w1 ⟨rfl, hb⟩
  have HR1 := Lib.hid (HR0.out.kept hb)
  have Hb1 := Lib.hid hb
  clear hb HR0
  go_wp2_with fail
  refine (lright_c _ _).mono ?_
  rintro e w' ⟨rfl, rfl⟩
  rw [Hf.out]
  go_wp2_with fail
  all_goals (go_ret; first | exact ⟨rfl, Hb1.out⟩ | exact ⟨ret_bool (by simp_all), Hb1.out⟩)

set_option maxRecDepth 100000 in
set_option maxHeartbeats 6400000 in
theorem raised_main (f b : Int) (A : Option Addr) (c : Nat) (xs : List Int) (W : World) (hR : ReadsI W A xs) (hm : xs.length ≤ 9223372036854775807) (h : xs.length % 2 = 0) (h2 : 2 ≤ xs.length) (hm2 : xs.length ≤ 300) (hf : rightF f = true) (hb : -2147483648 ≤ b ∧ b ≤ 2147483647) :
    Calls Try.prog 6 #[.int .i64 f, .slice A xs.length c, .int .i32 b] W fun e W' => e = .returned (.bool true) ∧ Below W.heap.size W W' := by
  have HR0 := Lib.hid hR
  clear hR
  obtain ⟨bl, bh⟩ := hb
  have Hf := Lib.hid hf
  have hl : rightL xs.length = true := decide_eq_true ⟨h2, h⟩
  obtain ⟨x, hx', Hx⟩ : ∃ x, x.length = xs.length ∧ Hid (fwdZ f xs = x) := ⟨_, fwdZ_length hf hl, rfl⟩
  have Hlx := Lib.hid (show rightL x.length = true by rw [hx']; exact hl)
  have He := Lib.hid h
  have hxb : x.length ≤ 300 := by omega
  have hze := fillL_length xs.length (fun j => rdn xs j + b) xs.length
  obtain ⟨z, Hz⟩ : ∃ z, Hid (fillL xs.length (fun j => rdn xs j + b) xs.length = z) := ⟨_, Lib.hid rfl⟩
  have hzu : upZ b xs = z := by rw [← Hz.out]; unfold upZ; rw [fillL_full]; rfl
  have Hle := Lib.hid (show z.length = xs.length by rw [← Hz.out]; exact hze)
  have hzl : rightL z.length = true := by rw [Hle.out]; exact hl
  obtain ⟨o, hoe, Ho⟩ : ∃ o, o.length = xs.length ∧ Hid (fwdZ f z = o) := ⟨_, (fwdZ_length hf hzl).trans Hle.out, rfl⟩
  have Hlo := Lib.hid (show rightL o.length = true by rw [hoe]; exact hl)
  have hob : o.length ≤ 300 := by omega
  obtain ⟨u, hu', Hu⟩ : ∃ u, u.length = xs.length / 2 ∧ Hid (everyK o 0 (o.length / 2) = u) := ⟨_, by rw [everyK_length, hoe], rfl⟩
  obtain ⟨v, hv', Hv⟩ : ∃ v, v.length = xs.length / 2 ∧ Hid (everyK o 1 (o.length / 2) = v) := ⟨_, by rw [everyK_length, hoe], rfl⟩
  obtain ⟨p, hp', Hp⟩ : ∃ p, p.length = xs.length / 2 ∧ Hid (everyK x 0 (x.length / 2) = p) := ⟨_, by rw [everyK_length, hx'], rfl⟩
  obtain ⟨q, hq', Hq⟩ : ∃ q, q.length = xs.length / 2 ∧ Hid (everyK x 1 (x.length / 2) = q) := ⟨_, by rw [everyK_length, hx'], rfl⟩
  have Hall : Hid (Small 1125899906842624 xs → ∀ k, k < p.length → rdn u k = rdn p k + b ∧ rdn v k = rdn q k ∧ -9223372036854775808 ≤ rdn p k + b ∧ rdn p k + b ≤ 9223372036854775807) := Lib.hid (by
    intro hsm k hk
    have hup := fwd_up f b xs hl hf hsm ⟨bl, bh⟩
    rw [hzu, Ho.out, Hx.out] at hup
    have hob := fwd_up_bd f b xs hl hf hsm ⟨bl, bh⟩ (2 * k + 0) (by omega)
    rw [hzu, Ho.out] at hob
    have e0 := hup (2 * k + 0) (by omega)
    rw [if_neg (by omega)] at e0
    have e1 := hup (2 * k + 1) (by omega)
    rw [if_pos (by omega)] at e1
    rw [e0] at hob
    rw [← Hp.out, ← Hq.out, ← Hu.out, ← Hv.out]
    unfold everyK
    rw [rdn_tab _ _ (by omega), rdn_tab _ _ (by omega), rdn_tab _ _ (by omega), rdn_tab _ _ (by omega)]
    exact ⟨e0, e1, hob.1, hob.2⟩)
  have h1 : p.length ≤ u.length := by omega
  have h3 : p.length ≤ v.length := by omega
  have h4 : p.length ≤ q.length := by omega
  have h5 : u.length ≤ 150 := by omega
  have h6 : v.length ≤ 150 := by omega
  have h7 : q.length ≤ 150 := by omega
  have g1 : ((p.length : Int) == (u.length : Int)) = true := by rw [beq_iff_eq]; omega
  have g2 : ((q.length : Int) == (v.length : Int)) = true := by rw [beq_iff_eq]; omega
  have hend : ((p.length : Int) == (xs.length : Int) / 2) = true := by rw [beq_iff_eq]; omega
  (first | (have hb0 : (((xs.length : Int) : Int) == 0) = true := by rw [beq_iff_eq]; omega) | (have hb0 : (((xs.length : Int) : Int) == 0) = false := by rw [beq_eq_false_iff_ne]; omega))
  (first | (have hb1 : (((xs.length : Int) % 2 : Int) == 1) = true := by rw [beq_iff_eq]; omega) | (have hb1 : (((xs.length : Int) % 2 : Int) == 1) = false := by rw [beq_eq_false_iff_ne]; omega))
  clear h hf hl hx' hze hzl hoe hu' hv' hp' hq' hzu
  go_enter Try.func6, Try.ntmps6
  go_wp2_with fail
  refine (first_c _).mono ?_
  rintro e w1 ⟨rfl, hb⟩
  have HR1 := Lib.hid (HR0.out.kept hb)
  have Hb1 := Lib.hid hb
  clear hb HR0
  go_wp2_with fail
  refine (lright_c _ _).mono ?_
  rintro e w' ⟨rfl, rfl⟩
  rw [Hf.out]
  have hmk := make_int 23 Try.underlying23 xs.length (by omega)
  rw [← fillL_zero xs.length (fun j => rdn xs j + b)] at hmk
  go_wp2_with fail
  clear hmk
  go_loopw [41] (fun v wr => ∃ k : Nat, k ≤ xs.length ∧ v = .int .i64 k ∧ RowI wr w1.heap.size (fillL xs.length (fun j => rdn xs j + b) k) ∧ Below w1.heap.size w1 wr ∧ Hid (∀ j, j < k → -1125899906842624 ≤ rdn xs j ∧ rdn xs j ≤ 1125899906842624)) (fun v _ => xs.length - (intOf v).toNat)
  case atStart => exact ⟨0, Nat.zero_le _, rfl, RowI.new _ _, (Below.refl _ _).alloc (Nat.le_refl _) _, Lib.hid (fun j hj => absurd hj (Nat.not_lt_zero _))⟩
  case round =>
    obtain ⟨k, hk, rfl, hr, hb, Hsm⟩ := hrel
    have hl := fillL_length xs.length (fun j => rdn xs j + b) k
    by_cases hlt : k < xs.length
    · have hc := hr.cell (i := k) (by omega)
      have hfz := hr.frozen k
      obtain ⟨ad, rfl, ha, hc1⟩ := (HR1.out.kept hb).rd_ (i := k) hlt
      have Hset := Lib.hid (fillL_set xs.length (fun j => rdn xs j + b) k hlt)
      obtain ⟨r, hre⟩ : ∃ r, rdn xs k = r := ⟨_, rfl⟩
      have Hre := Lib.hid hre
      rw [hre] at hc1
      have Hr := Lib.hid hr
      have Hb := Lib.hid hb
      clear hl hr hre ha hb
      rcases (show 1125899906842624 < r ∨ r < -1125899906842624 ∨ (-1125899906842624 ≤ r ∧ r ≤ 1125899906842624) by omega) with hr | hr | ⟨hr1, hr2⟩
      · have Hb2 := Lib.hid (Hb1.out.trans (Hb.out.mono Hb1.out.size))
        go_wp2_with fail
        all_goals (go_ret; exact ⟨rfl, Hb2.out⟩)
      · have Hb2 := Lib.hid (Hb1.out.trans (Hb.out.mono Hb1.out.size))
        go_wp2_with fail
        all_goals (go_ret; exact ⟨rfl, Hb2.out⟩)
      · go_wp2_with fail
        go_roundw
        case rel =>
          refine ⟨k + 1, by omega, by go_num, ?_, Hb.out.setCell (Nat.le_refl _) _, Lib.hid ?_⟩
          · rw [← Hset.out, Hre.out]
            exact Hr.out.set_ _ _
          · intro j hj
            by_cases hjk : j = k
            · rw [hjk, Hre.out]; omega
            · exact Hsm.out j (by omega)
        case measure => simp [intOf]; omega
    · have hke : k = xs.length := by omega
      have HE2 := Lib.hid (show ReadsI wr (some ⟨w1.heap.size, 0, none⟩) (fillL xs.length (fun j => rdn xs j + b) xs.length) from by rw [hke] at hr; exact hr.reads (by rw [fillL_length]; unfold maxLen; omega))
      rw [Hz.out] at HE2
      have hsm : Small 1125899906842624 xs := by
        intro j
        by_cases hj : j < xs.length
        · exact Hsm.out j (by omega)
        · unfold rdn; rw [List.getD_eq_getElem?_getD, List.getElem?_eq_none (by omega)]; simp
      have Hup := Lib.hid (Hall.out hsm)
      clear hr hl hsm Hsm
      have HR2 := Lib.hid (HR1.out.kept hb)
      have Hb2 := Lib.hid (Hb1.out.trans (hb.mono Hb1.out.size))
      clear hb HR1 Hb1
      have hkl : xs.length ≤ k := by omega
      clear hke hlt
      go_wp2_with fail
      refine (lfwd_c _ _ xs _ _ HR2.out (by omega)).mono ?_
      rintro e w3 ⟨v3, rfl, ho, hb⟩
      rw [Hx.out] at ho
      obtain ⟨AX, cX, rfl, hnew⟩ := ho.slice
      have HX3 := Lib.hid hnew
      have HR3 := Lib.hid (HR2.out.kept hb)
      have HE3 := Lib.hid (HE2.out.kept hb)
      have Hb3 := Lib.hid (Hb2.out.trans (hb.mono Hb2.out.size))
      clear hb HR2 HE2 Hb2 ho hnew
      go_wp2_with fail
      refine (lpart_yes _ _ x _ HX3.out (by omega) Hlx.out).mono ?_
      rintro e w4 ⟨v4, u4, rfl, ho, ho2, _, hb⟩
      rw [Hp.out] at ho
      rw [Hq.out] at ho2
      obtain ⟨AP, cP, rfl, hnew⟩ := ho.slice
      obtain ⟨AQ, cQ, rfl, hnew2⟩ := ho2.slice
      have HP4 := Lib.hid hnew
      have HQ4 := Lib.hid hnew2
      have HR4 := Lib.hid (HR3.out.kept hb)
      have HE4 := Lib.hid (HE3.out.kept hb)
      have HX4 := Lib.hid (HX3.out.kept hb)
      have Hb4 := Lib.hid (Hb3.out.trans (hb.mono Hb3.out.size))
      clear hb HR3 HE3 HX3 Hb3 ho ho2 hnew hnew2
      go_wp2_with fail
      refine (lfwd_n _ _ _ z _ _ Hle.out HE4.out (by rw [Hle.out]; omega)).mono ?_
      rintro e w5 ⟨v5, rfl, ho, hb⟩
      rw [Ho.out] at ho
      obtain ⟨AO, cO, rfl, hnew⟩ := ho.slice
      have HO5 := Lib.hid hnew
      have HR5 := Lib.hid (HR4.out.kept hb)
      have HE5 := Lib.hid (HE4.out.kept hb)
      have HX5 := Lib.hid (HX4.out.kept hb)
      have HP5 := Lib.hid (HP4.out.kept hb)
      have HQ5 := Lib.hid (HQ4.out.kept hb)
      have Hb5 := Lib.hid (Hb4.out.trans (hb.mono Hb4.out.size))
      clear hb HR4 HE4 HX4 HP4 HQ4 Hb4 ho hnew
      go_wp2_with fail
      refine (lpart_yes _ _ o _ HO5.out (by omega) Hlo.out).mono ?_
      rintro e w6 ⟨v6, u6, rfl, ho, ho2, _, hb⟩
      rw [Hu.out] at ho
      rw [Hv.out] at ho2
      obtain ⟨AU, cU, rfl, hnew⟩ := ho.slice
      obtain ⟨AV, cV, rfl, hnew2⟩ := ho2.slice
      have HU6 := Lib.hid hnew
      have HV6 := Lib.hid hnew2
      have HR6 := Lib.hid (HR5.out.kept hb)
      have HE6 := Lib.hid (HE5.out.kept hb)
      have HX6 := Lib.hid (HX5.out.kept hb)
      have HP6 := Lib.hid (HP5.out.kept hb)
      have HQ6 := Lib.hid (HQ5.out.kept hb)
      have HO6 := Lib.hid (HO5.out.kept hb)
      have Hb6 := Lib.hid (Hb5.out.trans (hb.mono Hb5.out.size))
      clear hb HR5 HE5 HX5 HP5 HQ5 HO5 Hb5 ho ho2 hnew hnew2
      go_wp2_with fail
      go_loopw [76] (fun v2 wr2 => ∃ k2 : Nat, k2 ≤ p.length ∧ v2 = .int .i64 k2 ∧ Below w6.heap.size w6 wr2) (fun v2 _ => p.length - (intOf v2).toNat)
      case atStart => exact ⟨0, Nat.zero_le _, rfl, Below.refl _ _⟩
      case round =>
        obtain ⟨k2, hk2, rfl, hb⟩ := hrel
        by_cases hlt2 : k2 < p.length
        · obtain ⟨ad, rfl, _, hc1⟩ := (HU6.out.kept hb).rd_ (i := k2) (by omega)
          obtain ⟨ad2, rfl, _, hc2⟩ := (HP6.out.kept hb).rd_ (i := k2) (by omega)
          obtain ⟨ad3, rfl, _, hc3⟩ := (HV6.out.kept hb).rd_ (i := k2) (by omega)
          obtain ⟨ad4, rfl, _, hc4⟩ := (HQ6.out.kept hb).rd_ (i := k2) (by omega)
          have ⟨e1, e2, e3, e4⟩ := Hup.out k2 hlt2
          rw [e1] at hc1
          rw [e2] at hc3
          obtain ⟨r, hre⟩ : ∃ r, rdn p k2 = r := ⟨_, rfl⟩
          obtain ⟨s, hse⟩ : ∃ s, rdn q k2 = s := ⟨_, rfl⟩
          rw [hre] at hc1 hc2 e3 e4
          rw [hse] at hc3 hc4
          clear e1 e2 hre hse
          go_wp2_with fail
          go_quiet (fail)
          go_wp2_with fail
          go_roundw
          case rel => exact ⟨k2 + 1, by omega, by go_num, hb.trans (below_drewN (Below.refl _ _) _)⟩
          case measure => simp [intOf]; omega
        · have Hb2 := Lib.hid (Hb6.out.trans (hb.mono Hb6.out.size))
          have hv2 : k2 = p.length := by omega
          go_wp2_with fail
          go_ret
          exact ⟨ret_bool (by simp_all), Hb2.out⟩

namespace liftRaised
theorem liftRaised_walk (f : Int) (xs : List Int) (b : Int) (v0 v1 v2 : Value) (W : World) (h0 : IsInt .i64 v0 f) (h1 : IsInts W v1 xs) (h2 : IsInt .i32 v2 b) :
    Calls Try.prog 6 #[v0, v1, v2] W fun e W' => e = .returned (.bool true) ∧ Below W.heap.size W W' := by
  have hbd := h2.bd32
  obtain ⟨rfl, _⟩ := h0
  obtain ⟨rfl, _⟩ := h2
  obtain ⟨A, c, rfl, hR, hm, _⟩ := h1
  unfold maxLen at hm
  by_cases hl : 300 < xs.length
  · exact raised_long f b A c xs W hR (by omega) hl
  · by_cases h0 : xs.length = 0
    · exact raised_nil f b A c xs W hR (by omega) h0
    · by_cases ho : xs.length % 2 = 1
      · exact raised_odd f b A c xs W hR (by omega) ho (by omega)
      · cases hf : rightF f
        · exact raised_wrong f b A c xs W hR (by omega) (by omega) (by omega) (by omega) hf
        · exact raised_main f b A c xs W hR (by omega) (by omega) (by omega) (by omega) hf hbd
end liftRaised
end Go.Proofs.Ytceecaohfnamnaa
