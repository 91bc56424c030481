/- The walk of LiftBack. -/
import Derived.Test.YtceecaohfnamnaaLiftX
import Derived.Test.YtceecaohfnamnaaLiftWP0
namespace Go.Proofs.Ytceecaohfnamnaa
open Go.RowKit
set_option linter.unusedVariables false
set_option linter.unusedSimpArgs false

theorem IsInts.in64' {W : World} {v : Value} {xs : List Int} (h : IsInts W v xs) : In64 xs := fun j => by
  have := h.rd_bd j
  exact wrap64_id this.1 this.2
theorem lfwd_n (A : Option Addr) (n c : Nat) (xs : List Int) (f : Int) (w : World) (hn : xs.length = n) (hR : ReadsI w A xs) (hm : xs.length ≤ 10000) :
    Calls Try.prog 9 #[.int .i64 f, .slice A n c] w fun e w' => ∃ v, e = .returned v ∧ OwnI w' w.heap.size v (fwdZ f xs) ∧ Below w.heap.size w w' := by
  subst hn
  exact lfwd_c A c xs f w hR hm

set_option maxRecDepth 100000 in
set_option maxHeartbeats 6400000 in
theorem back_long (f b : Int) (A : Option Addr) (c : Nat) (xs : List Int) (W : World) (hR : ReadsI W A xs) (hm : xs.length ≤ 9223372036854775807) (h : 300 < xs.length) :
    Calls Try.prog 5 #[.int .i64 f, .slice A xs.length c, .int .i32 b] W fun e W' => e = .returned (.bool true) ∧ Below W.heap.size W W' := by
  have HR0 := Lib.hid hR
  clear hR
  go_enter Try.func5, Try.ntmps5
  go_wp2_with fail
  refine (first_c _).mono ?_
  rintro e w1 ⟨rfl, hb⟩
  have HR1 := Lib.hid (HR0.out.kept hb)
  have Hb1 := Lib.hid hb
  clear hb HR0
  go_wp2_with fail
  all_goals (go_ret; first | exact ⟨rfl, Hb1.out⟩ | exact ⟨ret_bool (by simp_all), Hb1.out⟩)

set_option maxRecDepth 100000 in
set_option maxHeartbeats 6400000 in
theorem back_nil (f b : Int) (A : Option Addr) (c : Nat) (xs : List Int) (W : World) (hR : ReadsI W A xs) (hm : xs.length ≤ 9223372036854775807) (h : xs.length = 0) :
    Calls Try.prog 5 #[.int .i64 f, .slice A xs.length c, .int .i32 b] W fun e W' => e = .returned (.bool true) ∧ Below W.heap.size W W' := by
  have HR0 := Lib.hid hR
  clear hR
  have hm2 : xs.length ≤ 300 := by omega
  (first | (have hb0 : (((xs.length : Int) : Int) == 0) = true := by rw [beq_iff_eq]; omega) | (have hb0 : (((xs.length : Int) : Int) == 0) = false := by rw [beq_eq_false_iff_ne]; omega))
  clear h
  go_enter Try.func5, Try.ntmps5
  go_wp2_with fail
  refine (first_c _).mono ?_
  rintro e w1 ⟨rfl, hb⟩
  have HR1 := Lib.hid (HR0.out.kept hb)
  have Hb1 := Lib.hid hb
  clear hb HR0
  go_wp2_with fail
  all_goals (go_ret; first | exact ⟨rfl, Hb1.out⟩ | exact ⟨ret_bool (by simp_all), Hb1.out⟩)

set_option maxRecDepth 100000 in
set_option maxHeartbeats 6400000 in
theorem back_odd (f b : Int) (A : Option Addr) (c : Nat) (xs : List Int) (W : World) (hR : ReadsI W A xs) (hm : xs.length ≤ 9223372036854775807) (h : xs.length % 2 = 1) (hm2 : xs.length ≤ 300) :
    Calls Try.prog 5 #[.int .i64 f, .slice A xs.length c, .int .i32 b] W fun e W' => e = .returned (.bool true) ∧ Below W.heap.size W W' := by
  have HR0 := Lib.hid hR
  clear hR
  (first | (have hb0 : (((xs.length : Int) : Int) == 0) = true := by rw [beq_iff_eq]; omega) | (have hb0 : (((xs.length : Int) : Int) == 0) = false := by rw [beq_eq_false_iff_ne]; omega))
  (first | (have hb1 : (((xs.length : Int) % 2 : Int) == 1) = true := by rw [beq_iff_eq]; omega) | (have hb1 : (((xs.length : Int) % 2 : Int) == 1) = false := by rw [beq_eq_false_iff_ne]; omega))
  clear h
  go_enter Try.func5, Try.ntmps5
  go_wp2_with fail
  refine (first_c _).mono ?_
  rintro e w1 ⟨rfl, hb⟩
  have HR1 := Lib.hid (HR0.out.kept hb)
  have Hb1 := Lib.hid hb
  clear hb HR0
  go_wp2_with fail
  all_goals (go_ret; first | exact ⟨rfl, Hb1.out⟩ | exact ⟨ret_bool (by simp_all), Hb1.out⟩)

set_option maxRecDepth 100000 in
set_option maxHeartbeats 6400000 in
theorem back_wrong (f b : Int) (A : Option Addr) (c : Nat) (xs : List Int) (W : World) (hR : ReadsI W A xs) (hm : xs.length ≤ 9223372036854775807) (h : xs.length % 2 = 0) (h2 : 2 ≤ xs.length) (hm2 : xs.length ≤ 300) (hf : rightF f = false) :
    Calls Try.prog 5 #[.int .i64 f, .slice A xs.length c, .int .i32 b] W fun e W' => e = .returned (.bool true) ∧ Below W.heap.size W W' := by
  have HR0 := Lib.hid hR
  clear hR
  have Hf := Lib.hid hf
  (first | (have hb0 : (((xs.length : Int) : Int) == 0) = true := by rw [beq_iff_eq]; omega) | (have hb0 : (((xs.length : Int) : Int) == 0) = false := by rw [beq_eq_false_iff_ne]; omega))
  (first | (have hb1 : (((xs.length : Int) % 2 : Int) == 1) = true := by rw [beq_iff_eq]; omega) | (have hb1 : (((xs.length : Int) % 2 : Int) == 1) = false := by rw [beq_eq_false_iff_ne]; omega))
  clear h hf
  go_enter Try.func5, Try.ntmps5
  go_wp2_with fail
  refine (first_c _).mono ?_
  rintro e w1 ⟨rfl, hb⟩
  have HR1 := Lib.hid (HR0.out.kept hb)
  have Hb1 := Lib.hid hb
  clear hb HR0
  go_wp2_with fail
  refine (lright_c _ _).mono ?_
  rintro e w' ⟨rfl, rfl⟩
  rw [Hf.out]
  go_wp2_with fail
  all_goals (go_ret; first | exact ⟨rfl, Hb1.out⟩ | exact ⟨ret_bool (by simp_all), Hb1.out⟩)

set_option maxRecDepth 100000 in
set_option maxHeartbeats 6400000 in
theorem back_main (f b : Int) (A : Option Addr) (c : Nat) (xs : List Int) (W : World) (hR : ReadsI W A xs) (hm : xs.length ≤ 9223372036854775807) (h : xs.length % 2 = 0) (h2 : 2 ≤ xs.length) (hm2 : xs.length ≤ 300) (hf : rightF f = true) (hin : In64 xs) (hb : -2147483648 ≤ b ∧ b ≤ 2147483647) :
    Calls Try.prog 5 #[.int .i64 f, .slice A xs.length c, .int .i32 b] W fun e W' => e = .returned (.bool true) ∧ Below W.heap.size W W' := by
  have HR0 := Lib.hid hR
  clear hR
  obtain ⟨bl, bh⟩ := hb
  have Hf := Lib.hid hf
  have hl : rightL xs.length = true := decide_eq_true ⟨h2, h⟩
  obtain ⟨x, hx', Hx⟩ : ∃ x, x.length = xs.length ∧ Hid (fwdZ f xs = x) := ⟨_, fwdZ_length hf hl, rfl⟩
  obtain ⟨y, hy', Hy⟩ : ∃ y, y.length = xs.length ∧ Hid (invZ f xs = y) := ⟨_, invZ_length hf hl, rfl⟩
  have Hp := Lib.hid (show invZ f x = xs by rw [← Hx.out]; exact inv_fwd f xs hin hf hl)
  have Hq := Lib.hid (show fwdZ f y = xs by rw [← Hy.out]; exact fwd_inv f xs hin hf hl)
  have Hl := Lib.hid hl
  have He := Lib.hid h
  have hxb : x.length ≤ 300 := by omega
  have hyb : y.length ≤ 300 := by omega
  have hze := fillL_length xs.length (fun _ => b) xs.length
  obtain ⟨z, Hz⟩ : ∃ z, Hid (fillL xs.length (fun _ => b) xs.length = z) := ⟨_, Lib.hid rfl⟩
  have Hle := Lib.hid (show z.length = xs.length by rw [← Hz.out]; exact hze)
  have hzl : rightL z.length = true := by rw [Hle.out]; exact hl
  obtain ⟨o, hoe, Ho⟩ : ∃ o, o.length = xs.length ∧ Hid (fwdZ f z = o) := ⟨_, (fwdZ_length hf hzl).trans Hle.out, rfl⟩
  have Hlo := Lib.hid (show rightL o.length = true by rw [hoe]; exact hl)
  have hob : o.length ≤ 300 := by omega
  obtain ⟨u, hu', Hu⟩ : ∃ u, u.length = xs.length / 2 ∧ Hid (everyK o 0 (o.length / 2) = u) := ⟨_, by rw [everyK_length, hoe], rfl⟩
  obtain ⟨v, hv', Hv⟩ : ∃ v, v.length = xs.length / 2 ∧ Hid (everyK o 1 (o.length / 2) = v) := ⟨_, by rw [everyK_length, hoe], rfl⟩
  have hflat := fwd_flat f b xs.length hl hf ⟨bl, bh⟩
  rw [Hz.out, Ho.out] at hflat
  have Hv0 : Hid (∀ k, k < v.length → rdn v k = 0) := Lib.hid (by
    intro k hk
    rw [← Hv.out]
    unfold everyK
    rw [rdn_tab _ _ (by omega), hflat _ (by omega), if_pos (by omega)])
  have Hu0 : Hid (∀ k, k < v.length → rdn u k = b) := Lib.hid (by
    intro k hk
    rw [← Hu.out]
    unfold everyK
    rw [rdn_tab _ _ (by omega), hflat _ (by omega), if_neg (by omega)])
  have huv : v.length ≤ u.length := by omega
  have hvb : u.length ≤ 150 := by omega
  have hend : ((v.length : Int) == (xs.length : Int) / 2) = true := by rw [beq_iff_eq]; omega
  (first | (have hb0 : (((xs.length : Int) : Int) == 0) = true := by rw [beq_iff_eq]; omega) | (have hb0 : (((xs.length : Int) : Int) == 0) = false := by rw [beq_eq_false_iff_ne]; omega))
  (first | (have hb1 : (((xs.length : Int) % 2 : Int) == 1) = true := by rw [beq_iff_eq]; omega) | (have hb1 : (((xs.length : Int) % 2 : Int) == 1) = false := by rw [beq_eq_false_iff_ne]; omega))
  clear h hf hl hx' hy' hin hze hzl hoe hu' hv' hflat
  go_enter Try.func5, Try.ntmps5
  go_wp2_with fail
  refine (first_c _).mono ?_
  rintro e w1 ⟨rfl, hb⟩
  have HR1 := Lib.hid (HR0.out.kept hb)
  have Hb1 := Lib.hid hb
  clear hb HR0
  go_wp2_with fail
  refine (lright_c _ _).mono ?_
  rintro e w' ⟨rfl, rfl⟩
  rw [Hf.out]
  go_wp2_with fail
  refine (lfwd_c _ _ xs _ _ HR1.out (by omega)).mono ?_
  rintro e w2 ⟨v2, rfl, ho, hb⟩
  rw [Hx.out] at ho
  obtain ⟨AX, cX, rfl, hnew⟩ := ho.slice
  have HX2 := Lib.hid hnew
  have HR2 := Lib.hid (HR1.out.kept hb)
  have Hb2 := Lib.hid (Hb1.out.trans (hb.mono Hb1.out.size))
  clear hb HR1 Hb1 ho hnew
  go_wp2_with fail
  refine (linv_c _ _ xs _ _ HR2.out (by omega)).mono ?_
  rintro e w3 ⟨v3, rfl, ho, hb⟩
  rw [Hy.out] at ho
  obtain ⟨AY, cY, rfl, hnew⟩ := ho.slice
  have HY3 := Lib.hid hnew
  have HR3 := Lib.hid (HR2.out.kept hb)
  have HX3 := Lib.hid (HX2.out.kept hb)
  have Hb3 := Lib.hid (Hb2.out.trans (hb.mono Hb2.out.size))
  clear hb HR2 HX2 Hb2 ho hnew
  go_wp2_with fail
  refine (linv_c _ _ x _ _ HX3.out (by omega)).mono ?_
  rintro e w4 ⟨v4, rfl, ho, hb⟩
  rw [Hp.out] at ho
  obtain ⟨AP, cP, rfl, hnew⟩ := ho.slice
  have HP4 := Lib.hid hnew
  have HR4 := Lib.hid (HR3.out.kept hb)
  have HX4 := Lib.hid (HX3.out.kept hb)
  have HY4 := Lib.hid (HY3.out.kept hb)
  have Hb4 := Lib.hid (Hb3.out.trans (hb.mono Hb3.out.size))
  clear hb HR3 HX3 HY3 Hb3 ho hnew
  go_wp2_with fail
  refine (rsame_c _ _ _ _ _ _ _ HP4.out HR4.out (by omega) (by omega)).mono ?_
  rintro e w5 ⟨rfl, hb⟩
  rw [decide_eq_true rfl]
  have HR5 := Lib.hid (HR4.out.kept hb)
  have HX5 := Lib.hid (HX4.out.kept hb)
  have HY5 := Lib.hid (HY4.out.kept hb)
  have HP5 := Lib.hid (HP4.out.kept hb)
  have Hb5 := Lib.hid (Hb4.out.trans (hb.mono Hb4.out.size))
  clear hb HR4 HX4 HY4 HP4 Hb4
  go_wp2_with fail
  refine (lfwd_c _ _ y _ _ HY5.out (by omega)).mono ?_
  rintro e w6 ⟨v6, rfl, ho, hb⟩
  rw [Hq.out] at ho
  obtain ⟨AQ, cQ, rfl, hnew⟩ := ho.slice
  have HQ6 := Lib.hid hnew
  have HR6 := Lib.hid (HR5.out.kept hb)
  have HX6 := Lib.hid (HX5.out.kept hb)
  have HY6 := Lib.hid (HY5.out.kept hb)
  have HP6 := Lib.hid (HP5.out.kept hb)
  have Hb6 := Lib.hid (Hb5.out.trans (hb.mono Hb5.out.size))
  clear hb HR5 HX5 HY5 HP5 Hb5 ho hnew
  go_wp2_with fail
  refine (rsame_c _ _ _ _ _ _ _ HQ6.out HR6.out (by omega) (by omega)).mono ?_
  rintro e w7 ⟨rfl, hb⟩
  rw [decide_eq_true rfl]
  have HR7 := Lib.hid (HR6.out.kept hb)
  have HX7 := Lib.hid (HX6.out.kept hb)
  have HY7 := Lib.hid (HY6.out.kept hb)
  have HP7 := Lib.hid (HP6.out.kept hb)
  have HQ7 := Lib.hid (HQ6.out.kept hb)
  have Hb7 := Lib.hid (Hb6.out.trans (hb.mono Hb6.out.size))
  clear hb HR6 HX6 HY6 HP6 HQ6 Hb6
  have hmk := make_int 23 Try.underlying23 xs.length (by omega)
  rw [← fillL_zero xs.length (fun _ => b)] at hmk
  go_wp2_with fail
  clear hmk
  go_loopw [60] (fun v wr => ∃ k : Nat, k ≤ xs.length ∧ v = .int .i64 k ∧ RowI wr w7.heap.size (fillL xs.length (fun _ => b) k) ∧ Below w7.heap.size w7 wr) (fun v _ => xs.length - (intOf v).toNat)
  case atStart => exact ⟨0, Nat.zero_le _, rfl, RowI.new _ _, (Below.refl _ _).alloc (Nat.le_refl _) _⟩
  case round =>
    obtain ⟨k, hk, rfl, hr, hb⟩ := hrel
    have hl := fillL_length xs.length (fun _ => b) k
    by_cases hlt : k < xs.length
    · have hc := hr.cell (i := k) (by omega)
      have hf := hr.frozen k
      clear hl
      go_wp2_with fail
      go_roundw
      case rel => exact ⟨k + 1, by omega, by go_num, by rw [← fillL_set _ _ _ hlt]; exact hr.set_ _ _, hb.setCell (Nat.le_refl _) _⟩
      case measure => simp [intOf]; omega
    · have hke : k = xs.length := by omega
      have HE8 := Lib.hid (show ReadsI wr (some ⟨w7.heap.size, 0, none⟩) (fillL xs.length (fun _ => b) xs.length) from by rw [hke] at hr; exact hr.reads (by rw [fillL_length]; unfold maxLen; omega))
      rw [Hz.out] at HE8
      clear hr hl
      have HR8 := Lib.hid (HR7.out.kept hb)
      have HX8 := Lib.hid (HX7.out.kept hb)
      have HY8 := Lib.hid (HY7.out.kept hb)
      have HP8 := Lib.hid (HP7.out.kept hb)
      have HQ8 := Lib.hid (HQ7.out.kept hb)
      have Hb8 := Lib.hid (Hb7.out.trans (hb.mono Hb7.out.size))
      clear hb HR7 HX7 HY7 HP7 HQ7 Hb7
      have hkl : xs.length ≤ k := by omega
      clear hke hlt
      go_wp2_with fail
      refine (lfwd_n _ _ _ z _ _ Hle.out HE8.out (by rw [Hle.out]; omega)).mono ?_
      rintro e w9 ⟨v9, rfl, ho, hb⟩
      rw [Ho.out] at ho
      obtain ⟨AO, cO, rfl, hnew⟩ := ho.slice
      have HO9 := Lib.hid hnew
      have HR9 := Lib.hid (HR8.out.kept hb)
      have HX9 := Lib.hid (HX8.out.kept hb)
      have HY9 := Lib.hid (HY8.out.kept hb)
      have HP9 := Lib.hid (HP8.out.kept hb)
      have HQ9 := Lib.hid (HQ8.out.kept hb)
      have HE9 := Lib.hid (HE8.out.kept hb)
      have Hb9 := Lib.hid (Hb8.out.trans (hb.mono Hb8.out.size))
      clear hb HR8 HX8 HY8 HP8 HQ8 HE8 Hb8 ho hnew
      go_wp2_with fail
      refine (lpart_yes _ _ o _ HO9.out (by omega) Hlo.out).mono ?_
      rintro e w10 ⟨v10, u10, rfl, ho, ho2, _, hb⟩
      rw [Hu.out] at ho
      rw [Hv.out] at ho2
      obtain ⟨AU, cU, rfl, hnew⟩ := ho.slice
      obtain ⟨AV, cV, rfl, hnew2⟩ := ho2.slice
      have HU10 := Lib.hid hnew
      have HV10 := Lib.hid hnew2
      have HR10 := Lib.hid (HR9.out.kept hb)
      have HX10 := Lib.hid (HX9.out.kept hb)
      have HY10 := Lib.hid (HY9.out.kept hb)
      have HP10 := Lib.hid (HP9.out.kept hb)
      have HQ10 := Lib.hid (HQ9.out.kept hb)
      have HE10 := Lib.hid (HE9.out.kept hb)
      have HO10 := Lib.hid (HO9.out.kept hb)
      have Hb10 := Lib.hid (Hb9.out.trans (hb.mono Hb9.out.size))
      clear hb HR9 HX9 HY9 HP9 HQ9 HE9 HO9 Hb9 ho ho2 hnew hnew2
      go_wp2_with fail
      go_loopw [78] (fun v2 wr2 => ∃ k2 : Nat, k2 ≤ v.length ∧ v2 = .int .i64 k2 ∧ Below w10.heap.size w10 wr2) (fun v2 _ => v.length - (intOf v2).toNat)
      case atStart => exact ⟨0, Nat.zero_le _, rfl, Below.refl _ _⟩
      case round =>
        obtain ⟨k2, hk2, rfl, hb⟩ := hrel
        by_cases hlt2 : k2 < v.length
        · obtain ⟨ad, rfl, _, hc1⟩ := (HV10.out.kept hb).rd_ (i := k2) (by omega)
          obtain ⟨ad2, rfl, _, hc2⟩ := (HU10.out.kept hb).rd_ (i := k2) (by omega)
          rw [Hv0.out k2 hlt2] at hc1
          rw [Hu0.out k2 hlt2] at hc2
          go_wp2_with fail
          go_roundw
          case rel => exact ⟨k2 + 1, by omega, by go_num, hb⟩
          case measure => simp [intOf]; omega
        · have Hb2 := Lib.hid (Hb10.out.trans (hb.mono Hb10.out.size))
          have hv2 : k2 = v.length := by omega
          go_wp2_with fail
          go_ret
          exact ⟨ret_bool (by simp_all), Hb2.out⟩

namespace liftBack
theorem liftBack_walk (f : Int) (xs : List Int) (b : Int) (v0 v1 v2 : Value) (W : World) (h0 : IsInt .i64 v0 f) (h1 : IsInts W v1 xs) (h2 : IsInt .i32 v2 b) :
    Calls Try.prog 5 #[v0, v1, v2] W fun e W' => e = .returned (.bool true) ∧ Below W.heap.size W W' := by
  have hin := h1.in64'
  have hbd := h2.bd32
  obtain ⟨rfl, _⟩ := h0
  obtain ⟨rfl, _⟩ := h2
  obtain ⟨A, c, rfl, hR, hm, _⟩ := h1
  unfold maxLen at hm
  by_cases hl : 300 < xs.length
  · exact back_long f b A c xs W hR (by omega) hl
  · by_cases h0 : xs.length = 0
    · exact back_nil f b A c xs W hR (by omega) h0
    · by_cases ho : xs.length % 2 = 1
      · exact back_odd f b A c xs W hR (by omega) ho (by omega)
      · cases hf : rightF f
        · exact back_wrong f b A c xs W hR (by omega) (by omega) (by omega) (by omega) hf
        · exact back_main f b A c xs W hR (by omega) (by omega) (by omega) (by omega) hf hin hbd
end liftBack
end Go.Proofs.Ytceecaohfnamnaa
