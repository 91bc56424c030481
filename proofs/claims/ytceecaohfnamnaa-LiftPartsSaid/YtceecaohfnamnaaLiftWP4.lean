/- The walk of LiftParts: a case. -/
import Derived.Test.YtceecaohfnamnaaLiftWP0
namespace Go.Proofs.Ytceecaohfnamnaa
open Go.RowKit
set_option linter.unusedVariables false
set_option linter.unusedSimpArgs false

set_option maxRecDepth 100000 in
set_option maxHeartbeats 6400000 in
theorem parts_even_same (A B : Option Addr) (c d : Nat) (xs ys : List Int) (W : World) (hR : ReadsI W A xs) (hY : ReadsI W B ys) (hmx : xs.length ≤ 9223372036854775807) (hmy : ys.length ≤ 9223372036854775807) (hx : xs.length ≤ 300) (hy : ys.length ≤ 300) (h2 : 2 ≤ xs.length) (he : xs.length % 2 = 0) (hl : xs.length = ys.length) :
    Calls Try.prog 4 #[.slice A xs.length c, .slice B ys.length d] W fun e W' => e = .returned (.bool true) ∧ Below W.heap.size W W' := by
  have HR0 := Lib.hid hR
  have HY0 := Lib.hid hY
  clear hR hY
  have Hyes := Lib.hid (show rightL xs.length = true from decide_eq_true ⟨h2, he⟩)
  obtain ⟨p, hp', Hp⟩ : ∃ p, p.length = xs.length / 2 ∧ Hid (everyK xs 0 (xs.length / 2) = p) := ⟨_, everyK_length _ _ _, rfl⟩
  obtain ⟨q, hq', Hq⟩ : ∃ q, q.length = xs.length / 2 ∧ Hid (everyK xs 1 (xs.length / 2) = q) := ⟨_, everyK_length _ _ _, rfl⟩
  have H0 := Lib.hid (show everyK xs 0 ((xs.length + 1 - 0) / 2) = p by rw [← Hp.out]; congr 1; omega)
  have H1 := Lib.hid (show everyK xs 1 ((xs.length + 1 - 1) / 2) = q by rw [← Hq.out]; congr 1)
  have Hw := Lib.hid (show weaveK p q p.length = xs by rw [hp', ← Hp.out, ← Hq.out]; exact weave_every xs he)
  have Hl := Lib.hid hl
  obtain ⟨z, hz', Hz⟩ : ∃ z, z.length = 2 * xs.length ∧ Hid (weaveK xs ys xs.length = z) := ⟨_, weaveK_length _ _ _, rfl⟩
  have Hw0 := Lib.hid (show everyK z 0 ((z.length + 1 - 0) / 2) = xs by rw [hz', show (2 * xs.length + 1 - 0) / 2 = xs.length by omega, ← Hz.out]; exact every_weave0 xs ys)
  have Hw1 := Lib.hid (show everyK z 1 ((z.length + 1 - 1) / 2) = ys by rw [hz', show (2 * xs.length + 1 - 1) / 2 = xs.length by omega, ← Hz.out]; exact every_weave1 xs ys hl)
  have hpb : p.length ≤ 150 := by omega
  have hqb : q.length ≤ 150 := by omega
  have Hpq := Lib.hid (show p.length = q.length by omega)
  have hzb : z.length ≤ 600 := by omega
  (first | (have hb0 : (((xs.length : Int) : Int) == 0) = true := by rw [beq_iff_eq]; omega) | (have hb0 : (((xs.length : Int) : Int) == 0) = false := by rw [beq_eq_false_iff_ne]; omega))
  (first | (have hb1 : (((xs.length : Int) % 2 : Int) == 1) = true := by rw [beq_iff_eq]; omega) | (have hb1 : (((xs.length : Int) % 2 : Int) == 1) = false := by rw [beq_eq_false_iff_ne]; omega))
  (first | (have hs : (((xs.length : Int) : Int) == (ys.length : Int)) = true := by rw [beq_iff_eq]; omega) | (have hs : (((xs.length : Int) : Int) == (ys.length : Int)) = false := by rw [beq_eq_false_iff_ne]; omega))
  (first | (have hz0 : (((z.length : Int) : Int) == 0) = true := by rw [beq_iff_eq]; omega) | (have hz0 : (((z.length : Int) : Int) == 0) = false := by rw [beq_eq_false_iff_ne]; omega))
  (first | (have hz2 : (((z.length : Int) : Int) == 2 * (xs.length : Int)) = true := by rw [beq_iff_eq]; omega) | (have hz2 : (((z.length : Int) : Int) == 2 * (xs.length : Int)) = false := by rw [beq_eq_false_iff_ne]; omega))
  clear hl hp' hq' hz'
  go_enter Try.func4, Try.ntmps4
  go_wp2_with fail
  refine (first_c _).mono ?_
  rintro e w1 ⟨rfl, hb⟩
  have HR1 := Lib.hid (HR0.out.kept hb)
  have HY1 := Lib.hid (HY0.out.kept hb)
  have Hb1 := Lib.hid hb
  clear hb HR0 HY0
  go_wp2_with fail
  refine (lpart_yes _ _ xs _ HR1.out (by omega) Hyes.out).mono ?_
  rintro e w2 ⟨v2, u2, rfl, ho, ho2, _, hb⟩
  rw [Hp.out] at ho
  rw [Hq.out] at ho2
  obtain ⟨AP, cP, rfl, hnew⟩ := ho.slice
  obtain ⟨AQ, cQ, rfl, hnew2⟩ := ho2.slice
  have HP2 := Lib.hid hnew
  have HQ2 := Lib.hid hnew2
  have HR2 := Lib.hid (HR1.out.kept hb)
  have HY2 := Lib.hid (HY1.out.kept hb)
  have Hb2 := Lib.hid (Hb1.out.trans (hb.mono Hb1.out.size))
  clear hb HR1 HY1 Hb1 ho ho2 hnew hnew2
  go_wp2_with fail
  refine (lweave_yes _ _ _ _ xs ys _ HR2.out HY2.out (by omega) Hl.out).mono ?_
  rintro e w3 ⟨v3, rfl, ho, hb⟩
  rw [Hz.out] at ho
  obtain ⟨AV, cV, rfl, hnew⟩ := ho.slice
  have HV3 := Lib.hid hnew
  have HR3 := Lib.hid (HR2.out.kept hb)
  have HY3 := Lib.hid (HY2.out.kept hb)
  have HP3 := Lib.hid (HP2.out.kept hb)
  have HQ3 := Lib.hid (HQ2.out.kept hb)
  have Hb3 := Lib.hid (Hb2.out.trans (hb.mono Hb2.out.size))
  clear hb HR2 HY2 HP2 HQ2 Hb2 ho hnew
  go_wp2_with fail
  refine (revery_c _ _ xs 0 _ HR3.out (by omega) (by omega)).mono ?_
  rintro e w4 ⟨v4, rfl, ho, hb⟩
  rw [H0.out] at ho
  obtain ⟨AE, cE, rfl, hnew⟩ := ho.slice
  have HE4 := Lib.hid hnew
  have HR4 := Lib.hid (HR3.out.kept hb)
  have HY4 := Lib.hid (HY3.out.kept hb)
  have HP4 := Lib.hid (HP3.out.kept hb)
  have HQ4 := Lib.hid (HQ3.out.kept hb)
  have HV4 := Lib.hid (HV3.out.kept hb)
  have Hb4 := Lib.hid (Hb3.out.trans (hb.mono Hb3.out.size))
  clear hb HR3 HY3 HP3 HQ3 HV3 Hb3 ho hnew
  go_wp2_with fail
  refine (rsame_c _ _ _ _ _ _ _ HP4.out HE4.out (by omega) (by omega)).mono ?_
  rintro e w5 ⟨rfl, hb⟩
  rw [decide_eq_true rfl]
  have HR5 := Lib.hid (HR4.out.kept hb)
  have HY5 := Lib.hid (HY4.out.kept hb)
  have HP5 := Lib.hid (HP4.out.kept hb)
  have HQ5 := Lib.hid (HQ4.out.kept hb)
  have HV5 := Lib.hid (HV4.out.kept hb)
  have HE5 := Lib.hid (HE4.out.kept hb)
  have Hb5 := Lib.hid (Hb4.out.trans (hb.mono Hb4.out.size))
  clear hb HR4 HY4 HP4 HQ4 HV4 HE4 Hb4
  go_wp2_with fail
  refine (revery_c _ _ xs 1 _ HR5.out (by omega) (by omega)).mono ?_
  rintro e w6 ⟨v6, rfl, ho, hb⟩
  rw [H1.out] at ho
  obtain ⟨AF, cF, rfl, hnew⟩ := ho.slice
  have HF6 := Lib.hid hnew
  have HR6 := Lib.hid (HR5.out.kept hb)
  have HY6 := Lib.hid (HY5.out.kept hb)
  have HP6 := Lib.hid (HP5.out.kept hb)
  have HQ6 := Lib.hid (HQ5.out.kept hb)
  have HV6 := Lib.hid (HV5.out.kept hb)
  have HE6 := Lib.hid (HE5.out.kept hb)
  have Hb6 := Lib.hid (Hb5.out.trans (hb.mono Hb5.out.size))
  clear hb HR5 HY5 HP5 HQ5 HV5 HE5 Hb5 ho hnew
  go_wp2_with fail
  refine (rsame_c _ _ _ _ _ _ _ HQ6.out HF6.out (by omega) (by omega)).mono ?_
  rintro e w7 ⟨rfl, hb⟩
  rw [decide_eq_true rfl]
  have HR7 := Lib.hid (HR6.out.kept hb)
  have HY7 := Lib.hid (HY6.out.kept hb)
  have HP7 := Lib.hid (HP6.out.kept hb)
  have HQ7 := Lib.hid (HQ6.out.kept hb)
  have HV7 := Lib.hid (HV6.out.kept hb)
  have HE7 := Lib.hid (HE6.out.kept hb)
  have HF7 := Lib.hid (HF6.out.kept hb)
  have Hb7 := Lib.hid (Hb6.out.trans (hb.mono Hb6.out.size))
  clear hb HR6 HY6 HP6 HQ6 HV6 HE6 HF6 Hb6
  go_wp2_with fail
  refine (lweave_yes _ _ _ _ _ _ _ HP7.out HQ7.out (by omega) Hpq.out).mono ?_
  rintro e w8 ⟨v8, rfl, ho, hb⟩
  rw [Hw.out] at ho
  obtain ⟨AG, cG, rfl, hnew⟩ := ho.slice
  have HG8 := Lib.hid hnew
  have HR8 := Lib.hid (HR7.out.kept hb)
  have HY8 := Lib.hid (HY7.out.kept hb)
  have HP8 := Lib.hid (HP7.out.kept hb)
  have HQ8 := Lib.hid (HQ7.out.kept hb)
  have HV8 := Lib.hid (HV7.out.kept hb)
  have HE8 := Lib.hid (HE7.out.kept hb)
  have HF8 := Lib.hid (HF7.out.kept hb)
  have Hb8 := Lib.hid (Hb7.out.trans (hb.mono Hb7.out.size))
  clear hb HR7 HY7 HP7 HQ7 HV7 HE7 HF7 Hb7 ho hnew
  go_wp2_with fail
  refine (rsame_c _ _ _ _ _ _ _ HG8.out HR8.out (by omega) (by omega)).mono ?_
  rintro e w9 ⟨rfl, hb⟩
  rw [decide_eq_true rfl]
  have HR9 := Lib.hid (HR8.out.kept hb)
  have HY9 := Lib.hid (HY8.out.kept hb)
  have HP9 := Lib.hid (HP8.out.kept hb)
  have HQ9 := Lib.hid (HQ8.out.kept hb)
  have HV9 := Lib.hid (HV8.out.kept hb)
  have HE9 := Lib.hid (HE8.out.kept hb)
  have HF9 := Lib.hid (HF8.out.kept hb)
  have HG9 := Lib.hid (HG8.out.kept hb)
  have Hb9 := Lib.hid (Hb8.out.trans (hb.mono Hb8.out.size))
  clear hb HR8 HY8 HP8 HQ8 HV8 HE8 HF8 HG8 Hb8
  go_wp2_with fail
  refine (revery_c _ _ _ 0 _ HV9.out (by omega) (by omega)).mono ?_
  rintro e w10 ⟨v10, rfl, ho, hb⟩
  rw [Hw0.out] at ho
  obtain ⟨AI, cI, rfl, hnew⟩ := ho.slice
  have HI10 := Lib.hid hnew
  have HR10 := Lib.hid (HR9.out.kept hb)
  have HY10 := Lib.hid (HY9.out.kept hb)
  have HP10 := Lib.hid (HP9.out.kept hb)
  have HQ10 := Lib.hid (HQ9.out.kept hb)
  have HV10 := Lib.hid (HV9.out.kept hb)
  have HE10 := Lib.hid (HE9.out.kept hb)
  have HF10 := Lib.hid (HF9.out.kept hb)
  have HG10 := Lib.hid (HG9.out.kept hb)
  have Hb10 := Lib.hid (Hb9.out.trans (hb.mono Hb9.out.size))
  clear hb HR9 HY9 HP9 HQ9 HV9 HE9 HF9 HG9 Hb9 ho hnew
  go_wp2_with fail
  refine (rsame_c _ _ _ _ _ _ _ HI10.out HR10.out (by omega) (by omega)).mono ?_
  rintro e w11 ⟨rfl, hb⟩
  rw [decide_eq_true rfl]
  have HR11 := Lib.hid (HR10.out.kept hb)
  have HY11 := Lib.hid (HY10.out.kept hb)
  have HP11 := Lib.hid (HP10.out.kept hb)
  have HQ11 := Lib.hid (HQ10.out.kept hb)
  have HV11 := Lib.hid (HV10.out.kept hb)
  have HE11 := Lib.hid (HE10.out.kept hb)
  have HF11 := Lib.hid (HF10.out.kept hb)
  have HG11 := Lib.hid (HG10.out.kept hb)
  have HI11 := Lib.hid (HI10.out.kept hb)
  have Hb11 := Lib.hid (Hb10.out.trans (hb.mono Hb10.out.size))
  clear hb HR10 HY10 HP10 HQ10 HV10 HE10 HF10 HG10 HI10 Hb10
  go_wp2_with fail
  refine (revery_c _ _ _ 1 _ HV11.out (by omega) (by omega)).mono ?_
  rintro e w12 ⟨v12, rfl, ho, hb⟩
  rw [Hw1.out] at ho
  obtain ⟨AJ, cJ, rfl, hnew⟩ := ho.slice
  have HJ12 := Lib.hid hnew
  have HR12 := Lib.hid (HR11.out.kept hb)
  have HY12 := Lib.hid (HY11.out.kept hb)
  have HP12 := Lib.hid (HP11.out.kept hb)
  have HQ12 := Lib.hid (HQ11.out.kept hb)
  have HV12 := Lib.hid (HV11.out.kept hb)
  have HE12 := Lib.hid (HE11.out.kept hb)
  have HF12 := Lib.hid (HF11.out.kept hb)
  have HG12 := Lib.hid (HG11.out.kept hb)
  have HI12 := Lib.hid (HI11.out.kept hb)
  have Hb12 := Lib.hid (Hb11.out.trans (hb.mono Hb11.out.size))
  clear hb HR11 HY11 HP11 HQ11 HV11 HE11 HF11 HG11 HI11 Hb11 ho hnew
  go_wp2_with fail
  refine (rsame_c _ _ _ _ _ _ _ HJ12.out HY12.out (by omega) (by omega)).mono ?_
  rintro e w13 ⟨rfl, hb⟩
  rw [decide_eq_true rfl]
  have HR13 := Lib.hid (HR12.out.kept hb)
  have HY13 := Lib.hid (HY12.out.kept hb)
  have HP13 := Lib.hid (HP12.out.kept hb)
  have HQ13 := Lib.hid (HQ12.out.kept hb)
  have HV13 := Lib.hid (HV12.out.kept hb)
  have HE13 := Lib.hid (HE12.out.kept hb)
  have HF13 := Lib.hid (HF12.out.kept hb)
  have HG13 := Lib.hid (HG12.out.kept hb)
  have HI13 := Lib.hid (HI12.out.kept hb)
  have HJ13 := Lib.hid (HJ12.out.kept hb)
  have Hb13 := Lib.hid (Hb12.out.trans (hb.mono Hb12.out.size))
  clear hb HR12 HY12 HP12 HQ12 HV12 HE12 HF12 HG12 HI12 HJ12 Hb12
  go_wp2_with fail
  all_goals (go_ret; first | exact ⟨rfl, Hb13.out⟩ | exact ⟨ret_bool (by simp_all), Hb13.out⟩)
end Go.Proofs.Ytceecaohfnamnaa
