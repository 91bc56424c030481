/- The walk of LiftParts: a case. -/
import Derived.Test.YtceecaohfnamnaaLiftWP0
namespace Go.Proofs.Ytceecaohfnamnaa
open Go.RowKit
set_option linter.unusedVariables false
set_option linter.unusedSimpArgs false

set_option maxRecDepth 100000 in
set_option maxHeartbeats 6400000 in
theorem parts_even_diff (A B : Option Addr) (c d : Nat) (xs ys : List Int) (W : World) (hR : ReadsI W A xs) (hY : ReadsI W B ys) (hmx : xs.length ≤ 9223372036854775807) (hmy : ys.length ≤ 9223372036854775807) (hx : xs.length ≤ 300) (hy : ys.length ≤ 300) (h2 : 2 ≤ xs.length) (he : xs.length % 2 = 0) (hl : xs.length ≠ ys.length) :
    Calls Try.prog 4 #[.slice A xs.length c, .slice B ys.length d] W fun e W' => e = .returned (.bool true) ∧ Below W.heap.size W W' := by
  have HR0 := Lib.hid hR
  have HY0 := Lib.hid hY
  clear hR hY
  have Hyes := Lib.hid (show rightL xs.length = true from decide_eq_true ⟨h2, he⟩)
  obtain ⟨p, hp', Hp⟩ : ∃ p, p.length = xs.length / 2 ∧ Hid (everyK xs 0 (xs.length / 2) = p) := ⟨_, everyK_length _ _ _, rfl⟩
  obtain ⟨q, hq', Hq⟩ : ∃ q, q.length = xs.length / 2 ∧ Hid (everyK xs 1 (xs.length / 2) = q) := ⟨_, everyK_length _ _ _, rfl⟩
  have H0 := Lib.hid (show everyK xs 0 ((xs.length + 1 - 0) / 2) = p by rw [← Hp.out]; congr 1; omega)
  have H1 := Lib.hid (show everyK xs 1 ((xs.length + 1 - 1) / 2) = q by rw [← Hq.out]; congr 1)
  have Hw := Lib.hid (show weaveK p q p.length = xs by rw [hp', ← Hp.out, ← Hq.out]; exact weave_every xs he)
  have Hl := Lib.hid hl
  have hpb : p.length ≤ 150 := by omega
  have hqb : q.length ≤ 150 := by omega
  have Hpq := Lib.hid (show p.length = q.length by omega)
  (first | (have hb0 : (((xs.length : Int) : Int) == 0) = true := by rw [beq_iff_eq]; omega) | (have hb0 : (((xs.length : Int) : Int) == 0) = false := by rw [beq_eq_false_iff_ne]; omega))
  (first | (have hb1 : (((xs.length : Int) % 2 : Int) == 1) = true := by rw [beq_iff_eq]; omega) | (have hb1 : (((xs.length : Int) % 2 : Int) == 1) = false := by rw [beq_eq_false_iff_ne]; omega))
  (first | (have hs : (((xs.length : Int) : Int) == (ys.length : Int)) = true := by rw [beq_iff_eq]; omega) | (have hs : (((xs.length : Int) : Int) == (ys.length : Int)) = false := by rw [beq_eq_false_iff_ne]; omega))
  (first | (have hd : ((0 : Int) == 2 * (xs.length : Int)) = true := by rw [beq_iff_eq]; omega) | (have hd : ((0 : Int) == 2 * (xs.length : Int)) = false := by rw [beq_eq_false_iff_ne]; omega))
  clear hl hp' hq'
  go_enter Try.func4, Try.ntmps4
  go_wp2_with fail
  refine (first_c _).mono ?_
  rintro e w1 ⟨rfl, hb⟩
  have HR1 := Lib.hid (HR0.out.kept hb)
  have HY1 := Lib.hid (HY0.out.kept hb)
  have Hb1 := Lib.hid hb
  clear hb HR0 HY0
  go_wp2_with fail
  refine (lpart_yes _ _ xs _ HR1.out (by omega) Hyes.out).mono ?_
  rintro e w2 ⟨v2, u2, rfl, ho, ho2, _, hb⟩
  rw [Hp.out] at ho
  rw [Hq.out] at ho2
  obtain ⟨AP, cP, rfl, hnew⟩ := ho.slice
  obtain ⟨AQ, cQ, rfl, hnew2⟩ := ho2.slice
  have HP2 := Lib.hid hnew
  have HQ2 := Lib.hid hnew2
  have HR2 := Lib.hid (HR1.out.kept hb)
  have HY2 := Lib.hid (HY1.out.kept hb)
  have Hb2 := Lib.hid (Hb1.out.trans (hb.mono Hb1.out.size))
  clear hb HR1 HY1 Hb1 ho ho2 hnew hnew2
  go_wp2_with fail
  refine (lweave_no _ _ _ _ _ _ _ Hl.out).mono ?_
  rintro e w' ⟨rfl, rfl⟩
  go_wp2_with fail
  refine (revery_c _ _ xs 0 _ HR2.out (by omega) (by omega)).mono ?_
  rintro e w3 ⟨v3, rfl, ho, hb⟩
  rw [H0.out] at ho
  obtain ⟨AE, cE, rfl, hnew⟩ := ho.slice
  have HE3 := Lib.hid hnew
  have HR3 := Lib.hid (HR2.out.kept hb)
  have HY3 := Lib.hid (HY2.out.kept hb)
  have HP3 := Lib.hid (HP2.out.kept hb)
  have HQ3 := Lib.hid (HQ2.out.kept hb)
  have Hb3 := Lib.hid (Hb2.out.trans (hb.mono Hb2.out.size))
  clear hb HR2 HY2 HP2 HQ2 Hb2 ho hnew
  go_wp2_with fail
  refine (rsame_c _ _ _ _ _ _ _ HP3.out HE3.out (by omega) (by omega)).mono ?_
  rintro e w4 ⟨rfl, hb⟩
  rw [decide_eq_true rfl]
  have HR4 := Lib.hid (HR3.out.kept hb)
  have HY4 := Lib.hid (HY3.out.kept hb)
  have HP4 := Lib.hid (HP3.out.kept hb)
  have HQ4 := Lib.hid (HQ3.out.kept hb)
  have HE4 := Lib.hid (HE3.out.kept hb)
  have Hb4 := Lib.hid (Hb3.out.trans (hb.mono Hb3.out.size))
  clear hb HR3 HY3 HP3 HQ3 HE3 Hb3
  go_wp2_with fail
  refine (revery_c _ _ xs 1 _ HR4.out (by omega) (by omega)).mono ?_
  rintro e w5 ⟨v5, rfl, ho, hb⟩
  rw [H1.out] at ho
  obtain ⟨AF, cF, rfl, hnew⟩ := ho.slice
  have HF5 := Lib.hid hnew
  have HR5 := Lib.hid (HR4.out.kept hb)
  have HY5 := Lib.hid (HY4.out.kept hb)
  have HP5 := Lib.hid (HP4.out.kept hb)
  have HQ5 := Lib.hid (HQ4.out.kept hb)
  have HE5 := Lib.hid (HE4.out.kept hb)
  have Hb5 := Lib.hid (Hb4.out.trans (hb.mono Hb4.out.size))
  clear hb HR4 HY4 HP4 HQ4 HE4 Hb4 ho hnew
  go_wp2_with fail
  refine (rsame_c _ _ _ _ _ _ _ HQ5.out HF5.out (by omega) (by omega)).mono ?_
  rintro e w6 ⟨rfl, hb⟩
  rw [decide_eq_true rfl]
  have HR6 := Lib.hid (HR5.out.kept hb)
  have HY6 := Lib.hid (HY5.out.kept hb)
  have HP6 := Lib.hid (HP5.out.kept hb)
  have HQ6 := Lib.hid (HQ5.out.kept hb)
  have HE6 := Lib.hid (HE5.out.kept hb)
  have HF6 := Lib.hid (HF5.out.kept hb)
  have Hb6 := Lib.hid (Hb5.out.trans (hb.mono Hb5.out.size))
  clear hb HR5 HY5 HP5 HQ5 HE5 HF5 Hb5
  go_wp2_with fail
  refine (lweave_yes _ _ _ _ _ _ _ HP6.out HQ6.out (by omega) Hpq.out).mono ?_
  rintro e w7 ⟨v7, rfl, ho, hb⟩
  rw [Hw.out] at ho
  obtain ⟨AG, cG, rfl, hnew⟩ := ho.slice
  have HG7 := Lib.hid hnew
  have HR7 := Lib.hid (HR6.out.kept hb)
  have HY7 := Lib.hid (HY6.out.kept hb)
  have HP7 := Lib.hid (HP6.out.kept hb)
  have HQ7 := Lib.hid (HQ6.out.kept hb)
  have HE7 := Lib.hid (HE6.out.kept hb)
  have HF7 := Lib.hid (HF6.out.kept hb)
  have Hb7 := Lib.hid (Hb6.out.trans (hb.mono Hb6.out.size))
  clear hb HR6 HY6 HP6 HQ6 HE6 HF6 Hb6 ho hnew
  go_wp2_with fail
  refine (rsame_c _ _ _ _ _ _ _ HG7.out HR7.out (by omega) (by omega)).mono ?_
  rintro e w8 ⟨rfl, hb⟩
  rw [decide_eq_true rfl]
  have HR8 := Lib.hid (HR7.out.kept hb)
  have HY8 := Lib.hid (HY7.out.kept hb)
  have HP8 := Lib.hid (HP7.out.kept hb)
  have HQ8 := Lib.hid (HQ7.out.kept hb)
  have HE8 := Lib.hid (HE7.out.kept hb)
  have HF8 := Lib.hid (HF7.out.kept hb)
  have HG8 := Lib.hid (HG7.out.kept hb)
  have Hb8 := Lib.hid (Hb7.out.trans (hb.mono Hb7.out.size))
  clear hb HR7 HY7 HP7 HQ7 HE7 HF7 HG7 Hb7
  go_wp2_with fail
  all_goals (go_ret; first | exact ⟨rfl, Hb8.out⟩ | exact ⟨ret_bool (by simp_all), Hb8.out⟩)
end Go.Proofs.Ytceecaohfnamnaa
