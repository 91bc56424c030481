/- The walk of LiftParts: a case. -/
import Derived.Test.YtceecaohfnamnaaLiftWP0
namespace Go.Proofs.Ytceecaohfnamnaa
open Go.RowKit
set_option linter.unusedVariables false
set_option linter.unusedSimpArgs false

set_option maxRecDepth 100000 in
set_option maxHeartbeats 6400000 in
theorem parts_odd_same (A B : Option Addr) (c d : Nat) (xs ys : List Int) (W : World) (hR : ReadsI W A xs) (hY : ReadsI W B ys) (hmx : xs.length ≤ 9223372036854775807) (hmy : ys.length ≤ 9223372036854775807) (hx : xs.length ≤ 300) (hy : ys.length ≤ 300) (ho : xs.length = 0 ∨ xs.length % 2 = 1) (hl : xs.length = ys.length) :
    Calls Try.prog 4 #[.slice A xs.length c, .slice B ys.length d] W fun e W' => e = .returned (.bool true) ∧ Below W.heap.size W W' := by
  have HR0 := Lib.hid hR
  have HY0 := Lib.hid hY
  clear hR hY
  have Hno := Lib.hid (show rightL xs.length = false from decide_eq_false (by omega))
  have Hl := Lib.hid hl
  obtain ⟨z, hz', Hz⟩ : ∃ z, z.length = 2 * xs.length ∧ Hid (weaveK xs ys xs.length = z) := ⟨_, weaveK_length _ _ _, rfl⟩
  have hzb : z.length ≤ 600 := by omega
  rcases ho with ho | ho
  all_goals (
    (first | (have hb0 : (((xs.length : Int) : Int) == 0) = true := by rw [beq_iff_eq]; omega) | (have hb0 : (((xs.length : Int) : Int) == 0) = false := by rw [beq_eq_false_iff_ne]; omega))
    (first | (have hb1 : (((xs.length : Int) % 2 : Int) == 1) = true := by rw [beq_iff_eq]; omega) | (have hb1 : (((xs.length : Int) % 2 : Int) == 1) = false := by rw [beq_eq_false_iff_ne]; omega))
    (first | (have hs : (((xs.length : Int) : Int) == (ys.length : Int)) = true := by rw [beq_iff_eq]; omega) | (have hs : (((xs.length : Int) : Int) == (ys.length : Int)) = false := by rw [beq_eq_false_iff_ne]; omega))
    (first | (have hz0 : (((z.length : Int) : Int) == 0) = true := by rw [beq_iff_eq]; omega) | (have hz0 : (((z.length : Int) : Int) == 0) = false := by rw [beq_eq_false_iff_ne]; omega))
    (first | (have hz2 : (((z.length : Int) : Int) == 2 * (xs.length : Int)) = true := by rw [beq_iff_eq]; omega) | (have hz2 : (((z.length : Int) : Int) == 2 * (xs.length : Int)) = false := by rw [beq_eq_false_iff_ne]; omega))
    clear hl hz' ho
    go_enter Try.func4, Try.ntmps4
    go_wp2_with fail
    refine (first_c _).mono ?_
    rintro e w1 ⟨rfl, hb⟩
    have HR1 := Lib.hid (HR0.out.kept hb)
    have HY1 := Lib.hid (HY0.out.kept hb)
    have Hb1 := Lib.hid hb
    clear hb HR0 HY0
    go_wp2_with fail
    refine (lpart_no _ _ _ _ hmx Hno.out).mono ?_
    rintro e w' ⟨rfl, rfl⟩
    go_wp2_with fail
    refine (lweave_yes _ _ _ _ xs ys _ HR1.out HY1.out (by omega) Hl.out).mono ?_
    rintro e w2 ⟨v2, rfl, ho, hb⟩
    rw [Hz.out] at ho
    obtain ⟨AV, cV, rfl, hnew⟩ := ho.slice
    have HV2 := Lib.hid hnew
    have HR2 := Lib.hid (HR1.out.kept hb)
    have HY2 := Lib.hid (HY1.out.kept hb)
    have Hb2 := Lib.hid (Hb1.out.trans (hb.mono Hb1.out.size))
    clear hb HR1 HY1 Hb1 ho hnew
    go_wp2_with fail
    all_goals (go_ret; first | exact ⟨rfl, Hb2.out⟩ | exact ⟨ret_bool (by simp_all), Hb2.out⟩))
end Go.Proofs.Ytceecaohfnamnaa
