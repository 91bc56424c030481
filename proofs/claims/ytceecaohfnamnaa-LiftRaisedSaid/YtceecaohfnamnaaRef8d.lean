/- What the reference's Forward and Inverse of layer 8 answer; what must be answered ahead of everything else. -/
import Derived.Test.YtceecaohfnamnaaRef8c
import Derived.Test.YtceecaohfnamnaaLift3
import Derived.Test.YtceecaohfnamnaaLift5
namespace Go.Proofs.Ytceecaohfnamnaa
open Go.RowKit
set_option linter.unusedVariables false
set_option linter.unusedSimpArgs false

theorem in64_all {xs : List Int} (h : In64 xs) (p : Nat) (sg : Int) (S : List Int → Int → Int) : In64 (allZ p sg S xs) := by
  intro j
  rcases Nat.lt_or_ge j xs.length with hj | hj
  · unfold allZ
    rw [rdn_tab _ _ hj]
    split
    · exact wrap64_wrap _
    · exact h j
  · have : rdn (allZ p sg S xs) j = 0 := by
      unfold rdn
      rw [List.getD_eq_getElem?_getD, List.getElem?_eq_none (by rw [allZ_length]; exact hj)]
      rfl
    rw [this]
    exact wrap64_id (by omega) (by omega)
theorem rightR_iff (f : Int) (n : Nat) : rightR f n = true ↔ (rightF f = true ∧ rightL n = true) := by
  simp [rightR, rightF, rightL]
  omega

set_option maxHeartbeats 1600000 in
theorem rfwd_c (A : Option Addr) (c : Nat) (xs : List Int) (f : Int) (w : World) (hR : ReadsI w A xs) (hm : xs.length ≤ 10000) (hin : In64 xs) :
    Calls Try.prog 10 #[.int .i64 f, .slice A xs.length c] w fun e w' => ∃ v, e = .returned v ∧ OwnI w' w.heap.size v (fwdZ f xs) ∧ Below w.heap.size w w' := by
  cases hr : rightR f xs.length with
  | true =>
    have h := (rightR_iff f xs.length).1 hr
    have Hspec : Hid (fwdZ f xs = allZ 0 1 (stepZ f false) (allZ 1 (-1) (stepZ f true) xs)) := Lib.hid (if_pos h)
    have ⟨hn, he⟩ : 2 ≤ xs.length ∧ xs.length % 2 = 0 := of_decide_eq_true h.2
    have HR := Lib.hid hR
    have Hr := Lib.hid hr
    have He := Lib.hid he
    clear h hR hr he
    go_enter Try.func10, Try.ntmps10
    go_wp2_with fail
    refine (rright_c _ _ _ _ _ (by omega)).mono ?_
    rintro e w1 ⟨rfl, rfl⟩
    rw [Hr.out]
    go_wp2_with fail
    refine (rstep_c _ _ _ _ true _ _ HR.out hn He.out hm hin).mono ?_
    rintro e w2 ⟨v, rfl, hown, hb⟩
    simp only [Bool.false_eq_true, if_false, if_true] at hown
    rw [stepsZ_all _ (by omega)] at hown
    obtain ⟨A1, c1, rfl, hR1⟩ := hown.slice
    have HR1 := Lib.hid hR1
    have Hb := Lib.hid hb
    have hin1 := in64_all hin 1 (-1) (stepZ f true)
    have hl := allZ_length 1 (-1) (stepZ f true) xs
    have Hin1 := Lib.hid hin1
    have Hl := Lib.hid hl
    clear hR1 hb hown hin1 hl
    obtain ⟨ys, Hys⟩ : ∃ ys, Hid (allZ 1 (-1) (stepZ f true) xs = ys) := ⟨_, rfl⟩
    rw [Hys.out] at HR1 Hin1 Hl Hspec ⊢
    go_wp2_with fail
    refine (rstep_c _ _ ys _ false _ _ HR1.out (by rw [Hl.out]; exact hn) (by rw [Hl.out]; exact He.out) (by rw [Hl.out]; exact hm) Hin1.out).mono ?_
    rintro e w3 ⟨v, rfl, hown, hb⟩
    simp only [Bool.false_eq_true, if_false, if_true] at hown
    rw [stepsZ_all _ (by omega)] at hown
    have Ho := Lib.hid hown
    have Hb3 := Lib.hid hb
    clear hown hb
    go_wp2_with fail
    go_ret
    rw [Hspec.out]
    exact ⟨_, rfl, OwnI.lower Ho.out Hb.out.size, Hb.out.trans (Hb3.out.mono Hb.out.size)⟩
  | false =>
    have h : ¬ (rightF f = true ∧ rightL xs.length = true) := fun h => by have := (rightR_iff f xs.length).2 h; rw [hr] at this; cases this
    have Hspec : Hid (fwdZ f xs = []) := Lib.hid (if_neg h)
    have Hr := Lib.hid hr
    clear h hR hr
    go_enter Try.func10, Try.ntmps10
    go_wp2_with fail
    refine (rright_c _ _ _ _ _ (by omega)).mono ?_
    rintro e w1 ⟨rfl, rfl⟩
    rw [Hr.out]
    go_wp2_with fail
    go_ret
    rw [Hspec.out]
    exact ⟨_, rfl, OwnI.nil _ _, Below.refl _ _⟩

set_option maxHeartbeats 1600000 in
theorem rinv_c (A : Option Addr) (c : Nat) (xs : List Int) (f : Int) (w : World) (hR : ReadsI w A xs) (hm : xs.length ≤ 10000) (hin : In64 xs) :
    Calls Try.prog 12 #[.int .i64 f, .slice A xs.length c] w fun e w' => ∃ v, e = .returned v ∧ OwnI w' w.heap.size v (invZ f xs) ∧ Below w.heap.size w w' := by
  cases hr : rightR f xs.length with
  | true =>
    have h := (rightR_iff f xs.length).1 hr
    have Hspec : Hid (invZ f xs = allZ 1 1 (stepZ f true) (allZ 0 (-1) (stepZ f false) xs)) := Lib.hid (if_pos h)
    have ⟨hn, he⟩ : 2 ≤ xs.length ∧ xs.length % 2 = 0 := of_decide_eq_true h.2
    have HR := Lib.hid hR
    have Hr := Lib.hid hr
    have He := Lib.hid he
    clear h hR hr he
    go_enter Try.func12, Try.ntmps12
    go_wp2_with fail
    refine (rright_c _ _ _ _ _ (by omega)).mono ?_
    rintro e w1 ⟨rfl, rfl⟩
    rw [Hr.out]
    go_wp2_with fail
    refine (rstep_c _ _ _ _ false _ _ HR.out hn He.out hm hin).mono ?_
    rintro e w2 ⟨v, rfl, hown, hb⟩
    simp only [Bool.false_eq_true, if_false, if_true] at hown
    rw [stepsZ_all _ (by omega)] at hown
    obtain ⟨A1, c1, rfl, hR1⟩ := hown.slice
    have HR1 := Lib.hid hR1
    have Hb := Lib.hid hb
    have hin1 := in64_all hin 0 (-1) (stepZ f false)
    have hl := allZ_length 0 (-1) (stepZ f false) xs
    have Hin1 := Lib.hid hin1
    have Hl := Lib.hid hl
    clear hR1 hb hown hin1 hl
    obtain ⟨ys, Hys⟩ : ∃ ys, Hid (allZ 0 (-1) (stepZ f false) xs = ys) := ⟨_, rfl⟩
    rw [Hys.out] at HR1 Hin1 Hl Hspec ⊢
    go_wp2_with fail
    refine (rstep_c _ _ ys _ true _ _ HR1.out (by rw [Hl.out]; exact hn) (by rw [Hl.out]; exact He.out) (by rw [Hl.out]; exact hm) Hin1.out).mono ?_
    rintro e w3 ⟨v, rfl, hown, hb⟩
    simp only [Bool.false_eq_true, if_false, if_true] at hown
    rw [stepsZ_all _ (by omega)] at hown
    have Ho := Lib.hid hown
    have Hb3 := Lib.hid hb
    clear hown hb
    go_wp2_with fail
    go_ret
    rw [Hspec.out]
    exact ⟨_, rfl, OwnI.lower Ho.out Hb.out.size, Hb.out.trans (Hb3.out.mono Hb.out.size)⟩
  | false =>
    have h : ¬ (rightF f = true ∧ rightL xs.length = true) := fun h => by have := (rightR_iff f xs.length).2 h; rw [hr] at this; cases this
    have Hspec : Hid (invZ f xs = []) := Lib.hid (if_neg h)
    have Hr := Lib.hid hr
    clear h hR hr
    go_enter Try.func12, Try.ntmps12
    go_wp2_with fail
    refine (rright_c _ _ _ _ _ (by omega)).mono ?_
    rintro e w1 ⟨rfl, rfl⟩
    rw [Hr.out]
    go_wp2_with fail
    go_ret
    rw [Hspec.out]
    exact ⟨_, rfl, OwnI.nil _ _, Below.refl _ _⟩

end Go.Proofs.Ytceecaohfnamnaa
