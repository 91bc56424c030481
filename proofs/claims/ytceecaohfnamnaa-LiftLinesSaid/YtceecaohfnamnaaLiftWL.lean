/- The walk of LiftLines. -/
import Derived.Test.YtceecaohfnamnaaLiftF
import Derived.Test.YtceecaohfnamnaaOpenInts
namespace Go.Proofs.Ytceecaohfnamnaa
open Go.RowKit
set_option linter.unusedVariables false
set_option linter.unusedSimpArgs false

theorem IsInts.in64 {W : World} {v : Value} {xs : List Int} (h : IsInts W v xs) : In64 xs := fun j => by
  have := h.rd_bd j
  exact wrap64_id this.1 this.2

theorem fwdZ_len (f : Int) (xs : List Int) : (fwdZ f xs).length ≤ xs.length := by
  unfold fwdZ
  split
  · rw [allZ_length, allZ_length]; omega
  · simp
theorem invZ_len (f : Int) (xs : List Int) : (invZ f xs).length ≤ xs.length := by
  unfold invZ
  split
  · rw [allZ_length, allZ_length]; omega
  · simp

set_option maxRecDepth 100000 in
set_option maxHeartbeats 6400000 in
theorem lines_p (f : Int) (A : Option Addr) (c : Nat) (xs : List Int) (W : World) (hR : ReadsI W A xs) (hin : In64 xs) (hmax : xs.length ≤ maxLen)
    (hf : f < 0 ∨ 5 ≤ f ∨ (3 ≤ f ∧ f ≤ 3) ∨ (0 ≤ f ∧ f < 3) ∨ (3 < f ∧ f < 5)) :
    Calls Try.prog 3 #[.int .i64 f, .slice A xs.length c] W fun e W' => e = .returned (.bool true) ∧ Below W.heap.size W W' := by
  have HR := Lib.hid hR
  have Hin := Lib.hid hin
  unfold maxLen at hmax
  clear hR hin
  by_cases hlen : xs.length ≤ 300
  · rcases hf with hf | hf | hf | hf | hf
    all_goals (
      have Hright : Hid (rightF f = decide (0 ≤ f ∧ f ≤ 4)) := Lib.hid rfl
      go_enter Try.func3, Try.ntmps3
      go_wp2_with fail
      refine (first_c _).mono ?_
      rintro e w1 ⟨rfl, hb1⟩
      have HR1 := Lib.hid (HR.out.kept hb1)
      have Hb1 := Lib.hid hb1
      have hs1 := hb1.size
      clear hb1
      obtain ⟨i0, hi, hz0, hz1, hz2⟩ := info_parts info_int
      go_wp2_with (
        at_builtin
        refine wpList_append_any _ rfl (.tmp 22) (.tmp 23) _ rfl w1.heap.size 3 i0 (.int .i64 0) 1 8 Try.underlying23 hi hz0 hz1 hz2 rfl (by omega) (.slice (some ⟨w1.heap.size, 0, none⟩) 0 0) 0 [] rfl
          (OwnI.empty w1 (Nat.le_refl _)) _ A xs.length c _ rfl (HR1.out.kept ((Below.refl _ _).alloc (Nat.le_refl _) (.cells #[] 3))) (map_int_one xs) (by simp only [maxLen]; omega) (by omega) (by simp) ?_
        intro v1 w2 hown hg hat
        have hb2 : Below w1.heap.size w1 w2 := ((Below.refl _ _).alloc (Nat.le_refl _) _).grown hg (by simp) (by intro k hk; simp [Value.ownBlock] at hk; omega)
        have ho2 : OwnI w2 w1.heap.size v1 xs := by unfold OwnI; simpa using hown
        obtain ⟨A2, c2, rfl, hR2⟩ := ho2.slice
        have HO2 := Lib.hid hR2
        have HR2 := Lib.hid (HR1.out.kept hb2)
        have Hb2 := Lib.hid (Hb1.out.trans (hb2.mono Hb1.out.size))
        clear hown hg hat hb2 ho2 hR2 HR1 HR Hb1)
      refine (lfwd_c _ _ _ _ _ HO2.out (by omega)).mono ?_
      rintro e w3 ⟨v3, rfl, ho, hb⟩
      obtain ⟨A3, c3, rfl, hR3⟩ := ho.slice
      have HF3 := Lib.hid hR3
      have HO3 := Lib.hid (HO2.out.kept hb)
      have HR3 := Lib.hid (HR2.out.kept hb)
      have Hb3 := Lib.hid (Hb2.out.trans (hb.mono Hb2.out.size))
      clear ho hb hR3 HO2 HR2 Hb2
      go_wp2_with fail
      refine (rfwd_c _ _ _ _ _ HR3.out (by omega) Hin.out).mono ?_
      rintro e w4 ⟨v4, rfl, ho, hb⟩
      obtain ⟨A4, c4, rfl, hR4⟩ := ho.slice
      have HG4 := Lib.hid hR4
      have HF4 := Lib.hid (HF3.out.kept hb)
      have HO4 := Lib.hid (HO3.out.kept hb)
      have HR4 := Lib.hid (HR3.out.kept hb)
      have Hb4 := Lib.hid (Hb3.out.trans (hb.mono Hb3.out.size))
      clear ho hb hR4 HO3 HR3 Hb3 HF3
      go_wp2_with fail
      refine (rsame_c _ _ _ _ _ _ _ HF4.out HG4.out (Nat.le_trans (fwdZ_len _ _) (by omega)) (Nat.le_trans (fwdZ_len _ _) (by omega))).mono ?_
      rintro e w5 ⟨rfl, hb⟩
      rw [decide_eq_true rfl]
      have HO5 := Lib.hid (HO4.out.kept hb)
      have HR5 := Lib.hid (HR4.out.kept hb)
      have Hb5 := Lib.hid (Hb4.out.trans (hb.mono Hb4.out.size))
      clear hb HO4 HR4 Hb4 HF4 HG4
      go_wp2_with fail
      refine (linv_c _ _ _ _ _ HO5.out (by omega)).mono ?_
      rintro e w6 ⟨v6, rfl, ho, hb⟩
      obtain ⟨A6, c6, rfl, hR6⟩ := ho.slice
      have HF6 := Lib.hid hR6
      have HO6 := Lib.hid (HO5.out.kept hb)
      have HR6 := Lib.hid (HR5.out.kept hb)
      have Hb6 := Lib.hid (Hb5.out.trans (hb.mono Hb5.out.size))
      clear ho hb hR6 HO5 HR5 Hb5
      go_wp2_with fail
      refine (rinv_c _ _ _ _ _ HR6.out (by omega) Hin.out).mono ?_
      rintro e w7 ⟨v7, rfl, ho, hb⟩
      obtain ⟨A7, c7, rfl, hR7⟩ := ho.slice
      have HG7 := Lib.hid hR7
      have HF7 := Lib.hid (HF6.out.kept hb)
      have HO7 := Lib.hid (HO6.out.kept hb)
      have HR7 := Lib.hid (HR6.out.kept hb)
      have Hb7 := Lib.hid (Hb6.out.trans (hb.mono Hb6.out.size))
      clear ho hb hR7 HO6 HR6 Hb6 HF6
      go_wp2_with fail
      refine (rsame_c _ _ _ _ _ _ _ HF7.out HG7.out (Nat.le_trans (invZ_len _ _) (by omega)) (Nat.le_trans (invZ_len _ _) (by omega))).mono ?_
      rintro e w8 ⟨rfl, hb⟩
      rw [decide_eq_true rfl]
      have HO8 := Lib.hid (HO7.out.kept hb)
      have HR8 := Lib.hid (HR7.out.kept hb)
      have Hb8 := Lib.hid (Hb7.out.trans (hb.mono Hb7.out.size))
      clear hb HO7 HR7 Hb7 HF7 HG7
      go_wp2_with fail
      refine (rsame_c _ _ _ _ _ _ _ HO8.out HR8.out (by omega) (by omega)).mono ?_
      rintro e w9 ⟨rfl, hb⟩
      rw [decide_eq_true rfl]
      have Hb9 := Lib.hid (Hb8.out.trans (hb.mono Hb8.out.size))
      clear hb HO8 HR8 Hb8
      go_wp2_with fail
      refine (lright_c _ _).mono ?_
      rintro e w' ⟨rfl, rfl⟩
      first | rw [show rightF f = true from decide_eq_true (by omega)] | rw [show rightF f = false from decide_eq_false (by omega)]
      go_wp2_with fail
      refine (lshift_c _ _).mono ?_
      rintro e w' ⟨rfl, rfl⟩
      first
        | rw [show shiftF f = 1 by unfold shiftF; rw [if_pos ⟨decide_eq_true (by omega), by omega⟩]]
        | rw [show shiftF f = 0 by unfold shiftF; rw [if_neg]; rintro ⟨h1, h2⟩; have := of_decide_eq_true h1; omega]
      go_wp2_with fail
      all_goals first | exact ⟨rfl, Hb9.out⟩ | (go_ret; exact ⟨rfl, Hb9.out⟩) | (go_ret; exact ⟨ret_bool (by simp; omega), Hb9.out⟩))
  · go_enter Try.func3, Try.ntmps3
    go_wp2_with fail
    refine (first_c _).mono ?_
    rintro e w1 ⟨rfl, hb1⟩
    go_wp2_with fail
    all_goals first | exact ⟨rfl, hb1⟩ | (go_ret; exact ⟨rfl, hb1⟩)
namespace liftLines
theorem liftLines_walk (f : Int) (xs : List Int) (v0 v1 : Value) (W : World) (h0 : IsInt .i64 v0 f) (h1 : IsInts W v1 xs) :
    Calls Try.prog 3 #[v0, v1] W fun e W' => e = .returned (.bool true) ∧ Below W.heap.size W W' := by
  have hin := h1.in64
  obtain ⟨rfl, _⟩ := h0
  obtain ⟨A, c, rfl, hR, hm, _⟩ := h1
  exact lines_p f A c xs W hR hin hm (by omega)
end liftLines
end Go.Proofs.Ytceecaohfnamnaa
