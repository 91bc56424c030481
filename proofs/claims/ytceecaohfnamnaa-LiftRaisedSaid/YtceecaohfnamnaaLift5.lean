/- What Weave and Part of package lift answer, and the reference's Every. -/
import Derived.Test.YtceecaohfnamnaaLift4
import Derived.Test.YtceecaohfnamnaaRef8
namespace Go.Proofs.Ytceecaohfnamnaa
open Go.RowKit
set_option linter.unusedVariables false
set_option linter.unusedSimpArgs false

theorem lpart_no (A : Option Addr) (n c : Nat) (w : World) (hm : n ≤ 9223372036854775807) (h : rightL n = false) :
    Calls Try.prog 15 #[.slice A n c] w fun e w' => e = .returned (.tuple #[.slice none 0 0, .slice none 0 0]) ∧ w = w' := by
  have H := Lib.hid h
  clear h
  go_enter Try.func15, Try.ntmps15
  go_wp2_with fail
  refine (lline_c _ _ _ _ hm).mono ?_
  rintro e w1 ⟨rfl, rfl⟩
  rw [H.out]
  go_wp2_with fail
  go_ret2
  exact ⟨rfl, rfl⟩

/-- Two lists woven, the first k of each. -/
def weaveK (xs ys : List Int) : Nat → List Int
  | 0 => []
  | k + 1 => weaveK xs ys k ++ [rdn xs k, rdn ys k]
theorem weaveK_length (xs ys : List Int) (k : Nat) : (weaveK xs ys k).length = 2 * k := by
  induction k with
  | zero => rfl
  | succ k ih => simp [weaveK, ih]; omega
theorem weaveK_at (xs ys : List Int) (k j : Nat) (h : j < 2 * k) : rdn (weaveK xs ys k) j = if j % 2 = 0 then rdn xs (j / 2) else rdn ys (j / 2) := by
  induction k with
  | zero => omega
  | succ k ih =>
    unfold rdn at *
    simp only [weaveK, List.getD_eq_getElem?_getD] at *
    rcases Nat.lt_or_ge j (2 * k) with hj | hj
    · rw [List.getElem?_append_left (by rw [weaveK_length]; exact hj)]
      exact ih hj
    · rw [List.getElem?_append_right (by rw [weaveK_length]; exact hj), weaveK_length]
      rcases (by omega : j = 2 * k ∨ j = 2 * k + 1) with rfl | rfl
      · simp [rdn]
      · have e1 : 2 * k + 1 - 2 * k = 1 := by omega
        have e2 : (2 * k + 1) % 2 = 1 := by omega
        have e3 : (2 * k + 1) / 2 = k := by omega
        rw [e1, e2, e3]
        simp [rdn]

set_option maxHeartbeats 1600000 in
theorem lweave_yes (A B : Option Addr) (c d : Nat) (xs ys : List Int) (w : World) (hA : ReadsI w A xs) (hB : ReadsI w B ys) (hm : xs.length ≤ 100000) (hl : xs.length = ys.length) :
    Calls Try.prog 16 #[.slice A xs.length c, .slice B ys.length d] w fun e w' => ∃ v, e = .returned v ∧ OwnI w' w.heap.size v (weaveK xs ys xs.length) ∧ Below w.heap.size w w' := by
  have HA := Lib.hid hA
  have HB := Lib.hid hB
  have hb : ((xs.length : Int) != (ys.length : Int)) = false := by rw [hl]; simp
  have Hl := Lib.hid hl
  clear hA hB hl
  go_enter Try.func16, Try.ntmps16
  go_wp2_with fail
  go_loopw [5, 15] (fun v i wr => ∃ k : Nat, k ≤ xs.length ∧ i = .int .i64 k ∧ OwnI wr w.heap.size v (weaveK xs ys k) ∧ Below w.heap.size w wr) (fun v i _ => xs.length - (intOf i).toNat)
  case atStart => exact ⟨0, by omega, rfl, OwnI.nil _ _, Below.refl _ _⟩
  case round =>
    obtain ⟨k, hk, rfl, hv, hbw⟩ := hrel
    have Hv := Lib.hid hv
    have Hb := Lib.hid hbw
    have hsz := hbw.size
    clear hv hbw
    by_cases hlt : k < xs.length
    · obtain ⟨ad, rfl, ha, hc⟩ := (HA.out.kept Hb.out).rd_ hlt
      obtain ⟨ae, rfl, hae, hce⟩ := (HB.out.kept Hb.out).rd_ (i := k) (by have := Hl.out; omega)
      have x1 : (0 : Int) ≤ (k : Int) := by omega
      have x2 : (k : Int) < (xs.length : Int) := by omega
      have x3 : (k : Int) < (ys.length : Int) := by have := Hl.out; omega
      have Hlen : Hid ((weaveK xs ys k).length = 2 * k) := Lib.hid (weaveK_length xs ys k)
      have Hnew : Hid (weaveK xs ys (k + 1) = weaveK xs ys k ++ [rdn xs k, rdn ys k]) := Lib.hid rfl
      go_wp2_with (
        at_builtin
        refine wpList_app rfl (.tmp 20) (.tmp 26) _ rfl Try.underlying23 u5 (weaveK xs ys k) rfl w.heap.size (Hv.out.alloc _) 2 [rdn xs k, rdn ys k] rfl wr.heap.size 2 rfl (cells2 (by simp) (by simp)) (by rw [Hlen.out]; omega) (by simp; omega) ?_
        intro v1 w1 hown1 hg1 hat1
        have Hown1 := Lib.hid hown1
        have Hb1 := Lib.hid ((Hb.out.alloc hsz _).grown hg1 (by simp; omega) (fun k hk => (Hv.out.blk_lt k hk).1))
        clear hown1 hg1 hat1)
      go_roundw
      case rel => exact ⟨k + 1, by omega, by go_num, by rw [Hnew.out]; exact Hown1.out, Hb1.out⟩
      case measure => simp [intOf]; omega
    · obtain rfl : k = xs.length := by omega
      go_wp2_with fail
      go_ret
      exact ⟨_, rfl, Hv.out, Hb.out⟩

theorem lweave_no (A B : Option Addr) (n m c d : Nat) (w : World) (h : n ≠ m) :
    Calls Try.prog 16 #[.slice A n c, .slice B m d] w fun e w' => e = .returned (.slice none 0 0) ∧ w = w' := by
  have hb : ((n : Int) != (m : Int)) = true := by rw [bne_iff_ne]; omega
  clear h
  go_enter Try.func16, Try.ntmps16
  go_wp2_with fail
  go_ret
  exact ⟨rfl, rfl⟩

set_option maxHeartbeats 1600000 in
theorem revery_c (A : Option Addr) (c : Nat) (xs : List Int) (p : Nat) (w : World) (hA : ReadsI w A xs) (hm : xs.length ≤ 100000) (hp : p < 2) :
    Calls Try.prog 17 #[.slice A xs.length c, .int .i64 p] w fun e w' => ∃ v, e = .returned v ∧ OwnI w' w.heap.size v (everyK xs p ((xs.length + 1 - p) / 2)) ∧ Below w.heap.size w w' := by
  have HA := Lib.hid hA
  clear hA
  go_enter Try.func17, Try.ntmps17
  go_wp2_with fail
  go_loopw [5, 6] (fun v i wr => ∃ k : Nat, 2 * k + p ≤ xs.length + 1 ∧ i = .int .i64 ((2 * k + p : Nat) : Int) ∧ OwnI wr w.heap.size v (everyK xs p k) ∧ Below w.heap.size w wr) (fun v i _ => xs.length + 2 - (intOf i).toNat)
  case atStart => exact ⟨0, by omega, by simp, OwnI.nil _ _, Below.refl _ _⟩
  case round =>
    obtain ⟨k, hk, rfl, hv, hbw⟩ := hrel
    have Hv := Lib.hid hv
    have Hb := Lib.hid hbw
    have hsz := hbw.size
    clear hv hbw
    obtain ⟨j, Hj⟩ : ∃ j, Hid (2 * k + p = j) := ⟨_, rfl⟩
    rw [Hj.out]
    by_cases hlt : j < xs.length
    · obtain ⟨ad, rfl, ha, hc⟩ := (HA.out.kept Hb.out).rd_ hlt
      have Hlen : Hid ((everyK xs p k).length = k) := Lib.hid (tab_length _ _)
      have Hnew : Hid (everyK xs p (k + 1) = everyK xs p k ++ [rdn xs j]) := Lib.hid (by rw [← Hj.out]; exact everyK_succ xs p k)
      go_wp2_with (
        at_builtin
        refine wpList_app rfl (.tmp 14) (.tmp 19) _ rfl Try.underlying23 u5 (everyK xs p k) rfl w.heap.size (Hv.out.alloc _) 1 [rdn xs j] rfl wr.heap.size 1 rfl (cells1 (by simp)) (by rw [Hlen.out]; omega) (by simp; omega) ?_
        intro v1 w1 hown1 hg1 hat1
        have Hown1 := Lib.hid hown1
        have Hb1 := Lib.hid ((Hb.out.alloc hsz _).grown hg1 (by simp; omega) (fun k hk => (Hv.out.blk_lt k hk).1))
        clear hown1 hg1 hat1)
      go_roundw
      case rel =>
        have e := Hj.out
        exact ⟨k + 1, by omega, by go_num, by rw [Hnew.out]; exact Hown1.out, Hb1.out⟩
      case measure => simp [intOf]; omega
    · have Hk : Hid ((xs.length + 1 - p) / 2 = k) := Lib.hid (by have := Hj.out; omega)
      go_wp2_with fail
      go_ret
      rw [Hk.out]
      exact ⟨_, rfl, Hv.out, Hb.out⟩

end Go.Proofs.Ytceecaohfnamnaa
