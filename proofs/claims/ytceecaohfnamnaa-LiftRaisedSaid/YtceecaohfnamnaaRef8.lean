/- What the small functions of the reference of layer 8 answer. -/
import Derived.Test.YtceecaohfnamnaaLift
import Derived.Test.YtceecaohfnamnaaOwn2
namespace Go.Proofs.Ytceecaohfnamnaa
open Go.RowKit
set_option linter.unusedVariables false
set_option linter.unusedSimpArgs false

theorem floor_neg {v p : Int} (hp : 1 ≤ p) (hv : v < 0) : v / p = if v.tmod p < 0 then v.tdiv p - 1 else v.tdiv p := by
  have h1 : v.tdiv p = -((-v) / p) := by
    rw [← Int.tdiv_eq_ediv_of_nonneg (by omega : 0 ≤ -v), Int.neg_tdiv]
    omega
  have h2 : v.tmod p = -((-v) % p) := by
    rw [← Int.tmod_eq_emod_of_nonneg (by omega : 0 ≤ -v), Int.neg_tmod]
    omega
  rw [h1, h2]
  have e := Int.mul_ediv_add_emod (-v) p
  have r0 := Int.emod_nonneg (-v) (b := p) (by omega)
  have r1 := Int.emod_lt_of_pos (-v) (b := p) (by omega)
  generalize (-v) / p = q at *
  generalize (-v) % p = r at *
  split
  · have e2 : v = (p - r) + p * (-q - 1) := by rw [Int.mul_sub, Int.mul_neg, Int.mul_one]; omega
    rw [e2, Int.add_mul_ediv_left _ _ (by omega), Int.ediv_eq_zero_of_lt (by omega) (by omega)]
    omega
  · have e2 : v = p * (-q) := by rw [Int.mul_neg]; omega
    rw [e2, Int.mul_ediv_cancel_left _ (by omega)]
theorem tdiv_bd {v p : Int} (hp : 1 ≤ p) (hv : v < 0) (hl : -9223372036854775808 ≤ v) : -9223372036854775808 ≤ v.tdiv p ∧ v.tdiv p ≤ 0 ∧ (v.tmod p < 0 → -9223372036854775807 ≤ v.tdiv p) := by
  have h1 : v.tdiv p = -((-v) / p) := by
    rw [← Int.tdiv_eq_ediv_of_nonneg (by omega : 0 ≤ -v), Int.neg_tdiv]
    omega
  have h2 : v.tmod p = -((-v) % p) := by
    rw [← Int.tmod_eq_emod_of_nonneg (by omega : 0 ≤ -v), Int.neg_tmod]
    omega
  rw [h1, h2]
  have q0 : 0 ≤ (-v) / p := Int.ediv_nonneg (by omega) (by omega)
  have e := Int.mul_ediv_add_emod (-v) p
  have r0 := Int.emod_nonneg (-v) (b := p) (by omega)
  have hm : (-v) / p ≤ p * ((-v) / p) := by
    have := Int.mul_le_mul_of_nonneg_right hp q0
    omega
  refine ⟨by omega, by omega, fun h => by omega⟩

theorem rdown_c (v p : Int) (w : World) (hp : 1 ≤ p) (hp2 : p ≤ 9223372036854775807) (hl : -9223372036854775808 ≤ v) (hh : v ≤ 9223372036854775807) :
    Calls Try.prog 34 #[.int .i64 v, .int .i64 p] w fun e w' => e = .returned (.int .i64 (v / p)) ∧ w = w' := by
  by_cases h0 : 0 ≤ v
  · have q0 : 0 ≤ v / p := Int.ediv_nonneg h0 (by omega)
    have q1 : v / p ≤ v := Int.ediv_le_self _ h0
    have r0 := Int.emod_nonneg v (b := p) (by omega)
    go_enter Try.func34, Try.ntmps34
    go_wp2
    go_ret
    exact ⟨rfl, rfl⟩
  · have hv : v < 0 := by omega
    have hfl := floor_neg hp hv
    have ⟨b1, b2, b3⟩ := tdiv_bd hp hv hl
    have Hf := Lib.hid hfl
    clear hfl
    by_cases hr : v.tmod p < 0
    · have b4 := b3 hr
      clear b3
      go_enter Try.func34, Try.ntmps34
      go_wp2
      go_ret
      rw [Hf.out, if_pos hr]
      exact ⟨rfl, rfl⟩
    · clear b3
      go_enter Try.func34, Try.ntmps34
      go_wp2
      go_ret
      rw [Hf.out, if_neg (by omega)]
      exact ⟨rfl, rfl⟩

set_option maxHeartbeats 800000 in
theorem rat_c (A : Option Addr) (c : Nat) (xs : List Int) (i : Int) (w : World) (hR : ReadsI w A xs) (h2 : 2 ≤ xs.length) (he : xs.length % 2 = 0) (hm : xs.length ≤ 100000) (i0 : -100 ≤ i) (i1 : i ≤ 1000000) :
    Calls Try.prog 33 #[.slice A xs.length c, .int .i64 i] w fun e w' => e = .returned (.int .i64 (atZ xs i)) ∧ w = w' := by
  have HR := Lib.hid hR
  have He := Lib.hid he
  clear hR he
  go_enter Try.func33, Try.ntmps33
  go_wp2_with fail
  go_loop [1] (fun v => ∃ j : Int, j % 2 = i % 2 ∧ i ≤ j ∧ (j = i ∨ j ≤ 1) ∧ v = .int .i64 j) (fun v => (2 - intOf v).toNat)
  case atStart => exact ⟨i, rfl, Int.le_refl _, .inl rfl, rfl⟩
  case round =>
    obtain ⟨j, j1, j2, j3, rfl⟩ := hrel
    by_cases hlt : j < 0
    · have hjb : j ≤ 1 := by omega
      have J1 := Lib.hid j1
      clear j1 j3
      go_wp2_with fail
      go_round
      case rel => exact ⟨j + 2, by have := J1.out; omega, by omega, .inr (by omega), rfl⟩
      case measure => simp [intOf]; omega
    · have hj0 : 0 ≤ j := by omega
      have J1 := Lib.hid j1
      have J3 := Lib.hid j3
      have hju : j ≤ 1000000 := by omega
      clear j1 j3 hlt
      go_wp2_with fail
      go_loop [1] (fun v => ∃ k : Int, k % 2 = i % 2 ∧ 0 ≤ k ∧ k ≤ j ∧ (k = j ∨ (xs.length : Int) - 2 ≤ k) ∧ v = .int .i64 k) (fun v => (intOf v).toNat)
      case atStart => exact ⟨j, J1.out, hj0, Int.le_refl _, .inl rfl, rfl⟩
      case round =>
        obtain ⟨k, k1, k2, k3, k4, rfl⟩ := hrel
        by_cases hge : (xs.length : Int) ≤ k
        · have K1 := Lib.hid k1
          have K4 := Lib.hid k4
          clear k1 k4
          go_wp2_with fail
          go_round
          case rel => exact ⟨k - 2, by have := K1.out; omega, by omega, by omega, .inr (by omega), rfl⟩
          case measure => simp [intOf]; omega
        · have hlt : k < (xs.length : Int) := by omega
          have hval : atZ xs i = rdn xs k.toNat := by
            have e1 := J1.out
            have e3 := J3.out
            have e4 := He.out
            unfold atZ
            split
            · congr 1; omega
            · split
              · congr 1; omega
              · congr 1; omega
          have Hv := Lib.hid hval
          obtain ⟨ad, rfl, hab, hc⟩ := HR.out.rd_ (i := k.toNat) (by omega)
          clear k1 k4 hval
          go_wp2_with fail
          go_ret
          rw [Hv.out]
          exact ⟨rfl, rfl⟩

def rightR (f : Int) (n : Nat) : Bool := decide (0 ≤ f ∧ f ≤ 4 ∧ 0 < n ∧ n % 2 = 0)
theorem rright_c (A : Option Addr) (n c : Nat) (f : Int) (w : World) (hm : n ≤ 9223372036854775807) : Calls Try.prog 24 #[.int .i64 f, .slice A n c] w fun e w' => e = .returned (.bool (rightR f n)) ∧ w = w' := by
  go_enter Try.func24, Try.ntmps24
  go_wp2
  all_goals
    go_ret
    refine ⟨ret_bool ?_, rfl⟩
    rw [Bool.eq_iff_iff]
    simp [rightR]
    omega

/-- Are two lists one? -/
theorem rsame_c (A B : Option Addr) (c d : Nat) (xs ys : List Int) (w : World) (hA : ReadsI w A xs) (hB : ReadsI w B ys) (hm : xs.length ≤ 1000000000) (hn : ys.length ≤ 9223372036854775807) :
    Calls Try.prog 8 #[.slice A xs.length c, .slice B ys.length d] w fun e w' => e = .returned (.bool (decide (xs = ys))) ∧ Below w.heap.size w w' := by
  have HA := Lib.hid hA
  have HB := Lib.hid hB
  clear hA hB
  by_cases hl : xs.length = ys.length
  · have hb : ((xs.length : Int) != (ys.length : Int)) = false := by rw [hl]; simp
    have Hl := Lib.hid hl
    clear hl
    go_enter Try.func8, Try.ntmps8
    go_wp2_with fail
    go_loopw [13] (fun v wr => ∃ k : Nat, k ≤ xs.length ∧ v = .int .i64 k ∧ (∀ j, j < k → rdn xs j = rdn ys j) ∧ Below w.heap.size w wr) (fun v _ => xs.length - (intOf v).toNat)
    case atStart => exact ⟨0, by omega, rfl, fun j hj => absurd hj (by omega), Below.refl _ _⟩
    case round =>
      obtain ⟨k, hk, rfl, hs, hbw⟩ := hrel
      have Hs := Lib.hid hs
      have Hb := Lib.hid hbw
      clear hs hbw
      by_cases hlt : k < xs.length
      · obtain ⟨ad, rfl, ha, hc⟩ := (HA.out.kept Hb.out).rd_ hlt
        obtain ⟨ae, rfl, hae, hce⟩ := (HB.out.kept Hb.out).rd_ (i := k) (by have := Hl.out; omega)
        have x1 : (0 : Int) ≤ (k : Int) := by omega
        have x2 : (k : Int) < (xs.length : Int) := by omega
        have x3 : (k : Int) < (ys.length : Int) := by have := Hl.out; omega
        cases hq : rdn xs k != rdn ys k with
        | true =>
          have hne : decide (xs = ys) = false := by
            apply decide_eq_false
            rintro rfl
            simp at hq
          have Hne := Lib.hid hne
          clear hne
          go_wp2_with fail
          go_quiet (fail)
          go_wp2_with fail
          go_ret
          rw [Hne.out]
          exact ⟨rfl, Hb.out.trans (below_drewN (Below.refl _ _) _)⟩
        | false =>
          have heq : rdn xs k = rdn ys k := by simpa using hq
          have Heq := Lib.hid heq
          clear heq
          go_wp2_with fail
          go_quiet (fail)
          go_wp2_with fail
          go_roundw
          case rel =>
            refine ⟨k + 1, by omega, by go_num, fun j hj => ?_, Hb.out.trans (below_drewN (Below.refl _ _) _)⟩
            rcases Nat.lt_or_ge j k with h | h
            · exact Hs.out j h
            · obtain rfl : j = k := by omega
              exact Heq.out
          case measure => simp [intOf]; omega
      · obtain rfl : k = xs.length := by omega
        have heq : decide (xs = ys) = true := decide_eq_true (ext_rdn Hl.out Hs.out)
        have Heq := Lib.hid heq
        clear heq
        go_wp2_with fail
        go_ret
        rw [Heq.out]
        exact ⟨rfl, Hb.out⟩
  · have hb : ((xs.length : Int) != (ys.length : Int)) = true := by rw [bne_iff_ne]; omega
    have hne : decide (xs = ys) = false := decide_eq_false (fun h => hl (by rw [h]))
    have Hne := Lib.hid hne
    clear hne hl
    go_enter Try.func8, Try.ntmps8
    go_wp2_with fail
    go_ret
    rw [Hne.out]
    exact ⟨rfl, Below.refl _ _⟩

end Go.Proofs.Ytceecaohfnamnaa
