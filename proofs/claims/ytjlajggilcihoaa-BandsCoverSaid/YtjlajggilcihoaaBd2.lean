/- Bands: what the small functions answer: padded sides, fits, one band, counts, parents. -/
import Derived.Test.YtjlajggilcihoaaBd1
namespace Go.Proofs.Ytjlajggilcihoaa
open Go.RowKit
set_option linter.unusedVariables false
set_option linter.unusedSimpArgs false

set_option maxRecDepth 100000 in
set_option maxHeartbeats 3200000 in
theorem wpadded_c (n d : Int) (w : World) : Calls Try.prog 36 #[.int .i64 n, .int .i64 d] w fun e w' => e = .returned (.int .i64 (padI n d)) ∧ w = w' := by
  by_cases h1 : 1 ≤ n
  · by_cases h2 : n ≤ 1024
    · have HD := Lib.hid (fun W => wdeep_c d W)
      by_cases h3 : 0 ≤ d ∧ d ≤ 6
      · have HT := Lib.hid (show decide (0 ≤ d ∧ d ≤ 6) = true from decide_eq_true h3)
        have hd : d = 0 ∨ d = 1 ∨ d = 2 ∨ d = 3 ∨ d = 4 ∨ d = 5 ∨ d = 6 := by omega
        clear h3
        rcases hd with hd | hd | hd | hd | hd | hd | hd
        · subst hd
          have F : bits .andNot .i64 (n + 0) 0 = padI n 0 := andNot_pad (d := 0) h1 h2 (by decide) (by decide)
          rw [Int.add_zero] at F
          go_enter Try.func36, Try.ntmps36
          go_wp2_with fail
          refine (HD.out _).mono ?_
          rintro e w1 ⟨rfl, rfl⟩
          rw [HT.out]
          go_wp2_with fail
          go_ret
          exact ⟨rfl, rfl⟩
        · subst hd
          have F : bits .andNot .i64 (n + 1) 1 = padI n 1 := andNot_pad (d := 1) h1 h2 (by decide) (by decide)
          go_enter Try.func36, Try.ntmps36
          go_wp2_with fail
          refine (HD.out _).mono ?_
          rintro e w1 ⟨rfl, rfl⟩
          rw [HT.out]
          go_wp2_with fail
          go_ret
          exact ⟨rfl, rfl⟩
        · subst hd
          have F : bits .andNot .i64 (n + 3) 3 = padI n 2 := andNot_pad (d := 2) h1 h2 (by decide) (by decide)
          go_enter Try.func36, Try.ntmps36
          go_wp2_with fail
          refine (HD.out _).mono ?_
          rintro e w1 ⟨rfl, rfl⟩
          rw [HT.out]
          go_wp2_with fail
          go_ret
          exact ⟨rfl, rfl⟩
        · subst hd
          have F : bits .andNot .i64 (n + 7) 7 = padI n 3 := andNot_pad (d := 3) h1 h2 (by decide) (by decide)
          go_enter Try.func36, Try.ntmps36
          go_wp2_with fail
          refine (HD.out _).mono ?_
          rintro e w1 ⟨rfl, rfl⟩
          rw [HT.out]
          go_wp2_with fail
          go_ret
          exact ⟨rfl, rfl⟩
        · subst hd
          have F : bits .andNot .i64 (n + 15) 15 = padI n 4 := andNot_pad (d := 4) h1 h2 (by decide) (by decide)
          go_enter Try.func36, Try.ntmps36
          go_wp2_with fail
          refine (HD.out _).mono ?_
          rintro e w1 ⟨rfl, rfl⟩
          rw [HT.out]
          go_wp2_with fail
          go_ret
          exact ⟨rfl, rfl⟩
        · subst hd
          have F : bits .andNot .i64 (n + 31) 31 = padI n 5 := andNot_pad (d := 5) h1 h2 (by decide) (by decide)
          go_enter Try.func36, Try.ntmps36
          go_wp2_with fail
          refine (HD.out _).mono ?_
          rintro e w1 ⟨rfl, rfl⟩
          rw [HT.out]
          go_wp2_with fail
          go_ret
          exact ⟨rfl, rfl⟩
        · subst hd
          have F : bits .andNot .i64 (n + 63) 63 = padI n 6 := andNot_pad (d := 6) h1 h2 (by decide) (by decide)
          go_enter Try.func36, Try.ntmps36
          go_wp2_with fail
          refine (HD.out _).mono ?_
          rintro e w1 ⟨rfl, rfl⟩
          rw [HT.out]
          go_wp2_with fail
          go_ret
          exact ⟨rfl, rfl⟩
      · have HT := Lib.hid (show decide (0 ≤ d ∧ d ≤ 6) = false from decide_eq_false h3)
        have HP := Lib.hid (padI_out (n := n) (d := d) (by omega))
        clear h3
        go_enter Try.func36, Try.ntmps36
        go_wp2_with fail
        refine (HD.out _).mono ?_
        rintro e w1 ⟨rfl, rfl⟩
        rw [HT.out]
        go_wp2_with fail
        go_ret
        exact ⟨by rw [HP.out]; rfl, rfl⟩
    · have HP := Lib.hid (padI_out (n := n) (d := d) (by omega))
      go_enter Try.func36, Try.ntmps36
      go_wp2_with fail
      go_ret
      exact ⟨by rw [HP.out]; rfl, rfl⟩
  · have HP := Lib.hid (padI_out (n := n) (d := d) (by omega))
    go_enter Try.func36, Try.ntmps36
    go_wp2_with fail
    go_ret
    exact ⟨by rw [HP.out]; rfl, rfl⟩
set_option maxRecDepth 100000 in
set_option maxHeartbeats 3200000 in
theorem bfits_c (w h d : Int) (W : World) : Calls Try.prog 25 #[.int .i64 w, .int .i64 h, .int .i64 d] W fun e W' => e = .returned (.bool (okF w h d)) ∧ W = W' := by
  have hF := okF_eq w h d
  have HA := Lib.hid (fun W => wpadded_c w d W)
  have HB := Lib.hid (fun W => wpadded_c h d W)
  generalize padI w d = a at *
  generalize padI h d = b at *
  have HF := Lib.hid hF
  clear hF
  by_cases h1 : 0 < a
  · cases h2 : (a == w) with
    | false =>
      have g2 := Lib.hid (show ¬ a = w by simpa using h2)
      go_enter Try.func25, Try.ntmps25
      go_wp2_with fail
      refine (HA.out _).mono ?_
      rintro e w1 ⟨rfl, rfl⟩
      go_wp2_with fail
      refine (HB.out _).mono ?_
      rintro e w1 ⟨rfl, rfl⟩
      go_wp2_with fail
      go_ret
      exact ⟨ret_bool (by rw [HF.out]; simp [g2.out]), rfl⟩
    | true =>
      have g2 := Lib.hid (show a = w by simpa using h2)
      by_cases h3 : 0 < b
      · cases h4 : (b == h) with
        | false =>
          have g4 := Lib.hid (show ¬ b = h by simpa using h4)
          go_enter Try.func25, Try.ntmps25
          go_wp2_with fail
          refine (HA.out _).mono ?_
          rintro e w1 ⟨rfl, rfl⟩
          go_wp2_with fail
          refine (HB.out _).mono ?_
          rintro e w1 ⟨rfl, rfl⟩
          go_wp2_with fail
          go_ret
          exact ⟨ret_bool (by rw [HF.out]; simp [g4.out]), rfl⟩
        | true =>
          have g4 := Lib.hid (show b = h by simpa using h4)
          go_enter Try.func25, Try.ntmps25
          go_wp2_with fail
          refine (HA.out _).mono ?_
          rintro e w1 ⟨rfl, rfl⟩
          go_wp2_with fail
          refine (HB.out _).mono ?_
          rintro e w1 ⟨rfl, rfl⟩
          go_wp2_with fail
          go_ret
          exact ⟨ret_bool (by rw [HF.out]; simp [g2.out, g4.out]; have := g2.out; have := g4.out; omega), rfl⟩
      · skip
        go_enter Try.func25, Try.ntmps25
        go_wp2_with fail
        refine (HA.out _).mono ?_
        rintro e w1 ⟨rfl, rfl⟩
        go_wp2_with fail
        refine (HB.out _).mono ?_
        rintro e w1 ⟨rfl, rfl⟩
        go_wp2_with fail
        go_ret
        exact ⟨ret_bool (by rw [HF.out]; simp <;> omega), rfl⟩
  · skip
    go_enter Try.func25, Try.ntmps25
    go_wp2_with fail
    refine (HA.out _).mono ?_
    rintro e w1 ⟨rfl, rfl⟩
    go_wp2_with fail
    refine (HB.out _).mono ?_
    rintro e w1 ⟨rfl, rfl⟩
    go_wp2_with fail
    go_ret
    exact ⟨ret_bool (by rw [HF.out]; simp <;> omega), rfl⟩
def cntI (d : Int) : Int := if 0 ≤ d ∧ d ≤ 6 then 3 * d + 1 else 0
set_option maxRecDepth 100000 in
set_option maxHeartbeats 3200000 in
theorem bcount_c (d : Int) (w : World) : Calls Try.prog 15 #[.int .i64 d] w fun e w' => e = .returned (.int .i64 (cntI d)) ∧ w = w' := by
  have HC := Lib.hid (show (0 ≤ d ∧ d ≤ 6 → cntI d = 3 * d + 1) ∧ (¬ (0 ≤ d ∧ d ≤ 6) → cntI d = 0) from ⟨fun h => if_pos h, fun h => if_neg h⟩)
  by_cases h1 : 0 ≤ d
  all_goals by_cases h2 : d ≤ 6
  all_goals
    go_enter Try.func15, Try.ntmps15
    go_wp2_with fail
    go_ret
    exact ⟨by first | (rw [HC.out.1 (by omega)]; rfl) | (rw [HC.out.2 (by omega)]; rfl), rfl⟩
def parI (i : Int) : Int := if i < 4 ∨ 19 ≤ i then -1 else i - 3
set_option maxRecDepth 100000 in
set_option maxHeartbeats 3200000 in
theorem bparent_c (i : Int) (w : World) : Calls Try.prog 13 #[.int .i64 i] w fun e w' => e = .returned (.int .i64 (parI i)) ∧ w = w' := by
  by_cases h1 : i < 4
  · have HP := Lib.hid (show parI i = -1 by unfold parI; rw [if_pos (by omega)])
    go_enter Try.func13, Try.ntmps13
    go_wp2_with fail
    go_ret
    exact ⟨by rw [HP.out]; rfl, rfl⟩
  · by_cases h2 : 19 ≤ i
    · have HP := Lib.hid (show parI i = -1 by unfold parI; rw [if_pos (by omega)])
      go_enter Try.func13, Try.ntmps13
      go_wp2_with fail
      refine (bcount_c 6 _).mono ?_
      rintro e w1 ⟨rfl, rfl⟩
      rw [show cntI 6 = 19 from rfl]
      go_wp2_with fail
      go_ret
      exact ⟨by rw [HP.out]; rfl, rfl⟩
    · have HP := Lib.hid (show parI i = i - 3 by unfold parI; rw [if_neg (by omega)])
      go_enter Try.func13, Try.ntmps13
      go_wp2_with fail
      refine (bcount_c 6 _).mono ?_
      rintro e w1 ⟨rfl, rfl⟩
      rw [show cntI 6 = 19 from rfl]
      go_wp2_with fail
      go_ret
      exact ⟨by rw [HP.out]; rfl, rfl⟩
theorem two_pow_in {i : Nat} (h : i ≤ 6) : (1 : Int) ≤ 2 ^ i ∧ (2 : Int) ^ i ≤ 64 := by
  have hh : i = 0 ∨ i = 1 ∨ i = 2 ∨ i = 3 ∨ i = 4 ∨ i = 5 ∨ i = 6 := by omega
  rcases hh with rfl | rfl | rfl | rfl | rfl | rfl | rfl <;> decide
set_option maxRecDepth 100000 in
set_option maxHeartbeats 3200000 in
theorem r9pow_c (d : Int) (w : World) (h0 : 0 ≤ d) (h1 : d ≤ 6) : Calls Try.prog 35 #[.int .i64 d] w fun e w' => e = .returned (.int .i64 (p2 d)) ∧ w = w' := by
  go_enter Try.func35, Try.ntmps35
  go_wp2_with fail
  go_loop [3, 4] (fun u3 u4 => ∃ i : Nat, (i : Int) ≤ d ∧ u3 = .int .i64 (2 ^ i) ∧ u4 = .int .i64 i) (fun u3 u4 => (d - intOf u4).toNat)
  case atStart => exact ⟨0, by omega, rfl, rfl⟩
  case round =>
    obtain ⟨i, hi, rfl, rfl⟩ := hrel
    have hp := two_pow_in (i := i) (by omega)
    have HE := Lib.hid (show (2 : Int) ^ (i + 1) = 2 ^ i * 2 from Int.pow_succ 2 i)
    have HZ := Lib.hid (show (i : Int) = d → p2 d = 2 ^ i from fun e => by unfold p2; rw [← e]; rfl)
    generalize (2 : Int) ^ i = p at *
    by_cases hlt : (i : Int) < d
    · go_wp2_with fail
      go_round
      case rel => exact ⟨i + 1, by omega, by rw [HE.out], by go_num⟩
      case measure => simp [intOf]; omega
    · go_wp2_with fail
      go_ret
      exact ⟨by rw [HZ.out (by omega)]; rfl, rfl⟩
set_option maxRecDepth 100000 in
set_option maxHeartbeats 3200000 in
theorem r9padded_c (n d : Int) (w : World) : Calls Try.prog 23 #[.int .i64 n, .int .i64 d] w fun e w' => e = .returned (.int .i64 (padI n d)) ∧ w = w' := by
  by_cases h1 : 1 ≤ n
  · by_cases h2 : n ≤ 1024
    · by_cases h3 : 0 ≤ d
      · by_cases h4 : d ≤ 6
        · have hp := padI_pos h1 h2 h3 h4
          have hq := p2_in h3 h4
          have hm : padI n d % p2 d = 0 := by unfold padI; rw [if_pos ⟨h1, h2, h3, h4⟩]; exact Int.mul_emod_left _ _
          have HL := Lib.hid (show ∀ v : Int, n ≤ v → v ≤ padI n d → (v % p2 d = 0 ↔ v = padI n d) from fun v hv1 hv2 => by
            have hp0 : padI n d = (n + (p2 d - 1)) / p2 d * p2 d := by unfold padI; rw [if_pos ⟨h1, h2, h3, h4⟩]
            rw [hp0] at hv2 ⊢
            rcases hq with ⟨e, _⟩ | ⟨e, _⟩ | ⟨e, _⟩ | ⟨e, _⟩ | ⟨e, _⟩ | ⟨e, _⟩ | ⟨e, _⟩ <;> rw [e] at hv2 ⊢ <;> omega)
          have HP := Lib.hid (fun W => r9pow_c d W h3 h4)
          have hp3 : 1 ≤ p2 d := by omega
          have hn : n ≤ padI n d := by
            unfold padI
            rw [if_pos ⟨h1, h2, h3, h4⟩]
            rcases hq with ⟨e, _⟩ | ⟨e, _⟩ | ⟨e, _⟩ | ⟨e, _⟩ | ⟨e, _⟩ | ⟨e, _⟩ | ⟨e, _⟩ <;> rw [e] <;> omega
          have hp2 := hp.2.1
          clear hm hq hp
          generalize padI n d = a at *
          generalize p2 d = p at *
          go_enter Try.func23, Try.ntmps23
          go_wp2_with fail
          go_loop [0] (fun u0 => ∃ v : Int, n ≤ v ∧ v ≤ a ∧ u0 = .int .i64 v) (fun u0 => (a - intOf u0).toNat)
          case atStart => exact ⟨n, by omega, by omega, rfl⟩
          case round =>
            obtain ⟨v, hv1, hv2, rfl⟩ := hrel
            have hl := HL.out v hv1 hv2
            have E0 : ¬ p = 0 := by omega
            obtain ⟨r, hr⟩ : ∃ r, v.tmod p = r := ⟨_, rfl⟩
            have hr2 : r = v % p := by rw [← hr, Int.tmod_eq_emod_of_nonneg (by omega)]
            rw [← hr2] at hl
            clear hr2
            by_cases he : r = 0
            · have HA := Lib.hid (hl.1 he)
              subst he
              clear hl
              go_wp2_with fail
              refine (HP.out _).mono ?_
              rintro e w1 ⟨rfl, rfl⟩
              go_wp2_with fail
              go_ret
              exact ⟨by rw [HA.out]; rfl, rfl⟩
            · have hva : v < a := by
                have : ¬ v = a := fun e => he (hl.2 e)
                omega
              have HE := (show (r != 0) = true by simp [he])
              clear hl
              go_wp2_with fail
              refine (HP.out _).mono ?_
              rintro e w1 ⟨rfl, rfl⟩
              go_wp2_with fail
              go_round
              case rel => exact ⟨v + 1, by omega, by omega, by go_num⟩
              case measure => simp [intOf]; omega
        · have HP := Lib.hid (padI_out (n := n) (d := d) (by omega))
          go_enter Try.func23, Try.ntmps23
          go_wp2_with fail
          go_ret
          exact ⟨by rw [HP.out]; rfl, rfl⟩
      · have HP := Lib.hid (padI_out (n := n) (d := d) (by omega))
        go_enter Try.func23, Try.ntmps23
        go_wp2_with fail
        go_ret
        exact ⟨by rw [HP.out]; rfl, rfl⟩
    · have HP := Lib.hid (padI_out (n := n) (d := d) (by omega))
      go_enter Try.func23, Try.ntmps23
      go_wp2_with fail
      go_ret
      exact ⟨by rw [HP.out]; rfl, rfl⟩
  · have HP := Lib.hid (padI_out (n := n) (d := d) (by omega))
    go_enter Try.func23, Try.ntmps23
    go_wp2_with fail
    go_ret
    exact ⟨by rw [HP.out]; rfl, rfl⟩

end Go.Proofs.Ytjlajggilcihoaa
