/- The walk of the law WindowWeighs: it answers true at every input. -/
import Derived.Test.YtdfmpcbpciepoaaWinF
import Derived.Deep.RegionHeld3
import Derived.Test.YtdfmpcbpciepoaaOpen
namespace Go.Proofs.Ytdfmpcbpciepoaa
open Go.RowKit
set_option linter.unusedVariables false
set_option linter.unusedSimpArgs false

theorem lineF_len {l s : Int} {f la : Bool} : (wayB l s = true → ((lineF l s f la).length : Int) = l) ∧ (wayB l s = false → (lineF l s f la).length = 0) := by
  constructor
  · intro h
    have := wayB_t h
    simp [lineF, h]
    omega
  · intro h
    simp [lineF, h]
theorem lineF_at (l s : Int) (f la : Bool) (j : Nat) (h : j < (lineF l s f la).length) : (lineF l s f la).getD j 0 = wtF l s j f la := by
  unfold lineF at *
  split at h
  · rename_i hw
    rw [if_pos hw]
    simp at h
    simp [List.getD_eq_getElem?_getD, h]
  · simp at h

set_option maxHeartbeats 3200000 in
theorem weighs_c (l s a0 a1 : Int) (w : World) (hl : l ≤ 9223372036854775807) :
    Calls Try.prog 3 #[.int .i64 l, .int .i64 s, .agg #[.int .i64 a0, .int .i64 a1]] w fun e w' => e = .returned (.bool true) ∧ Below w.heap.size w w' := by
  go_enter Try.func3, Try.ntmps3
  go_wp2_with fail
  refine (first_c _).mono ?_
  rintro e w1 ⟨rfl, hb1⟩
  have h0 : w1.cell? ⟨w.heap.size, 0, none⟩ = some (.int .i64 a0) := (hb1.cell (p := ⟨w.heap.size, 0, none⟩) (by simp)).trans (by simp)
  have h1 : w1.cell? ⟨w.heap.size, 1, none⟩ = some (.int .i64 a1) := (hb1.cell (p := ⟨w.heap.size, 1, none⟩) (by simp)).trans (by simp)
  have hz : w.heap.size < w1.heap.size := by have := hb1.size; simp at this; omega
  have hb : Below w.heap.size w w1 := ((Below.refl _ _).alloc (Nat.le_refl _) _).trans (hb1.mono (by simp))
  clear hb1
  go_wp2_with fail
  go_loopw [15] (fun v wr => ∃ k : Nat, k ≤ 4 ∧ v = .int .i64 k ∧ wr.cell? ⟨w.heap.size, 0, none⟩ = some (.int .i64 a0) ∧ wr.cell? ⟨w.heap.size, 1, none⟩ = some (.int .i64 a1) ∧ w.heap.size < wr.heap.size ∧ Below w.heap.size w wr) (fun v _ => 4 - (intOf v).toNat)
  case atStart => exact ⟨0, by omega, rfl, h0, h1, hz, hb⟩
  case round =>
    clear h0 h1 hz hb
    obtain ⟨k, hk, rfl, h0, h1, hz, hb⟩ := hrel
    by_cases hlt : k < 4
    · go_wp2_with fail
      refine (line_c _ _ _ _ _).mono ?_
      rintro e w2 ⟨v, rfl, hown, hb2⟩
      have ⟨hL1, hL2⟩ := lineF_len (l := l) (s := s) (f := (k : Int) % 2 == 1) (la := (k : Int) / 2 == 1)
      have hAt := lineF_at l s ((k : Int) % 2 == 1) ((k : Int) / 2 == 1)
      have hmax := hown.max
      obtain ⟨A, c, rfl, hR⟩ := hown.slice
      clear hown
      generalize hxs : lineF l s ((k : Int) % 2 == 1) ((k : Int) / 2 == 1) = xs at *
      have Hxs := Lib.hid hxs
      have HAt := Lib.hid hAt
      have Hb := Lib.hid hb
      have g0 : w2.cell? ⟨w.heap.size, 0, none⟩ = some (.int .i64 a0) := (hb2.cell (p := ⟨w.heap.size, 0, none⟩) hz).trans h0
      have g1 : w2.cell? ⟨w.heap.size, 1, none⟩ = some (.int .i64 a1) := (hb2.cell (p := ⟨w.heap.size, 1, none⟩) hz).trans h1
      have hz2 : w.heap.size < w2.heap.size := Nat.lt_of_lt_of_le hz hb2.size
      have hw2 : Below w.heap.size w w2 := hb.trans (hb2.mono (by omega))
      clear hxs hAt hb2 h0 h1 hz hb
      cases hw : wayB l s with
      | true =>
        have hLl := hL1 hw
        have Hw := Lib.hid hw
        have hne : ((xs.length : Int) != l) = false := by rw [hLl]; simp
        clear hL1 hL2 hw hLl
        go_wp2_with fail
        refine (rway_c _ _ _ hl).mono ?_
        rintro e w3 ⟨rfl, rfl⟩
        rw [Hw.out]
        go_wp2_with fail
        go_loopw [42] (fun v wr => ∃ j : Nat, j ≤ xs.length ∧ v = .int .i64 j ∧ ReadsI wr A xs ∧ wr.cell? ⟨w.heap.size, 0, none⟩ = some (.int .i64 a0) ∧ wr.cell? ⟨w.heap.size, 1, none⟩ = some (.int .i64 a1) ∧ w.heap.size < wr.heap.size ∧ Below w.heap.size w wr) (fun v _ => xs.length - (intOf v).toNat)
        case atStart => exact ⟨0, by omega, rfl, hR, g0, g1, hz2, hw2⟩
        case round =>
          clear hR g0 g1 hz2 hw2
          obtain ⟨j, hj, rfl, hR, h0, h1, hz, hb⟩ := hrel
          by_cases hlt2 : j < xs.length
          · obtain ⟨ad, rfl, hab, hcell⟩ := hR.at_ hlt2
            rw [HAt.out j hlt2] at hcell
            have Hb := Lib.hid hb
            clear hb
            go_wp2_with fail
            refine (rweight_c _ _ _ _ _ _ hl).mono ?_
            rintro e w3 ⟨rfl, hb3⟩
            have g0 : w3.cell? ⟨w.heap.size, 0, none⟩ = some (.int .i64 a0) := (hb3.cell (p := ⟨w.heap.size, 0, none⟩) hz).trans h0
            have g1 : w3.cell? ⟨w.heap.size, 1, none⟩ = some (.int .i64 a1) := (hb3.cell (p := ⟨w.heap.size, 1, none⟩) hz).trans h1
            have hz3 : w.heap.size < w3.heap.size := Nat.lt_of_lt_of_le hz hb3.size
            have hw3 : Below w.heap.size w w3 := Hb.out.trans (hb3.mono (by omega))
            have hR3 := hR.kept hb3
            clear h0 h1 hb3 hz hR hcell
            go_wp2_with fail
            go_roundw
            case rel => exact ⟨j + 1, by omega, by go_num, hR3, g0, g1, hz3, hw3⟩
            case measure => simp [intOf]; omega
          · obtain rfl : j = xs.length := by omega
            have Hb := Lib.hid hb
            clear hb
            go_wp2_with fail
            go_region_held3 (fun w' => w'.cell? ⟨w.heap.size, 0, none⟩ = some (.int .i64 a0))
              (first | go_keep | (exact (hb3.cell (p := ⟨w.heap.size, 0, none⟩) (by simpa using hz)).trans (by assumption)))
              (first
                | (go_at_call 11; refine (weight_c _ _ _ _ _ _).mono ?_; rintro e w3 ⟨rfl, rfl⟩)
                | (go_at_call 10; refine (rweight_c _ _ _ _ _ _ hl).mono ?_; rintro e w3 ⟨rfl, hb3⟩))
            all_goals
              go_wp2_with fail
              go_roundw
              case rel =>
                have hb4 : Below wr.heap.size wr w3 := (Below.refl _ _).drew.trans hb3
                exact ⟨k + 1, by omega, by go_num, (hb4.cell (p := ⟨w.heap.size, 0, none⟩) hz).trans h0, (hb4.cell (p := ⟨w.heap.size, 1, none⟩) hz).trans h1, Nat.lt_of_lt_of_le hz hb4.size, Hb.out.trans (hb4.mono (by omega))⟩
              case measure => simp [intOf]; omega
      | false =>
        have hL0 := hL2 hw
        have Hw := Lib.hid hw
        clear hL1 hL2 hw
        have hne : ((xs.length : Int) != 0) = false := by rw [hL0]; simp
        clear hL0
        go_wp2_with fail
        refine (rway_c _ _ _ hl).mono ?_
        rintro e w3 ⟨rfl, rfl⟩
        rw [Hw.out]
        go_wp2_with fail
        go_loopw [42] (fun v wr => ∃ j : Nat, j ≤ xs.length ∧ v = .int .i64 j ∧ ReadsI wr A xs ∧ wr.cell? ⟨w.heap.size, 0, none⟩ = some (.int .i64 a0) ∧ wr.cell? ⟨w.heap.size, 1, none⟩ = some (.int .i64 a1) ∧ w.heap.size < wr.heap.size ∧ Below w.heap.size w wr) (fun v _ => xs.length - (intOf v).toNat)
        case atStart => exact ⟨0, by omega, rfl, hR, g0, g1, hz2, hw2⟩
        case round =>
          clear hR g0 g1 hz2 hw2
          obtain ⟨j, hj, rfl, hR, h0, h1, hz, hb⟩ := hrel
          by_cases hlt2 : j < xs.length
          · obtain ⟨ad, rfl, hab, hcell⟩ := hR.at_ hlt2
            rw [HAt.out j hlt2] at hcell
            have Hb := Lib.hid hb
            clear hb
            go_wp2_with fail
            refine (rweight_c _ _ _ _ _ _ hl).mono ?_
            rintro e w3 ⟨rfl, hb3⟩
            have g0 : w3.cell? ⟨w.heap.size, 0, none⟩ = some (.int .i64 a0) := (hb3.cell (p := ⟨w.heap.size, 0, none⟩) hz).trans h0
            have g1 : w3.cell? ⟨w.heap.size, 1, none⟩ = some (.int .i64 a1) := (hb3.cell (p := ⟨w.heap.size, 1, none⟩) hz).trans h1
            have hz3 : w.heap.size < w3.heap.size := Nat.lt_of_lt_of_le hz hb3.size
            have hw3 : Below w.heap.size w w3 := Hb.out.trans (hb3.mono (by omega))
            have hR3 := hR.kept hb3
            clear h0 h1 hb3 hz hR hcell
            go_wp2_with fail
            go_roundw
            case rel => exact ⟨j + 1, by omega, by go_num, hR3, g0, g1, hz3, hw3⟩
            case measure => simp [intOf]; omega
          · obtain rfl : j = xs.length := by omega
            have Hb := Lib.hid hb
            clear hb
            go_wp2_with fail
            go_region_held3 (fun w' => w'.cell? ⟨w.heap.size, 0, none⟩ = some (.int .i64 a0))
              (first | go_keep | (exact (hb3.cell (p := ⟨w.heap.size, 0, none⟩) (by simpa using hz)).trans (by assumption)))
              (first
                | (go_at_call 11; refine (weight_c _ _ _ _ _ _).mono ?_; rintro e w3 ⟨rfl, rfl⟩)
                | (go_at_call 10; refine (rweight_c _ _ _ _ _ _ hl).mono ?_; rintro e w3 ⟨rfl, hb3⟩))
            all_goals
              go_wp2_with fail
              go_roundw
              case rel =>
                have hb4 : Below wr.heap.size wr w3 := (Below.refl _ _).drew.trans hb3
                exact ⟨k + 1, by omega, by go_num, (hb4.cell (p := ⟨w.heap.size, 0, none⟩) hz).trans h0, (hb4.cell (p := ⟨w.heap.size, 1, none⟩) hz).trans h1, Nat.lt_of_lt_of_le hz hb4.size, Hb.out.trans (hb4.mono (by omega))⟩
              case measure => simp [intOf]; omega
    · obtain rfl : k = 4 := by omega
      have Hb := Lib.hid hb
      clear hb
      go_wp2_with fail
      go_region_held3 (fun w' => w'.cell? ⟨w.heap.size, 0, none⟩ = some (.int .i64 a0) ∧ w'.cell? ⟨w.heap.size, 1, none⟩ = some (.int .i64 a1))
        (first | go_keep | (refine ⟨(hb3.cell (p := ⟨w.heap.size, 0, none⟩) (by simpa using hz)).trans ?_, (hb3.cell (p := ⟨w.heap.size, 1, none⟩) (by simpa using hz)).trans ?_⟩ <;> assumption))
        (first
          | (go_at_call 12; refine (ramp_c _ _ _).mono ?_; rintro e w3 ⟨rfl, rfl⟩)
          | (go_at_call 13; refine (rramp_c _ _ _).mono ?_; rintro e w3 ⟨rfl, hb3⟩))
      all_goals
        go_wp2_with fail
        go_ret
        have hb4 : Below wr.heap.size wr w3 := (Below.refl _ _).drew.trans hb3
        exact ⟨ret_bool (by simp), Hb.out.trans (hb4.mono (by omega))⟩

theorem windowWeighs.windowWeighs_walk (l s : Int) (x : Int × Int) (v0 v1 v2 : Value) (W : World) (h0 : IsInt .i64 v0 l) (h1 : IsInt .i64 v1 s) (h2 : IsArr2 .i64 v2 x) :
    Calls Try.prog 3 #[v0, v1, v2] W fun e W' => e = .returned (.bool true) ∧ Below W.heap.size W W' := by
  obtain ⟨u0, u1, rfl, ⟨rfl, _⟩, ⟨rfl, _⟩⟩ := h2
  have hl := h0.bd.2
  obtain ⟨rfl, _⟩ := h0
  obtain ⟨rfl, _⟩ := h1
  exact weighs_c _ _ _ _ _ hl

end Go.Proofs.Ytdfmpcbpciepoaa
