/- What the inner functions of package lift answer: a line's places, what is beside a place, the steps' numbers. -/
import Derived.Test.YtceecaohfnamnaaWords
namespace Go.Proofs.Ytceecaohfnamnaa
open Go.RowKit
set_option linter.unusedVariables false
set_option linter.unusedSimpArgs false

/-- A line's number at a place, or at the nearest one of its kind. -/
def atZ (xs : List Int) (i : Int) : Int :=
  if i < 0 then rdn xs (i % 2).toNat else if (xs.length : Int) ≤ i then rdn xs (xs.length - 2 + (i % 2).toNat) else rdn xs i.toNat

set_option maxHeartbeats 800000 in
theorem lat_c (A : Option Addr) (c : Nat) (xs : List Int) (i : Int) (w : World) (hR : ReadsI w A xs) (h2 : 2 ≤ xs.length) (hm : xs.length ≤ 9223372036854775807) :
    Calls Try.prog 31 #[.slice A xs.length c, .int .i64 i] w fun e w' => e = .returned (.int .i64 (atZ xs i)) ∧ w = w' := by
  have hand := i64_and1 i
  by_cases h0 : i < 0
  · have e : atZ xs i = rdn xs (i % 2).toNat := if_pos h0
    rw [e]
    clear e
    obtain ⟨ad, rfl, hb, hc⟩ := hR.rd_ (i := (i % 2).toNat) (by omega)
    go_enter Try.func31, Try.ntmps31
    go_wp2
    go_ret
    exact ⟨rfl, rfl⟩
  · by_cases h1 : (xs.length : Int) ≤ i
    · have e : atZ xs i = rdn xs (xs.length - 2 + (i % 2).toNat) := by unfold atZ; rw [if_neg h0, if_pos h1]
      rw [e]
      clear e
      obtain ⟨ad, rfl, hb, hc⟩ := hR.rd_ (i := xs.length - 2 + (i % 2).toNat) (by omega)
      have et : ((xs.length : Int) - 2 + i % 2).toNat = xs.length - 2 + (i % 2).toNat := by omega
      rw [← et] at hc
      rw [← et]
      clear et
      go_enter Try.func31, Try.ntmps31
      go_wp2
      go_ret
      exact ⟨rfl, rfl⟩
    · have e : atZ xs i = rdn xs i.toNat := by unfold atZ; rw [if_neg h0, if_neg h1]
      rw [e]
      clear e
      obtain ⟨ad, rfl, hb, hc⟩ := hR.rd_ (i := i.toNat) (by omega)
      go_enter Try.func31, Try.ntmps31
      go_wp2
      go_ret
      exact ⟨rfl, rfl⟩

def twoZ (xs : List Int) (i : Int) : Int := atZ xs (i - 1) + atZ xs (i + 1)
def fourZ (xs : List Int) (i : Int) : Int := 9 * twoZ xs i - atZ xs (i - 3) - atZ xs (i + 3)
set_option maxHeartbeats 800000 in
theorem ltwo_c (A : Option Addr) (c : Nat) (xs : List Int) (i : Int) (w : World) (hR : ReadsI w A xs) (h2 : 2 ≤ xs.length) (hm : xs.length ≤ 9223372036854775807) (i0 : -10 ≤ i) (i1 : i ≤ 1000000) :
    Calls Try.prog 29 #[.slice A xs.length c, .int .i64 i] w fun e w' => e = .returned (.int .i64 (wrap64 (twoZ xs i))) ∧ w = w' := by
  go_enter Try.func29, Try.ntmps29
  go_wp2_with (go_at_call 31; refine (lat_c _ _ _ _ _ hR h2 hm).mono ?_; rintro e w' ⟨rfl, rfl⟩)
  go_ret
  exact ⟨rfl, rfl⟩
set_option maxHeartbeats 800000 in
theorem lfour_c (A : Option Addr) (c : Nat) (xs : List Int) (i : Int) (w : World) (hR : ReadsI w A xs) (h2 : 2 ≤ xs.length) (hm : xs.length ≤ 9223372036854775807) (i0 : -1 ≤ i) (i1 : i ≤ 100000) :
    Calls Try.prog 30 #[.slice A xs.length c, .int .i64 i] w fun e w' => e = .returned (.int .i64 (wrap64 (fourZ xs i))) ∧ w = w' := by
  go_enter Try.func30, Try.ntmps30
  go_wp2_with (first
    | (go_at_call 29; refine (ltwo_c _ _ _ _ _ hR h2 hm (by omega) (by omega)).mono ?_; rintro e w' ⟨rfl, rfl⟩)
    | (go_at_call 31; refine (lat_c _ _ _ _ _ hR h2 hm).mono ?_; rintro e w' ⟨rfl, rfl⟩))
  go_ret
  refine ⟨ret_int ?_, rfl⟩
  rw [wrap64_mul_r]
  unfold fourZ wrap64
  omega

/-- What a step at place i adds. odd: at odd places. -/
def stepZ (f : Int) (odd : Bool) (xs : List Int) (i : Int) : Int :=
  if odd then (if f = 1 then wrap64 (twoZ xs i + 1) / 2 else if f = 0 ∨ f = 2 then wrap64 (fourZ xs i + 8) / 16 else atZ xs (i - 1))
  else (if f = 0 ∨ f = 1 then wrap64 (twoZ xs i + 2) / 4 else if f = 2 then wrap64 (fourZ xs i + 16) / 32 else wrap64 (atZ xs (i + 1) + 1) / 2)
set_option maxHeartbeats 800000 in
theorem leven_c (A : Option Addr) (c : Nat) (xs : List Int) (f i : Int) (w : World) (hR : ReadsI w A xs) (h2 : 2 ≤ xs.length) (hm : xs.length ≤ 9223372036854775807) (i0 : -1 ≤ i) (i1 : i ≤ 100000) :
    Calls Try.prog 23 #[.slice A xs.length c, .int .i64 f, .int .i64 i] w fun e w' => e = .returned (.int .i64 (stepZ f false xs i)) ∧ w = w' := by
  go_enter Try.func23, Try.ntmps23
  go_wp2_with (first
    | (go_at_call 29; refine (ltwo_c _ _ _ _ _ hR h2 hm (by omega) (by omega)).mono ?_; rintro e w' ⟨rfl, rfl⟩)
    | (go_at_call 30; refine (lfour_c _ _ _ _ _ hR h2 hm (by omega) (by omega)).mono ?_; rintro e w' ⟨rfl, rfl⟩)
    | (go_at_call 31; refine (lat_c _ _ _ _ _ hR h2 hm).mono ?_; rintro e w' ⟨rfl, rfl⟩))
  all_goals
    go_ret
    refine ⟨ret_int ?_, rfl⟩
    simp only [beq_iff_eq, beq_eq_false_iff_ne, ne_eq] at *
    simp only [stepZ, wrap64_add_l, Bool.false_eq_true, if_false]
    repeat' split
    all_goals first | rfl | omega
set_option maxHeartbeats 800000 in
theorem lodd_c (A : Option Addr) (c : Nat) (xs : List Int) (f i : Int) (w : World) (hR : ReadsI w A xs) (h2 : 2 ≤ xs.length) (hm : xs.length ≤ 9223372036854775807) (i0 : -1 ≤ i) (i1 : i ≤ 100000) :
    Calls Try.prog 21 #[.slice A xs.length c, .int .i64 f, .int .i64 i] w fun e w' => e = .returned (.int .i64 (stepZ f true xs i)) ∧ w = w' := by
  go_enter Try.func21, Try.ntmps21
  go_wp2_with (first
    | (go_at_call 29; refine (ltwo_c _ _ _ _ _ hR h2 hm (by omega) (by omega)).mono ?_; rintro e w' ⟨rfl, rfl⟩)
    | (go_at_call 30; refine (lfour_c _ _ _ _ _ hR h2 hm (by omega) (by omega)).mono ?_; rintro e w' ⟨rfl, rfl⟩)
    | (go_at_call 31; refine (lat_c _ _ _ _ _ hR h2 hm).mono ?_; rintro e w' ⟨rfl, rfl⟩))
  all_goals
    go_ret
    refine ⟨ret_int ?_, rfl⟩
    simp only [beq_iff_eq, beq_eq_false_iff_ne, ne_eq] at *
    simp only [stepZ, wrap64_add_l, if_true]
    repeat' split
    all_goals first | rfl | omega

def rightF (f : Int) : Bool := decide (0 ≤ f ∧ f ≤ 4)
def shiftF (f : Int) : Int := if rightF f = true ∧ f ≠ 3 then 1 else 0
def rightL (n : Nat) : Bool := decide (2 ≤ n ∧ n % 2 = 0)
theorem lright_c (f : Int) (w : World) : Calls Try.prog 13 #[.int .i64 f] w fun e w' => e = .returned (.bool (rightF f)) ∧ w = w' := by
  go_enter Try.func13, Try.ntmps13
  go_wp2
  all_goals
    go_ret
    refine ⟨ret_bool ?_, rfl⟩
    rw [Bool.eq_iff_iff]
    simp [rightF]
    omega
theorem lshift_c (f : Int) (w : World) : Calls Try.prog 14 #[.int .i64 f] w fun e w' => e = .returned (.int .i64 (shiftF f)) ∧ w = w' := by
  go_enter Try.func14, Try.ntmps14
  go_wp2_with (go_at_call 13; refine (lright_c _ _).mono ?_; rintro e w' ⟨rfl, rfl⟩)
  all_goals
    go_ret
    refine ⟨ret_int ?_, rfl⟩
    simp_all [shiftF]
theorem lline_c (A : Option Addr) (n c : Nat) (w : World) (hm : n ≤ 9223372036854775807) : Calls Try.prog 28 #[.slice A n c] w fun e w' => e = .returned (.bool (rightL n)) ∧ w = w' := by
  go_enter Try.func28, Try.ntmps28
  go_wp2
  all_goals
    go_ret
    refine ⟨ret_bool ?_, rfl⟩
    rw [Bool.eq_iff_iff]
    simp [rightL]
    omega

end Go.Proofs.Ytceecaohfnamnaa
