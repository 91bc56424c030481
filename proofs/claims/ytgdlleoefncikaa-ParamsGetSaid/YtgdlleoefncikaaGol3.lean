/- What Len64 answers for numbers of 32 bits. -/
import Derived.Test.YtgdlleoefncikaaGol2
namespace Go.Proofs.Ytgdlleoefncikaa
open Go.RowKit
set_option linter.unusedVariables false
set_option linter.unusedSimpArgs false

/-- How many bits a number has. -/
def lenI (x : Int) : Nat := if x < 1 then 0 else Nat.log2 x.toNat + 1
theorem lenI_is {x : Int} {l : Nat} (h1 : (2 : Int) ^ l ≤ x) (h2 : x < 2 ^ (l + 1)) : lenI x = l + 1 := by
  have hp : (1 : Int) ≤ 2 ^ l := Int.pow_pos (by decide)
  unfold lenI
  rw [if_neg (by omega)]
  congr 1
  obtain ⟨n, rfl⟩ := Int.eq_ofNat_of_zero_le (a := x) (by omega)
  have e1 : ((2 : Int) ^ l) = ((2 ^ l : Nat) : Int) := by simp
  have e2 : ((2 : Int) ^ (l + 1)) = ((2 ^ (l + 1) : Nat) : Int) := by simp
  rw [e1] at h1
  rw [e2] at h2
  rw [Int.toNat_natCast]
  exact (Nat.log2_eq_iff (by omega)).2 ⟨by omega, by omega⟩
theorem lenI_spec {x : Int} (h : 1 ≤ x) : ∃ l, lenI x = l + 1 ∧ (2 : Int) ^ l ≤ x ∧ x < 2 ^ (l + 1) := by
  obtain ⟨n, rfl⟩ := Int.eq_ofNat_of_zero_le (a := x) (by omega)
  refine ⟨Nat.log2 n, ?_, ?_, ?_⟩
  · unfold lenI; rw [if_neg (by omega), Int.toNat_natCast]
  · have e1 : ((2 : Int) ^ Nat.log2 n) = ((2 ^ Nat.log2 n : Nat) : Int) := by simp
    have := Nat.log2_self_le (n := n) (by omega)
    omega
  · have e1 : ((2 : Int) ^ (Nat.log2 n + 1)) = ((2 ^ (Nat.log2 n + 1) : Nat) : Int) := by simp
    have := Nat.lt_log2_self (n := n)
    omega
theorem lenI_shift {x : Int} (s : Nat) (h : (2 : Int) ^ s ≤ x) : lenI x = lenI (x / 2 ^ s) + s := by
  have hp : (0 : Int) < 2 ^ s := Int.pow_pos (by decide)
  have h1 : 1 ≤ x / 2 ^ s := by
    have := Int.ediv_le_ediv hp h
    rwa [Int.ediv_self (by omega)] at this
  obtain ⟨l, e, h2, h3⟩ := lenI_spec h1
  rw [e, show l + 1 + s = (l + s) + 1 by omega]
  apply lenI_is
  · rw [Int.pow_add]
    have := (Int.le_ediv_iff_mul_le hp).1 h2
    exact this
  · rw [show l + s + 1 = (l + 1) + s by omega, Int.pow_add]
    exact (Int.ediv_lt_iff_lt_mul hp).1 h3

def tab8 : ByteArray := ⟨#[0,1,2,2,3,3,3,3,4,4,4,4,4,4,4,4,5,5,5,5,5,5,5,5,5,5,5,5,5,5,5,5,6,6,6,6,6,6,6,6,6,6,6,6,6,6,6,6,6,6,6,6,6,6,6,6,6,6,6,6,6,6,6,6,7,7,7,7,7,7,7,7,7,7,7,7,7,7,7,7,7,7,7,7,7,7,7,7,7,7,7,7,7,7,7,7,7,7,7,7,7,7,7,7,7,7,7,7,7,7,7,7,7,7,7,7,7,7,7,7,7,7,7,7,7,7,7,7,8,8,8,8,8,8,8,8,8,8,8,8,8,8,8,8,8,8,8,8,8,8,8,8,8,8,8,8,8,8,8,8,8,8,8,8,8,8,8,8,8,8,8,8,8,8,8,8,8,8,8,8,8,8,8,8,8,8,8,8,8,8,8,8,8,8,8,8,8,8,8,8,8,8,8,8,8,8,8,8,8,8,8,8,8,8,8,8,8,8,8,8,8,8,8,8,8,8,8,8,8,8,8,8,8,8,8,8,8,8,8,8,8,8,8,8,8,8,8,8,8,8,8,8,8,8,8,8]⟩
theorem tab8_nat : ∀ n : Fin 256, (tab8[n.val]'(Nat.lt_of_lt_of_eq n.isLt (by decide +kernel))).toNat = if n.val = 0 then 0 else Nat.log2 n.val + 1 := by decide +kernel
theorem tab8_is {x : Int} (h0 : 0 ≤ x) (h1 : x < 256) (hs : x.toNat < tab8.size) : (((tab8[x.toNat]'hs).toNat : Nat) : Int) = (lenI x : Int) := by
  obtain ⟨n, rfl⟩ := Int.eq_ofNat_of_zero_le h0
  have := tab8_nat ⟨n, by omega⟩
  by_cases hn : n = 0
  · subst hn; rfl
  · have e : lenI (n : Int) = Nat.log2 n + 1 := by unfold lenI; rw [if_neg (by omega), Int.toNat_natCast]
    rw [e]
    rw [if_neg (by simpa using hn)] at this
    exact congrArg Int.ofNat this
theorem lenI_8 {x : Int} (h0 : 0 ≤ x) (h1 : x < 256) : lenI x ≤ 8 := by
  by_cases h : x < 1
  · unfold lenI; rw [if_pos h]; omega
  · obtain ⟨l, e, h2, h3⟩ := lenI_spec (x := x) (by omega)
    rw [e]
    rcases Nat.lt_or_ge l 8 with h4 | h4
    · omega
    · have : (2 : Nat) ^ 8 ≤ 2 ^ l := Nat.pow_le_pow_right (by decide) h4
      have e1 : ((2 : Int) ^ l) = ((2 ^ l : Nat) : Int) := by simp
      have e2 : (2 : Nat) ^ 8 = 256 := by decide
      omega
theorem tab8_size : tab8.size = 256 := by decide +kernel
theorem wrap_tab {x : Int} (h0 : 0 ≤ x) (h1 : x < 256) (hs : x.toNat < tab8.size) : wrap64 (wrap64 ((tab8[x.toNat]'hs).toNat : Int)) = (lenI x : Int) := by
  have := lenI_8 h0 h1
  rw [tab8_is h0 h1 hs, wrap64_wrap, wrap64_id (by omega) (by omega)]
theorem wrap_tabk {x y : Int} (k : Nat) (h0 : 0 ≤ y) (h1 : y < 256) (hs : y.toNat < tab8.size) (hk : k ≤ 1000) (hx : lenI x = lenI y + k) : wrap64 ((k : Int) + wrap64 ((tab8[y.toNat]'hs).toNat : Int)) = (lenI x : Int) := by
  have := lenI_8 h0 h1
  rw [tab8_is h0 h1 hs, hx, wrap64_id (n := (lenI y : Int)) (by omega) (by omega), wrap64_id (by omega) (by omega)]
  omega

set_option maxRecDepth 100000 in
set_option maxHeartbeats 6400000 in
theorem len64_a (x : Int) (w : World) (h0 : 0 ≤ x) (h1 : x < 256) :
    Calls Try.prog 38 #[.int .u64 x] w fun e w' => e = .returned (.int .i64 (lenI x)) ∧ w = w' := by
  have hs : x.toNat < tab8.size := by rw [tab8_size]; omega
  go_enter Try.func38, Try.ntmps38
  go_wp2_with fail
  go_ret
  exact ⟨congrArg (fun z => Ending.returned (Value.int .i64 z)) (wrap_tab h0 h1 hs), rfl⟩
set_option maxRecDepth 100000 in
set_option maxHeartbeats 6400000 in
theorem len64_b (x : Int) (w : World) (h0 : 256 ≤ x) (h1 : x < 65536) :
    Calls Try.prog 38 #[.int .u64 x] w fun e w' => e = .returned (.int .i64 (lenI x)) ∧ w = w' := by
  go_enter Try.func38, Try.ntmps38
  go_wp2_with fail
  have hs : (x / 256).toNat < tab8.size := by rw [tab8_size]; omega
  go_ret
  exact ⟨congrArg (fun z => Ending.returned (Value.int .i64 z)) (wrap_tabk (y := x / 256) 8 (by omega) (by omega) hs (by omega) (lenI_shift (x := x) 8 (by show (256 : Int) ≤ x; omega))), rfl⟩
set_option maxRecDepth 100000 in
set_option maxHeartbeats 6400000 in
theorem len64_c (x : Int) (w : World) (h0 : 65536 ≤ x) (h1 : x < 16777216) :
    Calls Try.prog 38 #[.int .u64 x] w fun e w' => e = .returned (.int .i64 (lenI x)) ∧ w = w' := by
  go_enter Try.func38, Try.ntmps38
  go_wp2_with fail
  have hs : (x / 65536).toNat < tab8.size := by rw [tab8_size]; omega
  go_ret
  exact ⟨congrArg (fun z => Ending.returned (Value.int .i64 z)) (wrap_tabk (y := x / 65536) 16 (by omega) (by omega) hs (by omega) (lenI_shift (x := x) 16 (by show (65536 : Int) ≤ x; omega))), rfl⟩
set_option maxRecDepth 100000 in
set_option maxHeartbeats 6400000 in
theorem len64_d (x : Int) (w : World) (h0 : 16777216 ≤ x) (h1 : x < 4294967296) :
    Calls Try.prog 38 #[.int .u64 x] w fun e w' => e = .returned (.int .i64 (lenI x)) ∧ w = w' := by
  go_enter Try.func38, Try.ntmps38
  go_wp2_with fail
  have hs : (x / 65536 / 256).toNat < tab8.size := by rw [tab8_size]; omega
  go_ret
  exact ⟨congrArg (fun z => Ending.returned (Value.int .i64 z)) (wrap_tabk (y := x / 65536 / 256) 24 (by omega) (by omega) hs (by omega) (by rw [lenI_shift (x := x) 16 (by show (65536 : Int) ≤ x; omega)]; show lenI (x / 65536) + 16 = _; rw [lenI_shift (x := x / 65536) 8 (by show (256 : Int) ≤ x / 65536; omega)]; rfl)), rfl⟩

theorem len64_c32 (x : Int) (w : World) (h0 : 0 ≤ x) (h1 : x < 4294967296) :
    Calls Try.prog 38 #[.int .u64 x] w fun e w' => e = .returned (.int .i64 (lenI x)) ∧ w = w' := by
  by_cases a : x < 256
  · exact len64_a x w h0 a
  · by_cases b : x < 65536
    · exact len64_b x w (by omega) b
    · by_cases c : x < 16777216
      · exact len64_c x w (by omega) c
      · exact len64_d x w (by omega) h1
theorem lenI_32 {x : Int} (h1 : x < 4294967296) : lenI x ≤ 32 := by
  by_cases h : x < 1
  · unfold lenI; rw [if_pos h]; omega
  · obtain ⟨l, e, h2, h3⟩ := lenI_spec (x := x) (by omega)
    rw [e]
    rcases Nat.lt_or_ge l 32 with h4 | h4
    · omega
    · have : (2 : Nat) ^ 32 ≤ 2 ^ l := Nat.pow_le_pow_right (by decide) h4
      have e1 : ((2 : Int) ^ l) = ((2 ^ l : Nat) : Int) := by simp
      have e2 : (2 : Nat) ^ 32 = 4294967296 := by decide
      omega

/-- The code of x, of l bits: a nought and a bit for each bit but the first, and a one. -/
def ilv (x : Int) (l : Nat) : Nat → List Bool
  | 0 => []
  | k + 1 => ilv x l k ++ [false, x / 2 ^ (l - 2 - k) % 2 == 1]
def codeX (x : Int) (l : Nat) : List Bool := ilv x l (l - 1) ++ [true]
def rightV (v : Int) : Bool := decide (0 ≤ v ∧ v ≤ 4294967294)
def codeB (v : Int) : List Bool := if rightV v = true then codeX (v + 1) (lenI (v + 1)) else []
def magV (v : Int) : Int := if v < -4294967294 ∨ 4294967294 < v then -1 else if v < 0 then -v else v
def signB (v : Int) : List Bool := if rightV (magV v) = true then (if v = 0 then codeB (magV v) else codeB (magV v) ++ [decide (v < 0)]) else []
theorem ilv_length (x : Int) (l k : Nat) : (ilv x l k).length = 2 * k := by
  induction k with
  | zero => rfl
  | succ k ih => show (ilv x l k ++ _).length = _; rw [List.length_append, ih]; simp; omega
theorem codeX_length (x : Int) (l : Nat) (h : 1 ≤ l) : (codeX x l).length = 2 * l - 1 := by unfold codeX; rw [List.length_append, ilv_length]; simp; omega

set_option maxHeartbeats 1600000 in
theorem gright_c (v : Int) (w : World) : Calls Try.prog 37 #[.int .i64 v] w fun e w' => e = .returned (.bool (rightV v)) ∧ w = w' := by
  have hr : rightV v = decide (0 ≤ v ∧ v ≤ 4294967294) := rfl
  rcases (show v < 0 ∨ 4294967294 < v ∨ (0 ≤ v ∧ v ≤ 4294967294) by omega) with h | h | ⟨h, h2⟩
  · rw [hr, decide_eq_false (by omega)]
    clear hr
    go_enter Try.func37, Try.ntmps37
    go_wp2_with fail
    all_goals (go_ret; refine ⟨?_, rfl⟩; exact ret_bool (by simp; try omega))
  · rw [hr, decide_eq_false (by omega)]
    clear hr
    go_enter Try.func37, Try.ntmps37
    go_wp2_with fail
    all_goals (go_ret; refine ⟨?_, rfl⟩; exact ret_bool (by simp; try omega))
  · rw [hr, decide_eq_true (by omega)]
    clear hr
    go_enter Try.func37, Try.ntmps37
    go_wp2_with fail
    all_goals (go_ret; refine ⟨?_, rfl⟩; exact ret_bool (by simp; try omega))

end Go.Proofs.Ytgdlleoefncikaa
