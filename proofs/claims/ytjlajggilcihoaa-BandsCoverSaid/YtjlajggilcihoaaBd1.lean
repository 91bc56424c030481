/- Bands: where they lie, as numbers; the small functions of package bands and of the reference's layers 9 and 10. -/
import Derived.Test.YtjlajggilcihoaaQuiet
import Derived.Test.YtjlajggilcihoaaBits
import Derived.Test.YtjlajggilcihoaaRef7
namespace Go.Proofs.Ytjlajggilcihoaa
open Go.RowKit
set_option linter.unusedVariables false
set_option linter.unusedSimpArgs false

def p2 (d : Int) : Int := 2 ^ d.toNat
theorem p2_in {d : Int} (h0 : 0 ≤ d) (h1 : d ≤ 6) : p2 d = 1 ∧ d = 0 ∨ p2 d = 2 ∧ d = 1 ∨ p2 d = 4 ∧ d = 2 ∨ p2 d = 8 ∧ d = 3 ∨ p2 d = 16 ∧ d = 4 ∨ p2 d = 32 ∧ d = 5 ∨ p2 d = 64 ∧ d = 6 := by
  have h : d = 0 ∨ d = 1 ∨ d = 2 ∨ d = 3 ∨ d = 4 ∨ d = 5 ∨ d = 6 := by omega
  rcases h with rfl | rfl | rfl | rfl | rfl | rfl | rfl <;> decide
def padI (n d : Int) : Int := if 1 ≤ n ∧ n ≤ 1024 ∧ 0 ≤ d ∧ d ≤ 6 then (n + (p2 d - 1)) / p2 d * p2 d else 0
def okF (w h d : Int) : Bool := decide (1 ≤ w ∧ w ≤ 1024 ∧ 1 ≤ h ∧ h ≤ 1024 ∧ 0 ≤ d ∧ d ≤ 6 ∧ w % p2 d = 0 ∧ h % p2 d = 0)
theorem padI_pos {n d : Int} (h1 : 1 ≤ n) (h2 : n ≤ 1024) (h3 : 0 ≤ d) (h4 : d ≤ 6) : 1 ≤ padI n d ∧ padI n d ≤ 1087 ∧ (padI n d = n ↔ n % p2 d = 0) := by
  unfold padI
  rw [if_pos ⟨h1, h2, h3, h4⟩]
  rcases p2_in h3 h4 with ⟨e, _⟩ | ⟨e, _⟩ | ⟨e, _⟩ | ⟨e, _⟩ | ⟨e, _⟩ | ⟨e, _⟩ | ⟨e, _⟩ <;> rw [e] <;> omega
theorem padI_out {n d : Int} (h : ¬ (1 ≤ n ∧ n ≤ 1024 ∧ 0 ≤ d ∧ d ≤ 6)) : padI n d = 0 := by unfold padI; rw [if_neg h]
theorem padI_bd (n d : Int) : 0 ≤ padI n d ∧ padI n d ≤ 1087 := by
  by_cases h : 1 ≤ n ∧ n ≤ 1024 ∧ 0 ≤ d ∧ d ≤ 6
  · have := padI_pos h.1 h.2.1 h.2.2.1 h.2.2.2; omega
  · rw [padI_out h]; omega
theorem okF_eq (w h d : Int) : okF w h d = (decide (0 < padI w d) && decide (padI w d = w) && decide (0 < padI h d) && decide (padI h d = h)) := by
  unfold okF
  by_cases h1 : 1 ≤ w ∧ w ≤ 1024 ∧ 0 ≤ d ∧ d ≤ 6
  · by_cases h2 : 1 ≤ h ∧ h ≤ 1024 ∧ 0 ≤ d ∧ d ≤ 6
    · have a := padI_pos h1.1 h1.2.1 h1.2.2.1 h1.2.2.2
      have b := padI_pos h2.1 h2.2.1 h2.2.2.1 h2.2.2.2
      rw [← Bool.decide_and, ← Bool.decide_and, ← Bool.decide_and]
      apply decide_eq_decide.2
      constructor
      · rintro ⟨_, _, _, _, _, _, e1, e2⟩
        exact ⟨⟨⟨by omega, a.2.2.2 e1⟩, by omega⟩, b.2.2.2 e2⟩
      · rintro ⟨⟨⟨_, e1⟩, _⟩, e2⟩
        exact ⟨h1.1, h1.2.1, h2.1, h2.2.1, h1.2.2.1, h1.2.2.2, a.2.2.1 e1, b.2.2.1 e2⟩
    · rw [padI_out h2]
      simp
      omega
  · rw [padI_out h1]
    simp
    omega
theorem okF_t {w h d : Int} (e : okF w h d = true) : 1 ≤ w ∧ w ≤ 1024 ∧ 1 ≤ h ∧ h ≤ 1024 ∧ 0 ≤ d ∧ d ≤ 6 ∧ w % p2 d = 0 ∧ h % p2 d = 0 := by simpa [okF] using e

/-- A band. -/
structure Bd where
  l : Int
  o : Int
  x : Int
  y : Int
  w : Int
  h : Int
abbrev bdV (b : Bd) : Value := .agg #[.int .i64 b.l, .int .i64 b.o, .int .i64 b.x, .int .i64 b.y, .int .i64 b.w, .int .i64 b.h]
def bdC (b : Bd) : List Value := [.int .i64 b.l, .int .i64 b.o, .int .i64 b.x, .int .i64 b.y, .int .i64 b.w, .int .i64 b.h]
/-- The band of a level and an orient. -/
def bandI (w h d l o : Int) : Bd :=
  ⟨l, o, if o % 2 = 1 then w / p2 (d - max (l - 1) 0) else 0, if o / 2 % 2 = 1 then h / p2 (d - max (l - 1) 0) else 0, w / p2 (d - max (l - 1) 0), h / p2 (d - max (l - 1) 0)⟩

theorem andNot_tab : ∀ d : Fin 7, ∀ x : Fin 1100, bits .andNot .i64 ((x.val : Nat) : Int) (((2 ^ d.val : Nat) : Int) - 1) = (((x.val / 2 ^ d.val * 2 ^ d.val : Nat)) : Int) := by decide +kernel
theorem andNot_pad {n d : Int} (h1 : 1 ≤ n) (h2 : n ≤ 1024) (h3 : 0 ≤ d) (h4 : d ≤ 6) : bits .andNot .i64 (n + (p2 d - 1)) (p2 d - 1) = padI n d := by
  have hb : 1 ≤ n + (p2 d - 1) ∧ n + (p2 d - 1) < 1100 := by rcases p2_in h3 h4 with ⟨e, _⟩ | ⟨e, _⟩ | ⟨e, _⟩ | ⟨e, _⟩ | ⟨e, _⟩ | ⟨e, _⟩ | ⟨e, _⟩ <;> rw [e] <;> omega
  have h := andNot_tab ⟨d.toNat, by omega⟩ ⟨(n + (p2 d - 1)).toNat, by omega⟩
  have e1 : (((n + (p2 d - 1)).toNat : Nat) : Int) = n + (p2 d - 1) := by omega
  have e2 : ((2 ^ d.toNat : Nat) : Int) = p2 d := by unfold p2; norm_cast
  simp only [e1, e2] at h
  rw [h]
  unfold padI
  rw [if_pos ⟨h1, h2, h3, h4⟩]
  rw [Int.natCast_mul, Int.natCast_ediv, e1, e2]

theorem wdeep_c (n : Int) (w : World) : Calls Try.prog 39 #[.int .i64 n] w fun e w' => e = .returned (.bool (decide (0 ≤ n ∧ n ≤ 6))) ∧ w = w' := by
  by_cases h1 : 0 ≤ n
  all_goals by_cases h2 : n ≤ 6
  all_goals
    go_enter Try.func39, Try.ntmps39
    go_wp2_with fail
    go_ret
    exact ⟨ret_bool (by simp <;> omega), rfl⟩
end Go.Proofs.Ytjlajggilcihoaa
