/- Fields: the units of a field, as numbers: each place lies in one of them. -/
import Derived.Test.YtiedjeholmoccaaFd3
namespace Go.Proofs.Ytiedjeholmoccaa
open Go.RowKit Go.Sort
set_option linter.unusedVariables false
set_option linter.unusedSimpArgs false

/-- How many units a square has across. -/
def sqN (s : Int) : Nat := 2 ^ s.toNat
/-- The k-th unit of the i-th square. -/
def unAt (a : Nat) (s : Int) (i k : Nat) : Un := ⟨((i % a * 4 + k % sqN s * (4 / sqN s) : Nat) : Int), ((i / a * 4 + k / sqN s * (4 / sqN s) : Nat) : Int), ((4 / sqN s : Nat) : Int)⟩
def unsSq (a : Nat) (s : Int) (i : Nat) : List (Nat × Un) := (List.range (sqN s * sqN s)).map fun k => (i, unAt a s i k)
/-- The units of the first n squares, each with its square's number. -/
def unsP (a : Nat) (S : List Int) : Nat → List (Nat × Un)
  | 0 => []
  | i + 1 => unsP a S i ++ unsSq a (rdn S i) i
def unsL (a : Nat) (S : List Int) : List Un := (unsP a S S.length).map (·.2)
theorem sqN_in {s : Int} (h0 : 0 ≤ s) (h2 : s ≤ 2) : sqN s = 1 ∧ s = 0 ∨ sqN s = 2 ∧ s = 1 ∨ sqN s = 4 ∧ s = 2 := by
  rcases (by omega : s = 0 ∨ s = 1 ∨ s = 2) with rfl | rfl | rfl <;> simp [sqN]
theorem unsSq_length (a : Nat) (s : Int) (i : Nat) : (unsSq a s i).length = sqN s * sqN s := by simp [unsSq]
theorem unsSq_at {a : Nat} {s : Int} {i k : Nat} (h : k < (unsSq a s i).length) : (unsSq a s i)[k] = (i, unAt a s i k) := by simp [unsSq]
/-- How many units the first i squares have. -/
def cntU (S : List Int) : Nat → Nat
  | 0 => 0
  | i + 1 => cntU S i + sqN (rdn S i) * sqN (rdn S i)
theorem unsP_length (a : Nat) (S : List Int) (i : Nat) : (unsP a S i).length = cntU S i := by
  induction i with
  | zero => rfl
  | succ i ih => rw [unsP, List.length_append, ih, unsSq_length, cntU]
theorem unsP_get {a : Nat} {S : List Int} : ∀ {n i k : Nat}, i < n → k < sqN (rdn S i) * sqN (rdn S i) → (unsP a S n)[cntU S i + k]? = some (i, unAt a (rdn S i) i k)
  | n + 1, i, k, hi, hk => by
    rw [unsP]
    by_cases h : i < n
    · have := unsP_get (a := a) h hk
      have hlt := (List.getElem?_eq_some_iff.1 this).1
      rw [List.getElem?_append_left hlt]
      exact this
    · obtain rfl : i = n := by omega
      rw [List.getElem?_append_right (by rw [unsP_length]; omega), unsP_length, Nat.add_sub_cancel_left]
      have hl : k < (unsSq a (rdn S i) i).length := by rw [unsSq_length]; exact hk
      rw [List.getElem?_eq_getElem hl, unsSq_at hl]
theorem cntU_mono {S : List Int} {i j : Nat} (h : i ≤ j) : cntU S i ≤ cntU S j := by
  induction j with
  | zero => have : i = 0 := by omega
            subst this; exact Nat.le_refl _
  | succ j ih =>
    rcases Nat.lt_or_ge j i with h1 | h1
    · have : i = j + 1 := by omega
      subst this; exact Nat.le_refl _
    · exact Nat.le_trans (ih h1) (Nat.le_add_right _ _)
theorem cntU_lt {S : List Int} {n i k : Nat} (hi : i < n) (hk : k < sqN (rdn S i) * sqN (rdn S i)) : cntU S i + k < cntU S n := by
  have : cntU S (i + 1) ≤ cntU S n := cntU_mono hi
  exact Nat.lt_of_lt_of_le (Nat.add_lt_add_left hk _) this
theorem cntU_le {S : List Int} (hS : ∀ k, k < S.length → 0 ≤ rdn S k ∧ rdn S k ≤ 2) {n : Nat} (hn : n ≤ S.length) : cntU S n ≤ 16 * n := by
  induction n with
  | zero => exact Nat.le_refl _
  | succ n ih =>
    have := ih (by omega)
    have h := hS n (by omega)
    show cntU S n + sqN (rdn S n) * sqN (rdn S n) ≤ _
    rcases sqN_in h.1 h.2 with ⟨e, _⟩ | ⟨e, _⟩ | ⟨e, _⟩ <;> rw [e] <;> omega
/-- Each unit is one of a square. -/
theorem unsP_mem {a : Nat} {S : List Int} : ∀ {n : Nat} {p : Nat × Un}, p ∈ unsP a S n → ∃ k, p.1 < n ∧ k < sqN (rdn S p.1) * sqN (rdn S p.1) ∧ p.2 = unAt a (rdn S p.1) p.1 k
  | n + 1, p, h => by
    rw [unsP, List.mem_append] at h
    rcases h with h | h
    · obtain ⟨k, h1, h2⟩ := unsP_mem h
      exact ⟨k, by omega, h2⟩
    · simp only [unsSq, List.mem_map, List.mem_range] at h
      obtain ⟨k, hk, rfl⟩ := h
      exact ⟨k, by simp, hk, rfl⟩
def inUn (u : Un) (X Y : Nat) : Bool := decide (u.x ≤ X) && decide ((X : Int) < u.x + u.s) && decide (u.y ≤ Y) && decide ((Y : Int) < u.y + u.s)
theorem inUn_iff {u : Un} {X Y : Nat} : inUn u X Y = true ↔ u.x ≤ X ∧ (X : Int) < u.x + u.s ∧ u.y ≤ Y ∧ (Y : Int) < u.y + u.s := by
  simp [inUn, and_assoc]
/-- Within a square each place lies in one unit. -/
theorem one_sq (x y : Nat) (hx : x < 4) (hy : y < 4) (n : Nat) (hn : n = 1 ∨ n = 2 ∨ n = 4) : ((List.range (n * n)).countP fun k => decide (k % n * (4 / n) ≤ x) && decide (x < k % n * (4 / n) + 4 / n) && decide (k / n * (4 / n) ≤ y) && decide (y < k / n * (4 / n) + 4 / n)) = 1 := by
  have hx' : x = 0 ∨ x = 1 ∨ x = 2 ∨ x = 3 := by omega
  have hy' : y = 0 ∨ y = 1 ∨ y = 2 ∨ y = 3 := by omega
  rcases hn with rfl | rfl | rfl <;> rcases hx' with rfl | rfl | rfl | rfl <;> rcases hy' with rfl | rfl | rfl | rfl <;> decide
theorem count_sq {a : Nat} (s : Int) (h0 : 0 ≤ s) (h2 : s ≤ 2) (i X Y : Nat) :
    ((unsSq a s i).countP fun p => inUn p.2 X Y) = if X / 4 = i % a ∧ Y / 4 = i / a then 1 else 0 := by
  unfold unsSq
  rw [List.countP_map]
  have hs := sqN_in h0 h2
  have hn : sqN s = 1 ∨ sqN s = 2 ∨ sqN s = 4 := by omega
  have key : ∀ k, k < sqN s * sqN s → k % sqN s * (4 / sqN s) + 4 / sqN s ≤ 4 ∧ k / sqN s * (4 / sqN s) + 4 / sqN s ≤ 4 := fun k hk => by
    rcases hn with e | e | e <;> rw [e] at hk ⊢ <;> omega
  by_cases h : X / 4 = i % a ∧ Y / 4 = i / a
  · rw [if_pos h, ← one_sq (X % 4) (Y % 4) (by omega) (by omega) (sqN s) hn]
    refine List.countP_congr fun k hk => ?_
    have hk' := key k (List.mem_range.1 hk)
    simp only [Function.comp, inUn_iff]
    simp only [unAt, Bool.and_eq_true, decide_eq_true_eq]
    generalize k % sqN s * (4 / sqN s) = u at *
    generalize k / sqN s * (4 / sqN s) = v at *
    generalize 4 / sqN s = z at *
    omega
  · rw [if_neg h, List.countP_eq_zero]
    intro k hk
    have hk' := key k (List.mem_range.1 hk)
    simp only [Function.comp, inUn_iff]
    simp only [unAt, Bool.and_eq_true, decide_eq_true_eq]
    generalize k % sqN s * (4 / sqN s) = u at *
    generalize k / sqN s * (4 / sqN s) = v at *
    generalize 4 / sqN s = z at *
    omega
theorem count_P {a : Nat} {S : List Int} (X Y : Nat) : ∀ (n : Nat), (∀ k, k < n → 0 ≤ rdn S k ∧ rdn S k ≤ 2) → ((unsP a S n).countP fun p => inUn p.2 X Y) = ((List.range n).countP fun i => decide (X / 4 = i % a ∧ Y / 4 = i / a))
  | 0, _ => rfl
  | n + 1, h => by
    rw [unsP, List.countP_append, count_P X Y n (fun k hk => h k (by omega)), count_sq _ (h n (by omega)).1 (h n (by omega)).2, List.range_succ, List.countP_append]
    congr 1
    simp [List.countP_cons]
theorem count_i {a n q r : Nat} (hr : r < a) : ((List.range n).countP fun i => decide (r = i % a ∧ q = i / a)) = if q * a + r < n then 1 else 0 := by
  induction n with
  | zero => simp
  | succ n ih =>
    rw [List.range_succ, List.countP_append, ih]
    have e : (r = n % a ∧ q = n / a) ↔ n = q * a + r := by
      constructor
      · rintro ⟨rfl, rfl⟩
        have := Nat.div_add_mod' n a
        omega
      · rintro rfl
        rw [Nat.mul_comm, Nat.mul_add_mod, Nat.mod_eq_of_lt hr, Nat.mul_add_div (by omega), Nat.div_eq_of_lt hr]
        exact ⟨rfl, by omega⟩
    by_cases h1 : n = q * a + r
    · rw [if_neg (by omega), if_pos (by omega)]
      simp [List.countP_cons, e.2 h1]
    · by_cases h2 : q * a + r < n
      · rw [if_pos h2, if_pos (by omega)]
        simp [List.countP_cons]
        exact fun h3 h4 => h1 (e.1 ⟨h3, h4⟩)
      · rw [if_neg h2, if_neg (by omega)]
        simp [List.countP_cons]
        exact fun h3 h4 => h1 (e.1 ⟨h3, h4⟩)
/-- Each place of a field lies in one of its units. -/
theorem count_units {a d : Nat} {S : List Int} (hl : S.length = a * d) (hS : ∀ k, k < S.length → 0 ≤ rdn S k ∧ rdn S k ≤ 2) {X Y : Nat} (hX : X < 4 * a) (hY : Y < 4 * d) : ((unsL a S).countP fun u => inUn u X Y) = 1 := by
  unfold unsL
  rw [List.countP_map]
  have h := count_P (a := a) (S := S) X Y S.length hS
  have e : ((unsP a S S.length).countP ((fun u => inUn u X Y) ∘ fun x => x.2)) = ((unsP a S S.length).countP fun p => inUn p.2 X Y) := rfl
  rw [e, h, count_i (by omega : X / 4 < a), if_pos]
  rw [hl]
  have h1 : (Y / 4 + 1) * a ≤ d * a := Nat.mul_le_mul_right _ (by omega)
  rw [Nat.add_mul, Nat.mul_comm d a] at h1
  omega
/-- A unit lies within its field. -/
theorem unsL_in {a d : Nat} {S : List Int} (ha : 0 < a) (hl : S.length = a * d) (hS : ∀ k, k < S.length → 0 ≤ rdn S k ∧ rdn S k ≤ 2) {u : Un} (h : u ∈ unsL a S) :
    ∃ x y s : Nat, u = ⟨x, y, s⟩ ∧ 1 ≤ s ∧ s ≤ 4 ∧ x + s ≤ 4 * a ∧ y + s ≤ 4 * d := by
  obtain ⟨p, hp, rfl⟩ := List.mem_map.1 h
  obtain ⟨k, hi, hk, e⟩ := unsP_mem hp
  have hs := hS p.1 hi
  refine ⟨_, _, _, e, ?_⟩
  have h1 : p.1 % a < a := Nat.mod_lt _ ha
  have h2 : p.1 / a < d := Nat.div_lt_of_lt_mul (by omega)
  generalize p.1 % a = x at *
  generalize p.1 / a = y at *
  rcases sqN_in hs.1 hs.2 with ⟨e1, _⟩ | ⟨e1, _⟩ | ⟨e1, _⟩ <;> rw [e1] at hk ⊢ <;> omega
end Go.Proofs.Ytiedjeholmoccaa
