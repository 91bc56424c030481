/- Numbers that are written bit by bit are read again: the plain law. -/
import Derived.Test.YtoiofnmodinpcaaBitsF
namespace Go.Proofs.Ytoiofnmodinpcaa
open Go.RowKit
set_option linter.unusedVariables false
set_option linter.unusedSimpArgs false

/-- One step of the script: so many bits of a number, and up to a whole byte. -/
def putB (bs : List Bool) (x : Int × Int × Int) : List Bool := bs ++ bitsV x.2.2 (clampN (x.2.1.tmod 65))
def stepB (bs : List Bool) (x : Int × Int × Int) : List Bool := if x.1.tmod 2 = 0 then padB (putB bs x) else putB bs x
def wrK (l : List (Int × Int × Int)) : List Bool := l.foldl stepB []
theorem putB_pre (bs : List Bool) (x : Int × Int × Int) : bs <+: putB bs x := List.prefix_append _ _
theorem padB_pre (bs : List Bool) : bs <+: padB bs := List.prefix_append _ _
theorem putB_step (bs : List Bool) (x : Int × Int × Int) : putB bs x <+: stepB bs x := by
  unfold stepB
  split
  · exact padB_pre _
  · exact List.prefix_refl _
theorem foldl_pre (l : List (Int × Int × Int)) : ∀ bs, bs <+: l.foldl stepB bs := by
  induction l with
  | nil => intro bs; exact List.prefix_refl _
  | cons x l ih => intro bs; exact ((putB_pre bs x).trans (putB_step bs x)).trans (ih _)
theorem wrK_take (l : List (Int × Int × Int)) (k : Nat) (h : k < l.length) : wrK (l.take (k + 1)) = stepB (wrK (l.take k)) l[k] := by
  unfold wrK
  rw [List.take_add_one, List.getElem?_eq_getElem h, Option.toList_some, List.foldl_append]
  rfl
theorem wrK_pre (l : List (Int × Int × Int)) (j k : Nat) (h : j ≤ k) : wrK (l.take j) <+: wrK (l.take k) := by
  obtain ⟨d, rfl⟩ := Nat.exists_eq_add_of_le h
  unfold wrK
  rw [List.take_add, List.foldl_append]
  exact foldl_pre _ _
theorem stepB_len (bs : List Bool) (x : Int × Int × Int) : (putB bs x).length ≤ bs.length + 64 ∧ (stepB bs x).length ≤ bs.length + 71 := by
  have h : (putB bs x).length ≤ bs.length + 64 := by
    unfold putB
    rw [List.length_append, bitsV_length]
    have := clampN_le (x.2.1.tmod 65)
    omega
  refine ⟨h, ?_⟩
  unfold stepB
  split
  · rw [padB_len]; omega
  · omega
theorem wrK_len (l : List (Int × Int × Int)) (k : Nat) : (wrK (l.take k)).length ≤ 71 * k := by
  induction k with
  | zero => simp [wrK]
  | succ k ih =>
    by_cases h : k < l.length
    · rw [wrK_take l k h]
      have := (stepB_len (wrK (l.take k)) l[k]).2
      omega
    · rw [List.take_of_length_le (by omega)] at ih ⊢
      omega
theorem nextL_pre {a b : List Bool} (h : a <+: b) {i : Nat} (hi : i < a.length) : nextL b i = nextL a i := by
  obtain ⟨c, rfl⟩ := h
  unfold nextL
  rw [List.getD_eq_getElem?_getD, List.getD_eq_getElem?_getD, List.getElem?_append_left hi]
theorem emod_two (y P : Int) (hp : 0 < P) : y % (P * 2) = 2 * (y / 2 % P) + y % 2 := by
  have h1 := Int.emod_add_mul_ediv (y / 2) P
  have h3 := Int.emod_nonneg (y / 2) (show P ≠ 0 by omega)
  have h4 := Int.emod_lt_of_pos (y / 2) hp
  obtain ⟨r, hr⟩ : ∃ r, y / 2 % P = r := ⟨_, rfl⟩
  obtain ⟨q, hq⟩ : ∃ q, y / 2 / P = q := ⟨_, rfl⟩
  rw [hr] at h1 h3 h4 ⊢
  rw [hq] at h1
  have h5 : y = (2 * r + y % 2) + (P * 2) * q := by
    have : y = 2 * (y / 2) + y % 2 := by omega
    rw [← h1] at this
    rw [Int.mul_add] at this
    rw [this, Int.mul_comm P 2, Int.mul_assoc]
    omega
  rw [h5, Int.add_mul_emod_self_left]
  have h6 : (2 * r + y % 2 + P * 2 * q) % 2 = y % 2 := by rw [← h5]
  rw [h6]
  exact Int.emod_eq_of_lt (by omega) (by omega)
theorem valL_bits (bs : List Bool) (i c : Nat) (x : Int) (h0 : 0 ≤ x) (h : ∀ j, j < c → nextL bs (i + j) = (x / 2 ^ (c - 1 - j) % 2 == 1)) : ∀ k, k ≤ c → valL bs i k = x / 2 ^ (c - k) % 2 ^ k := by
  intro k
  induction k with
  | zero => intro _; simp [valL, Int.emod_one]
  | succ k ih =>
    intro hk
    show 2 * valL bs i k + (if nextL bs (i + k) then 1 else 0) = _
    rw [ih (by omega), h k (by omega), show c - 1 - k = c - (k + 1) by omega]
    obtain ⟨y, hy⟩ : ∃ y, x / 2 ^ (c - (k + 1)) = y := ⟨_, rfl⟩
    have e : x / 2 ^ (c - k) = y / 2 := by
      rw [show c - k = c - (k + 1) + 1 by omega, Int.pow_succ, ← Int.ediv_ediv_of_nonneg (Int.le_of_lt (Int.pow_pos (by decide))), hy]
    rw [hy, e, Int.pow_succ]
    have hp : (0 : Int) < 2 ^ k := Int.pow_pos (by decide)
    have h2 : y % (2 ^ k * 2) = 2 * (y / 2 % 2 ^ k) + y % 2 := by
      obtain ⟨P, hP⟩ : ∃ P : Int, (2 : Int) ^ k = P := ⟨_, rfl⟩
      rw [hP] at hp ⊢
      exact emod_two y P hp
    rw [h2]
    rcases (show y % 2 = 0 ∨ y % 2 = 1 by omega) with e | e <;> simp [e]
theorem nextL_put (bs : List Bool) (x : Int × Int × Int) (j : Nat) (hj : j < clampN (x.2.1.tmod 65)) : nextL (putB bs x) (bs.length + j) = (x.2.2 / 2 ^ (clampN (x.2.1.tmod 65) - 1 - j) % 2 == 1) := by
  unfold nextL putB
  rw [List.getD_eq_getElem?_getD, List.getElem?_append_right (by omega)]
  simp [bitsV, hj]
theorem bit_hi (h l m b : Int) (hb : 0 ≤ b ∧ b ≤ 1) (hm : 0 < m) (hl : 0 ≤ l ∧ l < m) : (h * (2 * m) + b * m + l) / m % 2 = b := by
  have e : h * (2 * m) + b * m + l = l + m * (2 * h + b) := by rw [Int.mul_add, Int.mul_comm m (2 * h), Int.mul_assoc 2 h m, Int.mul_comm b m, Int.mul_left_comm h 2 m]; omega
  rw [e, Int.add_mul_ediv_left _ _ (by omega), Int.ediv_eq_zero_of_lt hl.1 hl.2]
  omega
theorem bit_of (b0 b1 b2 b3 b4 b5 b6 b7 : Int) (h0 : 0 ≤ b0 ∧ b0 ≤ 1) (h1 : 0 ≤ b1 ∧ b1 ≤ 1) (h2 : 0 ≤ b2 ∧ b2 ≤ 1) (h3 : 0 ≤ b3 ∧ b3 ≤ 1) (h4 : 0 ≤ b4 ∧ b4 ≤ 1) (h5 : 0 ≤ b5 ∧ b5 ≤ 1) (h6 : 0 ≤ b6 ∧ b6 ≤ 1) (h7 : 0 ≤ b7 ∧ b7 ≤ 1) (y : Int)
    (hy : y = b0 * 128 + b1 * 64 + b2 * 32 + b3 * 16 + b4 * 8 + b5 * 4 + b6 * 2 + b7) :
    y / 128 % 2 = b0 ∧ y / 64 % 2 = b1 ∧ y / 32 % 2 = b2 ∧ y / 16 % 2 = b3 ∧ y / 8 % 2 = b4 ∧ y / 4 % 2 = b5 ∧ y / 2 % 2 = b6 ∧ y % 2 = b7 := by
  refine ⟨?_, ?_, ?_, ?_, ?_, ?_, ?_, by omega⟩
  · rw [show y = 0 * (2 * 128) + b0 * 128 + (b1 * 64 + b2 * 32 + b3 * 16 + b4 * 8 + b5 * 4 + b6 * 2 + b7) by omega]; exact bit_hi _ _ _ _ h0 (by omega) (by omega)
  · rw [show y = b0 * (2 * 64) + b1 * 64 + (b2 * 32 + b3 * 16 + b4 * 8 + b5 * 4 + b6 * 2 + b7) by omega]; exact bit_hi _ _ _ _ h1 (by omega) (by omega)
  · rw [show y = (b0 * 2 + b1) * (2 * 32) + b2 * 32 + (b3 * 16 + b4 * 8 + b5 * 4 + b6 * 2 + b7) by omega]; exact bit_hi _ _ _ _ h2 (by omega) (by omega)
  · rw [show y = (b0 * 4 + b1 * 2 + b2) * (2 * 16) + b3 * 16 + (b4 * 8 + b5 * 4 + b6 * 2 + b7) by omega]; exact bit_hi _ _ _ _ h3 (by omega) (by omega)
  · rw [show y = (b0 * 8 + b1 * 4 + b2 * 2 + b3) * (2 * 8) + b4 * 8 + (b5 * 4 + b6 * 2 + b7) by omega]; exact bit_hi _ _ _ _ h4 (by omega) (by omega)
  · rw [show y = (b0 * 16 + b1 * 8 + b2 * 4 + b3 * 2 + b4) * (2 * 4) + b5 * 4 + (b6 * 2 + b7) by omega]; exact bit_hi _ _ _ _ h5 (by omega) (by omega)
  · rw [show y = (b0 * 32 + b1 * 16 + b2 * 8 + b3 * 4 + b4 * 2 + b5) * (2 * 2) + b6 * 2 + b7 by omega]; exact bit_hi _ _ _ _ h6 (by omega) (by omega)
theorem bitZ_bd (bs : List Bool) (k : Nat) : 0 ≤ bitZ bs k ∧ bitZ bs k ≤ 1 := by rcases bitZ_01 bs k with h | h <;> omega
theorem byte_bit (bs : List Bool) (i r : Nat) (hr : r < 8) : byteZ bs i / 2 ^ (7 - r) % 2 = bitZ bs (8 * i + r) := by
  have h := bit_of _ _ _ _ _ _ _ _ (bitZ_bd bs (8 * i)) (bitZ_bd bs (8 * i + 1)) (bitZ_bd bs (8 * i + 2)) (bitZ_bd bs (8 * i + 3)) (bitZ_bd bs (8 * i + 4)) (bitZ_bd bs (8 * i + 5)) (bitZ_bd bs (8 * i + 6)) (bitZ_bd bs (8 * i + 7)) (byteZ bs i) rfl
  obtain ⟨h0, h1, h2, h3, h4, h5, h6, h7⟩ := h
  rcases (show r = 0 ∨ r = 1 ∨ r = 2 ∨ r = 3 ∨ r = 4 ∨ r = 5 ∨ r = 6 ∨ r = 7 by omega) with rfl | rfl | rfl | rfl | rfl | rfl | rfl | rfl
  · exact h0
  · exact h1
  · exact h2
  · exact h3
  · exact h4
  · exact h5
  · exact h6
  · simpa using h7
theorem nextL_pack (bs : List Bool) (i : Nat) : nextL (unp (packZ bs)) i = nextL bs i := by
  have hl := packZ_length bs
  by_cases h : i < 8 * (packZ bs).length
  · rw [nextL_unp h]
    unfold bitU packZ
    rw [rdn_tab _ _ (by omega), byte_bit bs (i / 8) (i % 8) (by omega), show 8 * (i / 8) + i % 8 = i by omega, bitZ_next]
    cases nextL bs i <;> rfl
  · rw [nextL_end (by rw [unp_length]; omega), nextL_end (by omega)]
/-- Step k of the script is read as it was written. -/
theorem back_at (l : List (Int × Int × Int)) (m k : Nat) (hk : k < m) (hm : m ≤ l.length) (h0 : 0 ≤ l[k].2.2) :
    valL (unp (packZ (wrK (l.take m)))) (wrK (l.take k)).length (clampN (l[k].2.1.tmod 65)) = l[k].2.2 % 2 ^ clampN (l[k].2.1.tmod 65) := by
  obtain ⟨c, hc⟩ : ∃ c, clampN (l[k].2.1.tmod 65) = c := ⟨_, rfl⟩
  rw [hc]
  have hpre : putB (wrK (l.take k)) l[k] <+: wrK (l.take m) := (putB_step _ _).trans (by rw [← wrK_take l k (by omega)]; exact wrK_pre l _ _ (by omega))
  have hpl : (putB (wrK (l.take k)) l[k]).length = (wrK (l.take k)).length + c := by unfold putB; rw [List.length_append, bitsV_length, hc]
  have := valL_bits (unp (packZ (wrK (l.take m)))) (wrK (l.take k)).length c l[k].2.2 h0 (fun j hj => by
    rw [nextL_pack, nextL_pre hpre (by omega), nextL_put _ _ _ (by omega), hc]) c (Nat.le_refl _)
  rw [this, Nat.sub_self, Int.pow_zero, Int.ediv_one]
theorem back_len (l : List (Int × Int × Int)) (m k : Nat) (hk : k < m) (hm : m ≤ l.length) : (wrK (l.take k)).length + clampN (l[k].2.1.tmod 65) ≤ 8 * (packZ (wrK (l.take m))).length := by
  have hpre : putB (wrK (l.take k)) l[k] <+: wrK (l.take m) := (putB_step _ _).trans (by rw [← wrK_take l k (by omega)]; exact wrK_pre l _ _ (by omega))
  have hpl : (putB (wrK (l.take k)) l[k]).length = (wrK (l.take k)).length + clampN (l[k].2.1.tmod 65) := by unfold putB; rw [List.length_append, bitsV_length]
  have := hpre.length_le
  rw [packZ_length]
  omega
theorem ovL_none (bs : List Bool) (i o : Nat) : ∀ c, i + c ≤ bs.length → ovL bs i o c = o := by
  intro c
  induction c with
  | zero => intro _; rfl
  | succ c ih =>
    intro h
    show overL bs (i + c) (ovL bs i o c) = o
    unfold overL
    rw [if_pos (by omega), ih (by omega)]
theorem stepB_at (bs : List Bool) (x : Int × Int × Int) : (stepB bs x).length = if x.1.tmod 2 = 0 then (bs.length + clampN (x.2.1.tmod 65) + 7) / 8 * 8 else bs.length + clampN (x.2.1.tmod 65) := by
  have hpl : (putB bs x).length = bs.length + clampN (x.2.1.tmod 65) := by unfold putB; rw [List.length_append, bitsV_length]
  unfold stepB
  split
  · rw [padB_len, hpl]; omega
  · exact hpl
theorem mask64 (v : Int) (n : Nat) (h0 : 0 ≤ v) (h1 : v ≤ 18446744073709551615) (hn : n < 64) : bits .and .u64 v (2 ^ n - 1) = v % 2 ^ n := by
  obtain ⟨a, rfl⟩ := Int.eq_ofNat_of_zero_le h0
  have hp : (2 : Nat) ^ n ≤ 2 ^ 63 := Nat.pow_le_pow_right (by decide) (by omega)
  have h3 : (2 : Nat) ^ 63 = 9223372036854775808 := by decide
  have hpos := Nat.two_pow_pos n
  have e : ((2 : Int) ^ n - 1) = ((2 ^ n - 1 : Nat) : Int) := by
    have : ((2 : Int) ^ n) = ((2 ^ n : Nat) : Int) := by simp
    rw [this]; omega
  rw [e, u64_and_nat _ _ (by omega) (by omega), Nat.and_two_pow_sub_one_eq_mod]
  simp

end Go.Proofs.Ytoiofnmodinpcaa
