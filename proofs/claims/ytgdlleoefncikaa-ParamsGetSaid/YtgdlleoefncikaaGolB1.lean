/- Codes that are written one behind the other are read again: the plain law. -/
import Derived.Test.YtgdlleoefncikaaGolF
namespace Go.Proofs.Ytgdlleoefncikaa
open Go.RowKit
set_option linter.unusedVariables false
set_option linter.unusedSimpArgs false

theorem nextL_left {a b : List Bool} {i : Nat} (h : i < a.length) : nextL (a ++ b) i = nextL a i := by
  unfold nextL
  rw [List.getD_eq_getElem?_getD, List.getD_eq_getElem?_getD, List.getElem?_append_left h]
theorem nextL_right {a b : List Bool} {i : Nat} (h : a.length ≤ i) : nextL (a ++ b) i = nextL b (i - a.length) := by
  unfold nextL
  rw [List.getD_eq_getElem?_getD, List.getD_eq_getElem?_getD, List.getElem?_append_right h]
theorem ilv_at (x : Int) (l : Nat) (j : Nat) : ∀ k, k < j → nextL (ilv x l j) (2 * k) = false ∧ nextL (ilv x l j) (2 * k + 1) = (x / 2 ^ (l - 2 - k) % 2 == 1) := by
  induction j with
  | zero => intro k hk; omega
  | succ j ih =>
    intro k hk
    have hl := ilv_length x l j
    show nextL (ilv x l j ++ _) _ = _ ∧ nextL (ilv x l j ++ _) _ = _
    by_cases h : k < j
    · rw [nextL_left (by omega), nextL_left (by omega)]
      exact ih k h
    · obtain rfl : k = j := by omega
      rw [nextL_right (by omega), nextL_right (by omega), hl, show 2 * k - 2 * k = 0 by omega, show 2 * k + 1 - 2 * k = 1 by omega]
      exact ⟨rfl, rfl⟩
theorem code_steps (T : List Bool) (i : Nat) (x : Int) (l : Nat) (hl : 1 ≤ l) (hl2 : l ≤ 32) (h1 : (2 : Int) ^ (l - 1) ≤ x) (h2 : x < 2 ^ l) (h : ∀ t, t < 2 * l - 1 → nextL T (i + t) = nextL (codeX x l) t) :
    ∀ k, k ≤ l - 1 → goG T i 1 31 = goG T (i + 2 * k) (x / 2 ^ (l - 1 - k)) (31 - k) := by
  intro k
  induction k with
  | zero =>
    intro _
    have hp : (0 : Int) < 2 ^ (l - 1) := Int.pow_pos (by decide)
    have e : x / 2 ^ (l - 1) = 1 := by
      have e1 : (2 : Int) ^ l = 2 ^ (l - 1) * 2 := by
        conv => lhs; rw [show l = l - 1 + 1 by omega, Int.pow_succ]
      have a1 : 1 ≤ x / 2 ^ (l - 1) := by
        have := Int.ediv_le_ediv hp h1
        rwa [Int.ediv_self (by omega)] at this
      have a2 : x / 2 ^ (l - 1) < 2 := (Int.ediv_lt_iff_lt_mul hp).2 (by rw [Int.mul_comm]; omega)
      omega
    simp only [Nat.mul_zero, Nat.add_zero, Nat.sub_zero]
    rw [e]
  | succ k ih =>
    intro hk
    rw [ih (by omega)]
    have hc : ∀ t, t < 2 * (l - 1) → nextL (codeX x l) t = nextL (ilv x l (l - 1)) t := fun t ht => nextL_left (by rw [ilv_length]; exact ht)
    have ha := ilv_at x l (l - 1) k (by omega)
    have b0 : nextL T (i + 2 * k) = false := by rw [h (2 * k) (by omega), hc _ (by omega)]; exact ha.1
    have b1 : nextL T (i + 2 * k + 1) = (x / 2 ^ (l - 2 - k) % 2 == 1) := by rw [show i + 2 * k + 1 = i + (2 * k + 1) by omega, h (2 * k + 1) (by omega), hc _ (by omega)]; exact ha.2
    rw [show 31 - k = 31 - (k + 1) + 1 by omega, goG_no _ b0]
    obtain ⟨y, hy⟩ : ∃ y, x / 2 ^ (l - 2 - k) = y := ⟨_, rfl⟩
    have e : x / 2 ^ (l - 1 - k) = y / 2 := by
      rw [show l - 1 - k = l - 2 - k + 1 by omega, Int.pow_succ, ← Int.ediv_ediv_of_nonneg (Int.le_of_lt (Int.pow_pos (by decide))), hy]
    have e2 : bitI T (i + 2 * k + 1) = y % 2 := by
      unfold bitI
      rw [b1, hy]
      rcases (show y % 2 = 0 ∨ y % 2 = 1 by omega) with e | e <;> simp [e]
    rw [e, e2, show l - 1 - (k + 1) = l - 2 - k by omega, hy, show i + 2 * k + 2 = i + 2 * (k + 1) by omega]
    congr 1
    omega
theorem code_read (T : List Bool) (i : Nat) (v : Int) (hv : rightV v = true) (h : ∀ t, t < (codeB v).length → nextL T (i + t) = nextL (codeB v) t) : goG T i 1 31 = (v, true, i + (codeB v).length) := by
  have ⟨hv0, hv1⟩ := rightV_t hv
  obtain ⟨l, e, h1, h2⟩ := lenI_spec (x := v + 1) (by omega)
  have hl2 := lenI_32 (x := v + 1) (by omega)
  rw [codeB_yes hv, e] at h ⊢
  rw [e] at hl2
  have hcl := codeX_length (v + 1) (l + 1) (by omega)
  rw [hcl] at h ⊢
  have hs := code_steps T i (v + 1) (l + 1) (by omega) hl2 h1 h2 h l (by omega)
  rw [hs, show l + 1 - 1 - l = 0 by omega, Int.pow_zero, Int.ediv_one]
  have b : nextL T (i + 2 * l) = true := by
    rw [h (2 * l) (by omega)]
    unfold codeX
    rw [nextL_right (by rw [ilv_length]; omega), ilv_length, show 2 * l - 2 * (l + 1 - 1) = 0 by omega]
    rfl
  rw [goG_yes _ b]
  have e1 : v + 1 - 1 = v := by omega
  have e2 : i + 2 * l + 1 = i + (2 * (l + 1) - 1) := by omega
  rw [e1, e2]
theorem sign_read (T : List Bool) (i : Nat) (v : Int) (hv : rightV (magV v) = true) (h : ∀ t, t < (signB v).length → nextL T (i + t) = nextL (signB v) t) : goS T i = (v, true, i + (signB v).length) := by
  have hs := signB_yes hv
  have hm : magV v = if v < 0 then -v else v := by
    unfold magV at hv ⊢
    by_cases c : v < -4294967294 ∨ 4294967294 < v
    · rw [if_pos c] at hv; exact absurd hv (by decide)
    · rw [if_neg c]
  have e : ∀ r, goG T i 1 31 = r → goS T i = if r.1 = 0 then r else (if nextL T r.2.2 then -r.1 else r.1, r.2.1, r.2.2 + 1) := fun r hr => by unfold goS; rw [hr]
  by_cases h0 : v = 0
  · rw [hs, if_pos h0] at h ⊢
    rw [e _ (code_read T i (magV v) hv h)]
    have hz : magV v = 0 := by rw [hm, h0]; rfl
    simp only
    rw [if_pos hz, hz, h0]
  · rw [hs, if_neg h0] at h ⊢
    have hl : (codeB (magV v) ++ [decide (v < 0)]).length = (codeB (magV v)).length + 1 := by simp
    rw [hl] at h ⊢
    rw [e _ (code_read T i (magV v) hv (fun t ht => by rw [h t (by omega), nextL_left ht]))]
    have hnz : magV v ≠ 0 := by rw [hm]; split <;> omega
    simp only
    rw [if_neg hnz]
    have hb : nextL T (i + (codeB (magV v)).length) = decide (v < 0) := by
      rw [h _ (by omega), nextL_right (Nat.le_refl _), Nat.sub_self]
      rfl
    rw [hb, hm]
    by_cases c : v < 0
    · simp [c]; omega
    · simp [c]; omega

theorem bit_hi (h l m b : Int) (hb : 0 ≤ b ∧ b ≤ 1) (hm : 0 < m) (hl : 0 ≤ l ∧ l < m) : (h * (2 * m) + b * m + l) / m % 2 = b := by
  have e : h * (2 * m) + b * m + l = l + m * (2 * h + b) := by rw [Int.mul_add, Int.mul_comm m (2 * h), Int.mul_assoc 2 h m, Int.mul_comm b m, Int.mul_left_comm h 2 m]; omega
  rw [e, Int.add_mul_ediv_left _ _ (by omega), Int.ediv_eq_zero_of_lt hl.1 hl.2]
  omega
theorem bit_of (b0 b1 b2 b3 b4 b5 b6 b7 : Int) (h0 : 0 ≤ b0 ∧ b0 ≤ 1) (h1 : 0 ≤ b1 ∧ b1 ≤ 1) (h2 : 0 ≤ b2 ∧ b2 ≤ 1) (h3 : 0 ≤ b3 ∧ b3 ≤ 1) (h4 : 0 ≤ b4 ∧ b4 ≤ 1) (h5 : 0 ≤ b5 ∧ b5 ≤ 1) (h6 : 0 ≤ b6 ∧ b6 ≤ 1) (h7 : 0 ≤ b7 ∧ b7 ≤ 1) (y : Int)
    (hy : y = b0 * 128 + b1 * 64 + b2 * 32 + b3 * 16 + b4 * 8 + b5 * 4 + b6 * 2 + b7) :
    y / 128 % 2 = b0 ∧ y / 64 % 2 = b1 ∧ y / 32 % 2 = b2 ∧ y / 16 % 2 = b3 ∧ y / 8 % 2 = b4 ∧ y / 4 % 2 = b5 ∧ y / 2 % 2 = b6 ∧ y % 2 = b7 := by
  refine ⟨?_, ?_, ?_, ?_, ?_, ?_, ?_, by omega⟩
  · rw [show y = 0 * (2 * 128) + b0 * 128 + (b1 * 64 + b2 * 32 + b3 * 16 + b4 * 8 + b5 * 4 + b6 * 2 + b7) by omega]; exact bit_hi _ _ _ _ h0 (by omega) (by omega)
  · rw [show y = b0 * (2 * 64) + b1 * 64 + (b2 * 32 + b3 * 16 + b4 * 8 + b5 * 4 + b6 * 2 + b7) by omega]; exact bit_hi _ _ _ _ h1 (by omega) (by omega)
  · rw [show y = (b0 * 2 + b1) * (2 * 32) + b2 * 32 + (b3 * 16 + b4 * 8 + b5 * 4 + b6 * 2 + b7) by omega]; exact bit_hi _ _ _ _ h2 (by omega) (by omega)
  · rw [show y = (b0 * 4 + b1 * 2 + b2) * (2 * 16) + b3 * 16 + (b4 * 8 + b5 * 4 + b6 * 2 + b7) by omega]; exact bit_hi _ _ _ _ h3 (by omega) (by omega)
  · rw [show y = (b0 * 8 + b1 * 4 + b2 * 2 + b3) * (2 * 8) + b4 * 8 + (b5 * 4 + b6 * 2 + b7) by omega]; exact bit_hi _ _ _ _ h4 (by omega) (by omega)
  · rw [show y = (b0 * 16 + b1 * 8 + b2 * 4 + b3 * 2 + b4) * (2 * 4) + b5 * 4 + (b6 * 2 + b7) by omega]; exact bit_hi _ _ _ _ h5 (by omega) (by omega)
  · rw [show y = (b0 * 32 + b1 * 16 + b2 * 8 + b3 * 4 + b4 * 2 + b5) * (2 * 2) + b6 * 2 + b7 by omega]; exact bit_hi _ _ _ _ h6 (by omega) (by omega)
theorem bitZ_bd (bs : List Bool) (k : Nat) : 0 ≤ bitZ bs k ∧ bitZ bs k ≤ 1 := by rcases bitZ_01 bs k with h | h <;> omega
theorem byte_bit (bs : List Bool) (i r : Nat) (hr : r < 8) : byteZ bs i / 2 ^ (7 - r) % 2 = bitZ bs (8 * i + r) := by
  have h := bit_of _ _ _ _ _ _ _ _ (bitZ_bd bs (8 * i)) (bitZ_bd bs (8 * i + 1)) (bitZ_bd bs (8 * i + 2)) (bitZ_bd bs (8 * i + 3)) (bitZ_bd bs (8 * i + 4)) (bitZ_bd bs (8 * i + 5)) (bitZ_bd bs (8 * i + 6)) (bitZ_bd bs (8 * i + 7)) (byteZ bs i) rfl
  obtain ⟨h0, h1, h2, h3, h4, h5, h6, h7⟩ := h
  rcases (show r = 0 ∨ r = 1 ∨ r = 2 ∨ r = 3 ∨ r = 4 ∨ r = 5 ∨ r = 6 ∨ r = 7 by omega) with rfl | rfl | rfl | rfl | rfl | rfl | rfl | rfl
  · exact h0
  · exact h1
  · exact h2
  · exact h3
  · exact h4
  · exact h5
  · exact h6
  · simpa using h7
theorem nextL_pack' (bs : List Bool) (i : Nat) : nextL (unp (packZ bs)) i = nextL bs i := by
  have hl := packZ_length bs
  by_cases h : i < 8 * (packZ bs).length
  · rw [nextL_unp h]
    unfold bitU packZ
    rw [rdn_tab _ _ (by omega), byte_bit bs (i / 8) (i % 8) (by omega), show 8 * (i / 8) + i % 8 = i by omega, bitZ_next]
    cases nextL bs i <;> rfl
  · rw [nextL_end (by rw [unp_length]; omega), nextL_end (by omega)]
/-- The bits of numbers, one behind the other. -/
def catS (l : List Int) : List Bool := l.flatMap signB
theorem catS_snoc (l : List Int) (v : Int) : catS (l ++ [v]) = catS l ++ signB v := by simp [catS]
theorem catS_len (l : List Int) : (catS l).length ≤ 64 * l.length := by
  induction l with
  | nil => simp [catS]
  | cons v l ih =>
    have := signB_len v
    simp only [catS, List.flatMap_cons, List.length_append, List.length_cons] at ih ⊢
    omega
theorem catS_read (l : List Int) (hl : ∀ v ∈ l, rightV (magV v) = true) (j : Nat) (hj : j < l.length) :
    goS (unp (packZ (catS l))) (catS (l.take j)).length = (l[j], true, (catS (l.take (j + 1))).length) := by
  have ht : l.take (j + 1) = l.take j ++ [l[j]] := by rw [List.take_add_one, List.getElem?_eq_getElem hj]; rfl
  have hsplit : catS l = catS (l.take j) ++ (signB l[j] ++ catS (l.drop (j + 1))) := by
    have h1 : l = l.take j ++ (l[j] :: l.drop (j + 1)) := by rw [← List.drop_eq_getElem_cons hj, List.take_append_drop]
    exact (congrArg catS h1).trans (by unfold catS; rw [List.flatMap_append, List.flatMap_cons])
  rw [sign_read _ _ l[j] (hl _ (List.getElem_mem hj)) (fun t ht => by
    rw [nextL_pack', hsplit, nextL_right (by omega), show (catS (l.take j)).length + t - (catS (l.take j)).length = t by omega, nextL_left ht])]
  rw [ht, catS_snoc, List.length_append]
theorem catS_pre (l : List Int) (j : Nat) : (catS (l.take j)).length ≤ (catS l).length := by
  have h1 : catS l = catS (l.take j) ++ catS (l.drop j) := by
    exact (congrArg catS (List.take_append_drop j l).symm).trans (by unfold catS; rw [List.flatMap_append])
  rw [h1, List.length_append]
  omega
/-- The numbers of the first k that have a code. -/
def hadK (l : List Int) (k : Nat) : List Int := (l.take (min k 60)).filter fun v => rightV (magV v)
theorem hadK_ok (l : List Int) (k : Nat) : ∀ v ∈ hadK l k, rightV (magV v) = true := fun v hv => by
  unfold hadK at hv
  exact (List.mem_filter.1 hv).2
theorem hadK_len (l : List Int) (k : Nat) : (hadK l k).length ≤ 60 := by
  unfold hadK
  have := List.length_filter_le (fun v => rightV (magV v)) (l.take (min k 60))
  rw [List.length_take] at this
  omega
theorem hadK_step (l : List Int) (k : Nat) (hk : k < l.length) (h60 : k < 60) : hadK l (k + 1) = if rightV (magV (rdn l k)) = true then hadK l k ++ [rdn l k] else hadK l k := by
  unfold hadK
  rw [show min (k + 1) 60 = k + 1 by omega, show min k 60 = k by omega, List.take_add_one, List.getElem?_eq_getElem hk, List.filter_append]
  have e : rdn l k = l[k] := by simp [rdn, List.getD_eq_getElem?_getD, hk]
  rw [e]
  by_cases h : rightV (magV l[k]) = true
  · simp [h]
  · simp [h]
theorem hadK_stop (l : List Int) (k : Nat) (h60 : 60 ≤ k) : hadK l (k + 1) = hadK l k := by
  unfold hadK
  rw [show min (k + 1) 60 = min k 60 by omega]

theorem goS_pos (bs : List Bool) (i : Nat) : i ≤ (goS bs i).2.2 := by
  have h := goG_place bs 31 i 1
  have e : goS bs i = if (goG bs i 1 31).1 = 0 then goG bs i 1 31 else (if nextL bs (goG bs i 1 31).2.2 then -(goG bs i 1 31).1 else (goG bs i 1 31).1, (goG bs i 1 31).2.1, (goG bs i 1 31).2.2 + 1) := rfl
  rw [e]
  split
  · omega
  · simp only; omega
theorem ovL_none' (bs : List Bool) (i o : Nat) : ∀ c, i + c ≤ bs.length → ovL bs i o c = o := by
  intro c
  induction c with
  | zero => intro _; rfl
  | succ c ih =>
    intro h
    show overL bs (i + c) (ovL bs i o c) = o
    unfold overL
    rw [if_pos (by omega), ih (by omega)]

end Go.Proofs.Ytgdlleoefncikaa
