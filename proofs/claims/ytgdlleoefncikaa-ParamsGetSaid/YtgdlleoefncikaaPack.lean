/- Bits packed into bytes, the greatest first. -/
import Derived.Test.YtgdlleoefncikaaWords
import Derived.Laws.BitsAllLaws
namespace Go.Proofs.Ytgdlleoefncikaa
open Go.RowKit
set_option linter.unusedVariables false
set_option linter.unusedSimpArgs false

def bitZ (bs : List Bool) (k : Nat) : Int := if bs.getD k false then 1 else 0
def byteZ (bs : List Bool) (i : Nat) : Int := bitZ bs (8 * i) * 128 + bitZ bs (8 * i + 1) * 64 + bitZ bs (8 * i + 2) * 32 + bitZ bs (8 * i + 3) * 16 + bitZ bs (8 * i + 4) * 8 + bitZ bs (8 * i + 5) * 4 + bitZ bs (8 * i + 6) * 2 + bitZ bs (8 * i + 7)
def packZ (bs : List Bool) : List Int := tab ((bs.length + 7) / 8) (byteZ bs)
theorem packZ_length (bs : List Bool) : (packZ bs).length = (bs.length + 7) / 8 := tab_length _ _
theorem bitZ_01 (bs : List Bool) (k : Nat) : bitZ bs k = 0 ∨ bitZ bs k = 1 := by unfold bitZ; split <;> simp
theorem bitZ_ge (bs : List Bool) {k : Nat} (h : bs.length ≤ k) : bitZ bs k = 0 := by
  unfold bitZ
  rw [List.getD_eq_getElem?_getD, List.getElem?_eq_none h]
  rfl
theorem bitZ_app (bs : List Bool) (b : Bool) (k : Nat) : bitZ (bs ++ [b]) k = if k = bs.length then (if b then 1 else 0) else bitZ bs k := by
  unfold bitZ
  rw [List.getD_eq_getElem?_getD, List.getD_eq_getElem?_getD]
  by_cases h : k < bs.length
  · simp only [List.getElem?_append_left h, show ¬ k = bs.length by omega, if_false]
  · by_cases e : k = bs.length
    · subst e; simp
    · rw [List.getElem?_eq_none (by simp; omega), List.getElem?_eq_none (by omega)]; simp [e]
theorem bitZ_false (bs : List Bool) (k : Nat) : bitZ (bs ++ [false]) k = bitZ bs k := by
  rw [bitZ_app]
  split
  · subst k; rw [bitZ_ge bs (Nat.le_refl _)]; rfl
  · rfl
theorem byteZ_bd (bs : List Bool) (i : Nat) : 0 ≤ byteZ bs i ∧ byteZ bs i ≤ 255 := by
  unfold byteZ
  have h0 := bitZ_01 bs (8 * i)
  have h1 := bitZ_01 bs (8 * i + 1)
  have h2 := bitZ_01 bs (8 * i + 2)
  have h3 := bitZ_01 bs (8 * i + 3)
  have h4 := bitZ_01 bs (8 * i + 4)
  have h5 := bitZ_01 bs (8 * i + 5)
  have h6 := bitZ_01 bs (8 * i + 6)
  have h7 := bitZ_01 bs (8 * i + 7)
  omega
theorem byteZ_false (bs : List Bool) (i : Nat) : byteZ (bs ++ [false]) i = byteZ bs i := by unfold byteZ; simp only [bitZ_false]
theorem byteZ_ge (bs : List Bool) {i : Nat} (h : bs.length ≤ 8 * i) : byteZ bs i = 0 := by
  unfold byteZ
  rw [bitZ_ge bs (by omega), bitZ_ge bs (by omega), bitZ_ge bs (by omega), bitZ_ge bs (by omega), bitZ_ge bs (by omega), bitZ_ge bs (by omega), bitZ_ge bs (by omega), bitZ_ge bs (by omega)]
  rfl
/-- A nought more: a new byte, or none. -/
theorem pack_new (bs : List Bool) (h : bs.length % 8 = 0) : packZ (bs ++ [false]) = packZ bs ++ [0] := by
  unfold packZ
  rw [show ((bs ++ [false]).length + 7) / 8 = (bs.length + 7) / 8 + 1 by simp; omega]
  unfold tab
  rw [List.range_succ, List.map_append]
  congr 1
  · exact List.map_congr_left fun a _ => byteZ_false bs a
  · simp only [List.map_cons, List.map_nil]
    rw [byteZ_false, byteZ_ge bs (by omega)]
theorem pack_old (bs : List Bool) (h : bs.length % 8 ≠ 0) : packZ (bs ++ [false]) = packZ bs := by
  unfold packZ
  rw [show ((bs ++ [false]).length + 7) / 8 = (bs.length + 7) / 8 by simp; omega]
  exact List.map_congr_left fun a _ => byteZ_false bs a
/-- What a bit is worth at place r of a byte. -/
def worth (r : Nat) : Int := if r = 0 then 128 else if r = 1 then 64 else if r = 2 then 32 else if r = 3 then 16 else if r = 4 then 8 else if r = 5 then 4 else if r = 6 then 2 else 1
theorem worth_pow {r : Nat} (h : r < 8) : worth r = 2 ^ (7 - r) := by
  rcases (show r = 0 ∨ r = 1 ∨ r = 2 ∨ r = 3 ∨ r = 4 ∨ r = 5 ∨ r = 6 ∨ r = 7 by omega) with rfl | rfl | rfl | rfl | rfl | rfl | rfl | rfl <;> rfl
theorem byteZ_true (bs : List Bool) (i : Nat) : byteZ (bs ++ [true]) i = if i = bs.length / 8 then byteZ bs i + worth (bs.length % 8) else byteZ bs i := by
  by_cases hi : i = bs.length / 8
  · rw [if_pos hi]
    have hz : bitZ bs bs.length = 0 := bitZ_ge bs (Nat.le_refl _)
    unfold byteZ worth
    simp only [bitZ_app]
    rcases (show bs.length = 8 * i ∨ bs.length = 8 * i + 1 ∨ bs.length = 8 * i + 2 ∨ bs.length = 8 * i + 3 ∨ bs.length = 8 * i + 4 ∨ bs.length = 8 * i + 5 ∨ bs.length = 8 * i + 6 ∨ bs.length = 8 * i + 7 by omega) with e | e | e | e | e | e | e | e <;>
      (rw [e] at hz ⊢; simp [hz, Nat.mul_add_mod]; try omega)
  · rw [if_neg hi]
    unfold byteZ
    simp only [bitZ_app]
    rw [if_neg (by omega), if_neg (by omega), if_neg (by omega), if_neg (by omega), if_neg (by omega), if_neg (by omega), if_neg (by omega), if_neg (by omega)]
/-- A one more: as a nought more, and the byte's bit set. -/
theorem pack_one (bs : List Bool) : packZ (bs ++ [true]) = (packZ (bs ++ [false])).set (bs.length / 8) (rdn (packZ (bs ++ [false])) (bs.length / 8) + worth (bs.length % 8)) := by
  have hl : (packZ (bs ++ [false])).length = (bs.length + 8) / 8 := by rw [packZ_length]; simp; omega
  have hr : ∀ j, j < (bs.length + 8) / 8 → rdn (packZ (bs ++ [false])) j = byteZ bs j := fun j hj => by
    unfold packZ
    rw [rdn_tab _ _ (by simp; omega), byteZ_false]
  apply ext_rdn
  · rw [List.length_set, hl, packZ_length]; simp; omega
  · intro j hj
    rw [packZ_length] at hj
    simp only [List.length_append, List.length_cons, List.length_nil] at hj
    rw [rdn_set _ _ _ _ (by rw [hl]; omega), hr _ (by omega), hr _ (by omega)]
    unfold packZ
    rw [rdn_tab _ _ (by simp; omega), byteZ_true]
    split
    · rename_i e; rw [e]
    · rfl
theorem byteZ_low (bs : List Bool) : byteZ bs (bs.length / 8) % (2 * worth (bs.length % 8)) = 0 := by
  unfold byteZ worth
  have hz : ∀ k, bs.length ≤ k → bitZ bs k = 0 := fun k hk => bitZ_ge bs hk
  obtain ⟨i, hi⟩ : ∃ i, i = bs.length / 8 := ⟨_, rfl⟩
  rw [← hi]
  rcases (show bs.length = 8 * i ∨ bs.length = 8 * i + 1 ∨ bs.length = 8 * i + 2 ∨ bs.length = 8 * i + 3 ∨ bs.length = 8 * i + 4 ∨ bs.length = 8 * i + 5 ∨ bs.length = 8 * i + 6 ∨ bs.length = 8 * i + 7 by omega) with e | e | e | e | e | e | e | e <;>
    (simp only [e, Nat.mul_add_mod, Nat.mul_mod_right] at hz ⊢; try rw [hz (8 * i) (by omega)]) <;> (try rw [hz (8 * i + 1) (by omega)]) <;> (try rw [hz (8 * i + 2) (by omega)]) <;> (try rw [hz (8 * i + 3) (by omega)]) <;> (try rw [hz (8 * i + 4) (by omega)]) <;> (try rw [hz (8 * i + 5) (by omega)]) <;> (try rw [hz (8 * i + 6) (by omega)]) <;> (try rw [hz (8 * i + 7) (by omega)]) <;> simp <;> omega

theorem or_nat : ∀ r : Fin 8, ∀ x : Fin 256, x.val % (2 * 2 ^ (7 - r.val)) = 0 → x.val ||| 2 ^ (7 - r.val) = x.val + 2 ^ (7 - r.val) := by decide +kernel
theorem worth_nat {r : Nat} (h : r < 8) : worth r = ((2 ^ (7 - r) : Nat) : Int) := by
  rcases (show r = 0 ∨ r = 1 ∨ r = 2 ∨ r = 3 ∨ r = 4 ∨ r = 5 ∨ r = 6 ∨ r = 7 by omega) with rfl | rfl | rfl | rfl | rfl | rfl | rfl | rfl <;> rfl
theorem worth_bd (r : Nat) : 1 ≤ worth r ∧ worth r ≤ 128 := by unfold worth; split <;> (try split) <;> (try split) <;> (try split) <;> (try split) <;> (try split) <;> (try split) <;> omega
theorem or_worth {r : Nat} (h : r < 8) {x : Int} (h0 : 0 ≤ x) (h1 : x ≤ 255) (h2 : x % (2 * worth r) = 0) : bits .or .u8 x (worth r) = x + worth r := by
  obtain ⟨n, rfl⟩ := Int.eq_ofNat_of_zero_le h0
  have hw := worth_bd r
  rw [u8_or _ _ h0 (by omega) (by omega) (by omega)]
  rw [worth_nat h] at h2 ⊢
  have h3 := or_nat ⟨r, h⟩ ⟨n, by omega⟩ (by
    show n % (2 * 2 ^ (7 - r)) = 0
    have : ((n % (2 * 2 ^ (7 - r)) : Nat) : Int) = 0 := by rw [← h2]; simp
    omega)
  rw [Int.toNat_natCast, Int.toNat_natCast]
  exact_mod_cast h3
theorem shr_worth {r : Nat} (h : r < 8) : (128 : Int) / 2 ^ r = worth r := by
  rcases (show r = 0 ∨ r = 1 ∨ r = 2 ∨ r = 3 ∨ r = 4 ∨ r = 5 ∨ r = 6 ∨ r = 7 by omega) with rfl | rfl | rfl | rfl | rfl | rfl | rfl | rfl <;> decide
theorem pack_last (bs : List Bool) : rdn (packZ (bs ++ [false])) (bs.length / 8) = byteZ bs (bs.length / 8) := by
  unfold packZ
  rw [rdn_tab _ _ (by simp; omega), byteZ_false]

end Go.Proofs.Ytgdlleoefncikaa
