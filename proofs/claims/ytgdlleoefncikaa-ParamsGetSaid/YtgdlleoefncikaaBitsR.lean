/- What a reader of bits does. -/
import Derived.Test.YtgdlleoefncikaaBitsC
namespace Go.Proofs.Ytgdlleoefncikaa
open Go.RowKit
set_option linter.unusedVariables false
set_option linter.unusedSimpArgs false

/-- Bit i of bytes. -/
def bitU (xs : List Int) (i : Nat) : Bool := rdn xs (i / 8) / 2 ^ (7 - i % 8) % 2 == 1
/-- All bits of bytes. -/
def unp (xs : List Int) : List Bool := (List.range (8 * xs.length)).map (bitU xs)
theorem unp_length (xs : List Int) : (unp xs).length = 8 * xs.length := by simp [unp]
/-- The bit at a place of a list, past its end a nought; how many noughts were told past the end. -/
def nextL (bs : List Bool) (i : Nat) : Bool := bs.getD i false
def overL (bs : List Bool) (i o : Nat) : Nat := if i < bs.length then o else o + 1
theorem nextL_unp {xs : List Int} {i : Nat} (h : i < 8 * xs.length) : nextL (unp xs) i = bitU xs i := by
  unfold nextL unp
  simp [List.getD_eq_getElem?_getD, h]
theorem nextL_end {bs : List Bool} {i : Nat} (h : bs.length ≤ i) : nextL bs i = false := by
  unfold nextL
  rw [List.getD_eq_getElem?_getD, List.getElem?_eq_none h]
  rfl
/-- The number of k bits from place i on; the noughts told past the end. -/
def valL (bs : List Bool) (i : Nat) : Nat → Int
  | 0 => 0
  | k + 1 => 2 * valL bs i k + (if nextL bs (i + k) then 1 else 0)
def ovL (bs : List Bool) (i o : Nat) : Nat → Nat
  | 0 => o
  | k + 1 => overL bs (i + k) (ovL bs i o k)
theorem valL_bd (bs : List Bool) (i k : Nat) : 0 ≤ valL bs i k ∧ valL bs i k < 2 ^ k := by
  induction k with
  | zero => simp [valL]
  | succ k ih =>
    unfold valL
    rw [Int.pow_succ]
    split <;> omega
theorem ovL_bd (bs : List Bool) (i o k : Nat) : o ≤ ovL bs i o k ∧ ovL bs i o k ≤ o + k := by
  induction k with
  | zero => simp [ovL]
  | succ k ih =>
    unfold ovL overL
    split <;> omega
theorem shl_and_nat : ∀ r : Fin 8, ∀ x : Fin 256, (x.val * 2 ^ r.val % 256 &&& 128 != 0) = (x.val / 2 ^ (7 - r.val) % 2 == 1) := by decide +kernel
theorem shl_and {r : Nat} (h : r < 8) {x : Int} (h0 : 0 ≤ x) (h1 : x ≤ 255) : (bits .and .u8 (x * 2 ^ r % 256) 128 != 0) = (x / 2 ^ (7 - r) % 2 == 1) := by
  obtain ⟨n, rfl⟩ := Int.eq_ofNat_of_zero_le h0
  rw [u8_and _ _ (by omega) (by omega) (by omega) (by omega)]
  have h3 := shl_and_nat ⟨r, h⟩ ⟨n, by omega⟩
  have e1 : ((n : Int) * 2 ^ r % 256).toNat = n * 2 ^ r % 256 := by
    have : (n : Int) * 2 ^ r % 256 = ((n * 2 ^ r % 256 : Nat) : Int) := by simp
    rw [this, Int.toNat_natCast]
  have e2 : (n : Int) / 2 ^ (7 - r) % 2 = ((n / 2 ^ (7 - r) % 2 : Nat) : Int) := by simp
  rw [e1, e2, show (128 : Int).toNat = 128 from rfl]
  have a1 : ∀ m : Nat, (((m : Nat) : Int) != 0) = (m != 0) := fun m => by
    rw [Bool.eq_iff_iff]; simp
  have a2 : ∀ m : Nat, (((m : Nat) : Int) == 1) = (m == 1) := fun m => by
    rw [Bool.eq_iff_iff]; simp; omega
  rw [a1, a2]
  exact h3
def Byte8 (xs : List Int) : Prop := ∀ j, 0 ≤ rdn xs j ∧ rdn xs j ≤ 255
/-- Only block g is touched. -/
def RGoes (w w' : World) (g : Nat) : Prop := w.grownBy w' (some g)
theorem RGoes.refl (w : World) (g : Nat) : RGoes w w g := World.grownBy.refl w _
theorem RGoes.trans {a b c : World} {g : Nat} (h : RGoes a b g) (k : RGoes b c g) : RGoes a c g :=
  ⟨k.os.trans h.os, k.tape.trans h.tape, k.output.trans h.output, Nat.le_trans h.size k.size, fun i hi h1 => (k.block i (Nat.lt_of_lt_of_le hi h.size) h1).trans (h.block i hi h1)⟩

set_option maxRecDepth 100000 in
set_option maxHeartbeats 3200000 in
theorem rbit_c (B g : Nat) (xs : List Int) (a o : Nat) (w : World) (h : RdI w B g xs a o) (h8 : Byte8 xs) (hl : xs.length ≤ 1000000) (ha : a ≤ 100000000) (ho : o ≤ 100000000) :
    Calls Try.prog 44 #[.pointer (some ⟨g, 0, none⟩)] w fun e w' => e = .returned (.bool (nextL (unp xs) a)) ∧ RdI w' B g xs (a + 1) (overL (unp xs) a o) ∧ RGoes w w' g := by
  obtain ⟨rv, hB, hg, hro⟩ := h
  have hc0 := hg.cell 0
  have hc1 := hg.cell 1
  have hc2 := hg.cell 2
  simp at hc0 hc1 hc2
  have hf0 := hg.frozen 0
  have hf1 := hg.frozen 1
  have hf2 := hg.frozen 2
  have hlt := hg.lt
  have hne : rv.ownBlock ≠ some g := own_blk_ne hro hg (by decide)
  have Hne := Lib.hid hne
  have Hg := Lib.hid hg
  have Ho := Lib.hid hro
  by_cases hin : a < 8 * xs.length
  · have Hn : Hid (nextL (unp xs) a = bitU xs a) := Lib.hid (nextL_unp hin)
    have Hv : Hid (overL (unp xs) a o = o) := Lib.hid (if_pos (by rw [unp_length]; exact hin))
    rw [Hn.out, Hv.out]
    obtain ⟨k1, c1, rfl, hBk, hkl, hkc, hkf⟩ := hro.formr (by omega)
    have hkg : k1 ≠ g := fun e => hne (by rw [e]; rfl)
    obtain ⟨q, hq⟩ : ∃ q, a / 8 = q := ⟨_, rfl⟩
    obtain ⟨r, hr⟩ : ∃ r, a % 8 = r := ⟨_, rfl⟩
    have hkc := hkc q (by omega)
    have hb := h8 q
    obtain ⟨x, hx⟩ : ∃ x, rdn xs q = x := ⟨_, rfl⟩
    rw [hx] at hkc hb
    have Hbit : Hid (bitU xs a = (x / 2 ^ (7 - r) % 2 == 1)) := Lib.hid (by unfold bitU; rw [hq, hr, hx])
    rw [Hbit.out]
    have hq1 : (a : Int) / 8 = (q : Int) := by omega
    have hr1 : (a : Int) % 8 = (r : Int) := by omega
    have hr8 : r < 8 := by omega
    have hql : (q : Int) < (xs.length : Int) := by omega
    have hi1 : (a : Int) < 8 * (xs.length : Int) := by omega
    clear hne hg hro hkf hq hr hx hin
    go_enter Try.func44, Try.ntmps44
    go_wp2_with fail
    go_ret
    refine ⟨ret_bool (shl_and hr8 hb.1 hb.2), ⟨_, hB, ?_, Ho.out.far (p := ⟨g, 1, none⟩) Hne.out _⟩, only_setCell (World.grownBy.refl w _) (.inl rfl) _⟩
    have := Hg.out.set_ 1 (.int .i64 ((a : Int) + 1))
    simpa using this
  · have Hn : Hid (nextL (unp xs) a = false) := Lib.hid (nextL_end (by rw [unp_length]; omega))
    have Hv : Hid (overL (unp xs) a o = o + 1) := Lib.hid (if_neg (by rw [unp_length]; exact hin))
    rw [Hn.out, Hv.out]
    obtain ⟨A1, c1, rfl, hR⟩ := hro.slice
    have hi1 : 8 * (xs.length : Int) ≤ (a : Int) := by omega
    clear hne hg hro hin hR
    go_enter Try.func44, Try.ntmps44
    go_wp2_with fail
    go_ret
    refine ⟨rfl, ⟨_, hB, ?_, (Ho.out.far (p := ⟨g, 1, none⟩) Hne.out _).far (p := ⟨g, 2, none⟩) Hne.out _⟩, only_setCell (p := ⟨g, 2, none⟩) (only_setCell (p := ⟨g, 1, none⟩) (World.grownBy.refl w _) (.inl rfl) _) (.inl rfl) _⟩
    have := (Hg.out.set_ 1 (.int .i64 ((a : Int) + 1))).set_ 2 (.int .i64 ((o : Int) + 1))
    simpa using this

theorem rbit_nil (w : World) : Calls Try.prog 44 #[.pointer none] w fun e w' => e = .returned (.bool false) ∧ w = w' := by
  go_enter Try.func44, Try.ntmps44
  go_wp2_with fail
  go_ret
  exact ⟨rfl, rfl⟩
theorem rover_c (B g : Nat) (xs : List Int) (a o : Nat) (w : World) (h : RdI w B g xs a o) :
    Calls Try.prog 45 #[.pointer (some ⟨g, 0, none⟩)] w fun e w' => e = .returned (.int .i64 o) ∧ w = w' := by
  obtain ⟨rv, hB, hg, hro⟩ := h
  have hc1 := hg.cell 2
  simp at hc1
  clear hg hro
  go_enter Try.func45, Try.ntmps45
  go_wp2_with fail
  go_ret
  exact ⟨rfl, rfl⟩
theorem rover_nil (w : World) : Calls Try.prog 45 #[.pointer none] w fun e w' => e = .returned (.int .i64 0) ∧ w = w' := by
  go_enter Try.func45, Try.ntmps45
  go_wp2_with fail
  go_ret
  exact ⟨rfl, rfl⟩

theorem u64_or1 (v : Int) (h0 : 0 ≤ v) (h1 : v < 9223372036854775808) : bits .or .u64 (2 * v) 1 = 2 * v + 1 := by
  rw [u64_or _ _ (by omega) (by omega) (by omega) (by omega)]
  obtain ⟨n, rfl⟩ := Int.eq_ofNat_of_zero_le h0
  have e : (2 * (n : Int)).toNat = 2 * n := by omega
  rw [e, show (1 : Int).toNat = 1 from rfl]
  have : 2 * n ||| 1 = 2 * n + 1 := by
    have := Nat.two_pow_add_eq_or_of_lt (i := 1) (b := 1) (by decide) n
    simpa using this.symm
  rw [this]
  omega
theorem RdI.block {w w' : World} {B g : Nat} {xs : List Int} {a o : Nat} (h : RdI w B g xs a o) : g < w.heap.size := by
  obtain ⟨rv, _, h2, _⟩ := h
  exact h2.lt
theorem pow_le64 {k : Nat} (h : k ≤ 63) : (2 : Int) ^ k ≤ 9223372036854775808 := by
  have h1 : (2 : Nat) ^ k ≤ 2 ^ 63 := Nat.pow_le_pow_right (by decide) h
  have h2 : ((2 : Int) ^ k) = ((2 ^ k : Nat) : Int) := by simp
  rw [h2]
  have h3 : (2 : Nat) ^ 63 = 9223372036854775808 := by decide
  omega

end Go.Proofs.Ytgdlleoefncikaa
