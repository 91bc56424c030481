/- What Get and GetSigned of package golomb answer, and the document's. -/
import Derived.Test.YtgdlleoefncikaaBitsF
import Derived.Test.YtgdlleoefncikaaRef1c
namespace Go.Proofs.Ytgdlleoefncikaa
open Go.RowKit
set_option linter.unusedVariables false
set_option linter.unusedSimpArgs false

def bitI (bs : List Bool) (i : Nat) : Int := if nextL bs i then 1 else 0
/-- A number read from place i on, where x has been read of it and at most f pairs follow: the number, whether it ends, the place behind it. -/
def goG (bs : List Bool) (i : Nat) (x : Int) : Nat → Int × Bool × Nat
  | 0 => if nextL bs i then (x - 1, true, i + 1) else (0, false, i + 1)
  | f + 1 => if nextL bs i then (x - 1, true, i + 1) else goG bs (i + 2) (2 * x + bitI bs (i + 1)) f
theorem goG_yes {bs : List Bool} {i : Nat} {x : Int} (f : Nat) (h : nextL bs i = true) : goG bs i x f = (x - 1, true, i + 1) := by
  cases f <;> simp [goG, h]
theorem goG_no {bs : List Bool} {i : Nat} {x : Int} (f : Nat) (h : nextL bs i = false) : goG bs i x (f + 1) = goG bs (i + 2) (2 * x + bitI bs (i + 1)) f := by simp [goG, h]
theorem goG_end {bs : List Bool} {i : Nat} {x : Int} (h : nextL bs i = false) : goG bs i x 0 = (0, false, i + 1) := by simp [goG, h]
theorem goG_place (bs : List Bool) (f : Nat) : ∀ (i : Nat) (x : Int), i + 1 ≤ (goG bs i x f).2.2 ∧ (goG bs i x f).2.2 ≤ i + 2 * f + 1 := by
  induction f with
  | zero => intro i x; unfold goG; split <;> simp
  | succ f ih =>
    intro i x
    unfold goG
    split
    · simp
    · have := ih (i + 2) (2 * x + bitI bs (i + 1)); omega
theorem goG_bd (bs : List Bool) (f : Nat) : ∀ (i : Nat) (x m : Int), 1 ≤ x → x ≤ m → 0 ≤ (goG bs i x f).1 ∧ (goG bs i x f).1 ≤ (m + 1) * 2 ^ f - 1 := by
  induction f with
  | zero => intro i x m h1 h2; unfold goG; split <;> simp <;> omega
  | succ f ih =>
    intro i x m h1 h2
    have hp : (1 : Int) ≤ 2 ^ f := Int.pow_pos (by decide)
    unfold goG
    split
    · rw [Int.pow_succ]
      have : (m + 1) * 1 ≤ (m + 1) * (2 ^ f * 2) := Int.mul_le_mul_of_nonneg_left (by omega) (by omega)
      simp only
      omega
    · have hb : bitI bs (i + 1) = 0 ∨ bitI bs (i + 1) = 1 := by unfold bitI; split <;> simp
      have := ih (i + 2) (2 * x + bitI bs (i + 1)) (2 * m + 1) (by omega) (by omega)
      rw [Int.pow_succ]
      have e : (2 * m + 1 + 1) * 2 ^ f = (m + 1) * (2 ^ f * 2) := by rw [show 2 * m + 1 + 1 = (m + 1) * 2 by omega, Int.mul_assoc, Int.mul_comm 2]
      rw [← e]
      exact this
theorem ovL_add (bs : List Bool) (i o k : Nat) : ∀ j, ovL bs i o (k + j) = ovL bs (i + k) (ovL bs i o k) j := by
  intro j
  induction j with
  | zero => rfl
  | succ j ih =>
    show overL bs (i + (k + j)) (ovL bs i o (k + j)) = overL bs (i + k + j) (ovL bs (i + k) (ovL bs i o k) j)
    rw [ih, Nat.add_assoc]
theorem i64_or1 (v : Int) (h0 : 0 ≤ v) (h1 : v < 4611686018427387904) : bits .or .i64 (2 * v) 1 = 2 * v + 1 := by
  obtain ⟨n, rfl⟩ := Int.eq_ofNat_of_zero_le h0
  have e : bits .or .i64 (2 * (n : Int)) 1 = IntKind.i64.wrap ((BitVec.ofInt 64 (2 * (n : Int)) ||| BitVec.ofInt 64 1).toNat : Int) := rfl
  have h2 : (BitVec.ofInt 64 (2 * (n : Int))).toNat = 2 * n := by
    rw [BitVec.toNat_ofInt]
    have : ((2 ^ 64 : Nat) : Int) = 18446744073709551616 := by decide
    rw [this]
    omega
  rw [e, BitVec.toNat_or, h2, show (BitVec.ofInt 64 1).toNat = 1 by decide]
  have h3 : 2 * n ||| 1 = 2 * n + 1 := by
    have := Nat.two_pow_add_eq_or_of_lt (i := 1) (b := 1) (by decide) n
    simpa using this.symm
  rw [h3, IntKind.wrap_i64]
  omega
theorem ret_pair {x y : Int} {b c : Bool} (h : x = y) (k : b = c) : Ending.returned (.tuple #[.int .i64 x, .bool b]) = .returned (.tuple #[.int .i64 y, .bool c]) := by rw [h, k]

set_option maxRecDepth 100000 in
set_option maxHeartbeats 6400000 in
theorem gget_c (B g : Nat) (xs : List Int) (a o : Nat) (w : World) (h : RdI w B g xs a o) (h8 : Byte8 xs) (hl : xs.length ≤ 1000000) (ha : a ≤ 1000000) (ho : o ≤ 1000000) :
    Calls Try.prog 46 #[.pointer (some ⟨g, 0, none⟩)] w fun e w' => e = .returned (.tuple #[.int .i64 (goG (unp xs) a 1 31).1, .bool (goG (unp xs) a 1 31).2.1]) ∧
      RdI w' B g xs (goG (unp xs) a 1 31).2.2 (ovL (unp xs) a o ((goG (unp xs) a 1 31).2.2 - a)) ∧ RGoes w w' g := by
  obtain ⟨T, hT⟩ : ∃ T, unp xs = T := ⟨_, rfl⟩
  obtain ⟨R, hR⟩ : ∃ R, goG T a 1 31 = R := ⟨_, rfl⟩
  have HT := Lib.hid hT
  have HR := Lib.hid hR
  rw [hT, hR]
  have Hw := Lib.hid h
  have H8 := Lib.hid h8
  clear h h8 hT hR
  go_enter Try.func46, Try.ntmps46
  go_wp2_with fail
  go_loopw [4, 5] (fun v i wr => ∃ (k : Nat) (x : Int), k ≤ 31 ∧ i = .int .i64 k ∧ v = .int .i64 x ∧ 1 ≤ x ∧ x < 2 ^ (k + 1) ∧ goG T (a + 2 * k) x (31 - k) = R ∧ RdI wr B g xs (a + 2 * k) (ovL T a o (2 * k)) ∧ RGoes w wr g) (fun v i _ => (31 - intOf i).toNat)
  case atStart => exact ⟨0, 1, by omega, rfl, rfl, by omega, by decide, HR.out, Hw.out, RGoes.refl _ _⟩
  case round =>
    obtain ⟨k, x, hk, rfl, rfl, hx1, hx2, hG, hr, hg⟩ := hrel
    have Hr := Lib.hid hr
    have Hg := Lib.hid hg
    have HG := Lib.hid hG
    have hob := ovL_bd T a o (2 * k)
    have hxb : x < 4294967296 := by
      have h1 : (2 : Nat) ^ (k + 1) ≤ 2 ^ 32 := Nat.pow_le_pow_right (by decide) (by omega)
      have h2 : ((2 : Int) ^ (k + 1)) = ((2 ^ (k + 1) : Nat) : Int) := by simp
      have h3 : (2 : Nat) ^ 32 = 4294967296 := by decide
      omega
    have Hx2 := Lib.hid hx2
    have Hbit := Lib.hid (rbit_c B g xs (a + 2 * k) (ovL T a o (2 * k)) wr Hr.out H8.out hl (by omega) (by omega))
    rw [HT.out] at Hbit
    have Hov1 : Hid (overL T (a + 2 * k) (ovL T a o (2 * k)) = ovL T a o (2 * k + 1)) := Lib.hid rfl
    rw [Hov1.out] at Hbit
    clear hr hg hG hx2
    cases hb : nextL T (a + 2 * k)
    · rw [hb] at Hbit
      by_cases hlt : k < 31
      · have hG2 : goG T (a + 2 * (k + 1)) (2 * x + bitI T (a + 2 * k + 1)) (31 - (k + 1)) = R := by
          have := HG.out
          rw [show 31 - k = 31 - (k + 1) + 1 by omega, goG_no _ hb] at this
          exact this
        have HG2 := Lib.hid hG2
        clear hG2
        have hwx : IntKind.i64.wrap (x * 2) = 2 * x := by rw [IntKind.wrap_i64]; omega
        have hor := i64_or1 x (by omega) (by omega)
        have hob2 := ovL_bd T a o (2 * k + 1)
        have Hov2 : Hid (overL T (a + 2 * k + 1) (ovL T a o (2 * k + 1)) = ovL T a o (2 * (k + 1))) := Lib.hid rfl
        have Hx4 : Hid (2 * x + 1 < 2 ^ (k + 1 + 1)) := Lib.hid (by have := Hx2.out; rw [Int.pow_succ]; omega)
        go_wp2_with fail
        refine Hbit.out.mono ?_
        rintro e w2 ⟨rfl, hr2, hg2⟩
        have Hr2 := Lib.hid hr2
        have Hg2 := Lib.hid (hg2)
        have Hbit2 := Lib.hid (rbit_c B g xs (a + 2 * k + 1) (ovL T a o (2 * k + 1)) w2 hr2 H8.out hl (by omega) (by omega))
        rw [HT.out, Hov2.out] at Hbit2
        clear hr2 hg2 hb
        cases hb2 : nextL T (a + 2 * k + 1)
        · rw [hb2] at Hbit2
          have Hb3 : Hid (bitI T (a + 2 * k + 1) = 0) := Lib.hid (by unfold bitI; rw [hb2]; rfl)
          clear hb2
          go_wp2_with fail
          refine Hbit2.out.mono ?_
          rintro e w3 ⟨rfl, hr3, hg3⟩
          have Hr3 := Lib.hid hr3
          have Hg3 := Lib.hid hg3
          clear hr3 hg3
          go_wp2_with fail
          go_roundw
          case rel => exact ⟨k + 1, 2 * x, by omega, by go_num, rfl, by omega, by have := Hx4.out; omega, by have := HG2.out; rw [Hb3.out, Int.add_zero] at this; exact this, Hr3.out, RGoes.trans Hg.out (RGoes.trans Hg2.out Hg3.out)⟩
          case measure => simp [intOf]; omega
        · rw [hb2] at Hbit2
          have Hb3 : Hid (bitI T (a + 2 * k + 1) = 1) := Lib.hid (by unfold bitI; rw [hb2]; rfl)
          clear hb2
          go_wp2_with fail
          refine Hbit2.out.mono ?_
          rintro e w3 ⟨rfl, hr3, hg3⟩
          have Hr3 := Lib.hid hr3
          have Hg3 := Lib.hid hg3
          clear hr3 hg3
          go_wp2_with fail
          go_roundw
          case rel => exact ⟨k + 1, 2 * x + 1, by omega, by go_num, rfl, by omega, Hx4.out, by have := HG2.out; rw [Hb3.out] at this; exact this, Hr3.out, RGoes.trans Hg.out (RGoes.trans Hg2.out Hg3.out)⟩
          case measure => simp [intOf]; omega
      · obtain rfl : k = 31 := by omega
        have HR2 : Hid (R = (0, false, a + 62 + 1)) := Lib.hid (by rw [← HG.out]; exact goG_end hb)
        clear hb
        go_wp2_with fail
        refine Hbit.out.mono ?_
        rintro e w2 ⟨rfl, hr2, hg2⟩
        have Hr2 := Lib.hid hr2
        have Hg2 := Lib.hid hg2
        clear hr2 hg2
        go_wp2_with fail
        go_ret2
        rw [HR2.out]
        exact ⟨rfl, by have := Hr2.out; rw [show a + 62 + 1 - a = 2 * 31 + 1 by omega]; exact this, RGoes.trans Hg.out Hg2.out⟩
    · rw [hb] at Hbit
      have HR2 : Hid (R = (x - 1, true, a + 2 * k + 1)) := Lib.hid (by rw [← HG.out]; exact goG_yes _ hb)
      clear hb
      by_cases hlt : k < 31
      · go_wp2_with fail
        refine Hbit.out.mono ?_
        rintro e w2 ⟨rfl, hr2, hg2⟩
        have Hr2 := Lib.hid hr2
        have Hg2 := Lib.hid hg2
        clear hr2 hg2
        go_wp2_with fail
        go_ret2
        rw [HR2.out]
        exact ⟨rfl, by have := Hr2.out; rw [show a + 2 * k + 1 - a = 2 * k + 1 by omega]; exact this, RGoes.trans Hg.out Hg2.out⟩
      · obtain rfl : k = 31 := by omega
        go_wp2_with fail
        refine Hbit.out.mono ?_
        rintro e w2 ⟨rfl, hr2, hg2⟩
        have Hr2 := Lib.hid hr2
        have Hg2 := Lib.hid hg2
        clear hr2 hg2
        go_wp2_with fail
        go_ret2
        rw [HR2.out]
        exact ⟨rfl, by have := Hr2.out; rw [show a + 2 * 31 + 1 - a = 2 * 31 + 1 by omega]; exact this, RGoes.trans Hg.out Hg2.out⟩
theorem gget_nil (w : World) :
    Calls Try.prog 46 #[.pointer none] w fun e w' => e = .returned (.tuple #[.int .i64 0, .bool false]) ∧ w = w' := by
  go_enter Try.func46, Try.ntmps46
  go_wp2_with fail
  go_loopw [4, 5] (fun v i wr => ∃ (k : Nat) (x : Int), k ≤ 31 ∧ i = .int .i64 k ∧ v = .int .i64 x ∧ w = wr) (fun v i _ => (31 - intOf i).toNat)
  case atStart => exact ⟨0, 1, by omega, rfl, rfl, rfl⟩
  case round =>
    obtain ⟨k, x, hk, rfl, rfl, rfl⟩ := hrel
    by_cases hlt : k < 31
    · go_wp2_with fail
      refine (rbit_nil _).mono ?_
      rintro e w' ⟨rfl, rfl⟩
      go_wp2_with fail
      refine (rbit_nil _).mono ?_
      rintro e w' ⟨rfl, rfl⟩
      go_wp2_with fail
      go_roundw
      case rel => exact ⟨k + 1, _, by omega, by go_num, rfl, by trivial⟩
      case measure => simp [intOf]; omega
    · obtain rfl : k = 31 := by omega
      go_wp2_with fail
      refine (rbit_nil _).mono ?_
      rintro e w' ⟨rfl, rfl⟩
      go_wp2_with fail
      go_ret2
      exact ⟨rfl, rfl⟩

end Go.Proofs.Ytgdlleoefncikaa
