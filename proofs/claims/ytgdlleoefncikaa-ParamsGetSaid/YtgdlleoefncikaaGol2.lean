/- What GetSigned of package golomb answers, and the document's Get and GetSigned. -/
import Derived.Test.YtgdlleoefncikaaGol1
namespace Go.Proofs.Ytgdlleoefncikaa
open Go.RowKit
set_option linter.unusedVariables false
set_option linter.unusedSimpArgs false

/-- A number with its sign: the number, whether it ends, the place behind it. -/
def goS (bs : List Bool) (i : Nat) : Int × Bool × Nat :=
  let r := goG bs i 1 31
  if r.1 = 0 then r else (if nextL bs r.2.2 then -r.1 else r.1, r.2.1, r.2.2 + 1)
theorem goG_nought (bs : List Bool) (f : Nat) : ∀ (i : Nat) (x : Int), 1 ≤ x → (goG bs i x f).2.1 = false → (goG bs i x f).1 = 0 := by
  induction f with
  | zero => intro i x hx; unfold goG; split <;> simp
  | succ f ih =>
    intro i x hx
    unfold goG
    split
    · simp
    · intro h
      have hb : bitI bs (i + 1) = 0 ∨ bitI bs (i + 1) = 1 := by unfold bitI; split <;> simp
      exact ih _ _ (by omega) h
theorem goG_bd31 (bs : List Bool) (i : Nat) : 0 ≤ (goG bs i 1 31).1 ∧ (goG bs i 1 31).1 ≤ 4294967295 := by
  have := goG_bd bs 31 i 1 1 (by omega) (by omega)
  have h : ((1 + 1) * 2 ^ 31 : Int) = 4294967296 := by decide
  rw [h] at this
  omega


set_option maxRecDepth 100000 in
set_option maxHeartbeats 6400000 in
theorem rrgget_c (B g : Nat) (T : List Bool) (a o : Nat) (w : World) (h : RrI w B g T a o) (hl : T.length ≤ 10000000) (ha : a ≤ 1000000) (ho : o ≤ 1000000) :
    Calls Try.prog 34 #[.pointer (some ⟨g, 0, none⟩)] w fun e w' => e = .returned (.tuple #[.int .i64 (goG T a 1 31).1, .bool (goG T a 1 31).2.1]) ∧
      RrI w' B g T (goG T a 1 31).2.2 (ovL T a o ((goG T a 1 31).2.2 - a)) ∧ RGoes w w' g := by
  obtain ⟨R, hR⟩ : ∃ R, goG T a 1 31 = R := ⟨_, rfl⟩
  have HR := Lib.hid hR
  rw [hR]
  have Hw := Lib.hid h
  clear h hR
  go_enter Try.func34, Try.ntmps34
  go_wp2_with fail
  go_loopw [4, 5] (fun v i wr => ∃ (k : Nat) (x : Int), i = .int .i64 k ∧ v = .int .i64 x ∧ RGoes w wr g ∧ ((k ≤ 31 ∧ 1 ≤ x ∧ x < 2 ^ (k + 1) ∧ goG T (a + 2 * k) x (31 - k) = R ∧ RrI wr B g T (a + 2 * k) (ovL T a o (2 * k))) ∨ (k = 32 ∧ R = (0, false, a + 62 + 1) ∧ RrI wr B g T (a + 2 * 31 + 1) (ovL T a o (2 * 31 + 1))))) (fun v i _ => (32 - intOf i).toNat)
  case atStart => exact ⟨0, 1, rfl, rfl, RGoes.refl _ _, .inl ⟨by omega, by omega, by decide, HR.out, Hw.out⟩⟩
  case round =>
    obtain ⟨k, x, rfl, rfl, hg, hrest⟩ := hrel
    rcases hrest with ⟨hk, hx1, hx2, hG, hr⟩ | ⟨rfl, hR2, hr⟩
    rotate_left
    · have Hr := Lib.hid hr
      have Hg := Lib.hid hg
      have HR2 := Lib.hid hR2
      clear hr hg hR2
      go_wp2_with fail
      go_ret2
      rw [HR2.out]
      exact ⟨rfl, by have := Hr.out; rw [show a + 62 + 1 - a = 2 * 31 + 1 by omega]; exact this, Hg.out⟩
    have Hr := Lib.hid hr
    have Hg := Lib.hid hg
    have HG := Lib.hid hG
    have hob := ovL_bd T a o (2 * k)
    have hxb : x < 4294967296 := by
      have h1 : (2 : Nat) ^ (k + 1) ≤ 2 ^ 32 := Nat.pow_le_pow_right (by decide) (by omega)
      have h2 : ((2 : Int) ^ (k + 1)) = ((2 ^ (k + 1) : Nat) : Int) := by simp
      have h3 : (2 : Nat) ^ 32 = 4294967296 := by decide
      omega
    have Hx2 := Lib.hid hx2
    have Hbit := Lib.hid (rrbit_c B g T (a + 2 * k) (ovL T a o (2 * k)) wr Hr.out hl (by omega) (by omega))
    have Hov1 : Hid (overL T (a + 2 * k) (ovL T a o (2 * k)) = ovL T a o (2 * k + 1)) := Lib.hid rfl
    rw [Hov1.out] at Hbit
    clear hr hg hG hx2
    cases hb : nextL T (a + 2 * k)
    · rw [hb] at Hbit
      by_cases hlt : k < 31
      · have hG2 : goG T (a + 2 * (k + 1)) (2 * x + bitI T (a + 2 * k + 1)) (31 - (k + 1)) = R := by
          have := HG.out
          rw [show 31 - k = 31 - (k + 1) + 1 by omega, goG_no _ hb] at this
          exact this
        have HG2 := Lib.hid hG2
        clear hG2
        have hob2 := ovL_bd T a o (2 * k + 1)
        have Hov2 : Hid (overL T (a + 2 * k + 1) (ovL T a o (2 * k + 1)) = ovL T a o (2 * (k + 1))) := Lib.hid rfl
        have Hx4 : Hid (2 * x + 1 < 2 ^ (k + 1 + 1)) := Lib.hid (by have := Hx2.out; rw [Int.pow_succ]; omega)
        go_wp2_with fail
        refine Hbit.out.mono ?_
        rintro e w2 ⟨rfl, hr2, hg2⟩
        have Hg2 := Lib.hid (hg2)
        have Hbit2 := Lib.hid (rrbit_c B g T (a + 2 * k + 1) (ovL T a o (2 * k + 1)) w2 hr2 hl (by omega) (by omega))
        rw [Hov2.out] at Hbit2
        simp only [Bool.false_eq_true, if_false]
        clear hr2 hg2 hb
        go_wp2_with fail
        refine Hbit2.out.mono ?_
        rintro e w3 ⟨rfl, hr3, hg3⟩
        have Hr3 := Lib.hid hr3
        have Hg3 := Lib.hid hg3
        clear hr3 hg3
        have hbi : (if nextL T (a + 2 * k + 1) = true then (1 : Int) else 0) = bitI T (a + 2 * k + 1) := rfl
        rw [hbi]
        have hb01 : 0 ≤ bitI T (a + 2 * k + 1) ∧ bitI T (a + 2 * k + 1) ≤ 1 := by unfold bitI; split <;> simp
        obtain ⟨z, hz⟩ : ∃ z, bitI T (a + 2 * k + 1) = z := ⟨_, rfl⟩
        rw [hz] at HG2 hb01 ⊢
        obtain ⟨hz0, hz1⟩ := hb01
        clear hz hbi
        go_wp2_with fail
        go_roundw
        case rel => exact ⟨k + 1, 2 * x + z, by go_num, rfl, RGoes.trans Hg.out (RGoes.trans Hg2.out Hg3.out), .inl ⟨by omega, by omega, by have := Hx4.out; omega, HG2.out, Hr3.out⟩⟩
        case measure => simp [intOf]; omega
      · obtain rfl : k = 31 := by omega
        have HR2 : Hid (R = (0, false, a + 62 + 1)) := Lib.hid (by rw [← HG.out]; exact goG_end hb)
        clear hb
        go_wp2_with fail
        refine Hbit.out.mono ?_
        rintro e w2 ⟨rfl, hr2, hg2⟩
        have Hr2 := Lib.hid hr2
        have Hg2 := Lib.hid hg2
        simp only [Bool.false_eq_true, if_false]
        clear hr2 hg2
        go_wp2_with fail
        go_roundw
        case rel => exact ⟨32, x, by go_num, rfl, RGoes.trans Hg.out Hg2.out, .inr ⟨rfl, HR2.out, Hr2.out⟩⟩
        case measure => simp [intOf]
    · rw [hb] at Hbit
      have HR2 : Hid (R = (x - 1, true, a + 2 * k + 1)) := Lib.hid (by rw [← HG.out]; exact goG_yes _ hb)
      clear hb
      go_wp2_with fail
      refine Hbit.out.mono ?_
      rintro e w2 ⟨rfl, hr2, hg2⟩
      have Hr2 := Lib.hid hr2
      have Hg2 := Lib.hid hg2
      simp only [if_true]
      clear hr2 hg2
      go_wp2_with fail
      go_ret2
      rw [HR2.out]
      exact ⟨rfl, by have := Hr2.out; rw [show a + 2 * k + 1 - a = 2 * k + 1 by omega]; exact this, RGoes.trans Hg.out Hg2.out⟩


end Go.Proofs.Ytgdlleoefncikaa
