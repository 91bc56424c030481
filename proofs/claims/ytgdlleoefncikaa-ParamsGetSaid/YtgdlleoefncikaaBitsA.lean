/- Align of a writer (for seats in which it is called; XBitsP holds it for layer 1 only). -/
import Derived.Test.YtgdlleoefncikaaBitsP
namespace Go.Proofs.Ytgdlleoefncikaa
open Go.RowKit
set_option linter.unusedVariables false
set_option linter.unusedSimpArgs false

set_option maxRecDepth 100000 in
set_option maxHeartbeats 3200000 in
theorem walign_c (B g : Nat) (bs : List Bool) (bv : Value) (w : World) (h : WrI w B g bv bs) (hm : bs.length ≤ 1000000) (hB : B ≤ w.heap.size) :
    Calls Try.prog 25 #[.pointer (some ⟨g, 0, none⟩)] w fun e w' => e = .returned (.tuple #[]) ∧ WGoes w w' B g bv (padB bs) := by
  have Hw := Lib.hid h
  clear h
  go_enter Try.func25, Try.ntmps25
  go_wp2_with fail
  go_loopw [] (fun wr => ∃ bs', bs'.length ≤ 1000008 ∧ padB bs' = padB bs ∧ WGoes w wr B g bv bs') (fun wr => (8 - (intOf ((wr.cell? ⟨g, 1, none⟩).getD (.int .i64 0))).toNat % 8) % 8)
  case atStart => exact ⟨bs, by omega, rfl, WGoes.refl Hw.out⟩
  case round =>
    obtain ⟨bs', hl, hp, b1, hb1, ht1, hm1⟩ := hrel
    have Hb1 := Lib.hid hb1
    have Ht1 := Lib.hid ht1
    have Hm1 := Lib.hid hm1
    have Hp := Lib.hid hp
    have hc1 := hb1.2.1.cell 1
    simp at hc1
    have Hc1 := Lib.hid hc1
    clear hb1 ht1 hm1 hp hc1
    by_cases h8 : bs'.length % 8 = 0
    · have hb8 : ((bs'.length : Int) % 8 == 0) = true := by rw [beq_iff_eq]; omega
      go_wp2_with (go_at_call 39; refine (wlen_c B g _ b1 _ Hb1.out).mono ?_; rintro e w' ⟨rfl, rfl⟩)
      go_end0
      rw [← Hp.out, padB_done h8]
      exact ⟨rfl, _, Hb1.out, Ht1.out, Hm1.out⟩
    · have hb8 : ((bs'.length : Int) % 8 == 0) = false := by rw [beq_eq_false_iff_ne]; omega
      go_wp2_with (go_at_call 39; refine (wlen_c B g _ b1 _ Hb1.out).mono ?_; rintro e w' ⟨rfl, rfl⟩)
      refine (wbit_goes B g _ _ b1 _ Hb1.out (by omega) (by have := Ht1.out.size; omega)).mono ?_
      rintro e w' ⟨rfl, b2, hb2, ht2, hm2⟩
      have hc2 := hb2.2.1.cell 1
      simp at hc2
      have Hc2 := Lib.hid hc2
      have Hgo := Lib.hid (show WGoes wr w' B g b1 (bs' ++ [false]) from ⟨b2, hb2, ht2, hm2⟩)
      clear hb2 ht2 hm2 hc2
      go_wp2_with fail
      go_roundw
      case rel => exact ⟨bs' ++ [false], by simp; omega, by rw [padB_more h8, Hp.out], WGoes.trans Ht1.out Hm1.out Hgo.out⟩
      case measure => rw [Hc1.out, Hc2.out]; simp [intOf]; omega
theorem walign_nil (w : World) :
    Calls Try.prog 25 #[.pointer none] w fun e w' => e = .returned (.tuple #[]) ∧ w = w' := by
  go_enter Try.func25, Try.ntmps25
  go_wp2_with fail
  go_loopw [] (fun wr => w = wr) (fun wr => 0)
  case atStart => rfl
  case round =>
    obtain rfl := hrel
    go_wp2_with (go_at_call 39; refine (wlen_nil _).mono ?_; rintro e w' ⟨rfl, rfl⟩)
    go_end0
    exact ⟨rfl, rfl⟩

end Go.Proofs.Ytgdlleoefncikaa
