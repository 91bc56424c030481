/- The walk of the law WindowMirrors: it answers true at every input. -/
import Derived.Test.YtdfmpcbpciepoaaWinF
import Derived.Test.YtdfmpcbpciepoaaWinP
import Derived.Test.YtdfmpcbpciepoaaOpen
import Derived.Deep.RegionHeld3
namespace Go.Proofs.Ytdfmpcbpciepoaa
open Go.RowKit
set_option linter.unusedVariables false
set_option linter.unusedSimpArgs false

theorem lineF_ok {n : Nat} {s : Int} {f la : Bool} (h : wayB n s = true) : (lineF n s f la).length = n ∧ ∀ j : Nat, j < n → (lineF n s f la).getD j 0 = wtF n s j f la := by
  unfold lineF
  rw [if_pos h]
  refine ⟨by simp, fun j hj => ?_⟩
  simp [List.getD_eq_getElem?_getD, hj]

/-- A row of weights, at hand in a world. -/
def LineAt (w : World) (B g c n : Nat) (s : Int) (f la : Bool) (v : Value) : Prop := v = .slice (some ⟨g, 0, none⟩) n c ∧ OwnI w B v (lineF n s f la) ∧ g < w.heap.size ∧ ∀ j : Nat, j < n → w.cell? ⟨g, j, none⟩ = some (.int .i64 (wtF n s j f la))
theorem lineAt {w : World} {B n : Nat} {s : Int} {f la : Bool} {v : Value} (h : OwnI w B v (lineF n s f la)) (hw : wayB n s = true) (hn : 0 < n) : ∃ g c, LineAt w B g c n s f la v := by
  obtain ⟨hl, ha⟩ := lineF_ok (f := f) (la := la) hw
  obtain ⟨g, c, rfl, hg, hlt, hc, hf⟩ := h.form (by omega)
  rw [hl]
  rw [hl] at h
  refine ⟨g, c, rfl, h, hlt, fun j hj => ?_⟩
  rw [hc j (by omega), ha j hj]
theorem LineAt.kept {w w' : World} {B g c n : Nat} {s : Int} {f la : Bool} {v : Value} (h : LineAt w B g c n s f la v) (hb : Below w.heap.size w w') : LineAt w' B g c n s f la v :=
  ⟨h.1, h.2.1.kept hb, Nat.lt_of_lt_of_le h.2.2.1 hb.size, fun j hj => (hb.cell (p := ⟨g, j, none⟩) h.2.2.1).trans (h.2.2.2 j hj)⟩

theorem sep_facts {s o : Int} (s0 : 0 ≤ s) (o0 : 0 ≤ o) : 0 ≤ o % ((1 + s % 64) / 2 + 1) ∧ o % ((1 + s % 64) / 2 + 1) ≤ (1 + s % 64) / 2 := by
  have h1 := Int.emod_nonneg o (b := (1 + s % 64) / 2 + 1) (by omega)
  have h2 := Int.emod_lt_of_pos o (b := (1 + s % 64) / 2 + 1) (by omega)
  omega

set_option maxRecDepth 100000 in
set_option maxHeartbeats 3200000 in
theorem mirrors_c (s o : Int) (w : World) (s0 : 0 ≤ s) (s1 : s ≤ 255) (o0 : 0 ≤ o) (o1 : o ≤ 255) :
    Calls Try.prog 6 #[.int .u8 s, .int .u8 o] w fun e w' => e = .returned (.bool true) ∧ Below w.heap.size w w' := by
  have ⟨q0, q1⟩ := sep_facts s0 o0
  go_enter Try.func6, Try.ntmps6
  go_wp2_with fail
  refine (first_c _).mono ?_
  rintro e w1 ⟨rfl, hb1⟩
  have Hb1 := Lib.hid hb1
  clear hb1
  go_wp2_with fail
  have hw : wayB (1 + s % 64 + 2 * (o % ((1 + s % 64) / 2 + 1))) (1 + s % 64) = true := by
    unfold wayB
    apply decide_eq_true
    omega
  generalize 1 + s % 64 + 2 * (o % ((1 + s % 64) / 2 + 1)) = l at *
  generalize 1 + s % 64 = sep at *
  have ⟨g1, g2, g3, g4, g5⟩ := wayB_t hw
  clear q0 q1
  obtain ⟨n, rfl⟩ := Int.eq_ofNat_of_zero_le (a := l) (by omega)
  have Hw := Lib.hid hw
  clear hw
  have hn : 0 < n := by omega
  refine (line_c _ _ _ _ _).mono ?_
  rintro e w2 ⟨va, rfl, hown, hb2⟩
  obtain ⟨ga, ca, hA⟩ := lineAt hown Hw.out hn
  obtain rfl := hA.1
  have HA := Lib.hid hA
  have Hb2 := Lib.hid hb2
  clear hA hb2 hown
  go_wp2_with fail
  refine (line_c _ _ _ _ _).mono ?_
  rintro e w3 ⟨vb, rfl, hown, hb3⟩
  obtain ⟨gb, cb, hB⟩ := lineAt hown Hw.out hn
  obtain rfl := hB.1
  have HB := Lib.hid hB
  have HA3 := Lib.hid (HA.out.kept hb3)
  have Hb3 := Lib.hid (Hb2.out.trans (hb3.mono Hb2.out.size))
  clear hB hb3 hown HA Hb2
  go_wp2_with fail
  refine (line_c _ _ _ _ _).mono ?_
  rintro e w4 ⟨vc, rfl, hown, hb4⟩
  obtain ⟨gc, cc, hC⟩ := lineAt hown Hw.out hn
  obtain rfl := hC.1
  have HC := Lib.hid hC
  have HB4 := Lib.hid (HB.out.kept hb4)
  have HA4 := Lib.hid (HA3.out.kept hb4)
  have Hb4 := Lib.hid (Hb3.out.trans (hb4.mono Hb3.out.size))
  clear hC hb4 hown HA3 HB Hb3
  go_wp2_with fail
  go_loopw [36] (fun v wr => ∃ k : Nat, k ≤ n ∧ v = .int .i64 k ∧ Below w4.heap.size w4 wr) (fun v _ => n - (intOf v).toNat)
  case atStart => exact ⟨0, by omega, rfl, Below.refl _ _⟩
  case round =>
    obtain ⟨k, hk, rfl, hb⟩ := hrel
    by_cases hlt : k < n
    · obtain ⟨m, hm⟩ : ∃ m : Nat, m + k + 1 = n := ⟨n - 1 - k, by omega⟩
      have a1 := (HA4.out.kept hb).2.2.2 k hlt
      have a2 := (HA4.out.kept hb).2.2.2 m (by omega)
      have b1 := (HB4.out.kept hb).2.2.2 k hlt
      have c1 := (HC.out.kept hb).2.2.2 m (by omega)
      have e : (m : Int) = (n : Int) - 1 - (k : Int) := by omega
      have w1 := wt_mirror (l := (n : Int)) (i := (k : Int)) false false Hw.out (by omega) (by omega)
      have w2 := wt_mirror (l := (n : Int)) (i := (k : Int)) true false Hw.out (by omega) (by omega)
      rw [← e] at w1 w2
      rw [← w1] at a2
      rw [← w2] at c1
      have ⟨m1, m2⟩ := wt_bd (l := (n : Int)) (i := (k : Int)) false false Hw.out (by omega) (by omega)
      have m3 := wt_more (l := (n : Int)) (i := (k : Int)) Hw.out (by omega) (by omega)
      have Hb := Lib.hid hb
      clear hb w1 w2
      generalize wtF n sep k false false = x at *
      generalize wtF n sep k true false = y at *
      have i2 : (m : Int) < (n : Int) := by omega
      have i3 : (0 : Int) ≤ (k : Int) := by omega
      have i4 : (k : Int) < (n : Int) := by omega
      have e1 : IntKind.i64.wrap ((n : Int) - 1) = (n : Int) - 1 := IntWalk.i64_in _ (by omega)
      have e2 : IntKind.i64.wrap ((n : Int) - 1 - (k : Int)) = (m : Int) := by rw [e]; exact IntWalk.i64_in _ (by omega)
      clear e hm
      go_wp2_with fail
      go_quiet (fail)
      clear e1 e2
      go_wp2_with fail
      go_roundw
      case rel => exact ⟨k + 1, by omega, by go_num, Hb.out.trans (below_drewN (Below.refl _ _) _)⟩
      case measure => simp [intOf]; omega
    · obtain rfl : k = n := by omega
      have Hb := Lib.hid hb
      clear hb
      go_wp2_with fail
      go_ret
      exact ⟨ret_bool (by simp), (Hb1.out.trans (Hb4.out.mono Hb1.out.size)).trans (Hb.out.mono (Nat.le_trans Hb1.out.size Hb4.out.size))⟩

theorem windowMirrors.windowMirrors_walk (s o : Int) (v0 v1 : Value) (W : World) (h0 : IsInt .u8 v0 s) (h1 : IsInt .u8 v1 o) :
    Calls Try.prog 6 #[v0, v1] W fun e W' => e = .returned (.bool true) ∧ Below W.heap.size W W' := by
  have b0 := h0.bd8
  have b1 := h1.bd8
  obtain ⟨rfl, _⟩ := h0
  obtain ⟨rfl, _⟩ := h1
  exact mirrors_c _ _ _ b0.1 b0.2 b1.1 b1.2

end Go.Proofs.Ytdfmpcbpciepoaa
