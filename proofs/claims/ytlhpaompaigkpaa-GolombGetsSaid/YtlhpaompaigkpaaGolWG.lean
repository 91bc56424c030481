/- The walk of GolombGets. -/
import Derived.Test.YtlhpaompaigkpaaGolF
import Derived.Test.YtlhpaompaigkpaaOpenBytes
import Derived.Test.YtlhpaompaigkpaaOpenBools
import Derived.Deep.RegionHeld3
namespace Go.Proofs.Ytlhpaompaigkpaa
open Go.RowKit
set_option linter.unusedVariables false
set_option linter.unusedSimpArgs false

theorem goS_place (bs : List Bool) (i : Nat) : i + 1 ≤ (goS bs i).2.2 ∧ (goS bs i).2.2 ≤ i + 64 := by
  have h := goG_place bs 31 i 1
  have e : goS bs i = if (goG bs i 1 31).1 = 0 then goG bs i 1 31 else (if nextL bs (goG bs i 1 31).2.2 then -(goG bs i 1 31).1 else (goG bs i 1 31).1, (goG bs i 1 31).2.1, (goG bs i 1 31).2.2 + 1) := rfl
  rw [e]
  split
  · omega
  · simp only; omega
theorem gets_long (A B : Option Addr) (c d : Nat) (xs : List Int) (n : Nat) (W : World) (hl : 300 < xs.length) :
    Calls Try.prog 5 #[.slice A xs.length c, .slice B n d] W fun e W' => e = .returned (.bool true) ∧ Below W.heap.size W W' := by
  go_enter Try.func5, Try.ntmps5
  go_wp2_with fail
  refine (first_c _).mono ?_
  rintro e w1 ⟨rfl, hb1⟩
  have Hb1 := Lib.hid hb1
  clear hb1
  go_wp2_with fail
  all_goals (go_ret; exact ⟨rfl, Hb1.out⟩)

/-- Where the two readers stand. -/
def Gt (W w : World) (gr gx : Nat) (xs : List Int) (a o : Nat) : Prop := RdI w W.heap.size gr xs a o ∧ RrI w W.heap.size gx (unp xs) a o ∧ Below W.heap.size W w
theorem Gt.drew1 {W w : World} {gr gx : Nat} {xs : List Int} {a o : Nat} (h : Gt W w gr gx xs a o) : Gt W w.drew gr gx xs a o := ⟨h.1, h.2.1, Below.drew h.2.2⟩
theorem Gt.cx {W w : World} {gr gx : Nat} {xs : List Int} {a o : Nat} (h : Gt W w gr gx xs a o) : w.cell? ⟨gx, 1, none⟩ = some (.int .i64 a) ∧ w.cell? ⟨gx, 2, none⟩ = some (.int .i64 o) := by
  have h1 := h.2.1.2.cell 1
  have h2 := h.2.1.2.cell 2
  exact ⟨by simpa using h1, by simpa using h2⟩

set_option maxRecDepth 100000 in
set_option maxHeartbeats 12800000 in
theorem gets_p (A B : Option Addr) (c d : Nat) (xs : List Int) (sg : List Bool) (W : World) (hX : ReadsB W A xs) (h8 : Byte8 xs) (hl : xs.length ≤ 300) (hR : BoolsR W B sg) (hm : sg.length ≤ 9223372036854775807) :
    Calls Try.prog 5 #[.slice A xs.length c, .slice B sg.length d] W fun e W' => e = .returned (.bool true) ∧ Below W.heap.size W W' := by
  have HX := Lib.hid hX
  have HR := Lib.hid hR
  have H8 := Lib.hid h8
  clear hR hX h8
  go_enter Try.func5, Try.ntmps5
  go_wp2_with fail
  refine (first_c _).mono ?_
  rintro e w1 ⟨rfl, hb1⟩
  have Hb1 := Lib.hid hb1
  clear hb1
  go_wp2_with fail
  refine (new_c A c xs _ (HX.out.kept Hb1.out) (by omega)).mono ?_
  rintro e w3 ⟨gr, rfl, hr3, hb3⟩
  have Hr3 := Lib.hid (hr3.lower Hb1.out.size)
  have Hb3 := Lib.hid (Hb1.out.trans (hb3.mono Hb1.out.size))
  clear hr3 hb3 Hb1
  go_wp2_with fail
  refine (rall_c A c xs _ (HX.out.kept Hb3.out) H8.out (by omega)).mono ?_
  rintro e w4 ⟨rfl, hb4⟩
  have Hrd4 := Lib.hid (Hr3.out.kept hb4)
  have Hb4 := Lib.hid (Hb3.out.trans (hb4.mono Hb3.out.size))
  clear hb4 Hr3 Hb3
  obtain ⟨t, ht⟩ : ∃ t, bstr (unp xs) = t := ⟨_, rfl⟩
  have Ht := Lib.hid ht
  rw [ht]
  clear ht
  go_wp2_with fail
  have hw4 := Hb4.out.size
  have Hx5 : Hid (RrI (w4.alloc (.cells #[.string t, .int .i64 0, .int .i64 0] 44)) W.heap.size w4.heap.size (unp xs) 0 0) := Lib.hid ⟨hw4, by rw [Ht.out]; exact Blk.new _ _ _⟩
  have Hr5 := Lib.hid (Hrd4.out.kept ((Below.refl _ _).alloc (Nat.le_refl _) (.cells #[.string t, .int .i64 0, .int .i64 0] 44)))
  have Hb5 := Lib.hid (Hb4.out.alloc hw4 (.cells #[.string t, .int .i64 0, .int .i64 0] 44))
  obtain ⟨gx, Hgx⟩ : ∃ gx, Hid (w4.heap.size = gx) := ⟨_, Lib.hid rfl⟩
  go_loopw [28] (fun i wr => ∃ (k a o : Nat), k ≤ sg.length ∧ k ≤ 60 ∧ i = .int .i64 k ∧ a ≤ 64 * k ∧ o ≤ 64 * k ∧ Gt W wr gr w4.heap.size xs a o) (fun i _ => sg.length - (intOf i).toNat)
  case atStart => exact ⟨0, 0, 0, Nat.zero_le _, Nat.zero_le _, rfl, Nat.zero_le _, Nat.zero_le _, Hr5.out, Hx5.out, Hb5.out⟩
  case round =>
    clear Hrd4 Hb4 Hx5 Hr5 Hb5
    obtain ⟨k, a, o, hk, hk60, rfl, ha, ho, hs⟩ := hrel
    have Hs := Lib.hid hs
    clear hs
    by_cases hlt : k < sg.length
    · obtain ⟨ad, rfl, hab, hc0⟩ := (HR.out.kept Hs.out.2.2) k hlt
      by_cases h60 : k < 60
      · cases hsg : sg[k]
        · rw [hsg] at hc0
          have hpl := goG_place (unp xs) 31 a 1
          have hob := ovL_bd (unp xs) a o ((goG (unp xs) a 1 31).2.2 - a)
          have Hc1 := Lib.hid (gget_c W.heap.size gr xs a o wr Hs.out.1 H8.out (by omega) (by omega) (by omega))
          have HcX : Hid (∀ w2, RrI w2 W.heap.size w4.heap.size (unp xs) a o → Calls Try.prog 22 #[.pointer (some ⟨w4.heap.size, 0, none⟩)] w2 fun e w' => e = .returned (.tuple #[.int .i64 (goG (unp xs) a 1 31).1, .bool (goG (unp xs) a 1 31).2.1]) ∧
      RrI w' W.heap.size w4.heap.size (unp xs) (goG (unp xs) a 1 31).2.2 (ovL (unp xs) a o ((goG (unp xs) a 1 31).2.2 - a)) ∧ RGoes w2 w' w4.heap.size) := Lib.hid (fun w2 h => rrgget_c W.heap.size w4.heap.size (unp xs) a o w2 h (by rw [unp_length]; omega) (by omega) (by omega))
          obtain ⟨R, hRR⟩ : ∃ R, goG (unp xs) a 1 31 = R := ⟨_, rfl⟩
          rw [hRR] at hpl hob Hc1 HcX
          obtain ⟨v, b, p⟩ := R
          simp only at hpl hob Hc1 HcX
          obtain ⟨o2, ho2⟩ : ∃ o2, ovL (unp xs) a o (p - a) = o2 := ⟨_, rfl⟩
          rw [ho2] at hob Hc1 HcX
          clear hRR ho2
          go_wp2_with fail
          refine Hc1.out.mono ?_
          rintro e w5 ⟨rfl, hr5, hg5⟩
          have Hr5 := Lib.hid hr5
          have Hx5 := Lib.hid (Hs.out.2.1.rgoes Hs.out.1 hg5)
          have Hb5 := Lib.hid (Hs.out.2.2.trans (hg5.below Hs.out.1 Hs.out.2.2.size))
          clear hr5 hg5
          go_wp2_with fail
          refine (HcX.out _ Hx5.out).mono ?_
          rintro e w6 ⟨rfl, hx6, hg6⟩
          have Hs6 : Hid (Gt W w6 gr w4.heap.size xs p o2) := Lib.hid ⟨Hr5.out.rgoes Hx5.out hg6, hx6, Hb5.out.trans (Hx5.out.below hg6 Hb5.out.size)⟩
          have hcx1 := Hs6.out.cx.1
          have hcx2 := Hs6.out.cx.2
          clear hx6 hg6
          go_wp2_with fail
          go_region_held3 (fun w' => w'.cell? ⟨w4.heap.size, 1, none⟩ = some (.int .i64 p) ∧ w'.cell? ⟨w4.heap.size, 2, none⟩ = some (.int .i64 o2))
            (first | (refine ⟨?_, ?_⟩ <;> assumption) | go_keep)
            (first
              | (go_at_call 19
                 refine (rat_c W.heap.size gr xs p o2 _ Hs6.out.drew1.1).mono ?_
                 rintro e w7 ⟨rfl, rfl⟩)
              | (go_at_call 23
                 refine (rover_c W.heap.size gr xs p o2 _ Hs6.out.drew1.1).mono ?_
                 rintro e w7 ⟨rfl, rfl⟩))
          all_goals (go_wp2_with fail; go_roundw)
          case rel => exact ⟨k + 1, p, o2, by omega, by omega, by go_num, by omega, by omega, Hs6.out.drew1⟩
          case measure => simp [intOf]; omega
        · rw [hsg] at hc0
          have hpl := goS_place (unp xs) a
          have hob := ovL_bd (unp xs) a o ((goS (unp xs) a).2.2 - a)
          have Hc1 := Lib.hid (ggets_c W.heap.size gr xs a o wr Hs.out.1 H8.out (by omega) (by omega) (by omega))
          have HcX : Hid (∀ w2, RrI w2 W.heap.size w4.heap.size (unp xs) a o → Calls Try.prog 21 #[.pointer (some ⟨w4.heap.size, 0, none⟩)] w2 fun e w' => e = .returned (.tuple #[.int .i64 (goS (unp xs) a).1, .bool (goS (unp xs) a).2.1]) ∧
      RrI w' W.heap.size w4.heap.size (unp xs) (goS (unp xs) a).2.2 (ovL (unp xs) a o ((goS (unp xs) a).2.2 - a)) ∧ RGoes w2 w' w4.heap.size) := Lib.hid (fun w2 h => rrggets_c W.heap.size w4.heap.size (unp xs) a o w2 h (by rw [unp_length]; omega) (by omega) (by omega))
          obtain ⟨R, hRR⟩ : ∃ R, goS (unp xs) a = R := ⟨_, rfl⟩
          rw [hRR] at hpl hob Hc1 HcX
          obtain ⟨v, b, p⟩ := R
          simp only at hpl hob Hc1 HcX
          obtain ⟨o2, ho2⟩ : ∃ o2, ovL (unp xs) a o (p - a) = o2 := ⟨_, rfl⟩
          rw [ho2] at hob Hc1 HcX
          clear hRR ho2
          go_wp2_with fail
          refine Hc1.out.mono ?_
          rintro e w5 ⟨rfl, hr5, hg5⟩
          have Hr5 := Lib.hid hr5
          have Hx5 := Lib.hid (Hs.out.2.1.rgoes Hs.out.1 hg5)
          have Hb5 := Lib.hid (Hs.out.2.2.trans (hg5.below Hs.out.1 Hs.out.2.2.size))
          clear hr5 hg5
          go_wp2_with fail
          refine (HcX.out _ Hx5.out).mono ?_
          rintro e w6 ⟨rfl, hx6, hg6⟩
          have Hs6 : Hid (Gt W w6 gr w4.heap.size xs p o2) := Lib.hid ⟨Hr5.out.rgoes Hx5.out hg6, hx6, Hb5.out.trans (Hx5.out.below hg6 Hb5.out.size)⟩
          have hcx1 := Hs6.out.cx.1
          have hcx2 := Hs6.out.cx.2
          clear hx6 hg6
          go_wp2_with fail
          go_region_held3 (fun w' => w'.cell? ⟨w4.heap.size, 1, none⟩ = some (.int .i64 p) ∧ w'.cell? ⟨w4.heap.size, 2, none⟩ = some (.int .i64 o2))
            (first | (refine ⟨?_, ?_⟩ <;> assumption) | go_keep)
            (first
              | (go_at_call 19
                 refine (rat_c W.heap.size gr xs p o2 _ Hs6.out.drew1.1).mono ?_
                 rintro e w7 ⟨rfl, rfl⟩)
              | (go_at_call 23
                 refine (rover_c W.heap.size gr xs p o2 _ Hs6.out.drew1.1).mono ?_
                 rintro e w7 ⟨rfl, rfl⟩))
          all_goals (go_wp2_with fail; go_roundw)
          case rel => exact ⟨k + 1, p, o2, by omega, by omega, by go_num, by omega, by omega, Hs6.out.drew1⟩
          case measure => simp [intOf]; omega
      · have h60b : (60 : Int) ≤ (k : Int) := by omega
        have HFb := Lib.hid Hs.out.2.2
        go_wp2_with fail
        refine (gget_nil _).mono ?_
        rintro e w' ⟨rfl, rfl⟩
        go_wp2_with fail
        go_ret
        exact ⟨ret_bool (by simp), HFb.out⟩
    · have HFb := Lib.hid Hs.out.2.2
      go_wp2_with fail
      refine (gget_nil _).mono ?_
      rintro e w' ⟨rfl, rfl⟩
      go_wp2_with fail
      go_ret
      exact ⟨ret_bool (by simp), HFb.out⟩

namespace golombGets
theorem golombGets_walk (xs : List Int) (sg : List Bool) (v0 v1 : Value) (W : World) (h0 : IsBytes W v0 xs) (h1 : IsBools W v1 sg) :
    Calls Try.prog 5 #[v0, v1] W fun e W' => e = .returned (.bool true) ∧ Below W.heap.size W W' := by
  have h8 : Byte8 xs := fun j => h0.rd_bd j
  obtain ⟨A, c, rfl, hX, hm0, _⟩ := h0
  obtain ⟨B, d, rfl, hm, hR⟩ := h1
  unfold maxLen at hm hm0
  by_cases hl : 300 < xs.length
  · exact gets_long A B c d xs sg.length W hl
  · exact gets_p A B c d xs sg W hX h8 (by omega) hR (by omega)
end golombGets
end Go.Proofs.Ytlhpaompaigkpaa
