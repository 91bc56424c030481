/- What Put, PutSigned, Size and SizeSigned of package golomb do. -/
import Derived.Test.YtgdlleoefncikaaGol3
namespace Go.Proofs.Ytgdlleoefncikaa
open Go.RowKit
set_option linter.unusedVariables false
set_option linter.unusedSimpArgs false

theorem rightV_t {v : Int} (h : rightV v = true) : 0 ≤ v ∧ v ≤ 4294967294 := of_decide_eq_true h
theorem codeB_yes {v : Int} (h : rightV v = true) : codeB v = codeX (v + 1) (lenI (v + 1)) := if_pos h
theorem codeB_no {v : Int} (h : rightV v = false) : codeB v = [] := if_neg (by rw [h]; decide)
theorem lenI_pos {x : Int} (h : 1 ≤ x) : 1 ≤ lenI x := by
  obtain ⟨l, e, _, _⟩ := lenI_spec h
  omega
theorem codeB_len (v : Int) : (codeB v).length ≤ 63 := by
  cases h : rightV v
  · rw [codeB_no h]; simp
  · have ⟨h1, h2⟩ := rightV_t h
    rw [codeB_yes h, codeX_length _ _ (lenI_pos (by omega))]
    have := lenI_32 (x := v + 1) (by omega)
    omega

set_option maxRecDepth 100000 in
set_option maxHeartbeats 6400000 in
theorem gput_c (B g : Nat) (bs : List Bool) (v : Int) (bv : Value) (w : World) (h : WrI w B g bv bs) (hm : bs.length ≤ 1000000) (hB : B ≤ w.heap.size) :
    Calls Try.prog 23 #[.pointer (some ⟨g, 0, none⟩), .int .i64 v] w fun e w' => e = .returned (.bool (rightV v)) ∧ WGoes w w' B g bv (bs ++ codeB v) := by
  have Hright := Lib.hid (gright_c v)
  cases hr : rightV v
  · rw [codeB_no hr, List.append_nil]
    rw [hr] at Hright
    have Hw := Lib.hid h
    clear h hr
    go_enter Try.func23, Try.ntmps23
    go_wp2_with fail
    refine (Hright.out _).mono ?_
    rintro e w' ⟨rfl, rfl⟩
    go_wp2_with fail
    go_ret
    exact ⟨rfl, WGoes.refl Hw.out⟩
  · have ⟨hv0, hv1⟩ := rightV_t hr
    have Hcd := Lib.hid (codeB_yes hr)
    rw [Hcd.out]
    rw [hr] at Hright
    obtain ⟨x, hx⟩ : ∃ x, v + 1 = x := ⟨_, rfl⟩
    have hx1 : 1 ≤ x := by omega
    have hx2 : x < 4294967296 := by omega
    have hl1 := lenI_pos hx1
    have hl2 := lenI_32 hx2
    have Hlen := Lib.hid (len64_c32 x)
    obtain ⟨l, hl⟩ : ∃ l, lenI x = l := ⟨_, rfl⟩
    rw [hx, hl]
    rw [hl] at hl1 hl2 Hlen
    have hw1 : IntKind.u64.wrap (v + 1) = x := by rw [hx]; simp [IntKind.wrap, IntKind.bits, IntKind.signed]; omega
    have hw2 : IntKind.u64.wrap v = v := by simp [IntKind.wrap, IntKind.bits, IntKind.signed]; omega
    have Hw := Lib.hid h
    have Hx := Lib.hid hx
    clear h hr hx hl
    go_enter Try.func23, Try.ntmps23
    go_wp2_with fail
    refine (Hright.out _).mono ?_
    rintro e w' ⟨rfl, rfl⟩
    go_wp2_with fail
    refine (Hlen.out _ (by omega) hx2).mono ?_
    rintro e w' ⟨rfl, rfl⟩
    go_wp2_with fail
    go_loopw [6] (fun i wr => ∃ k : Nat, k ≤ l - 1 ∧ i = .int .i64 ((l : Int) - 2 - k) ∧ WGoes w wr B g bv (bs ++ ilv x l k)) (fun i _ => (intOf i + 1).toNat)
    case atStart => exact ⟨0, Nat.zero_le _, by simp, by simpa [ilv] using WGoes.refl Hw.out⟩
    case round =>
      obtain ⟨k, hk, rfl, hg⟩ := hrel
      have Hg := Lib.hid hg
      obtain ⟨b1, hb1, ht1, hm1⟩ := hg
      have Hb1 := Lib.hid hb1
      have Ht1 := Lib.hid ht1
      have Hm1 := Lib.hid hm1
      clear hb1 ht1 hm1
      by_cases hlt : k < l - 1
      · obtain ⟨j, hj⟩ : ∃ j : Nat, l - 2 - k = j := ⟨_, rfl⟩
        have hj2 : (l : Int) - 2 - k = (j : Int) := by omega
        rw [hj2]
        have hj64 : j < 64 := by omega
        have hd := div_pow_bd j (x := x) (by omega) (by omega)
        have e7 := u64_and1 (x / 2 ^ j) hd.1 (by omega)
        obtain ⟨m, hm2⟩ : ∃ m, x / 2 ^ j % 2 = m := ⟨_, rfl⟩
        have Hil : Hid (ilv x l (k + 1) = ilv x l k ++ [false, m == 1]) := Lib.hid (by rw [← hm2, ← hj]; rfl)
        rw [hm2] at e7
        clear hm2 hj
        go_wp2_with fail
        refine (wbit_goes B g _ _ b1 _ Hb1.out (by rw [List.length_append, ilv_length]; omega) (by have := Ht1.out.size; omega)).mono ?_
        rintro e w2 ⟨rfl, hgo⟩
        have Hgo1 := Lib.hid (WGoes.trans Ht1.out Hm1.out hgo)
        obtain ⟨b2, hb2, ht2, hm2⟩ := Hgo1.out
        have Hb2 := Lib.hid hb2
        have Ht2 := Lib.hid ht2
        have Hm2 := Lib.hid hm2
        clear hgo hb2 ht2 hm2
        go_wp2_with fail
        refine (wbit_goes B g _ _ b2 _ Hb2.out (by rw [List.length_append, List.length_append, ilv_length]; simp; omega) (by have := Ht2.out.size; omega)).mono ?_
        rintro e w3 ⟨rfl, hgo⟩
        have Hgo2 := Lib.hid (WGoes.trans Ht2.out Hm2.out hgo)
        clear hgo
        go_wp2_with fail
        go_roundw
        case rel => exact ⟨k + 1, by omega, by congr 1; omega, by rw [Hil.out]; have := Hgo2.out; simpa using this⟩
        case measure => simp [intOf] <;> omega
      · have hv : (l : Int) - 2 - k = -1 := by omega
        have Hk : Hid (k = l - 1) := Lib.hid (by omega)
        rw [hv]
        go_wp2_with fail
        refine (wbit_goes B g _ _ b1 _ Hb1.out (by rw [List.length_append, ilv_length]; omega) (by have := Ht1.out.size; omega)).mono ?_
        rintro e w2 ⟨rfl, hgo⟩
        have Hgo1 := Lib.hid (WGoes.trans Ht1.out Hm1.out hgo)
        clear hgo
        go_wp2_with fail
        go_ret
        refine ⟨rfl, ?_⟩
        have := Hgo1.out
        rw [Hk.out, List.append_assoc] at this
        exact this

set_option maxRecDepth 100000 in
set_option maxHeartbeats 6400000 in
theorem gput_nil (v : Int) (w : World) :
    Calls Try.prog 23 #[.pointer none, .int .i64 v] w fun e w' => e = .returned (.bool (rightV v)) ∧ w = w' := by
  have Hright := Lib.hid (gright_c v)
  cases hr : rightV v
  · rw [hr] at Hright
    clear hr
    go_enter Try.func23, Try.ntmps23
    go_wp2_with fail
    refine (Hright.out _).mono ?_
    rintro e w' ⟨rfl, rfl⟩
    go_wp2_with fail
    go_ret
    exact ⟨rfl, rfl⟩
  · have ⟨hv0, hv1⟩ := rightV_t hr
    rw [hr] at Hright
    obtain ⟨x, hx⟩ : ∃ x, v + 1 = x := ⟨_, rfl⟩
    have hx1 : 1 ≤ x := by omega
    have hx2 : x < 4294967296 := by omega
    have hl1 := lenI_pos hx1
    have hl2 := lenI_32 hx2
    have Hlen := Lib.hid (len64_c32 x)
    obtain ⟨l, hl⟩ : ∃ l, lenI x = l := ⟨_, rfl⟩
    rw [hl] at hl1 hl2 Hlen
    have hw1 : IntKind.u64.wrap (v + 1) = x := by rw [hx]; simp [IntKind.wrap, IntKind.bits, IntKind.signed]; omega
    have hw2 : IntKind.u64.wrap v = v := by simp [IntKind.wrap, IntKind.bits, IntKind.signed]; omega
    have Hx := Lib.hid hx
    clear hr hx hl
    go_enter Try.func23, Try.ntmps23
    go_wp2_with fail
    refine (Hright.out _).mono ?_
    rintro e w' ⟨rfl, rfl⟩
    go_wp2_with fail
    refine (Hlen.out _ (by omega) hx2).mono ?_
    rintro e w' ⟨rfl, rfl⟩
    go_wp2_with fail
    go_loopw [6] (fun i wr => ∃ k : Nat, k ≤ l - 1 ∧ i = .int .i64 ((l : Int) - 2 - k) ∧ w = wr) (fun i _ => (intOf i + 1).toNat)
    case atStart => exact ⟨0, Nat.zero_le _, by simp, rfl⟩
    case round =>
      obtain ⟨k, hk, rfl, hg⟩ := hrel
      obtain rfl := hg
      by_cases hlt : k < l - 1
      · obtain ⟨j, hj⟩ : ∃ j : Nat, l - 2 - k = j := ⟨_, rfl⟩
        have hj2 : (l : Int) - 2 - k = (j : Int) := by omega
        rw [hj2]
        have hj64 : j < 64 := by omega
        have hd := div_pow_bd j (x := x) (by omega) (by omega)
        have e7 := u64_and1 (x / 2 ^ j) hd.1 (by omega)
        obtain ⟨m, hm2⟩ : ∃ m, x / 2 ^ j % 2 = m := ⟨_, rfl⟩
        have Hil : Hid (ilv x l (k + 1) = ilv x l k ++ [false, m == 1]) := Lib.hid (by rw [← hm2, ← hj]; rfl)
        rw [hm2] at e7
        clear hm2 hj
        go_wp2_with fail
        refine (wbit_nil _ _).mono ?_
        rintro e w' ⟨rfl, rfl⟩
        go_wp2_with fail
        refine (wbit_nil _ _).mono ?_
        rintro e w' ⟨rfl, rfl⟩
        go_wp2_with fail
        go_roundw
        case rel => exact ⟨k + 1, by omega, by congr 1; omega, by trivial⟩
        case measure => simp [intOf] <;> omega
      · have hv : (l : Int) - 2 - k = -1 := by omega
        have Hk : Hid (k = l - 1) := Lib.hid (by omega)
        rw [hv]
        go_wp2_with fail
        refine (wbit_nil _ _).mono ?_
        rintro e w' ⟨rfl, rfl⟩
        go_wp2_with fail
        go_ret
        exact ⟨rfl, rfl⟩

theorem signB_no {v : Int} (h : rightV (magV v) = false) : signB v = [] := if_neg (by rw [h]; decide)
theorem signB_yes {v : Int} (h : rightV (magV v) = true) : signB v = if v = 0 then codeB (magV v) else codeB (magV v) ++ [decide (v < 0)] := if_pos h
theorem signB_len (v : Int) : (signB v).length ≤ 64 := by
  have := codeB_len (magV v)
  cases h : rightV (magV v)
  · rw [signB_no h]; simp
  · rw [signB_yes h]; split
    · omega
    · simp; omega


end Go.Proofs.Ytgdlleoefncikaa
