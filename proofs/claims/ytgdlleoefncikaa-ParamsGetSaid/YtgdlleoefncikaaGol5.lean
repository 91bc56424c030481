/- The document's code of a number. -/
import Derived.Test.YtgdlleoefncikaaGolB1
namespace Go.Proofs.Ytgdlleoefncikaa
open Go.RowKit
set_option linter.unusedVariables false
set_option linter.unusedSimpArgs false

theorem lenI_one : lenI 1 = 1 := by decide +kernel
theorem bitsV_cut (x : Int) (l i : Nat) (h : i < l) : (bstr (bitsV x l)).extract i (i + 1) = bstr [x / 2 ^ (l - 1 - i) % 2 == 1] := by
  unfold bstr
  rw [ByteArray.extract_mk, show i + 1 - i = 1 by omega, ← List.map_drop, ← List.map_take]
  congr 3
  apply List.ext_getElem
  · rw [List.length_take, List.length_drop, bitsV_length]; simp; omega
  · intro j h1 h2
    have hj : j = 0 := by simp at h2; omega
    subst hj
    simp only [List.getElem_take, List.getElem_drop, bitsV, List.getElem_map, List.getElem_range, List.getElem_cons_zero, Nat.add_zero]

set_option maxRecDepth 100000 in
set_option maxHeartbeats 6400000 in
theorem rcode_no (v : Int) (w : World) (h : v < 0 ∨ 4294967294 < v) :
    Calls Try.prog 43 #[.int .i64 v] w fun e w' => e = .returned (.string (bstr (codeB v))) ∧ w = w' := by
  have hc : codeB v = [] := codeB_no (decide_eq_false (by omega))
  rw [hc]
  clear hc
  rcases h with h | h
  · go_enter Try.func43, Try.ntmps43
    go_wp2_with fail
    all_goals (go_ret; exact ⟨rfl, rfl⟩)
  · have h0 : 0 ≤ v := by omega
    go_enter Try.func43, Try.ntmps43
    go_wp2_with fail
    all_goals (go_ret; exact ⟨rfl, rfl⟩)

set_option maxRecDepth 100000 in
set_option maxHeartbeats 6400000 in
theorem rcode_yes (v : Int) (w : World) (hr : rightV v = true) :
    Calls Try.prog 43 #[.int .i64 v] w fun e w' => e = .returned (.string (bstr (codeB v))) ∧ w = w' := by
  have ⟨hv0, hv1⟩ := rightV_t hr
  have Hcd := Lib.hid (codeB_yes hr)
  rw [Hcd.out]
  obtain ⟨x, hx⟩ : ∃ x, v + 1 = x := ⟨_, rfl⟩
  have hx1 : 1 ≤ x := by omega
  have hx2 : x < 4294967296 := by omega
  have hl1 := lenI_pos hx1
  have hl2 := lenI_32 hx2
  obtain ⟨l, hl⟩ : ∃ l, lenI x = l := ⟨_, rfl⟩
  rw [hx, hl]
  rw [hl] at hl1 hl2
  have Hl := Lib.hid hl
  have hw2 : IntKind.u64.wrap x = x := by simp [IntKind.wrap, IntKind.bits, IntKind.signed]; omega
  have hw3 : IntKind.i64.wrap (v + 1) = x := by rw [hx]; exact IntWalk.i64_in _ (by omega)
  have hclm : clampN (l : Int) = l := by unfold clampN; omega
  have Hbits := Lib.hid (rbits_c x l · (by omega) (by omega))
  rw [hclm] at Hbits
  have Hx := Lib.hid hx
  have Hcut := Lib.hid (bitsV_cut x l)
  have hds := bstr_size (bitsV x l)
  rw [bitsV_length] at hds
  clear hr hl hclm
  go_enter Try.func43, Try.ntmps43
  go_wp2_with fail
  go_loopw [3, 4] (fun n y wr => ∃ (k : Nat) (z : Int), n = .int .i64 ((1 + k : Nat) : Int) ∧ y = .int .i64 z ∧ 1 ≤ z ∧ z ≤ x ∧ lenI z + k = l ∧ w = wr) (fun n y _ => (intOf y).toNat)
  case atStart => exact ⟨0, x, rfl, by simp [hx], hx1, Int.le_refl _, by have := Hl.out; omega, rfl⟩
  case round =>
    obtain ⟨k, z, rfl, rfl, hz1, hz2, hlz, rfl⟩ := hrel
    have Hlz := Lib.hid hlz
    have hzl := lenI_pos hz1
    have hk : k < 32 := by omega
    clear hlz
    by_cases hz : 1 < z
    · have hsh := lenI_shift (x := z) 1 (by show (2 : Int) ≤ z; omega)
      have Hsh := Lib.hid (show lenI z = lenI (z / 2) + 1 from hsh)
      have hz3 : 1 ≤ z / 2 := by omega
      clear hsh hzl
      go_wp2_with fail
      go_roundw
      case rel => exact ⟨k + 1, z / 2, by go_num, rfl, hz3, by omega, by have := Hlz.out; have := Hsh.out; omega, by trivial⟩
      case measure => simp [intOf]; omega
    · have hz0 : z = 1 := by omega
      have hkl : 1 + k = l := by have := Hlz.out; rw [hz0, lenI_one] at this; exact this
      rw [hkl]
      have Hkl := Lib.hid hkl
      clear hz0 hkl hzl
      go_wp2_with fail
      refine (Hbits.out _).mono ?_
      rintro e w' ⟨rfl, rfl⟩
      obtain ⟨d, hd⟩ : ∃ d, bstr (bitsV x l) = d := ⟨_, rfl⟩
      have Hd := Lib.hid hd
      rw [hd] at hds Hcut ⊢
      have hds2 : (d.size : Int) ≤ (l : Int) := by omega
      have hds3 : (l : Int) ≤ (d.size : Int) := by omega
      have Hds := Lib.hid hds
      clear hd hds
      go_wp2_with fail
      go_loopw [6, 7] (fun s i wr => ∃ j : Nat, j ≤ l - 1 ∧ i = .int .i64 ((j + 1 : Nat) : Int) ∧ s = .string (bstr (ilv x l j)) ∧ w = wr) (fun s i _ => (l - intOf i).toNat)
      case atStart => exact ⟨0, Nat.zero_le _, rfl, rfl, rfl⟩
      case round =>
        obtain ⟨j, hj, rfl, rfl, rfl⟩ := hrel
        have hsz := bstr_size (ilv x l j)
        rw [ilv_length] at hsz
        obtain ⟨i, hi⟩ : ∃ i : Nat, j + 1 = i := ⟨_, rfl⟩
        rw [hi]
        have Hi := Lib.hid hi
        obtain ⟨s, hs⟩ : ∃ s, bstr (ilv x l j) = s := ⟨_, rfl⟩
        rw [hs] at hsz ⊢
        by_cases hjl : j < l - 1
        · have hcut := Hcut.out i (by omega)
          obtain ⟨b, hb⟩ : ∃ b, (x / 2 ^ (l - 1 - i) % 2 == 1) = b := ⟨_, rfl⟩
          rw [hb] at hcut
          have Hil : Hid (s ++ (⟨#[48]⟩ ++ bstr [b]) = bstr (ilv x l (j + 1))) := Lib.hid (by
            rw [show (⟨#[48]⟩ : ByteArray) = bstr [false] from rfl, ← hs, bstr_app, bstr_app]
            have : (x / 2 ^ (l - 2 - j) % 2 == 1) = b := by rw [← hb, show l - 1 - i = l - 2 - j by omega]
            show bstr (ilv x l j ++ ([false] ++ [b])) = bstr (ilv x l j ++ [false, x / 2 ^ (l - 2 - j) % 2 == 1])
            rw [this]; rfl)
          have hb1 := bstr_size [b]
          simp only [List.length_cons, List.length_nil] at hb1
          have hil : i < l := by omega
          have b1 : (i : Int) + 1 ≤ (d.size : Int) := by omega
          have b2 : i + 1 ≤ d.size := by omega
          have b4 : (i : Int) ≤ (i : Int) + 1 := by omega
          have hsb : s.size ≤ 64 := by omega
          have hib : i ≤ 64 := by omega
          have h48 : (⟨#[48]⟩ : ByteArray).size = 1 := rfl
          clear hs hi hb hsz hj hjl
          go_wp2_with fail
          go_roundw
          case rel => exact ⟨j + 1, by have := Hi.out; omega, by have := Hi.out; go_num, by rw [← Hil.out], by trivial⟩
          case measure => simp [intOf]; omega
        · have hje : j = l - 1 := by omega
          have Hend : Hid (s ++ ⟨#[49]⟩ = bstr (codeX x l)) := Lib.hid (by rw [show (⟨#[49]⟩ : ByteArray) = bstr [true] from rfl, ← hs, bstr_app, hje]; rfl)
          have b1 : (d.size : Int) ≤ (i : Int) := by omega
          have hsb : s.size ≤ 64 := by omega
          have h49 : (⟨#[49]⟩ : ByteArray).size = 1 := rfl
          clear hs hi hsz hje
          go_wp2_with fail
          go_ret
          exact ⟨congrArg (fun s => Ending.returned (Value.string s)) Hend.out, rfl⟩
theorem rcode_c (v : Int) (w : World) :
    Calls Try.prog 43 #[.int .i64 v] w fun e w' => e = .returned (.string (bstr (codeB v))) ∧ w = w' := by
  by_cases h : 0 ≤ v ∧ v ≤ 4294967294
  · exact rcode_yes v w (decide_eq_true h)
  · exact rcode_no v w (by omega)

theorem bstr_empty (bs : List Bool) : (bstr bs).toList.isEmpty = bs.isEmpty := by
  unfold bstr
  rw [ByteArray.toList_mk]
  cases bs <;> rfl
theorem bstr_ne (bs : List Bool) (h : bs ≠ []) : bstr bs ≠ ⟨#[]⟩ := fun e => h (List.eq_nil_of_length_eq_zero (by rw [← bstr_size, e]; rfl))
theorem codeB_ne {v : Int} (h : rightV v = true) : codeB v ≠ [] := by
  rw [codeB_yes h]
  unfold codeX
  simp

end Go.Proofs.Ytgdlleoefncikaa
