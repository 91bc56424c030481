/- The document's answer for layer 1: the bits of bytes, the reader. -/
import Derived.Test.YtoiofnmodinpcaaRef1b
namespace Go.Proofs.Ytoiofnmodinpcaa
open Go.RowKit
set_option linter.unusedVariables false
set_option linter.unusedSimpArgs false

theorem byte8_of2 {xs : List Int} (h : ∀ x ∈ xs, 0 ≤ x ∧ x ≤ 255) : Byte8 xs := by
  intro j
  unfold rdn
  by_cases hj : j < xs.length
  · simp only [List.getD_eq_getElem?_getD, List.getElem?_eq_getElem hj, Option.getD_some]
    exact h _ (List.getElem_mem hj)
  · simp [List.getD_eq_getElem?_getD, List.getElem?_eq_none (show xs.length ≤ j by omega)]
def bval (b : Bool) : Int := if b then 49 else 48
theorem strCells_bstr (q : List Bool) : Lib.strCells (bstr q) = (q.map bval).map (Value.int .u8) := by
  unfold Lib.strCells bstr
  simp only [List.map_map]
  apply List.map_congr_left
  intro b _
  cases b <;> rfl
theorem bytesStr_bits (q : List Bool) : bytesStr (q.map bval) = bstr q := by
  unfold bytesStr bstr
  rw [List.map_map]
  congr 2
  apply List.map_congr_left
  intro b _
  cases b <;> rfl
theorem unp_take (xs : List Int) (k : Nat) (h : k < xs.length) : (unp xs).take (8 * (k + 1)) = (unp xs).take (8 * k) ++ bitsV (rdn xs k) 8 := by
  have hl := unp_length xs
  rw [show 8 * (k + 1) = 8 * k + 8 by omega, List.take_add]
  congr 1
  apply List.ext_getElem
  · rw [List.length_take, List.length_drop, hl, bitsV_length]; omega
  · intro i h1 h2
    rw [bitsV_length] at h2
    simp only [List.getElem_take, List.getElem_drop, unp, bitsV, List.getElem_map, List.getElem_range, bitU]
    rw [show (8 * k + i) / 8 = k by omega, show (8 * k + i) % 8 = i by omega, show 8 - 1 - i = 7 - i by omega]
theorem byte8_bits (q : List Bool) : Byte8 (q.map bval) := byte8_of2 fun x hx => by
  obtain ⟨b, _, rfl⟩ := List.mem_map.1 hx
  cases b <;> simp [bval]

set_option maxRecDepth 100000 in
set_option maxHeartbeats 3200000 in
theorem rall_c (A : Option Addr) (c : Nat) (xs : List Int) (w : World) (hR : ReadsB w A xs) (h8 : Byte8 xs) (hl : xs.length ≤ 100000) :
    Calls Try.prog 16 #[.slice A xs.length c] w fun e w' => e = .returned (.string (bstr (unp xs))) ∧ Below w.heap.size w w' := by
  have HR := Lib.hid hR
  have H8 := Lib.hid h8
  clear hR h8
  obtain ⟨i0, hi, hz0, hz1, hz2⟩ := info_parts info_byte
  have hul := unp_length xs
  have Hul := Lib.hid hul
  clear hul
  go_enter Try.func16, Try.ntmps16
  go_wp2_with fail
  go_loopw [3, 8] (fun v i wr => ∃ k : Nat, k ≤ xs.length ∧ i = .int .i64 k ∧ OwnB wr w.heap.size v (((unp xs).take (8 * k)).map bval) ∧ Below w.heap.size w wr) (fun v i _ => (xs.length - (intOf i)).toNat)
  case atStart => exact ⟨0, Nat.zero_le _, rfl, OwnB.nil _ _, Below.refl _ _⟩
  case round =>
    obtain ⟨k, hk, rfl, ho, hb⟩ := hrel
    have Ho := Lib.hid ho
    have Hb := Lib.hid hb
    have hsb := hb.size
    clear ho hb
    by_cases hlt : k < xs.length
    · obtain ⟨ad, rfl, ha, hc1⟩ := (HR.out.kept Hb.out).rd_ (i := k) hlt
      have hx8 := H8.out k
      have Hut := Lib.hid (unp_take xs k hlt)
      obtain ⟨x, hx⟩ : ∃ x, rdn xs k = x := ⟨_, rfl⟩
      rw [hx] at hc1 hx8 Hut
      obtain ⟨x0, x1⟩ := hx8
      clear hx
      obtain ⟨ys, hys⟩ : ∃ ys, (unp xs).take (8 * k) = ys := ⟨_, rfl⟩
      have Hyl : Hid (ys.length = 8 * k) := Lib.hid (by rw [← hys, List.length_take, Hul.out]; omega)
      rw [hys] at Ho Hut
      clear hys
      go_wp2_with fail
      refine (rbits_c x 8 _ x0 (by omega)).mono ?_
      rintro e w' ⟨rfl, rfl⟩
      rw [show clampN 8 = 8 by decide]
      go_wp2_with (
        at_builtin
        refine Lib.wpList_append_own_string _ rfl (.tmp 12) (.tmp 15) 25 9 rfl w.heap.size 5 i0 Try.underlying25 Try.underlying9 hi hz0 hz1 hz2 u3 (ys.map bval).length _ rfl Ho.out (bstr (bitsV x 8)) rfl
          (by rw [List.length_map, Hyl.out, bstr_size, bitsV_length]; unfold maxLen; omega) (by rw [List.length_map, Hyl.out, bstr_size, bitsV_length]; omega) hsb ?_
        intro v1 w1 ho1 hg1 hat1
        have Ho1 := Lib.hid (show OwnB w1 w.heap.size v1 ((ys ++ bitsV x 8).map bval) by
          unfold OwnB
          rw [strCells_bstr] at ho1
          rw [List.map_append, List.map_append]
          simp only [List.length_append, List.length_map, bstr_size] at ho1 ⊢
          exact ho1)
        have Hb1 := Lib.hid (Hb.out.grown hg1 hsb (fun j hj => (Ho.out.blk_lt j hj).1))
        clear ho1 hg1 hat1)
      go_roundw
      case rel => exact ⟨k + 1, by omega, by go_num, by rw [Hut.out]; exact Ho1.out, Hb1.out⟩
      case measure => simp [intOf]; omega
    · have Ho2 : Hid (OwnB wr w.heap.size u3 ((unp xs).map bval)) := Lib.hid (by have := Ho.out; rwa [List.take_of_length_le (by rw [Hul.out]; omega)] at this)
      obtain ⟨A3, c3, rfl, hr3⟩ := Ho2.out.slice
      have hcv := conv_str 25 9 Try.underlying25 Try.underlying9 A3 c3 _ wr hr3 (byte8_bits _)
      rw [bytesStr_bits, List.length_map] at hcv
      rw [List.length_map]
      obtain ⟨t, ht⟩ : ∃ t, bstr (unp xs) = t := ⟨_, rfl⟩
      obtain ⟨n3, hn3⟩ : ∃ n3, (unp xs).length = n3 := ⟨_, rfl⟩
      have Ht := Lib.hid ht
      rw [ht, hn3] at hcv
      rw [hn3]
      have hkl : xs.length ≤ k := by omega
      clear ht hn3 hlt hr3 hsb
      go_wp2_with fail
      go_ret
      exact ⟨congrArg (fun s => Ending.returned (Value.string s)) Ht.out.symm, Hb.out⟩

/-- Block g is the document's reader of the bits bs. -/
def RrI (w : World) (B g : Nat) (bs : List Bool) (a o : Nat) : Prop := B ≤ g ∧ Blk w g 45 #[.string (bstr bs), .int .i64 a, .int .i64 o]
theorem RrI.kept {w w' : World} {B g : Nat} {bs : List Bool} {a o : Nat} (h : RrI w B g bs a o) (hb : Below w.heap.size w w') : RrI w' B g bs a o := ⟨h.1, Blk.below h.2 hb h.2.lt⟩
set_option maxRecDepth 100000 in
set_option maxHeartbeats 3200000 in
theorem rrbit_c (B g : Nat) (bs : List Bool) (a o : Nat) (w : World) (h : RrI w B g bs a o) (hl : bs.length ≤ 10000000) (ha : a ≤ 100000000) (ho : o ≤ 100000000) :
    Calls Try.prog 18 #[.pointer (some ⟨g, 0, none⟩)] w fun e w' => e = .returned (.int .i64 (if nextL bs a then 1 else 0)) ∧ RrI w' B g bs (a + 1) (overL bs a o) ∧ RGoes w w' g := by
  obtain ⟨hB, hg⟩ := h
  have hc0 := hg.cell 0
  have hc1 := hg.cell 1
  have hc2 := hg.cell 2
  simp at hc0 hc1 hc2
  have hf0 := hg.frozen 0
  have hf1 := hg.frozen 1
  have hf2 := hg.frozen 2
  have hlt := hg.lt
  have Hg := Lib.hid hg
  have hsz := bstr_size bs
  have Hat := Lib.hid (bstr_at bs)
  obtain ⟨t, ht⟩ : ∃ t, bstr bs = t := ⟨_, rfl⟩
  have Ht := Lib.hid ht
  rw [ht] at hc0 hsz
  by_cases hin : a < bs.length
  · have Hv : Hid (overL bs a o = o) := Lib.hid (if_pos hin)
    rw [Hv.out]
    have hk2 : a < t.size := by omega
    have hat : (t[a]).toNat = if nextL bs a then 49 else 48 := by
      subst ht
      exact Hat.out a hk2
    clear hg ht
    cases hb : nextL bs a
    · rw [hb] at hat
      have hat2 : ((t[a]).toNat : Int) = 48 := by rw [hat]; rfl
      clear hat hb
      go_enter Try.func18, Try.ntmps18
      go_wp2_with fail
      go_ret
      refine ⟨rfl, ⟨hB, ?_⟩, only_setCell (World.grownBy.refl w _) (.inl rfl) _⟩
      have := Hg.out.set_ 1 (.int .i64 ((a : Int) + 1))
      simpa using this
    · rw [hb] at hat
      have hat2 : ((t[a]).toNat : Int) = 49 := by rw [hat]; rfl
      clear hat hb
      go_enter Try.func18, Try.ntmps18
      go_wp2_with fail
      go_ret
      refine ⟨rfl, ⟨hB, ?_⟩, only_setCell (World.grownBy.refl w _) (.inl rfl) _⟩
      have := Hg.out.set_ 1 (.int .i64 ((a : Int) + 1))
      simpa using this
  · have Hn : Hid (nextL bs a = false) := Lib.hid (nextL_end (by omega))
    have Hv : Hid (overL bs a o = o + 1) := Lib.hid (if_neg hin)
    rw [Hn.out, Hv.out]
    have hi1 : (t.size : Int) ≤ (a : Int) := by omega
    clear hg hin ht
    go_enter Try.func18, Try.ntmps18
    go_wp2_with fail
    go_ret
    refine ⟨rfl, ⟨hB, ?_⟩, only_setCell (p := ⟨g, 2, none⟩) (only_setCell (p := ⟨g, 1, none⟩) (World.grownBy.refl w _) (.inl rfl) _) (.inl rfl) _⟩
    have := (Hg.out.set_ 1 (.int .i64 ((a : Int) + 1))).set_ 2 (.int .i64 ((o : Int) + 1))
    simpa using this
set_option maxRecDepth 100000 in
set_option maxHeartbeats 3200000 in
theorem rrget_c (B g : Nat) (bs : List Bool) (a o : Nat) (n : Int) (w : World) (h : RrI w B g bs a o) (hl : bs.length ≤ 10000000) (ha : a ≤ 10000000) (ho : o ≤ 10000000) :
    Calls Try.prog 20 #[.pointer (some ⟨g, 0, none⟩), .int .i64 n] w fun e w' => e = .returned (.int .u64 (valL bs a (clampN n))) ∧ RrI w' B g bs (a + clampN n) (ovL bs a o (clampN n)) ∧ RGoes w w' g := by
  have hc := clampN_le n
  obtain ⟨c, hcc⟩ : ∃ c, clampN n = c := ⟨_, rfl⟩
  have hn : (c : Int) = min (max n 0) 64 := by rw [← hcc]; unfold clampN; omega
  rw [hcc] at hc ⊢
  clear hcc
  have Hw := Lib.hid h
  clear h
  go_enter Try.func20, Try.ntmps20
  go_wp2_with fail
  go_loopw [5, 6] (fun v i wr => ∃ k : Nat, k ≤ c ∧ i = .int .i64 k ∧ v = .int .u64 (valL bs a k) ∧ RrI wr B g bs (a + k) (ovL bs a o k) ∧ RGoes w wr g) (fun v i _ => (c - (intOf i)).toNat)
  case atStart => exact ⟨0, Nat.zero_le _, rfl, rfl, Hw.out, RGoes.refl _ _⟩
  case round =>
    obtain ⟨k, hk, rfl, rfl, hr, hg⟩ := hrel
    have Hr := Lib.hid hr
    have Hg := Lib.hid hg
    clear hr hg
    by_cases hlt : k < c
    · have hk64 : (k : Int) < 64 := by omega
      have hkn : (k : Int) < n := by omega
      have hvb := valL_bd bs a k
      have hob := ovL_bd bs a o k
      have hp := pow_le64 (k := k) (by omega)
      obtain ⟨v, hv⟩ : ∃ v, valL bs a k = v := ⟨_, rfl⟩
      have Hs : Hid (valL bs a (k + 1) = 2 * v + (if nextL bs (a + k) then 1 else 0)) := Lib.hid (by rw [← hv]; rfl)
      rw [hv] at hvb ⊢
      have hv0 : 0 ≤ v := hvb.1
      have hv1 : v < 9223372036854775808 := by omega
      clear hvb hp hv hn
      have Hbit := Lib.hid (rrbit_c B g bs (a + k) (ovL bs a o k) wr Hr.out hl (by omega) (by omega))
      cases hb : nextL bs (a + k)
      · rw [hb] at Hbit Hs
        clear hb
        go_wp2_with fail
        refine Hbit.out.mono ?_
        rintro e w' ⟨rfl, hr2, hg2⟩
        have Hr2 := Lib.hid hr2
        have Hg2 := Lib.hid hg2
        clear hr2 hg2
        simp only [Bool.false_eq_true, if_false]
        go_wp2_with fail
        go_roundw
        case rel => exact ⟨k + 1, by omega, by go_num, by rw [Hs.out]; simp, Hr2.out, RGoes.trans Hg.out Hg2.out⟩
        case measure => simp [intOf] <;> omega
      · rw [hb] at Hbit Hs
        clear hb
        go_wp2_with fail
        refine Hbit.out.mono ?_
        rintro e w' ⟨rfl, hr2, hg2⟩
        have Hr2 := Lib.hid hr2
        have Hg2 := Lib.hid hg2
        clear hr2 hg2
        simp only [if_true]
        go_wp2_with fail
        go_roundw
        case rel => exact ⟨k + 1, by omega, by go_num, by rw [Hs.out]; simp, Hr2.out, RGoes.trans Hg.out Hg2.out⟩
        case measure => simp [intOf] <;> omega
    · obtain rfl : k = c := by omega
      have hor : n ≤ (k : Int) ∨ (64 ≤ (k : Int) ∧ (k : Int) < n) := by omega
      clear hn
      rcases hor with hor | ⟨ho1, ho2⟩
      · go_wp2_with fail
        go_ret
        exact ⟨rfl, Hr.out, Hg.out⟩
      · go_wp2_with fail
        go_ret
        exact ⟨rfl, Hr.out, Hg.out⟩
theorem rrleft_c (B g : Nat) (bs : List Bool) (a o : Nat) (w : World) (h : RrI w B g bs a o) (hl : bs.length ≤ 10000000) (ha : a ≤ 100000000) :
    Calls Try.prog 25 #[.pointer (some ⟨g, 0, none⟩)] w fun e w' => e = .returned (.int .i64 ((bs.length - a : Nat) : Int)) ∧ ∃ q, w' = w.drewN q := by
  obtain ⟨hB, hg⟩ := h
  have hc0 := hg.cell 0
  have hc1 := hg.cell 1
  simp at hc0 hc1
  have hsz := bstr_size bs
  obtain ⟨t, ht⟩ : ∃ t, bstr bs = t := ⟨_, rfl⟩
  rw [ht] at hc0 hsz
  clear hg ht
  have hw2 : IntKind.i64.wrap ((t.size : Int) - (a : Int)) = (t.size : Int) - (a : Int) := IntWalk.i64_in _ (by omega)
  rcases Nat.lt_or_ge a bs.length with h | h
  · have he : ((bs.length - a : Nat) : Int) = (t.size : Int) - a := by omega
    rw [he]
    have h2 : 0 < (t.size : Int) - a := by omega
    clear he h hsz
    go_enter Try.func25, Try.ntmps25
    go_wp2_with fail
    go_quiet (fail)
    go_wp2_with fail
    all_goals (go_ret; refine ⟨?_, _, rfl⟩; try simp; try omega)
  · have he : ((bs.length - a : Nat) : Int) = 0 := by omega
    rw [he]
    have h2 : (t.size : Int) - a ≤ 0 := by omega
    clear he h hsz
    go_enter Try.func25, Try.ntmps25
    go_wp2_with fail
    go_quiet (fail)
    go_wp2_with fail
    all_goals (go_ret; refine ⟨?_, _, rfl⟩; try simp; try omega)
set_option maxRecDepth 100000 in
set_option maxHeartbeats 3200000 in
theorem rralign_c (B g : Nat) (bs : List Bool) (a o : Nat) (w : World) (h : RrI w B g bs a o) (ha : a ≤ 100000000) :
    Calls Try.prog 22 #[.pointer (some ⟨g, 0, none⟩)] w fun e w' => e = .returned (.tuple #[]) ∧ RrI w' B g bs ((a + 7) / 8 * 8) o ∧ RGoes w w' g := by
  have Hw := Lib.hid h
  clear h
  go_enter Try.func22, Try.ntmps22
  go_wp2_with fail
  go_loopw [] (fun wr => ∃ b : Nat, a ≤ b ∧ b ≤ (a + 7) / 8 * 8 ∧ RrI wr B g bs b o ∧ RGoes w wr g) (fun wr => (8 - (intOf ((wr.cell? ⟨g, 1, none⟩).getD (.int .i64 0))).toNat % 8) % 8)
  case atStart => exact ⟨a, Nat.le_refl _, by omega, Hw.out, RGoes.refl _ _⟩
  case round =>
    obtain ⟨b, hab, hb, hr, hg⟩ := hrel
    have hc1 := hr.2.cell 1
    simp at hc1
    have hf1 := hr.2.frozen 1
    have hlt := hr.2.lt
    have Hr := Lib.hid hr
    have Hg := Lib.hid hg
    have Hc1 := Lib.hid hc1
    clear hr hg
    by_cases h8 : b % 8 = 0
    · have hb8 : ((b : Int) % 8 == 0) = true := by rw [beq_iff_eq]; omega
      have hbe : (a + 7) / 8 * 8 = b := by omega
      have Hbe := Lib.hid hbe
      clear hbe h8
      go_wp2_with fail
      go_end0
      rw [Hbe.out]
      exact ⟨rfl, Hr.out, Hg.out⟩
    · have hb8 : ((b : Int) % 8 == 0) = false := by rw [beq_eq_false_iff_ne]; omega
      go_wp2_with fail
      go_roundw
      case rel =>
        refine ⟨b + 1, by omega, by omega, ⟨Hr.out.1, ?_⟩, RGoes.trans Hg.out (only_setCell (p := ⟨g, 1, none⟩) (World.grownBy.refl wr _) (.inl rfl) _)⟩
        have := Hr.out.2.set_ 1 (.int .i64 ((b : Int) + 1))
        simpa using this
      case measure =>
        rw [Hc1.out, World.cell?_setCell_same _ _ _ Hc1.out]
        simp [intOf]; omega

end Go.Proofs.Ytoiofnmodinpcaa
