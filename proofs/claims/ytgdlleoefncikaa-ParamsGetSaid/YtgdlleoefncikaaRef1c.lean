/- The document's answer for layer 1: the bits of bytes, the reader. -/
import Derived.Test.YtgdlleoefncikaaRef1b
namespace Go.Proofs.Ytgdlleoefncikaa
open Go.RowKit
set_option linter.unusedVariables false
set_option linter.unusedSimpArgs false

theorem byte8_of2 {xs : List Int} (h : ∀ x ∈ xs, 0 ≤ x ∧ x ≤ 255) : Byte8 xs := by
  intro j
  unfold rdn
  by_cases hj : j < xs.length
  · simp only [List.getD_eq_getElem?_getD, List.getElem?_eq_getElem hj, Option.getD_some]
    exact h _ (List.getElem_mem hj)
  · simp [List.getD_eq_getElem?_getD, List.getElem?_eq_none (show xs.length ≤ j by omega)]
def bval (b : Bool) : Int := if b then 49 else 48
theorem strCells_bstr (q : List Bool) : Lib.strCells (bstr q) = (q.map bval).map (Value.int .u8) := by
  unfold Lib.strCells bstr
  simp only [List.map_map]
  apply List.map_congr_left
  intro b _
  cases b <;> rfl
theorem bytesStr_bits (q : List Bool) : bytesStr (q.map bval) = bstr q := by
  unfold bytesStr bstr
  rw [List.map_map]
  congr 2
  apply List.map_congr_left
  intro b _
  cases b <;> rfl
theorem unp_take (xs : List Int) (k : Nat) (h : k < xs.length) : (unp xs).take (8 * (k + 1)) = (unp xs).take (8 * k) ++ bitsV (rdn xs k) 8 := by
  have hl := unp_length xs
  rw [show 8 * (k + 1) = 8 * k + 8 by omega, List.take_add]
  congr 1
  apply List.ext_getElem
  · rw [List.length_take, List.length_drop, hl, bitsV_length]; omega
  · intro i h1 h2
    rw [bitsV_length] at h2
    simp only [List.getElem_take, List.getElem_drop, unp, bitsV, List.getElem_map, List.getElem_range, bitU]
    rw [show (8 * k + i) / 8 = k by omega, show (8 * k + i) % 8 = i by omega, show 8 - 1 - i = 7 - i by omega]
theorem byte8_bits (q : List Bool) : Byte8 (q.map bval) := byte8_of2 fun x hx => by
  obtain ⟨b, _, rfl⟩ := List.mem_map.1 hx
  cases b <;> simp [bval]

set_option maxRecDepth 100000 in
set_option maxHeartbeats 3200000 in
theorem rall_c (A : Option Addr) (c : Nat) (xs : List Int) (w : World) (hR : ReadsB w A xs) (h8 : Byte8 xs) (hl : xs.length ≤ 100000) :
    Calls Try.prog 33 #[.slice A xs.length c] w fun e w' => e = .returned (.string (bstr (unp xs))) ∧ Below w.heap.size w w' := by
  have HR := Lib.hid hR
  have H8 := Lib.hid h8
  clear hR h8
  obtain ⟨i0, hi, hz0, hz1, hz2⟩ := info_parts info_byte
  have hul := unp_length xs
  have Hul := Lib.hid hul
  clear hul
  go_enter Try.func33, Try.ntmps33
  go_wp2_with fail
  go_loopw [3, 8] (fun v i wr => ∃ k : Nat, k ≤ xs.length ∧ i = .int .i64 k ∧ OwnB wr w.heap.size v (((unp xs).take (8 * k)).map bval) ∧ Below w.heap.size w wr) (fun v i _ => (xs.length - (intOf i)).toNat)
  case atStart => exact ⟨0, Nat.zero_le _, rfl, OwnB.nil _ _, Below.refl _ _⟩
  case round =>
    obtain ⟨k, hk, rfl, ho, hb⟩ := hrel
    have Ho := Lib.hid ho
    have Hb := Lib.hid hb
    have hsb := hb.size
    clear ho hb
    by_cases hlt : k < xs.length
    · obtain ⟨ad, rfl, ha, hc1⟩ := (HR.out.kept Hb.out).rd_ (i := k) hlt
      have hx8 := H8.out k
      have Hut := Lib.hid (unp_take xs k hlt)
      obtain ⟨x, hx⟩ : ∃ x, rdn xs k = x := ⟨_, rfl⟩
      rw [hx] at hc1 hx8 Hut
      obtain ⟨x0, x1⟩ := hx8
      clear hx
      obtain ⟨ys, hys⟩ : ∃ ys, (unp xs).take (8 * k) = ys := ⟨_, rfl⟩
      have Hyl : Hid (ys.length = 8 * k) := Lib.hid (by rw [← hys, List.length_take, Hul.out]; omega)
      rw [hys] at Ho Hut
      clear hys
      go_wp2_with fail
      refine (rbits_c x 8 _ x0 (by omega)).mono ?_
      rintro e w' ⟨rfl, rfl⟩
      rw [show clampN 8 = 8 by decide]
      go_wp2_with (
        at_builtin
        refine Lib.wpList_append_own_string _ rfl (.tmp 12) (.tmp 15) 28 9 rfl w.heap.size 5 i0 Try.underlying28 Try.underlying9 hi hz0 hz1 hz2 u3 (ys.map bval).length _ rfl Ho.out (bstr (bitsV x 8)) rfl
          (by rw [List.length_map, Hyl.out, bstr_size, bitsV_length]; unfold maxLen; omega) (by rw [List.length_map, Hyl.out, bstr_size, bitsV_length]; omega) hsb ?_
        intro v1 w1 ho1 hg1 hat1
        have Ho1 := Lib.hid (show OwnB w1 w.heap.size v1 ((ys ++ bitsV x 8).map bval) by
          unfold OwnB
          rw [strCells_bstr] at ho1
          rw [List.map_append, List.map_append]
          simp only [List.length_append, List.length_map, bstr_size] at ho1 ⊢
          exact ho1)
        have Hb1 := Lib.hid (Hb.out.grown hg1 hsb (fun j hj => (Ho.out.blk_lt j hj).1))
        clear ho1 hg1 hat1)
      go_roundw
      case rel => exact ⟨k + 1, by omega, by go_num, by rw [Hut.out]; exact Ho1.out, Hb1.out⟩
      case measure => simp [intOf]; omega
    · have Ho2 : Hid (OwnB wr w.heap.size u3 ((unp xs).map bval)) := Lib.hid (by have := Ho.out; rwa [List.take_of_length_le (by rw [Hul.out]; omega)] at this)
      obtain ⟨A3, c3, rfl, hr3⟩ := Ho2.out.slice
      have hcv := conv_str 28 9 Try.underlying28 Try.underlying9 A3 c3 _ wr hr3 (byte8_bits _)
      rw [bytesStr_bits, List.length_map] at hcv
      rw [List.length_map]
      obtain ⟨t, ht⟩ : ∃ t, bstr (unp xs) = t := ⟨_, rfl⟩
      obtain ⟨n3, hn3⟩ : ∃ n3, (unp xs).length = n3 := ⟨_, rfl⟩
      have Ht := Lib.hid ht
      rw [ht, hn3] at hcv
      rw [hn3]
      have hkl : xs.length ≤ k := by omega
      clear ht hn3 hlt hr3 hsb
      go_wp2_with fail
      go_ret
      exact ⟨congrArg (fun s => Ending.returned (Value.string s)) Ht.out.symm, Hb.out⟩

/-- Block g is the document's reader of the bits bs. -/
def RrI (w : World) (B g : Nat) (bs : List Bool) (a o : Nat) : Prop := B ≤ g ∧ Blk w g 71 #[.string (bstr bs), .int .i64 a, .int .i64 o]
theorem RrI.kept {w w' : World} {B g : Nat} {bs : List Bool} {a o : Nat} (h : RrI w B g bs a o) (hb : Below w.heap.size w w') : RrI w' B g bs a o := ⟨h.1, Blk.below h.2 hb h.2.lt⟩
set_option maxRecDepth 100000 in
set_option maxHeartbeats 3200000 in
theorem rrbit_c (B g : Nat) (bs : List Bool) (a o : Nat) (w : World) (h : RrI w B g bs a o) (hl : bs.length ≤ 10000000) (ha : a ≤ 100000000) (ho : o ≤ 100000000) :
    Calls Try.prog 35 #[.pointer (some ⟨g, 0, none⟩)] w fun e w' => e = .returned (.int .i64 (if nextL bs a then 1 else 0)) ∧ RrI w' B g bs (a + 1) (overL bs a o) ∧ RGoes w w' g := by
  obtain ⟨hB, hg⟩ := h
  have hc0 := hg.cell 0
  have hc1 := hg.cell 1
  have hc2 := hg.cell 2
  simp at hc0 hc1 hc2
  have hf0 := hg.frozen 0
  have hf1 := hg.frozen 1
  have hf2 := hg.frozen 2
  have hlt := hg.lt
  have Hg := Lib.hid hg
  have hsz := bstr_size bs
  have Hat := Lib.hid (bstr_at bs)
  obtain ⟨t, ht⟩ : ∃ t, bstr bs = t := ⟨_, rfl⟩
  have Ht := Lib.hid ht
  rw [ht] at hc0 hsz
  by_cases hin : a < bs.length
  · have Hv : Hid (overL bs a o = o) := Lib.hid (if_pos hin)
    rw [Hv.out]
    have hk2 : a < t.size := by omega
    have hat : (t[a]).toNat = if nextL bs a then 49 else 48 := by
      subst ht
      exact Hat.out a hk2
    clear hg ht
    cases hb : nextL bs a
    · rw [hb] at hat
      have hat2 : ((t[a]).toNat : Int) = 48 := by rw [hat]; rfl
      clear hat hb
      go_enter Try.func35, Try.ntmps35
      go_wp2_with fail
      go_ret
      refine ⟨rfl, ⟨hB, ?_⟩, only_setCell (World.grownBy.refl w _) (.inl rfl) _⟩
      have := Hg.out.set_ 1 (.int .i64 ((a : Int) + 1))
      simpa using this
    · rw [hb] at hat
      have hat2 : ((t[a]).toNat : Int) = 49 := by rw [hat]; rfl
      clear hat hb
      go_enter Try.func35, Try.ntmps35
      go_wp2_with fail
      go_ret
      refine ⟨rfl, ⟨hB, ?_⟩, only_setCell (World.grownBy.refl w _) (.inl rfl) _⟩
      have := Hg.out.set_ 1 (.int .i64 ((a : Int) + 1))
      simpa using this
  · have Hn : Hid (nextL bs a = false) := Lib.hid (nextL_end (by omega))
    have Hv : Hid (overL bs a o = o + 1) := Lib.hid (if_neg hin)
    rw [Hn.out, Hv.out]
    have hi1 : (t.size : Int) ≤ (a : Int) := by omega
    clear hg hin ht
    go_enter Try.func35, Try.ntmps35
    go_wp2_with fail
    go_ret
    refine ⟨rfl, ⟨hB, ?_⟩, only_setCell (p := ⟨g, 2, none⟩) (only_setCell (p := ⟨g, 1, none⟩) (World.grownBy.refl w _) (.inl rfl) _) (.inl rfl) _⟩
    have := (Hg.out.set_ 1 (.int .i64 ((a : Int) + 1))).set_ 2 (.int .i64 ((o : Int) + 1))
    simpa using this

end Go.Proofs.Ytgdlleoefncikaa
