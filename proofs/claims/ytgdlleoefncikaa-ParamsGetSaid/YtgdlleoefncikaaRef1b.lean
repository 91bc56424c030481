/- The document's answer for layer 1: bytes of bits, bits of bytes, the reader. -/
import Derived.Test.YtgdlleoefncikaaRef1
import Derived.Lib.AppendStr
import Derived.Laws.IdiomStrings
namespace Go.Proofs.Ytgdlleoefncikaa
open Go.RowKit
set_option linter.unusedVariables false
set_option linter.unusedSimpArgs false

theorem padB_mod (bs : List Bool) : (padB bs).length % 8 = 0 := by unfold padB; rw [List.length_append, List.length_replicate]; omega
theorem padB_len (bs : List Bool) : (padB bs).length = 8 * ((bs.length + 7) / 8) := by unfold padB; rw [List.length_append, List.length_replicate]; omega
theorem bitZ_padB (bs : List Bool) (k : Nat) : bitZ (padB bs) k = bitZ bs k := by
  by_cases h : k < bs.length
  · unfold bitZ padB
    rw [List.getD_eq_getElem?_getD, List.getD_eq_getElem?_getD, List.getElem?_append_left h]
  · rw [bitZ_ge bs (by omega)]
    unfold bitZ padB
    rw [List.getD_eq_getElem?_getD, List.getElem?_append_right (by omega), List.getElem?_replicate]
    split <;> rfl
theorem byteZ_padB (bs : List Bool) (i : Nat) : byteZ (padB bs) i = byteZ bs i := by unfold byteZ; simp only [bitZ_padB]
theorem bitZ_next (bs : List Bool) (k : Nat) : bitZ bs k = if nextL bs k then 1 else 0 := rfl
theorem nextL_cut (bs : List Bool) (j k : Nat) (h : k < 8) : nextL ((bs.drop j).take 8) k = nextL bs (j + k) := by
  unfold nextL
  rw [List.getD_eq_getElem?_getD, List.getD_eq_getElem?_getD, List.getElem?_take_of_lt h, List.getElem?_drop]
theorem byteZ_val (bs : List Bool) (k : Nat) : valL ((bs.drop (8 * k)).take 8) 0 8 = byteZ bs k := by
  have h : ∀ j, j < 8 → (if nextL ((bs.drop (8 * k)).take 8) j then (1 : Int) else 0) = bitZ bs (8 * k + j) := fun j hj => by rw [nextL_cut _ _ _ hj]; rfl
  have e : valL ((bs.drop (8 * k)).take 8) 0 8 = 2 * (2 * (2 * (2 * (2 * (2 * (2 * (2 * 0 + bitZ bs (8 * k + 0)) + bitZ bs (8 * k + 1)) + bitZ bs (8 * k + 2)) + bitZ bs (8 * k + 3)) + bitZ bs (8 * k + 4)) + bitZ bs (8 * k + 5)) + bitZ bs (8 * k + 6)) + bitZ bs (8 * k + 7) := by
    rw [← h 0 (by omega), ← h 1 (by omega), ← h 2 (by omega), ← h 3 (by omega), ← h 4 (by omega), ← h 5 (by omega), ← h 6 (by omega), ← h 7 (by omega)]
    rfl
  rw [e, Nat.add_zero]
  unfold byteZ
  omega
theorem bstr_cut (bs : List Bool) (j : Nat) : (bstr bs).extract j (j + 8) = bstr ((bs.drop j).take 8) := by
  unfold bstr
  rw [ByteArray.extract_mk, show j + 8 - j = 8 by omega, ← List.map_drop, ← List.map_take]
theorem packZ_tab (bs : List Bool) : packZ bs = tab ((bs.length + 7) / 8) (byteZ bs) := rfl

set_option maxRecDepth 100000 in
set_option maxHeartbeats 3200000 in
theorem rbytes_c (bs : List Bool) (w : World) (hl : bs.length ≤ 1000000) :
    Calls Try.prog 27 #[.string (bstr bs)] w fun e w' => ∃ v, e = .returned v ∧ OwnB w' w.heap.size v (packZ bs) ∧ Below w.heap.size w w' := by
  obtain ⟨p, Hp⟩ : ∃ p, Hid (padB bs = p) := ⟨_, Lib.hid rfl⟩
  obtain ⟨m, Hm⟩ : ∃ m, Hid ((bs.length + 7) / 8 = m) := ⟨_, Lib.hid rfl⟩
  have hpl : p.length = 8 * m := by rw [← Hp.out, ← Hm.out, padB_len]
  have hm2 : m ≤ 125001 := by rw [← Hm.out]; omega
  have Hpk : Hid (packZ bs = tab m (byteZ p)) := Lib.hid (by rw [packZ_tab, Hm.out, ← Hp.out]; exact tab_congr fun a _ => (byteZ_padB bs a).symm)
  rw [Hpk.out]
  have hsz := bstr_size p
  rw [hpl] at hsz
  have Hcut := Lib.hid (bstr_cut p)
  obtain ⟨t, ht⟩ : ∃ t, bstr p = t := ⟨_, rfl⟩
  have Ht := Lib.hid ht
  rw [ht] at hsz Hcut
  have Hsz := Lib.hid hsz
  have hsz2 : (t.size : Int) = 8 * (m : Int) := by omega
  have Hpl := Lib.hid hpl
  clear hpl hsz ht
  go_enter Try.func27, Try.ntmps27
  go_wp2_with fail
  refine (rpad_c bs _ hl).mono ?_
  rintro e w' ⟨rfl, rfl⟩
  rw [Hp.out, Ht.out]
  go_wp2_with fail
  go_loopw [3, 4] (fun v i wr => ∃ k : Nat, k ≤ m ∧ i = .int .i64 ((8 * k : Nat) : Int) ∧ OwnB wr w.heap.size v (tab k (byteZ p)) ∧ Below w.heap.size w wr) (fun v i _ => (8 * m - (intOf i)).toNat)
  case atStart => exact ⟨0, Nat.zero_le _, rfl, OwnB.nil _ _, Below.refl _ _⟩
  case round =>
    obtain ⟨k, hk, rfl, ho, hb⟩ := hrel
    have Ho := Lib.hid ho
    have Hb := Lib.hid hb
    have hsb := hb.size
    clear ho hb
    obtain ⟨j, hj⟩ : ∃ j, 8 * k = j := ⟨_, rfl⟩
    have hj2 : (j : Int) = 8 * (k : Int) := by omega
    rw [hj]
    by_cases hlt : k < m
    · have hcut := Hcut.out j
      obtain ⟨sub, hsub⟩ : ∃ sub, (p.drop j).take 8 = sub := ⟨_, rfl⟩
      have Hsl : Hid (sub.length = 8) := Lib.hid (by rw [← hsub, List.length_take, List.length_drop, Hpl.out]; omega)
      have Hval : Hid (valL sub 0 sub.length = byteZ p k) := Lib.hid (by rw [Hsl.out, ← hsub, ← hj]; exact byteZ_val p k)
      rw [hsub] at hcut
      have Hcut2 := Lib.hid hcut
      have hbd := byteZ_bd p k
      have Htab : Hid (tab (k + 1) (byteZ p) = tab k (byteZ p) ++ [byteZ p k]) := Lib.hid (by unfold tab; rw [List.range_succ, List.map_append]; rfl)
      have Htl : Hid ((tab k (byteZ p)).length = k) := Lib.hid (tab_length _ _)
      obtain ⟨z, hz⟩ : ∃ z, byteZ p k = z := ⟨_, rfl⟩
      rw [hz] at hbd Hval Htab
      have b1 : (j : Int) + 8 ≤ (t.size : Int) := by omega
      have b2 : j + 8 ≤ t.size := by omega
      have b3 : t.size ≤ 1000008 := by omega
      have b4 : (j : Int) ≤ (j : Int) + 8 := by omega
      have Hj := Lib.hid hj
      clear hcut hsub hz hj hj2 hsz2
      go_wp2_with fail
      rw [Hcut2.out]
      refine (rnumber_c sub _ (by rw [Hsl.out]; omega)).mono ?_
      rintro e w' ⟨rfl, rfl⟩
      rw [Hval.out]
      obtain ⟨hz0, hz1⟩ := hbd
      go_wp2_with (
        at_builtin
        refine wpListB_app rfl (.tmp 13) (.tmp 21) 28 rfl Try.underlying28 u3 (tab k (byteZ p)) rfl w.heap.size (Ho.out.alloc _) 1 [z] rfl wr.heap.size 1 rfl (bcells1 (by simp)) (by rw [Htl.out]; omega) (by simp; omega) ?_
        intro v1 w1 ho1 hg1 hat1
        have Ho1 := Lib.hid ho1
        have Hb1 := Lib.hid ((Hb.out.alloc hsb _).grown hg1 (by simp; omega) (fun j hj => (Ho.out.blk_lt j hj).1))
        clear ho1 hg1 hat1)
      go_roundw
      case rel => exact ⟨k + 1, by omega, congrArg (Value.int .i64) (by have := Hj.out; omega), by rw [Htab.out]; exact Ho1.out, Hb1.out⟩
      case measure => have := Hj.out; have := Hsz.out; simp [intOf]; omega
    · obtain rfl : k = m := by omega
      have b1 : (t.size : Int) ≤ (j : Int) := by omega
      clear hj2 hsz2
      go_wp2_with fail
      go_ret
      exact ⟨_, rfl, Ho.out, Hb.out⟩

/-- Bytes as a string. -/
def bytesStr (xs : List Int) : ByteArray := ⟨(xs.map fun x => UInt8.ofNat x.toNat).toArray⟩
theorem conv_str (T S : TypeId) (hT : Try.prog.underlying T = some (.slice 5)) (hS : Try.prog.underlying S = some .string) (A : Option Addr) (c : Nat) (xs : List Int) (w : World) (hR : ReadsB w A xs) (h8 : Byte8 xs) :
    (convert T S (.slice A xs.length c)).run Try.prog w = .ok (.string (bytesStr xs)) w := by
  rcases A with _ | ad
  · have h0 : xs.length = 0 := by
      rcases Nat.eq_zero_or_pos xs.length with h | h
      · exact h
      · obtain ⟨ad, h, _⟩ := hR.2 h
        cases h
    have hx : xs = [] := List.eq_nil_of_length_eq_zero h0
    subst hx
    rw [List.length_nil, run_convert_bytes_string w T S 5 none 0 c hT Try.underlying5 hS]
    rfl
  · have hl : (xs.map fun x => UInt8.ofNat x.toNat).length = xs.length := by simp
    have := run_convert_bytes_back (P := Try.prog) w T S 5 ad c (xs.map fun x => UInt8.ofNat x.toNat) hT Try.underlying5 hS (fun j hj => by
      rw [hl] at hj
      obtain ⟨ad2, e, _, hc⟩ := hR.rd_ hj
      cases e
      rw [hc]
      have hb := h8 j
      simp only [List.getElem_map]
      have e2 : rdn xs j = xs[j] := by simp [rdn, List.getD_eq_getElem?_getD, hj]
      rw [e2] at hb ⊢
      congr 2
      have : xs[j].toNat < 256 := by omega
      have e3 : (UInt8.ofNat xs[j].toNat).toNat = xs[j].toNat % 256 := by simp
      rw [e3]
      omega)
    rw [hl] at this
    exact this

end Go.Proofs.Ytgdlleoefncikaa
