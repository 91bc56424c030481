/- The document's answer for layer 1: bits as strings. -/
import Derived.Test.YtgdlleoefncikaaBitsR
import Derived.Laws.Strings
import Derived.Laws.Strings2
import Derived.Laws.Strings3
import Derived.Laws.Concat
namespace Go.Proofs.Ytgdlleoefncikaa
open Go.RowKit
set_option linter.unusedVariables false
set_option linter.unusedSimpArgs false

def bchar (b : Bool) : UInt8 := if b then 49 else 48
/-- Bits as a string. -/
def bstr (bs : List Bool) : ByteArray := ⟨(bs.map bchar).toArray⟩
theorem bstr_size (bs : List Bool) : (bstr bs).size = bs.length := by simp [bstr, ByteArray.size]
theorem bstr_app (a b : List Bool) : bstr a ++ bstr b = bstr (a ++ b) := by unfold bstr; rw [ByteArray.mk_append_mk, List.map_append]
theorem bstr_nil : bstr [] = ⟨#[]⟩ := rfl
theorem bstr_one (b : Bool) : bstr [b] = ⟨#[bchar b]⟩ := rfl
theorem bstr_at (bs : List Bool) (k : Nat) (h : k < (bstr bs).size) : ((bstr bs)[k]).toNat = if nextL bs k then 49 else 48 := by
  have hk : k < bs.length := by rw [bstr_size] at h; exact h
  show ((bs.map bchar).toArray[k]'(by simpa using hk)).toNat = _
  simp only [List.getElem_toArray, List.getElem_map]
  unfold nextL bchar
  rw [List.getD_eq_getElem?_getD, List.getElem?_eq_getElem hk]
  simp only [Option.getD_some]
  split <;> rfl
theorem bitsV_succ (x : Int) (k : Nat) : bitsV x (k + 1) = (x / 2 ^ k % 2 == 1) :: bitsV x k := by
  apply List.ext_getElem
  · simp [bitsV]
  · intro i h1 h2
    cases i with
    | zero => simp [bitsV]
    | succ i =>
      simp [bitsV] at h1 ⊢
      rw [show k - (i + 1) = k - 1 - i by omega]

set_option maxRecDepth 100000 in
set_option maxHeartbeats 3200000 in
theorem rbits_c (x n : Int) (w : World) (h0 : 0 ≤ x) (h1 : x ≤ 18446744073709551615) :
    Calls Try.prog 47 #[.int .u64 x, .int .i64 n] w fun e w' => e = .returned (.string (bstr (bitsV x (clampN n)))) ∧ w = w' := by
  have hc := clampN_le n
  obtain ⟨c, hcc⟩ : ∃ c, clampN n = c := ⟨_, rfl⟩
  have hn : (c : Int) = min (max n 0) 64 := by rw [← hcc]; unfold clampN; omega
  rw [hcc] at hc ⊢
  clear hcc
  go_enter Try.func47, Try.ntmps47
  go_wp2_with fail
  go_loopw [0, 5, 6] (fun v s i wr => ∃ k : Nat, k ≤ c ∧ i = .int .i64 k ∧ v = .int .u64 (x / 2 ^ k) ∧ s = .string (bstr (bitsV x k)) ∧ w = wr) (fun v s i _ => (c - (intOf i)).toNat)
  case atStart => exact ⟨0, Nat.zero_le _, rfl, by simp, rfl, rfl⟩
  case round =>
    obtain ⟨k, hk, rfl, rfl, rfl, rfl⟩ := hrel
    have hsz : (bstr (bitsV x k)).size = k := by rw [bstr_size, bitsV_length]
    by_cases hlt : k < c
    · have hk64 : (k : Int) < 64 := by omega
      have hkn : (k : Int) < n := by omega
      have hd := div_pow_bd k h0 h1
      have hs : bitsV x (k + 1) = (x / 2 ^ k % 2 == 1) :: bitsV x k := bitsV_succ x k
      have hp : x / 2 ^ (k + 1) = x / 2 ^ k / 2 := by rw [Int.pow_succ, Int.ediv_ediv_of_nonneg (Int.le_of_lt (Int.pow_pos (by decide)))]
      have Hp := Lib.hid hp
      obtain ⟨v, hv⟩ : ∃ v, x / 2 ^ k = v := ⟨_, rfl⟩
      rw [hv] at hd hs Hp ⊢
      obtain ⟨hv0, hv1⟩ := hd
      obtain ⟨t, ht⟩ : ∃ t, bstr (bitsV x k) = t := ⟨_, rfl⟩
      rcases (show v % 2 = 1 ∨ v % 2 = 0 by omega) with hm | hm
      · have Hs : Hid (bstr (bitsV x (k + 1)) = ⟨#[49]⟩ ++ t) := Lib.hid (by rw [hs, hm, ← ht, show (⟨#[49]⟩ : ByteArray) = bstr [true] from rfl, bstr_app]; rfl)
        rw [ht] at hsz ⊢
        clear hs ht hv hp hn
        go_wp2_with fail
        go_roundw
        case rel => exact ⟨k + 1, by omega, by go_num, by rw [Hp.out], by rw [Hs.out], by trivial⟩
        case measure => simp [intOf]; omega
      · have Hs : Hid (bstr (bitsV x (k + 1)) = ⟨#[48]⟩ ++ t) := Lib.hid (by rw [hs, hm, ← ht, show (⟨#[48]⟩ : ByteArray) = bstr [false] from rfl, bstr_app]; rfl)
        rw [ht] at hsz ⊢
        clear hs ht hv hp hn
        go_wp2_with fail
        go_roundw
        case rel => exact ⟨k + 1, by omega, by go_num, by rw [Hp.out], by rw [Hs.out], by trivial⟩
        case measure => simp [intOf]; omega
    · obtain rfl : k = c := by omega
      have hor : n ≤ (k : Int) ∨ (64 ≤ (k : Int) ∧ (k : Int) < n) := by omega
      obtain ⟨t, ht⟩ : ∃ t, bstr (bitsV x k) = t := ⟨_, rfl⟩
      rw [ht]
      have Ht := Lib.hid ht
      clear ht hn hsz
      rcases hor with hor | ⟨ho1, ho2⟩
      · go_wp2_with fail
        go_ret
        exact ⟨congrArg (fun s => Ending.returned (Value.string s)) Ht.out.symm, rfl⟩
      · go_wp2_with fail
        go_ret
        exact ⟨congrArg (fun s => Ending.returned (Value.string s)) Ht.out.symm, rfl⟩

theorem padB_step {bs : List Bool} : bs.length % 8 ≠ 0 → padB (bs ++ [false]) = padB bs := padB_more
set_option maxRecDepth 100000 in
set_option maxHeartbeats 3200000 in
theorem rpad_c (bs : List Bool) (w : World) (hl : bs.length ≤ 1000000) :
    Calls Try.prog 41 #[.string (bstr bs)] w fun e w' => e = .returned (.string (bstr (padB bs))) ∧ w = w' := by
  go_enter Try.func41, Try.ntmps41
  go_wp2_with fail
  go_loopw [0] (fun s wr => ∃ bs', bs'.length ≤ 1000008 ∧ (bs'.length % 8 ≠ 0 → bs'.length ≤ 1000000 + bs'.length % 8) ∧ padB bs' = padB bs ∧ s = .string (bstr bs') ∧ w = wr) (fun s _ => match s with | .string t => (8 - t.size % 8) % 8 | _ => 0)
  case atStart => exact ⟨bs, by omega, by omega, rfl, rfl, rfl⟩
  case round =>
    obtain ⟨bs', hb, hb2, hp, rfl, rfl⟩ := hrel
    have Hp := Lib.hid hp
    have hsz := bstr_size bs'
    have happ : Hid (bstr bs' ++ ⟨#[48]⟩ = bstr (bs' ++ [false])) := Lib.hid (bstr_app bs' [false])
    have hsz2 : Hid ((bstr (bs' ++ [false])).size = bs'.length + 1) := Lib.hid (by rw [bstr_size]; simp)
    clear hp
    by_cases h8 : bs'.length % 8 = 0
    · have hb8 : ((bs'.length : Int) % 8 == 0) = true := by rw [beq_iff_eq]; omega
      have Hd : Hid (padB bs = bs') := Lib.hid (by rw [← Hp.out, padB_done h8])
      obtain ⟨t, ht⟩ : ∃ t, bstr bs' = t := ⟨_, rfl⟩
      rw [ht] at hsz ⊢
      have Hsz := Lib.hid hsz
      have hb9 : ((t.size : Int) % 8 == 0) = true := by rw [hsz]; exact hb8
      have Ht : Hid (bstr (padB bs) = t) := Lib.hid (by rw [Hd.out]; exact ht)
      clear hsz ht happ
      go_wp2_with fail
      go_ret
      exact ⟨congrArg (fun s => Ending.returned (Value.string s)) Ht.out.symm, rfl⟩
    · have hb8 : ((bs'.length : Int) % 8 == 0) = false := by rw [beq_eq_false_iff_ne]; omega
      have Hd := Lib.hid (padB_more h8)
      obtain ⟨t, ht⟩ : ∃ t, bstr bs' = t := ⟨_, rfl⟩
      rw [ht] at hsz happ ⊢
      have Hsz := Lib.hid hsz
      have hb9 : ((t.size : Int) % 8 == 0) = false := by rw [hsz]; exact hb8
      have hb10 : t.size ≤ 1000007 := by omega
      clear hsz ht
      go_wp2_with fail
      go_roundw
      case rel => exact ⟨bs' ++ [false], by simp; omega, by simp; omega, by rw [Hd.out, Hp.out], by rw [happ.out], by trivial⟩
      case measure =>
        show (8 - (t ++ ⟨#[48]⟩).size % 8) % 8 < (8 - t.size % 8) % 8
        rw [happ.out, hsz2.out, Hsz.out]
        omega

set_option maxRecDepth 100000 in
set_option maxHeartbeats 3200000 in
theorem rnumber_c (bs : List Bool) (w : World) (hl : bs.length ≤ 63) :
    Calls Try.prog 42 #[.string (bstr bs)] w fun e w' => e = .returned (.int .u64 (valL bs 0 bs.length)) ∧ w = w' := by
  have hsz := bstr_size bs
  have Hat := Lib.hid (bstr_at bs)
  obtain ⟨t, ht⟩ : ∃ t, bstr bs = t := ⟨_, rfl⟩
  rw [ht] at hsz ⊢
  go_enter Try.func42, Try.ntmps42
  go_wp2_with fail
  go_loopw [3, 4] (fun v i wr => ∃ k : Nat, k ≤ bs.length ∧ i = .int .i64 k ∧ v = .int .u64 (valL bs 0 k) ∧ w = wr) (fun v i _ => (bs.length - (intOf i)).toNat)
  case atStart => exact ⟨0, Nat.zero_le _, rfl, rfl, rfl⟩
  case round =>
    obtain ⟨k, hk, rfl, rfl, rfl⟩ := hrel
    have hvb := valL_bd bs 0 k
    have hp := pow_le64 (k := k) (by omega)
    obtain ⟨v, hv⟩ : ∃ v, valL bs 0 k = v := ⟨_, rfl⟩
    rw [hv] at hvb ⊢
    obtain ⟨hv0, hv1⟩ := hvb
    have hv2 : v < 9223372036854775808 := by omega
    by_cases hlt : k < bs.length
    · have Hs : Hid (valL bs 0 (k + 1) = 2 * v + (if nextL bs k then 1 else 0)) := Lib.hid (by rw [← hv]; show 2 * valL bs 0 k + (if nextL bs (0 + k) then 1 else 0) = _; rw [Nat.zero_add])
      have hk2 : k < t.size := by omega
      have hat : (t[k]).toNat = if nextL bs k then 49 else 48 := by
        subst ht
        exact Hat.out k hk2
      cases hb : nextL bs k
      · rw [hb] at hat Hs
        have hat2 : ((t[k]).toNat : Int) = 48 := by rw [hat]; rfl
        clear hat hp hv hb hv1
        go_wp2_with fail
        go_roundw
        case rel => exact ⟨k + 1, by omega, by go_num, by rw [Hs.out]; simp, by trivial⟩
        case measure => simp [intOf]; omega
      · rw [hb] at hat Hs
        have hat2 : ((t[k]).toNat : Int) = 49 := by rw [hat]; rfl
        clear hat hp hv hb hv1
        go_wp2_with fail
        go_roundw
        case rel => exact ⟨k + 1, by omega, by go_num, by rw [Hs.out]; simp, by trivial⟩
        case measure => simp [intOf]; omega
    · obtain rfl : k = bs.length := by omega
      have Hv := Lib.hid hv
      clear hv hv1 hp
      go_wp2_with fail
      go_ret
      exact ⟨congrArg (fun n => Ending.returned (Value.int .u64 n)) Hv.out.symm, rfl⟩

end Go.Proofs.Ytgdlleoefncikaa
