/- What a writer of bits does: many bits. -/
import Derived.Test.YtoiofnmodinpcaaBitsW
namespace Go.Proofs.Ytoiofnmodinpcaa
open Go.RowKit
set_option linter.unusedVariables false
set_option linter.unusedSimpArgs false

theorem Touch.trans {g : Nat} {r r' : Option Nat} {a b c : World} (h : Touch g r a b) (k : Touch g r' b c) (hr : r' = r ∨ ∀ j, r' = some j → a.heap.size ≤ j) : Touch g r a c :=
  ⟨k.os.trans h.os, k.tape.trans h.tape, k.output.trans h.output, Nat.le_trans h.size k.size, fun i hi h1 h2 => (k.block i (Nat.lt_of_lt_of_le hi h.size) h1 (by
    intro e
    rcases hr with hr | hr
    · exact h2 (e.trans hr)
    · have := hr i e.symm; omega)).trans (h.block i hi h1 h2)⟩
/-- What was a writer's is touched alone; at the end it has the bits bs. -/
def WGoes (w wr : World) (B g : Nat) (bv : Value) (bs : List Bool) : Prop :=
  ∃ bv', WrI wr B g bv' bs ∧ Touch g bv.ownBlock w wr ∧ (bv'.ownBlock = bv.ownBlock ∨ ∃ j, bv'.ownBlock = some j ∧ w.heap.size ≤ j)
theorem WGoes.refl {w : World} {B g : Nat} {bv : Value} {bs : List Bool} (h : WrI w B g bv bs) : WGoes w w B g bv bs := ⟨bv, h, Touch.refl _ _ _, .inl rfl⟩
theorem WGoes.trans {w w1 w2 : World} {B g : Nat} {bv bv1 : Value} {bs : List Bool} (ht : Touch g bv.ownBlock w w1) (hm : bv1.ownBlock = bv.ownBlock ∨ ∃ j, bv1.ownBlock = some j ∧ w.heap.size ≤ j) (k : WGoes w1 w2 B g bv1 bs) : WGoes w w2 B g bv bs := by
  obtain ⟨bv2, h2, t2, m2⟩ := k
  refine ⟨bv2, h2, ht.trans t2 ?_, ?_⟩
  · rcases hm with hm | ⟨j, hj, hs⟩
    · exact .inl hm
    · exact .inr fun i hi => by rw [hj] at hi; injection hi with hi; omega
  · rcases m2 with m2 | ⟨j, hj, hs⟩
    · rcases hm with hm | ⟨i, hi, hs2⟩
      · exact .inl (m2.trans hm)
      · exact .inr ⟨i, m2.trans hi, hs2⟩
    · exact .inr ⟨j, hj, by have := ht.size; omega⟩
theorem WGoes.then_ {w w1 w2 : World} {B g : Nat} {bv : Value} {bs bs2 : List Bool} (h : WGoes w w1 B g bv bs) (k : ∀ b1, WrI w1 B g b1 bs → WGoes w1 w2 B g b1 bs2) : WGoes w w2 B g bv bs2 := by
  obtain ⟨b1, h1, t1, m1⟩ := h
  exact WGoes.trans t1 m1 (k b1 h1)
theorem wbit_goes (B g : Nat) (bs : List Bool) (b : Bool) (bv : Value) (w : World) (h : WrI w B g bv bs) (hm : bs.length ≤ 1000000000) (hB : B ≤ w.heap.size) :
    Calls Try.prog 7 #[.pointer (some ⟨g, 0, none⟩), .bool b] w fun e w' => e = .returned (.tuple #[]) ∧ WGoes w w' B g bv (bs ++ [b]) := by
  refine (wbit_c B g bs b bv w h hm hB).mono ?_
  rintro e w' ⟨rfl, bv', h1, h2, h3⟩
  refine ⟨rfl, bv', h1, h2, ?_⟩
  rcases h3 with h3 | h3
  · exact .inl h3
  · exact .inr ⟨_, h3, by omega⟩
theorem wbit_nil (b : Bool) (w : World) : Calls Try.prog 7 #[.pointer none, .bool b] w fun e w' => e = .returned (.tuple #[]) ∧ w = w' := by
  go_enter Try.func7, Try.ntmps7
  go_wp2_with fail
  refine bodyPost_ret (results_none rfl _ _ _) rfl ?_
  exact ⟨rfl, rfl⟩

/-- How many bits are written. -/
def clampN (n : Int) : Nat := (min (max n 0) 64).toNat
theorem clampN_le (n : Int) : clampN n ≤ 64 := by unfold clampN; omega
theorem clamp_c (n : Int) (w : World) : Calls Try.prog 27 #[.int .i64 n] w fun e w' => e = .returned (.int .i64 (clampN n : Int)) ∧ w = w' := by
  have h : ((clampN n : Nat) : Int) = if n ≤ 0 then 0 else if 64 ≤ n then 64 else n := by
    unfold clampN
    split
    · omega
    · split <;> omega
  rw [h]
  rcases (show n ≤ 0 ∨ 64 ≤ n ∨ (0 < n ∧ n < 64) by omega) with h1 | h1 | ⟨h1, h2⟩
  · rw [if_pos h1]
    go_enter Try.func27, Try.ntmps27
    go_wp2_with fail
    all_goals (go_ret; refine ⟨?_, rfl⟩; try simp; try omega)
  · rw [if_neg (by omega), if_pos h1]
    go_enter Try.func27, Try.ntmps27
    go_wp2_with fail
    all_goals (go_ret; refine ⟨?_, rfl⟩; try simp; try omega)
  · rw [if_neg (by omega), if_neg (by omega)]
    go_enter Try.func27, Try.ntmps27
    go_wp2_with fail
    all_goals (go_ret; refine ⟨?_, rfl⟩; try simp; try omega)

/-- The lowest c bits of a number, the greatest first. -/
def bitsV (x : Int) (c : Nat) : List Bool := (List.range c).map fun j => x / 2 ^ (c - 1 - j) % 2 == 1
theorem bitsV_length (x : Int) (c : Nat) : (bitsV x c).length = c := by simp [bitsV]
theorem bitsV_take (x : Int) (c k : Nat) (h : k < c) : (bitsV x c).take (k + 1) = (bitsV x c).take k ++ [x / 2 ^ (c - 1 - k) % 2 == 1] := by
  rw [List.take_add_one]
  congr 1
  simp [bitsV, h]
theorem u64_and1 (a : Int) (h0 : 0 ≤ a) (h1 : a < 18446744073709551616) : bits .and .u64 a 1 = a % 2 := by
  rw [u64_and a 1 h0 h1 (by omega) (by omega)]
  obtain ⟨n, rfl⟩ := Int.eq_ofNat_of_zero_le h0
  rw [Int.toNat_natCast, show (1 : Int).toNat = 1 from rfl, Nat.and_one_is_mod]
  omega
theorem div_pow_bd {x : Int} (j : Nat) (h0 : 0 ≤ x) (h1 : x ≤ 18446744073709551615) : 0 ≤ x / 2 ^ j ∧ x / 2 ^ j ≤ 18446744073709551615 := by
  have hp : (0 : Int) < 2 ^ j := Int.pow_pos (by decide)
  exact ⟨Int.ediv_nonneg h0 (Int.le_of_lt hp), Int.le_trans (Int.ediv_le_self _ h0) h1⟩

set_option maxRecDepth 100000 in
set_option maxHeartbeats 3200000 in
theorem wput_c (B g : Nat) (bs : List Bool) (x n : Int) (bv : Value) (w : World) (h : WrI w B g bv bs) (hm : bs.length ≤ 1000000) (hB : B ≤ w.heap.size) (h0 : 0 ≤ x) (h1 : x ≤ 18446744073709551615) :
    Calls Try.prog 9 #[.pointer (some ⟨g, 0, none⟩), .int .u64 x, .int .i64 n] w fun e w' => e = .returned (.tuple #[]) ∧ WGoes w w' B g bv (bs ++ bitsV x (clampN n)) := by
  have hc := clampN_le n
  have Hcl := Lib.hid (clamp_c n)
  obtain ⟨c, Hc⟩ : ∃ c, Hid (clampN n = c) := ⟨_, Lib.hid rfl⟩
  rw [Hc.out] at Hcl hc ⊢
  have Hw := Lib.hid h
  clear h
  go_enter Try.func9, Try.ntmps9
  go_wp2_with (go_at_call 27; refine (Hcl.out _).mono ?_; rintro e w' ⟨rfl, rfl⟩)
  go_loopw [6] (fun v wr => ∃ k : Nat, k ≤ c ∧ v = .int .i64 ((c : Int) - 1 - k) ∧ WGoes w wr B g bv (bs ++ (bitsV x c).take k)) (fun v _ => (intOf v + 1).toNat)
  case atStart => exact ⟨0, Nat.zero_le _, by simp, by simpa using WGoes.refl Hw.out⟩
  case round =>
    obtain ⟨k, hk, rfl, hg⟩ := hrel
    have Hg := Lib.hid hg
    clear hg
    by_cases hlt : k < c
    · obtain ⟨j, hj⟩ : ∃ j : Nat, c - 1 - k = j := ⟨_, rfl⟩
      have hj2 : (c : Int) - 1 - k = (j : Int) := by omega
      rw [hj2]
      have hj64 : j < 64 := by omega
      have Htk := Lib.hid (bitsV_take x c k hlt)
      rw [hj] at Htk
      have hd := div_pow_bd j h0 h1
      have e7 := u64_and1 (x / 2 ^ j) hd.1 (by omega)
      obtain ⟨m, hm2⟩ : ∃ m, x / 2 ^ j % 2 = m := ⟨_, rfl⟩
      rw [hm2] at e7 Htk
      clear hm2 hj
      obtain ⟨b1, hb1, ht1, hm1⟩ := Hg.out
      have Hb1 := Lib.hid hb1
      have Ht1 := Lib.hid ht1
      have Hm1 := Lib.hid hm1
      clear hb1 ht1 hm1
      go_wp2_with fail
      refine (wbit_goes B g _ _ b1 _ Hb1.out (by rw [List.length_append, List.length_take, bitsV_length]; omega) (by have := Ht1.out.size; omega)).mono ?_
      rintro e w' ⟨rfl, hgo⟩
      have Hgo := Lib.hid hgo
      clear hgo
      go_wp2_with fail
      go_roundw
      case rel =>
        refine ⟨k + 1, by omega, by congr 1; omega, ?_⟩
        rw [Htk.out, ← List.append_assoc]
        exact WGoes.trans Ht1.out Hm1.out Hgo.out
      case measure => simp [intOf] <;> omega
    · obtain rfl : k = c := by omega
      have hv : (k : Int) - 1 - k = -1 := by omega
      rw [hv]
      have Hg2 : Hid (WGoes w wr B g bv (bs ++ bitsV x k)) := Lib.hid (by have := Hg.out; rwa [List.take_of_length_le (by rw [bitsV_length]; omega)] at this)
      clear Hg
      go_wp2_with fail
      go_end0
      exact ⟨rfl, Hg2.out⟩
theorem wput_nil (x n : Int) (w : World) (h0 : 0 ≤ x) (h1 : x ≤ 18446744073709551615) :
    Calls Try.prog 9 #[.pointer none, .int .u64 x, .int .i64 n] w fun e w' => e = .returned (.tuple #[]) ∧ w = w' := by
  have hc := clampN_le n
  have Hcl := Lib.hid (clamp_c n)
  obtain ⟨c, Hc⟩ : ∃ c, Hid (clampN n = c) := ⟨_, Lib.hid rfl⟩
  rw [Hc.out] at Hcl hc
  go_enter Try.func9, Try.ntmps9
  go_wp2_with (go_at_call 27; refine (Hcl.out _).mono ?_; rintro e w' ⟨rfl, rfl⟩)
  go_loopw [6] (fun v wr => ∃ k : Nat, k ≤ c ∧ v = .int .i64 ((c : Int) - 1 - k) ∧ w = wr) (fun v _ => (intOf v + 1).toNat)
  case atStart => exact ⟨0, Nat.zero_le _, by simp, rfl⟩
  case round =>
    obtain ⟨k, hk, rfl, rfl⟩ := hrel
    by_cases hlt : k < c
    · obtain ⟨j, hj⟩ : ∃ j : Nat, c - 1 - k = j := ⟨_, rfl⟩
      have hj2 : (c : Int) - 1 - k = (j : Int) := by omega
      rw [hj2]
      have hj64 : j < 64 := by omega
      have hd := div_pow_bd j h0 h1
      have e7 := u64_and1 (x / 2 ^ j) hd.1 (by omega)
      obtain ⟨m, hm2⟩ : ∃ m, x / 2 ^ j % 2 = m := ⟨_, rfl⟩
      rw [hm2] at e7
      clear hm2 hj
      go_wp2_with fail
      refine (wbit_nil _ _).mono ?_
      rintro e w' ⟨rfl, rfl⟩
      go_wp2_with fail
      go_roundw
      case rel => exact ⟨k + 1, by omega, by congr 1; omega, by trivial⟩
      case measure => simp [intOf] <;> omega
    · obtain rfl : k = c := by omega
      have hv : (k : Int) - 1 - k = -1 := by omega
      rw [hv]
      go_wp2_with fail
      go_end0
      exact ⟨rfl, rfl⟩

theorem wlen_c (B g : Nat) (bs : List Bool) (bv : Value) (w : World) (h : WrI w B g bv bs) :
    Calls Try.prog 13 #[.pointer (some ⟨g, 0, none⟩)] w fun e w' => e = .returned (.int .i64 bs.length) ∧ w = w' := by
  have hc1 := h.2.1.cell 1
  simp at hc1
  clear h
  go_enter Try.func13, Try.ntmps13
  go_wp2_with fail
  go_ret
  exact ⟨rfl, rfl⟩
theorem wlen_nil (w : World) :
    Calls Try.prog 13 #[.pointer none] w fun e w' => e = .returned (.int .i64 0) ∧ w = w' := by
  go_enter Try.func13, Try.ntmps13
  go_wp2_with fail
  go_ret
  exact ⟨rfl, rfl⟩

/-- Noughts up to a whole byte. -/
def padB (bs : List Bool) : List Bool := bs ++ List.replicate ((8 - bs.length % 8) % 8) false
theorem padB_done {bs : List Bool} (h : bs.length % 8 = 0) : padB bs = bs := by unfold padB; rw [h]; simp
theorem padB_more {bs : List Bool} (h : bs.length % 8 ≠ 0) : padB (bs ++ [false]) = padB bs := by
  unfold padB
  rw [List.length_append, List.append_assoc, show ([false] : List Bool) = List.replicate 1 false from rfl, List.replicate_append_replicate, List.length_replicate]
  congr 2
  omega
set_option maxRecDepth 100000 in
set_option maxHeartbeats 3200000 in
theorem walign_c (B g : Nat) (bs : List Bool) (bv : Value) (w : World) (h : WrI w B g bv bs) (hm : bs.length ≤ 1000000) (hB : B ≤ w.heap.size) :
    Calls Try.prog 10 #[.pointer (some ⟨g, 0, none⟩)] w fun e w' => e = .returned (.tuple #[]) ∧ WGoes w w' B g bv (padB bs) := by
  have Hw := Lib.hid h
  clear h
  go_enter Try.func10, Try.ntmps10
  go_wp2_with fail
  go_loopw [] (fun wr => ∃ bs', bs'.length ≤ 1000008 ∧ padB bs' = padB bs ∧ WGoes w wr B g bv bs') (fun wr => (8 - (intOf ((wr.cell? ⟨g, 1, none⟩).getD (.int .i64 0))).toNat % 8) % 8)
  case atStart => exact ⟨bs, by omega, rfl, WGoes.refl Hw.out⟩
  case round =>
    obtain ⟨bs', hl, hp, b1, hb1, ht1, hm1⟩ := hrel
    have Hb1 := Lib.hid hb1
    have Ht1 := Lib.hid ht1
    have Hm1 := Lib.hid hm1
    have Hp := Lib.hid hp
    have hc1 := hb1.2.1.cell 1
    simp at hc1
    have Hc1 := Lib.hid hc1
    clear hb1 ht1 hm1 hp hc1
    by_cases h8 : bs'.length % 8 = 0
    · have hb8 : ((bs'.length : Int) % 8 == 0) = true := by rw [beq_iff_eq]; omega
      go_wp2_with (go_at_call 13; refine (wlen_c B g _ b1 _ Hb1.out).mono ?_; rintro e w' ⟨rfl, rfl⟩)
      go_end0
      rw [← Hp.out, padB_done h8]
      exact ⟨rfl, _, Hb1.out, Ht1.out, Hm1.out⟩
    · have hb8 : ((bs'.length : Int) % 8 == 0) = false := by rw [beq_eq_false_iff_ne]; omega
      go_wp2_with (go_at_call 13; refine (wlen_c B g _ b1 _ Hb1.out).mono ?_; rintro e w' ⟨rfl, rfl⟩)
      refine (wbit_goes B g _ _ b1 _ Hb1.out (by omega) (by have := Ht1.out.size; omega)).mono ?_
      rintro e w' ⟨rfl, b2, hb2, ht2, hm2⟩
      have hc2 := hb2.2.1.cell 1
      simp at hc2
      have Hc2 := Lib.hid hc2
      have Hgo := Lib.hid (show WGoes wr w' B g b1 (bs' ++ [false]) from ⟨b2, hb2, ht2, hm2⟩)
      clear hb2 ht2 hm2 hc2
      go_wp2_with fail
      go_roundw
      case rel => exact ⟨bs' ++ [false], by simp; omega, by rw [padB_more h8, Hp.out], WGoes.trans Ht1.out Hm1.out Hgo.out⟩
      case measure => rw [Hc1.out, Hc2.out]; simp [intOf]; omega
theorem walign_nil (w : World) :
    Calls Try.prog 10 #[.pointer none] w fun e w' => e = .returned (.tuple #[]) ∧ w = w' := by
  go_enter Try.func10, Try.ntmps10
  go_wp2_with fail
  go_loopw [] (fun wr => w = wr) (fun wr => 0)
  case atStart => rfl
  case round =>
    obtain rfl := hrel
    go_wp2_with (go_at_call 13; refine (wlen_nil _).mono ?_; rintro e w' ⟨rfl, rfl⟩)
    go_end0
    exact ⟨rfl, rfl⟩

end Go.Proofs.Ytoiofnmodinpcaa
