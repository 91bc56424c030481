/- What a writer of bits does: many bits. -/
import Derived.Test.YtgdlleoefncikaaBitsW
namespace Go.Proofs.Ytgdlleoefncikaa
open Go.RowKit
set_option linter.unusedVariables false
set_option linter.unusedSimpArgs false

theorem Touch.trans {g : Nat} {r r' : Option Nat} {a b c : World} (h : Touch g r a b) (k : Touch g r' b c) (hr : r' = r ∨ ∀ j, r' = some j → a.heap.size ≤ j) : Touch g r a c :=
  ⟨k.os.trans h.os, k.tape.trans h.tape, k.output.trans h.output, Nat.le_trans h.size k.size, fun i hi h1 h2 => (k.block i (Nat.lt_of_lt_of_le hi h.size) h1 (by
    intro e
    rcases hr with hr | hr
    · exact h2 (e.trans hr)
    · have := hr i e.symm; omega)).trans (h.block i hi h1 h2)⟩
/-- What was a writer's is touched alone; at the end it has the bits bs. -/
def WGoes (w wr : World) (B g : Nat) (bv : Value) (bs : List Bool) : Prop :=
  ∃ bv', WrI wr B g bv' bs ∧ Touch g bv.ownBlock w wr ∧ (bv'.ownBlock = bv.ownBlock ∨ ∃ j, bv'.ownBlock = some j ∧ w.heap.size ≤ j)
theorem WGoes.refl {w : World} {B g : Nat} {bv : Value} {bs : List Bool} (h : WrI w B g bv bs) : WGoes w w B g bv bs := ⟨bv, h, Touch.refl _ _ _, .inl rfl⟩
theorem WGoes.trans {w w1 w2 : World} {B g : Nat} {bv bv1 : Value} {bs : List Bool} (ht : Touch g bv.ownBlock w w1) (hm : bv1.ownBlock = bv.ownBlock ∨ ∃ j, bv1.ownBlock = some j ∧ w.heap.size ≤ j) (k : WGoes w1 w2 B g bv1 bs) : WGoes w w2 B g bv bs := by
  obtain ⟨bv2, h2, t2, m2⟩ := k
  refine ⟨bv2, h2, ht.trans t2 ?_, ?_⟩
  · rcases hm with hm | ⟨j, hj, hs⟩
    · exact .inl hm
    · exact .inr fun i hi => by rw [hj] at hi; injection hi with hi; omega
  · rcases m2 with m2 | ⟨j, hj, hs⟩
    · rcases hm with hm | ⟨i, hi, hs2⟩
      · exact .inl (m2.trans hm)
      · exact .inr ⟨i, m2.trans hi, hs2⟩
    · exact .inr ⟨j, hj, by have := ht.size; omega⟩
theorem WGoes.then_ {w w1 w2 : World} {B g : Nat} {bv : Value} {bs bs2 : List Bool} (h : WGoes w w1 B g bv bs) (k : ∀ b1, WrI w1 B g b1 bs → WGoes w1 w2 B g b1 bs2) : WGoes w w2 B g bv bs2 := by
  obtain ⟨b1, h1, t1, m1⟩ := h
  exact WGoes.trans t1 m1 (k b1 h1)
theorem wbit_goes (B g : Nat) (bs : List Bool) (b : Bool) (bv : Value) (w : World) (h : WrI w B g bv bs) (hm : bs.length ≤ 1000000000) (hB : B ≤ w.heap.size) :
    Calls Try.prog 24 #[.pointer (some ⟨g, 0, none⟩), .bool b] w fun e w' => e = .returned (.tuple #[]) ∧ WGoes w w' B g bv (bs ++ [b]) := by
  refine (wbit_c B g bs b bv w h hm hB).mono ?_
  rintro e w' ⟨rfl, bv', h1, h2, h3⟩
  refine ⟨rfl, bv', h1, h2, ?_⟩
  rcases h3 with h3 | h3
  · exact .inl h3
  · exact .inr ⟨_, h3, by omega⟩
theorem wbit_nil (b : Bool) (w : World) : Calls Try.prog 24 #[.pointer none, .bool b] w fun e w' => e = .returned (.tuple #[]) ∧ w = w' := by
  go_enter Try.func24, Try.ntmps24
  go_wp2_with fail
  refine bodyPost_ret (results_none rfl _ _ _) rfl ?_
  exact ⟨rfl, rfl⟩

/-- How many bits are written. -/
def clampN (n : Int) : Nat := (min (max n 0) 64).toNat
theorem clampN_le (n : Int) : clampN n ≤ 64 := by unfold clampN; omega

/-- The lowest c bits of a number, the greatest first. -/
def bitsV (x : Int) (c : Nat) : List Bool := (List.range c).map fun j => x / 2 ^ (c - 1 - j) % 2 == 1
theorem bitsV_length (x : Int) (c : Nat) : (bitsV x c).length = c := by simp [bitsV]
theorem bitsV_take (x : Int) (c k : Nat) (h : k < c) : (bitsV x c).take (k + 1) = (bitsV x c).take k ++ [x / 2 ^ (c - 1 - k) % 2 == 1] := by
  rw [List.take_add_one]
  congr 1
  simp [bitsV, h]
theorem u64_and1 (a : Int) (h0 : 0 ≤ a) (h1 : a < 18446744073709551616) : bits .and .u64 a 1 = a % 2 := by
  rw [u64_and a 1 h0 h1 (by omega) (by omega)]
  obtain ⟨n, rfl⟩ := Int.eq_ofNat_of_zero_le h0
  rw [Int.toNat_natCast, show (1 : Int).toNat = 1 from rfl, Nat.and_one_is_mod]
  omega
theorem div_pow_bd {x : Int} (j : Nat) (h0 : 0 ≤ x) (h1 : x ≤ 18446744073709551615) : 0 ≤ x / 2 ^ j ∧ x / 2 ^ j ≤ 18446744073709551615 := by
  have hp : (0 : Int) < 2 ^ j := Int.pow_pos (by decide)
  exact ⟨Int.ediv_nonneg h0 (Int.le_of_lt hp), Int.le_trans (Int.ediv_le_self _ h0) h1⟩


theorem wlen_c (B g : Nat) (bs : List Bool) (bv : Value) (w : World) (h : WrI w B g bv bs) :
    Calls Try.prog 39 #[.pointer (some ⟨g, 0, none⟩)] w fun e w' => e = .returned (.int .i64 bs.length) ∧ w = w' := by
  have hc1 := h.2.1.cell 1
  simp at hc1
  clear h
  go_enter Try.func39, Try.ntmps39
  go_wp2_with fail
  go_ret
  exact ⟨rfl, rfl⟩
theorem wlen_nil (w : World) :
    Calls Try.prog 39 #[.pointer none] w fun e w' => e = .returned (.int .i64 0) ∧ w = w' := by
  go_enter Try.func39, Try.ntmps39
  go_wp2_with fail
  go_ret
  exact ⟨rfl, rfl⟩

/-- Noughts up to a whole byte. -/
def padB (bs : List Bool) : List Bool := bs ++ List.replicate ((8 - bs.length % 8) % 8) false
theorem padB_done {bs : List Bool} (h : bs.length % 8 = 0) : padB bs = bs := by unfold padB; rw [h]; simp
theorem padB_more {bs : List Bool} (h : bs.length % 8 ≠ 0) : padB (bs ++ [false]) = padB bs := by
  unfold padB
  rw [List.length_append, List.append_assoc, show ([false] : List Bool) = List.replicate 1 false from rfl, List.replicate_append_replicate, List.length_replicate]
  congr 2
  omega

end Go.Proofs.Ytgdlleoefncikaa
