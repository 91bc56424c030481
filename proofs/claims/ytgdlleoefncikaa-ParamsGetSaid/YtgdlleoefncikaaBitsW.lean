/- What a writer of bits does: one bit more. -/
import Derived.Test.YtgdlleoefncikaaPack
import Derived.Test.YtgdlleoefncikaaByte2
import Derived.StillTailTactics
import Derived.IntWalk
namespace Go.Proofs.Ytgdlleoefncikaa
open Go.RowKit
set_option linter.unusedVariables false
set_option linter.unusedSimpArgs false

/-- What is touched: block g and a row, and what is new. -/
structure Touch (g : Nat) (r : Option Nat) (a w : World) : Prop where
  os : w.os = a.os
  tape : w.tape = a.tape
  output : w.output = a.output
  size : a.heap.size ≤ w.heap.size
  block : ∀ k, k < a.heap.size → k ≠ g → some k ≠ r → w.heap[k]? = a.heap[k]?

theorem Touch.refl (g : Nat) (r : Option Nat) (w : World) : Touch g r w w := ⟨rfl, rfl, rfl, Nat.le_refl _, fun _ _ _ _ => rfl⟩
theorem Touch.alloc {g : Nat} {r : Option Nat} {a w : World} (h : Touch g r a w) (o : Obj) : Touch g r a (w.alloc o) :=
  ⟨h.os, h.tape, h.output, Nat.le_trans h.size (by simp), fun k hk h1 h2 => (Below.heap_alloc w o k (Nat.lt_of_lt_of_le hk h.size)).trans (h.block k hk h1 h2)⟩
theorem Touch.drew {g : Nat} {r : Option Nat} {a w : World} (h : Touch g r a w) : Touch g r a w.drew := ⟨h.os, h.tape, h.output, h.size, h.block⟩
theorem Touch.setCell {g : Nat} {r : Option Nat} {a w : World} (h : Touch g r a w) {p : Addr} (hp : p.block = g ∨ some p.block = r ∨ a.heap.size ≤ p.block) (u : Value) : Touch g r a (w.setCell p u) :=
  ⟨h.os, h.tape, h.output, by simpa [World.setCell] using h.size, fun k hk h1 h2 => (Below.heap_setCell w p u k (by
    rintro rfl
    rcases hp with hp | hp | hp
    · exact h1 hp
    · exact h2 hp
    · omega)).trans (h.block k hk h1 h2)⟩
theorem Touch.grown {g : Nat} {r : Option Nat} {a w w' : World} (h : Touch g r a w) {r' : Option Nat} (hg : w.grownBy w' r') (hr : r' = r ∨ ∀ k, r' = some k → a.heap.size ≤ k) : Touch g r a w' :=
  ⟨hg.os.trans h.os, hg.tape.trans h.tape, hg.output.trans h.output, Nat.le_trans h.size hg.size, fun k hk h1 h2 => (hg.block k (Nat.lt_of_lt_of_le hk h.size) (by
    rintro rfl
    rcases hr with hr | hr
    · exact h2 hr
    · have := hr k rfl; omega)).trans (h.block k hk h1 h2)⟩
theorem OwnB.far {w : World} {B : Nat} {v : Value} {xs : List Int} (h : OwnB w B v xs) {p : Addr} (hp : v.ownBlock ≠ some p.block) (u : Value) : OwnB (w.setCell p u) B v xs :=
  OwnB.grown h (only_setCell (World.grownBy.refl w (some p.block)) (.inl rfl) u) (.inr hp)

/-- Block g is a writer of the bits bs, whose bytes lie in row bv. -/
def WrI (w : World) (B g : Nat) (bv : Value) (bs : List Bool) : Prop := B ≤ g ∧ Blk w g 54 #[bv, .int .i64 bs.length] ∧ OwnB w B bv (packZ bs)

set_option maxRecDepth 100000 in
set_option maxHeartbeats 3200000 in
theorem wbit_c (B g : Nat) (bs : List Bool) (b : Bool) (bv : Value) (w : World) (h : WrI w B g bv bs) (hm : bs.length ≤ 1000000000) (hBw : B ≤ w.heap.size) :
    Calls Try.prog 24 #[.pointer (some ⟨g, 0, none⟩), .bool b] w fun e w' => e = .returned (.tuple #[]) ∧ ∃ bv', WrI w' B g bv' (bs ++ [b]) ∧ Touch g bv.ownBlock w w' ∧ (bv'.ownBlock = bv.ownBlock ∨ bv'.ownBlock = some (w.heap.size + 1)) := by
  obtain ⟨hB, hg, ho⟩ := h
  have hc0 := hg.cell 0
  have hc1 := hg.cell 1
  simp at hc0 hc1
  have hf0 := hg.frozen 0
  have hf1 := hg.frozen 1
  have hlt := hg.lt
  have hne : bv.ownBlock ≠ some g := own_blk_ne ho hg (by decide)
  have Hg := Lib.hid hg
  have Ho := Lib.hid ho
  have hpl := packZ_length bs
  obtain ⟨q, hq⟩ : ∃ q, bs.length / 8 = q := ⟨_, rfl⟩
  have Hne := Lib.hid hne
  obtain ⟨z, Hz⟩ : ∃ z, Hid (packZ (bs ++ [false]) = z) := ⟨_, Lib.hid rfl⟩
  have Hone := Lib.hid (pack_one bs)
  have hlow := byteZ_low bs
  have hbd := byteZ_bd bs (bs.length / 8)
  rw [← pack_last bs, Hz.out, hq] at hlow hbd
  obtain ⟨r, hr⟩ : ∃ r, bs.length % 8 = r := ⟨_, rfl⟩
  have hr8 : r < 8 := by omega
  rw [hr] at hlow
  have Hor := Lib.hid (or_worth hr8 hbd.1 hbd.2 hlow)
  have Hsh := Lib.hid (shr_worth hr8)
  rw [Hz.out, hq, hr] at Hone
  have Hr := Lib.hid hr
  obtain ⟨wt, Hwt⟩ : ∃ wt, Hid (worth r = wt) := ⟨_, Lib.hid rfl⟩
  rw [Hwt.out] at Hone Hor Hsh
  clear hlow hbd
  have hq2 : 8 * q ≤ bs.length := by omega
  have hq3 : bs.length < 8 * q + 8 := by omega
  have hzl : z.length = q + 1 := by rw [← Hz.out, packZ_length]; simp; omega
  clear ho hg hne hq hr
  by_cases h8 : bs.length % 8 = 0
  · have hb8 : ((bs.length : Int) % 8 == 0) = true := by rw [beq_iff_eq]; omega
    have Hnew := Lib.hid ((pack_new bs h8).symm.trans Hz.out)
    cases b
    · go_enter Try.func24, Try.ntmps24
      go_wp2_with (
        at_builtin
        refine wpListB_app rfl (.tmp 16) (.tmp 17) 28 rfl Try.underlying28 bv (packZ bs) rfl B (Ho.out.alloc _) 1 [0] rfl w.heap.size 1 rfl (bcells1 (by simp)) (by omega) (by simp; omega) ?_
        intro v1 w1 ho1 hg1 hat1
        rw [Hnew.out] at ho1
        have hk1 := (Hg.out.alloc _).grown hg1 (Ne.symm Hne.out)
        have hne1 : v1.ownBlock ≠ some g := own_blk_ne ho1 hk1 (by decide)
        obtain ⟨k1, c1, rfl, hBk, hkl, hkc, hkf⟩ := ho1.formr (by omega)
        rw [hzl] at ho1
        have hc0 := hk1.cell 0
        have hc1 := hk1.cell 1
        simp at hc0 hc1
        have hf0 := hk1.frozen 0
        have hf1 := hk1.frozen 1
        have hg1lt := hk1.lt
        have Ho1 := Lib.hid ho1
        have Hg1 := Lib.hid hg1
        have Hat1 := Lib.hid hat1
        have Hk1 := Lib.hid hk1
        have Hne1 := Lib.hid hne1
        clear ho1 hg1 hat1 hk1 hne1 hkc hkf)
      go_end0
      refine ⟨rfl, .slice (some ⟨k1, 0, none⟩) (q + 1) c1, ⟨hB, ?_, ?_⟩, ?_, ?_⟩
      · have := (Hk1.out.set_ 0 (.slice (some ⟨k1, 0, none⟩) (q + 1) c1)).set_ 1 (.int .i64 ((bs.length : Int) + 1))
        simpa using this
      · rw [Hz.out]
        exact (Ho1.out.far (p := ⟨g, 0, none⟩) Hne1.out _).far (p := ⟨g, 1, none⟩) Hne1.out _
      · exact ((((Touch.refl g bv.ownBlock w).alloc _).grown Hg1.out (.inl rfl)).setCell (.inl rfl) _).setCell (.inl rfl) _
      · rcases Hat1.out with h | h
        · exact .inl h
        · exact .inr (h.trans (by simp))
    · go_enter Try.func24, Try.ntmps24
      go_wp2_with (
        at_builtin
        refine wpListB_app rfl (.tmp 16) (.tmp 17) 28 rfl Try.underlying28 bv (packZ bs) rfl B (Ho.out.alloc _) 1 [0] rfl w.heap.size 1 rfl (bcells1 (by simp)) (by omega) (by simp; omega) ?_
        intro v1 w1 ho1 hg1 hat1
        rw [Hnew.out] at ho1
        have hk1 := (Hg.out.alloc _).grown hg1 (Ne.symm Hne.out)
        have hne1 : v1.ownBlock ≠ some g := own_blk_ne ho1 hk1 (by decide)
        obtain ⟨k1, c1, rfl, hBk, hkl, hkc, hkf⟩ := ho1.formr (by omega)
        have hkg : k1 ≠ g := fun e => hne1 (by rw [e]; rfl)
        rw [hzl] at ho1
        have hc0 := hk1.cell 0
        have hc1 := hk1.cell 1
        simp at hc0 hc1
        have hf0 := hk1.frozen 0
        have hf1 := hk1.frozen 1
        have hg1lt := hk1.lt
        have Ho1 := Lib.hid ho1
        have Hg1 := Lib.hid hg1
        have Hat1 := Lib.hid hat1
        have Hk1 := Lib.hid hk1
        have Hne1 := Lib.hid hne1
        have Hkc := Lib.hid (hkc (q) (by omega))
        have Hkf := Lib.hid (hkf (q))
        clear ho1 hg1 hat1 hk1 hne1 hkc hkf)
      have hw2 : Blk (w1.setCell ⟨g, 0, none⟩ (.slice (some ⟨k1, 0, none⟩) (q + 1) c1)) g 54 #[.slice (some ⟨k1, 0, none⟩) (q + 1) c1, .int .i64 bs.length] := by simpa using Hk1.out.set_ 0 (.slice (some ⟨k1, 0, none⟩) (q + 1) c1)
      have ho2 := Ho1.out.far (p := ⟨g, 0, none⟩) Hne1.out (.slice (some ⟨k1, 0, none⟩) (q + 1) c1)
      have ht2 := (((Touch.refl g bv.ownBlock w).alloc (.cells #[.int .u8 0] 5)).grown Hg1.out (.inl rfl)).setCell (p := ⟨g, 0, none⟩) (.inl rfl) (.slice (some ⟨k1, 0, none⟩) (q + 1) c1)
      have Hrow : Hid ((⟨k1, q, none⟩ : Addr).block = g ∨ some (⟨k1, q, none⟩ : Addr).block = bv.ownBlock ∨ w.heap.size ≤ (⟨k1, q, none⟩ : Addr).block) := Lib.hid (by
        rcases Hat1.out with h | h
        · exact .inr (.inl h)
        · refine .inr (.inr ?_)
          have h : some k1 = some (w.alloc (Obj.cells #[Value.int IntKind.u8 0] 5)).heap.size := h
          injection h with h
          show w.heap.size ≤ k1
          rw [h]; simp)
      have Hown : Hid (Value.ownBlock (.slice (some ⟨k1, 0, none⟩) (q + 1) c1) = bv.ownBlock ∨ Value.ownBlock (.slice (some ⟨k1, 0, none⟩) (q + 1) c1) = some (w.heap.size + 1)) := Lib.hid (by
        rcases Hat1.out with h | h
        · exact .inl h
        · exact .inr (h.trans (by simp)))
      clear hc0 hc1 hf0 hf1
      generalize w1.setCell ⟨g, 0, none⟩ (.slice (some ⟨k1, 0, none⟩) (q + 1) c1) = w2 at *
      have hc0 := hw2.cell 0
      have hc1 := hw2.cell 1
      simp at hc0 hc1
      have hf1 := hw2.frozen 1
      have hkc := ho2.cellr (i := q) (by omega)
      have hkf := ho2.frozenr (q)
      have Hw2 := Lib.hid hw2
      have Ho2 := Lib.hid ho2
      have Ht2 := Lib.hid ht2
      have e1 : IntKind.i64.wrap ((bs.length : Int) / 8) = (q : Int) := by rw [IntWalk.i64_in _ (by omega)]; omega
      have e2 : (0 : Int) ≤ (q : Int) := by omega
      have e3 : (q : Int) < (q : Int) + 1 := by omega
      have e4 : (bs.length : Int).tmod 8 = (r : Int) := by rw [Int.tmod_eq_emod_of_nonneg (by omega)]; have := Hr.out; omega
      have e5 : (0 : Int) ≤ (r : Int) := by omega
      have e6 := Hsh.out
      have e7 := Hor.out
      clear hw2 ho2 ht2
      go_still_tail 19, (by kernel_rfl)
      repeat still_step
      clear e1 e2 e3 e4 e5 e6 e7
      change wpList _ _ _ _ _ w2.drew
      have hg2 := Hw2.out.lt
      go_wp2_with fail
      go_end0
      refine ⟨rfl, .slice (some ⟨k1, 0, none⟩) (q + 1) c1, ⟨hB, ?_, ?_⟩, ?_, ?_⟩
      · have := ((Hw2.out.far (p := ⟨k1, q, none⟩) (Ne.symm hkg) (.int .u8 (rdn z q + wt))).set_ 1 (.int .i64 ((bs.length : Int) + 1))).drew
        simpa using this
      · rw [Hone.out]
        have := (Ho2.out.drew.put q (rdn z q + wt)).far (p := ⟨g, 1, none⟩) Hne1.out (.int .i64 ((bs.length : Int) + 1))
        exact this
      · exact ((Ht2.out.drew).setCell (Hrow.out) _).setCell (.inl rfl) _
      · exact Hown.out
  · have hb8 : ((bs.length : Int) % 8 == 0) = false := by rw [beq_eq_false_iff_ne]; omega
    have Hold := Lib.hid ((pack_old bs h8).symm.trans Hz.out)
    have ho2 := Ho.out
    rw [Hold.out] at ho2
    obtain ⟨k1, c1, rfl, hBk, hkl, hkc0, hkf0⟩ := ho2.formr (by omega)
    clear hkc0 hkf0
    have hkg : k1 ≠ g := fun e => Hne.out (by rw [e]; rfl)
    have Hne1 := Lib.hid Hne.out
    rw [hzl] at ho2 hc0 Hg Ho Hne Hne1
    rw [hzl]
    cases b
    · go_enter Try.func24, Try.ntmps24
      have Ho2 := Lib.hid ho2
      clear ho2
      go_wp2_with fail
      go_end0
      refine ⟨rfl, .slice (some ⟨k1, 0, none⟩) (q + 1) c1, ⟨hB, ?_, ?_⟩, ?_, .inl rfl⟩
      · have := Hg.out.set_ 1 (.int .i64 ((bs.length : Int) + 1))
        simpa using this
      · rw [Hz.out]
        exact Ho2.out.far (p := ⟨g, 1, none⟩) Hne1.out _
      · exact (Touch.refl g _ w).setCell (.inl rfl) _
    · go_enter Try.func24, Try.ntmps24
      have hw2 := Hg.out
      have ht2 := Touch.refl g (Value.ownBlock (.slice (some ⟨k1, 0, none⟩) (q + 1) c1)) w
      have Hrow : Hid ((⟨k1, q, none⟩ : Addr).block = g ∨ some (⟨k1, q, none⟩ : Addr).block = Value.ownBlock (.slice (some ⟨k1, 0, none⟩) (q + 1) c1) ∨ w.heap.size ≤ (⟨k1, q, none⟩ : Addr).block) := Lib.hid (.inr (.inl rfl))
      have Hown : Hid (Value.ownBlock (.slice (some ⟨k1, 0, none⟩) (q + 1) c1) = Value.ownBlock (.slice (some ⟨k1, 0, none⟩) (q + 1) c1) ∨ Value.ownBlock (.slice (some ⟨k1, 0, none⟩) (q + 1) c1) = some (w.heap.size + 1)) := Lib.hid (.inl rfl)
      have Ho3 := Lib.hid ho2
      clear ho2
      go_wp2_with fail
      have ho2 := Ho3.out
      clear hc0 hc1 hf0 hf1
      have hc0 := hw2.cell 0
      have hc1 := hw2.cell 1
      simp at hc0 hc1
      have hf1 := hw2.frozen 1
      have hkc := ho2.cellr (i := q) (by omega)
      have hkf := ho2.frozenr (q)
      have Hw2 := Lib.hid hw2
      have Ho2 := Lib.hid ho2
      have Ht2 := Lib.hid ht2
      have e1 : IntKind.i64.wrap ((bs.length : Int) / 8) = (q : Int) := by rw [IntWalk.i64_in _ (by omega)]; omega
      have e2 : (0 : Int) ≤ (q : Int) := by omega
      have e3 : (q : Int) < (q : Int) + 1 := by omega
      have e4 : (bs.length : Int).tmod 8 = (r : Int) := by rw [Int.tmod_eq_emod_of_nonneg (by omega)]; have := Hr.out; omega
      have e5 : (0 : Int) ≤ (r : Int) := by omega
      have e6 := Hsh.out
      have e7 := Hor.out
      clear hw2 ho2 ht2
      go_still_tail 19, (by kernel_rfl)
      repeat still_step
      clear e1 e2 e3 e4 e5 e6 e7
      change wpList _ _ _ _ _ w.drew
      have hg2 := Hw2.out.lt
      go_wp2_with fail
      go_end0
      refine ⟨rfl, .slice (some ⟨k1, 0, none⟩) (q + 1) c1, ⟨hB, ?_, ?_⟩, ?_, ?_⟩
      · have := ((Hw2.out.far (p := ⟨k1, q, none⟩) (Ne.symm hkg) (.int .u8 (rdn z q + wt))).set_ 1 (.int .i64 ((bs.length : Int) + 1))).drew
        simpa using this
      · rw [Hone.out]
        have := (Ho2.out.drew.put q (rdn z q + wt)).far (p := ⟨g, 1, none⟩) Hne1.out (.int .i64 ((bs.length : Int) + 1))
        exact this
      · exact ((Ht2.out.drew).setCell (Hrow.out) _).setCell (.inl rfl) _
      · exact .inl rfl
end Go.Proofs.Ytgdlleoefncikaa
