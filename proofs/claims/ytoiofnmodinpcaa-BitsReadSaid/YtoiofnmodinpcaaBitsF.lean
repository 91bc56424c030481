/- What first of the laws of layer 1 answers: true. -/
import Derived.Test.YtoiofnmodinpcaaRef1b
namespace Go.Proofs.Ytoiofnmodinpcaa
open Go.RowKit
set_option linter.unusedVariables false
set_option linter.unusedSimpArgs false

section
variable {w w' W : World} {B B2 g gr : Nat} {bv : Value} {bs bs2 : List Bool} {xs : List Int} {a o : Nat}
theorem WrI.rgoes (h : WrI w B g bv bs) (hr : RdI w B2 gr xs a o) (hg : RGoes w w' gr) : WrI w' B g bv bs := by
  obtain ⟨rv, _, hb, _⟩ := hr
  exact ⟨h.1, Blk.grown h.2.1 hg (fun e => Blk.ne_ h.2.1 hb (by decide) (by injection e)), OwnB.grown h.2.2 hg (.inr (own_blk_ne h.2.2 hb (by decide)))⟩
theorem Touch.below {r : Option Nat} (h : Touch g r w w') (hB : B ≤ w.heap.size) (hg : B ≤ g) (hr : ∀ k, r = some k → B ≤ k) : Below B w w' :=
  ⟨h.os, h.tape, h.output, h.size, fun k hk => h.block k (by omega) (by omega) (fun e => by have := hr k e.symm; omega)⟩
theorem WGoes.below (h : WrI w B g bv bs) (hg : WGoes w w' B g bv bs2) (hB : B ≤ w.heap.size) : Below B w w' := by
  obtain ⟨b2, _, ht, _⟩ := hg
  exact ht.below hB h.1 (fun k hk => (h.2.2.blk_lt k hk).1)
theorem WGoes.wr (hg : WGoes w w' B g bv bs2) : ∃ b2, WrI w' B g b2 bs2 := by
  obtain ⟨b2, h, _, _⟩ := hg
  exact ⟨b2, h⟩
theorem RGoes.below (h : RdI w B gr xs a o) (hg : RGoes w w' gr) (hB : B ≤ w.heap.size) : Below B w w' := by
  obtain ⟨_, h1, _, _⟩ := h
  exact ⟨hg.os, hg.tape, hg.output, hg.size, fun k hk => hg.block k (by omega) (fun e => by injection e with e; omega)⟩
theorem RdI.lower (h : RdI w B gr xs a o) (hB : B2 ≤ B) : RdI w B2 gr xs a o := by
  obtain ⟨rv, h1, h2, h3⟩ := h
  refine ⟨rv, by omega, h2, h3.1, ?_⟩
  rcases h3.2 with h | ⟨g, cap, cur, hv, hg, r⟩
  · exact .inl h
  · exact .inr ⟨g, cap, cur, hv, by omega, r⟩
end
/-- A new writer. -/
theorem WrI.new (w : World) {B : Nat} (hB : B ≤ w.heap.size) : WrI (w.alloc (.cells #[.slice none 0 0, .int .i64 0] 27)) B w.heap.size (.slice none 0 0) [] :=
  ⟨hB, Blk.new w _ _, OwnB.nil _ _⟩
theorem readsLitB (w : World) (xs : List Int) (t : TypeId) (ht : t = 5) (hm : xs.length ≤ 1000) : ReadsB (w.alloc (.cells (xs.map (Value.int .u8)).toArray t)) (some ⟨w.heap.size, 0, none⟩) xs := by
  subst ht
  exact (RowB.new w xs).reads (by unfold maxLen; omega)

theorem byte8_of {xs : List Int} (h : ∀ x ∈ xs, 0 ≤ x ∧ x ≤ 255) : Byte8 xs := by
  intro j
  unfold rdn
  by_cases hj : j < xs.length
  · simp only [List.getD_eq_getElem?_getD, List.getElem?_eq_getElem hj, Option.getD_some]
    exact h _ (List.getElem_mem hj)
  · simp [List.getD_eq_getElem?_getD, List.getElem?_eq_none (show xs.length ≤ j by omega)]
theorem packZ_byte8 (bs : List Bool) : Byte8 (packZ bs) := byte8_of fun x hx => by
  obtain ⟨i, _, rfl⟩ := List.mem_map.1 hx
  exact byteZ_bd bs i

set_option maxRecDepth 100000 in
set_option maxHeartbeats 3200000 in
theorem first_c (w : World) :
    Calls Try.prog 6 #[] w fun e w' => e = .returned (.bool true) ∧ Below w.heap.size w w' := by
  have Hl := Lib.hid (Nat.le_refl w.heap.size)
  go_enter Try.func6, Try.ntmps6
  go_wp2_with fail
  refine (wput_c w.heap.size w.heap.size [] 5 3 _ _ (WrI.new w (Nat.le_refl _)) (by simp) (by simp) (by omega) (by omega)).mono ?_
  rintro e w1 ⟨rfl, hgo⟩
  obtain ⟨b1, hw1⟩ := hgo.wr
  have Hb1 := Lib.hid (((Below.refl w.heap.size w).alloc (Nat.le_refl _) _).trans (hgo.below (WrI.new w (Nat.le_refl _)) (by simp)))
  have Hw1 := Lib.hid hw1
  clear hgo hw1
  go_wp2_with fail
  refine (wput_c w.heap.size w.heap.size _ 1 2 _ _ Hw1.out (by decide) Hb1.out.size (by omega) (by omega)).mono ?_
  rintro e w2 ⟨rfl, hgo⟩
  obtain ⟨b2, hw2⟩ := hgo.wr
  have Hb2 := Lib.hid (Hb1.out.trans (hgo.below Hw1.out Hb1.out.size))
  have Hw2 := Lib.hid (show WrI w2 w.heap.size w.heap.size b2 [true, false, true, false, true] from hw2)
  clear hgo hw2 Hb1 Hw1
  go_wp2_with fail
  have hrl := readsLitB w2 [168, 255] 5 rfl (by decide)
  refine (new_c _ _ [168, 255] _ hrl (by decide)).mono ?_
  rintro e w3 ⟨gr, rfl, hr3, hb3⟩
  have Hb3 := Lib.hid ((Hb2.out.alloc Hb2.out.size _).trans (hb3.mono (by have := Hb2.out.size; simp; omega)))
  have Hw3 := Lib.hid ((Hw2.out.kept ((Below.refl _ _).alloc (Nat.le_refl _) _)).kept hb3)
  have Hr3 := Lib.hid (hr3.lower (B2 := w.heap.size) (by have := Hb2.out.size; simp; omega))
  clear hrl hr3 hb3 Hb2 Hw2
  have H8 := Lib.hid (show Byte8 [168, 255] from byte8_of (by simp))
  go_wp2_with fail
  refine (rget_c _ _ _ _ _ 3 _ Hr3.out H8.out (by decide) (by omega) (by omega)).mono ?_
  rintro e w4 ⟨rfl, hr4, hg4⟩
  rw [show valL (unp [168, 255]) 0 (clampN 3) = 5 by decide +kernel]
  have Hb4 := Lib.hid (Hb3.out.trans (hg4.below Hr3.out Hb3.out.size))
  have Hw4 := Lib.hid (Hw3.out.rgoes Hr3.out hg4)
  have Hr4 := Lib.hid (show RdI w4 w.heap.size gr [168, 255] 3 0 from hr4)
  clear hr4 hg4 Hb3 Hw3 Hr3
  go_wp2_with fail
  refine (rget_c _ _ _ _ _ 2 _ Hr4.out H8.out (by decide) (by omega) (by omega)).mono ?_
  rintro e w5 ⟨rfl, hr5, hg5⟩
  rw [show valL (unp [168, 255]) 3 (clampN 2) = 1 by decide +kernel]
  have Hb5 := Lib.hid (Hb4.out.trans (hg5.below Hr4.out Hb4.out.size))
  have Hw5 := Lib.hid (Hw4.out.rgoes Hr4.out hg5)
  have Hr5 := Lib.hid (show RdI w5 w.heap.size gr [168, 255] 5 0 from hr5)
  clear hr5 hg5 Hb4 Hw4 Hr4
  go_wp2_with fail
  refine (ralign_c _ _ _ _ _ _ Hr5.out (by omega)).mono ?_
  rintro e w6 ⟨rfl, hr6, hg6⟩
  have Hb6 := Lib.hid (Hb5.out.trans (hg6.below Hr5.out Hb5.out.size))
  have Hw6 := Lib.hid (Hw5.out.rgoes Hr5.out hg6)
  have Hr6 := Lib.hid (show RdI w6 w.heap.size gr [168, 255] 8 0 from hr6)
  clear hr6 hg6 Hb5 Hw5 Hr5
  go_wp2_with fail
  refine (wbytes_c _ _ _ _ _ Hw6.out (by decide)).mono ?_
  rintro e w7 ⟨v7, rfl, ho7, hb7⟩
  have Hb7 := Lib.hid (Hb6.out.trans (hb7.mono Hb6.out.size))
  have Hw7 := Lib.hid (Hw6.out.kept hb7)
  have Hr7 := Lib.hid (Hr6.out.kept hb7)
  rw [show packZ [true, false, true, false, true] = [168] by decide +kernel] at ho7
  obtain ⟨A7, c7, rfl, hrd7⟩ := ho7.slice
  have hconv : (convert 25 9 (.slice A7 1 c7)).run Try.prog w7 = .ok (.string ⟨#[168]⟩) w7 := conv_str 25 9 Try.underlying25 Try.underlying9 A7 c7 [168] w7 hrd7 (byte8_of (by simp))
  clear ho7 hb7 hrd7 Hb6 Hw6 Hr6
  go_wp2_with fail
  refine (wlen_c _ _ _ _ _ Hw7.out).mono ?_
  rintro e w' ⟨rfl, rfl⟩
  simp only [List.length_cons, List.length_nil]
  go_wp2_with fail
  refine (rat_c _ _ _ _ _ _ Hr7.out).mono ?_
  rintro e w' ⟨rfl, rfl⟩
  go_wp2_with fail
  refine (rbit_c _ _ _ _ _ _ Hr7.out H8.out (by decide) (by omega) (by omega)).mono ?_
  rintro e w8 ⟨rfl, hr8, hg8⟩
  rw [show nextL (unp [168, 255]) 8 = true by decide +kernel]
  have Hb8 := Lib.hid (Hb7.out.trans (hg8.below Hr7.out Hb7.out.size))
  have Hr8 := Lib.hid (show RdI w8 w.heap.size gr [168, 255] 9 0 from hr8)
  clear hr8 hg8 Hb7 Hr7 hconv
  go_wp2_with fail
  refine (rleft_c _ _ _ _ _ _ Hr8.out (by decide) (by omega)).mono ?_
  rintro e w9 ⟨rfl, q, rfl⟩
  go_wp2_with fail
  go_ret
  exact ⟨ret_bool (by simp), below_drewN Hb8.out q⟩

end Go.Proofs.Ytoiofnmodinpcaa
