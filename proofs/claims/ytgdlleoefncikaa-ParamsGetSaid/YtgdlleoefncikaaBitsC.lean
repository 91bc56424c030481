/- Bytes cloned; a writer's bytes; a new reader. -/
import Derived.Test.YtgdlleoefncikaaBitsP
namespace Go.Proofs.Ytgdlleoefncikaa
open Go.RowKit
set_option linter.unusedVariables false
set_option linter.unusedSimpArgs false

theorem OwnB.empty (w : World) {B : Nat} (hB : B ≤ w.heap.size) : OwnB (w.alloc (.cells #[] 5)) B (.slice (some ⟨w.heap.size, 0, none⟩) 0 0) [] :=
  ⟨rfl, .inr ⟨w.heap.size, 0, _, rfl, hB, Blk.new w _ _, by simp, by simp [maxLen], rfl, rfl⟩⟩
set_option maxRecDepth 100000 in
set_option maxHeartbeats 3200000 in
theorem clone_c (A : Option Addr) (c : Nat) (xs : List Int) (w : World) (hR : ReadsB w A xs) (hm : xs.length ≤ 1000000000) :
    Calls Try.prog 40 #[.slice A xs.length c] w fun e w' => ∃ v, e = .returned v ∧ OwnB w' w.heap.size v xs ∧ Below w.heap.size w w' := by
  rcases A with _ | ad
  · have h0 : xs.length = 0 := by
      rcases Nat.eq_zero_or_pos xs.length with h | h
      · exact h
      · obtain ⟨ad, h, _⟩ := hR.2 h
        cases h
    have hx : xs = [] := List.eq_nil_of_length_eq_zero h0
    subst hx
    clear h0
    simp only [List.length_nil]
    have he : ∀ w : World, (binOp .eql 28 (.slice none 0 c) (.slice none 0 0)).run Try.prog w = .ok (.bool true) w := fun _ => rfl
    go_enter Try.func40, Try.ntmps40
    go_wp2_with fail
    go_ret
    exact ⟨_, rfl, OwnB.nil _ _, Below.refl _ _⟩
  · have HR := Lib.hid hR
    clear hR
    obtain ⟨i0, hi, hz0, hz1, hz2⟩ := info_parts info_byte
    have he : ∀ w : World, (binOp .eql 28 (.slice (some ad) xs.length c) (.slice none 0 0)).run Try.prog w = .ok (.bool false) w := fun _ => rfl
    go_enter Try.func40, Try.ntmps40
    go_wp2_with (
      at_builtin
      refine wpList_append_any _ rfl (.tmp 5) (.tmp 6) _ rfl w.heap.size 5 i0 (.int .u8 0) 1 1 Try.underlying28 hi hz0 hz1 hz2 rfl (by omega) (.slice (some ⟨w.heap.size, 0, none⟩) 0 0) 0 [] rfl
        (OwnB.empty w (Nat.le_refl _)) _ (some ad) xs.length c _ rfl (HR.out.kept ((Below.refl _ _).alloc (Nat.le_refl _) (.cells #[] 5))) (map_byte_one xs) (by simp only [maxLen]; omega) (by omega) (by simp) ?_
      intro v1 w2 hown hg hat
      have hb2 : Below w.heap.size w w2 := ((Below.refl _ _).alloc (Nat.le_refl _) _).grown hg (by simp) (by intro k hk; simp [Value.ownBlock] at hk; omega)
      have ho2 : OwnB w2 w.heap.size v1 xs := by unfold OwnB; simpa using hown
      have Hb2 := Lib.hid hb2
      have Ho2 := Lib.hid ho2
      clear hown hg hat hb2 ho2)
    go_ret
    exact ⟨_, rfl, Ho2.out, Hb2.out⟩
theorem WrI.reads {w : World} {B g : Nat} {bv : Value} {bs : List Bool} (h : WrI w B g bv bs) : ∃ A c, bv = .slice A (packZ bs).length c ∧ ReadsB w A (packZ bs) := h.2.2.slice
theorem WrI.kept {w w' : World} {B g : Nat} {bv : Value} {bs : List Bool} (h : WrI w B g bv bs) (hb : Below w.heap.size w w') : WrI w' B g bv bs := ⟨h.1, Blk.below h.2.1 hb h.2.1.lt, h.2.2.kept hb⟩
theorem wbytes_c (B g : Nat) (bs : List Bool) (bv : Value) (w : World) (h : WrI w B g bv bs) (hm : bs.length ≤ 1000000) :
    Calls Try.prog 26 #[.pointer (some ⟨g, 0, none⟩)] w fun e w' => ∃ v, e = .returned v ∧ OwnB w' w.heap.size v (packZ bs) ∧ Below w.heap.size w w' := by
  have hc0 := h.2.1.cell 0
  simp at hc0
  obtain ⟨A, c, rfl, hR⟩ := h.reads
  have HR := Lib.hid hR
  have hl := packZ_length bs
  have Hl := Lib.hid hl
  clear h hR hl
  go_enter Try.func26, Try.ntmps26
  go_wp2_with fail
  refine (clone_c _ _ _ _ HR.out (by rw [Hl.out]; omega)).mono ?_
  rintro e w' ⟨v, rfl, ho, hb⟩
  have Ho := Lib.hid ho
  have Hb := Lib.hid hb
  clear ho hb
  go_wp2_with fail
  go_ret
  exact ⟨_, rfl, Ho.out, Hb.out⟩
theorem wbytes_nil (w : World) :
    Calls Try.prog 26 #[.pointer none] w fun e w' => e = .returned (.slice none 0 0) ∧ w = w' := by
  go_enter Try.func26, Try.ntmps26
  go_wp2_with fail
  go_ret
  exact ⟨rfl, rfl⟩

/-- Block g is a reader of the bytes xs: how many bits it has gone over, how many past the end. -/
def RdI (w : World) (B g : Nat) (xs : List Int) (at_ ov : Nat) : Prop := ∃ rv, B ≤ g ∧ Blk w g 84 #[rv, .int .i64 at_, .int .i64 ov] ∧ OwnB w B rv xs
theorem RdI.kept {w w' : World} {B g : Nat} {xs : List Int} {a o : Nat} (h : RdI w B g xs a o) (hb : Below w.heap.size w w') : RdI w' B g xs a o := by
  obtain ⟨rv, h1, h2, h3⟩ := h
  exact ⟨rv, h1, Blk.below h2 hb h2.lt, h3.kept hb⟩
theorem new_c (A : Option Addr) (c : Nat) (xs : List Int) (w : World) (hR : ReadsB w A xs) (hm : xs.length ≤ 1000000000) :
    Calls Try.prog 29 #[.slice A xs.length c] w fun e w' => ∃ g, e = .returned (.pointer (some ⟨g, 0, none⟩)) ∧ RdI w' w.heap.size g xs 0 0 ∧ Below w.heap.size w w' := by
  have HR := Lib.hid hR
  clear hR
  go_enter Try.func29, Try.ntmps29
  go_wp2_with fail
  refine (clone_c _ _ _ _ HR.out hm).mono ?_
  rintro e w1 ⟨v, rfl, ho, hb⟩
  have Ho := Lib.hid ho
  have Hb := Lib.hid hb
  clear ho hb
  obtain ⟨A1, c1, rfl, hR1⟩ := Ho.out.slice
  go_wp2_with fail
  go_ret
  refine ⟨_, rfl, ⟨_, Hb.out.size, Blk.new _ _ _, Ho.out.alloc _⟩, Hb.out.alloc Hb.out.size _⟩

end Go.Proofs.Ytgdlleoefncikaa
