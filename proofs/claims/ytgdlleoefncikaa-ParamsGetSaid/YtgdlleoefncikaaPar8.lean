/- Params: what a source of bits tells. -/
import Derived.Test.YtgdlleoefncikaaPar7
namespace Go.Proofs.Ytgdlleoefncikaa
open Go.RowKit Go.Sort
set_option linter.unusedVariables false
set_option linter.unusedSimpArgs false
/-- All blocks but those of Q lie as they lay. -/
structure ButQ (Q : Nat → Prop) (w w' : World) : Prop where
  os : w'.os = w.os
  tape : w'.tape = w.tape
  output : w'.output = w.output
  size : w.heap.size ≤ w'.heap.size
  block : ∀ k, k < w.heap.size → ¬ Q k → w'.heap[k]? = w.heap[k]?
section
variable {Q : Nat → Prop} {w w' w2 W : World}
theorem ButQ.refl (Q : Nat → Prop) (w : World) : ButQ Q w w := ⟨rfl, rfl, rfl, Nat.le_refl _, fun _ _ _ => rfl⟩
theorem ButQ.of_below (h : Below w.heap.size w w') : ButQ Q w w' := ⟨h.os, h.tape, h.output, h.size, fun k hk _ => h.block k hk⟩
theorem ButQ.trans (h : ButQ Q w w') (k : ButQ Q w' w2) : ButQ Q w w2 := ⟨k.os.trans h.os, k.tape.trans h.tape, k.output.trans h.output, Nat.le_trans h.size k.size, fun i hi hq => (k.block i (Nat.lt_of_lt_of_le hi h.size) hq).trans (h.block i hi hq)⟩
theorem ButQ.set_ (h : ButQ Q w w') {p : Addr} (hp : Q p.block) (u : Value) : ButQ Q w (w'.setCell p u) :=
  ⟨h.os, h.tape, h.output, by simpa [World.setCell] using h.size, fun k hk h1 => (Below.heap_setCell _ _ _ _ (by rintro rfl; exact h1 hp)).trans (h.block k hk h1)⟩
theorem ButQ.grown {g : Nat} (h : w.grownBy w' (some g)) (hg : Q g) : ButQ Q w w' := ⟨h.os, h.tape, h.output, h.size, fun k hk hq => h.block k hk (fun e => by injection e with e; subst e; exact hq hg)⟩
theorem ButQ.below (h : ButQ Q w w') {B : Nat} (hb : Below B W w) (hB : B ≤ w.heap.size) (hQ : ∀ k, Q k → B ≤ k) : Below B W w' :=
  ⟨h.os.trans hb.os, h.tape.trans hb.tape, h.output.trans hb.output, Nat.le_trans hb.size h.size, fun k hk => (h.block k (by omega) (fun q => by have := hQ k q; omega)).trans (hb.block k hk)⟩
theorem ButQ.blk (h : ButQ Q w w') {g : Nat} {t : TypeId} {cs : Array Value} (hb : Blk w g t cs) (hq : ¬ Q g) : Blk w' g t cs := (h.block g hb.lt hq).trans hb
end
/-- Where a source is: the place, how much is read over, the error. -/
structure Rs where
  a : Nat
  o : Nat
  e : Int
def cdS (T : List Bool) (s : Rs) : Int × Rs := if s.e ≠ 0 then (0, s) else ((goG T s.a 1 31).1, ⟨(goG T s.a 1 31).2.2, ovL T s.a s.o ((goG T s.a 1 31).2.2 - s.a), if (goG T s.a 1 31).2.1 = false ∨ 0 < ovL T s.a s.o ((goG T s.a 1 31).2.2 - s.a) then 30 else 0⟩)
def flS (T : List Bool) (s : Rs) : Bool × Rs := if s.e ≠ 0 then (false, s) else (nextL T s.a, ⟨s.a + 1, overL T s.a s.o, if 0 < overL T s.a s.o then 30 else 0⟩)
/-- A source in memory. -/
def SrcI (w : World) (B s g : Nat) (xs : List Int) (st : Rs) : Prop := Blk w s 65 #[.pointer (some ⟨g, 0, none⟩), .int .i64 st.e] ∧ RdI w B g xs st.a st.o
theorem RdI.qset {w : World} {B g s i : Nat} {xs : List Int} {a o : Nat} {t : TypeId} {cs : Array Value} (h : RdI w B g xs a o) (hs : Blk w s t cs) (h1 : 84 ≠ t) (h2 : 5 ≠ t) (u : Value) : RdI (w.setCell ⟨s, i, none⟩ u) B g xs a o := by
  obtain ⟨rv, k1, k2, k3⟩ := h
  exact ⟨rv, k1, k2.far (k2.ne_ hs h1) u, OwnB.grown k3 (only_setCell (World.grownBy.refl w (some s)) (.inl rfl) u) (.inr (own_blk_ne k3 hs h2))⟩
set_option maxRecDepth 100000 in
set_option maxHeartbeats 6400000 in
theorem scode_e (B s g : Nat) (xs : List Int) (st : Rs) (w : World) (h : SrcI w B s g xs st) (he : st.e ≠ 0) : Calls Try.prog 32 #[.pointer (some ⟨s, 0, none⟩)] w fun e w' => e = .returned (.int .i64 0) ∧ SrcI w' B s g xs (st) ∧ ButQ (fun j => j = s ∨ j = g) w w' := by
  obtain ⟨a, o, e⟩ := st
  obtain ⟨hs, hr⟩ := h
  dsimp only at *
  have HS := Lib.hid hs
  have HR := Lib.hid hr
  clear hs hr
  have e1 : (e != 0) = true := by simpa using he
  go_enter Try.func32, Try.ntmps32
  have z0 := HS.out.cell 0
  have z1 := HS.out.cell 1
  go_wp2_with fail
  go_ret
  exact ⟨rfl, ⟨HS.out, HR.out⟩, ButQ.refl _ _⟩
set_option maxRecDepth 100000 in
set_option maxHeartbeats 6400000 in
theorem scode_n (B s g : Nat) (xs : List Int) (st : Rs) (w : World) (h : SrcI w B s g xs st) (h8 : Byte8 xs) (hl : xs.length ≤ 1000000) (ha : st.a ≤ 500000) (ho : st.o ≤ 500000) (he : st.e = 0) (hok : (goG (unp xs) st.a 1 31).2.1 = false) : Calls Try.prog 32 #[.pointer (some ⟨s, 0, none⟩)] w fun e w' => e = .returned ((.int .i64 (goG (unp xs) st.a 1 31).1)) ∧ SrcI w' B s g xs (⟨(goG (unp xs) st.a 1 31).2.2, ovL (unp xs) st.a st.o ((goG (unp xs) st.a 1 31).2.2 - st.a), 30⟩) ∧ ButQ (fun j => j = s ∨ j = g) w w' := by
  obtain ⟨a, o, e⟩ := st
  obtain ⟨hs, hr⟩ := h
  dsimp only at *
  subst he
  have HS := Lib.hid hs
  have HR := Lib.hid hr
  have HP := Lib.hid (goG_place (unp xs) 31 a 1)
  have HV := Lib.hid (ovL_bd (unp xs) a o ((goG (unp xs) a 1 31).2.2 - a))
  have h9 := fun w h => gget_c B g xs a o w h h8 hl (by omega) (by omega)
  obtain ⟨v, hv⟩ : ∃ v, v = (goG (unp xs) a 1 31).1 := ⟨_, rfl⟩
  obtain ⟨p, hp⟩ : ∃ p, p = (goG (unp xs) a 1 31).2.2 := ⟨_, rfl⟩
  rw [hok, ← hv, ← hp] at h9
  rw [← hv, ← hp]
  rw [← hp] at HP HV
  obtain ⟨q, hq⟩ : ∃ q, q = ovL (unp xs) a o (p - a) := ⟨_, rfl⟩
  rw [← hq] at h9 HV ⊢
  skip
  have H9 := Lib.hid h9
  clear hs hr h9 hv hp hq hok
  go_enter Try.func32, Try.ntmps32
  have z0 := HS.out.cell 0
  have z1 := HS.out.cell 1
  go_wp2_with fail
  have hsg : s ≠ g := by obtain ⟨rv, _, hbg, _⟩ := HR.out; exact HS.out.ne_ hbg (by decide)
  refine (H9.out _ HR.out).mono ?_
  rintro e w1 ⟨rfl, hr1, hg1⟩
  clear z0 z1
  have HR := Lib.hid hr1
  skip
  have HS := Lib.hid (HS.out.grown hg1 (by intro h; injection h with h; exact hsg h))
  have HQ := Lib.hid (ButQ.grown (Q := fun j => j = s ∨ j = g) hg1 (.inr rfl))
  clear hr1 hg1
  have z0 := HS.out.cell 0
  have z1 := HS.out.cell 1
  have ff := HS.out.frozen 1
  go_wp2_with fail
  go_ret
  exact ⟨rfl, ⟨HS.out.set_ 1 (.int .i64 30), HR.out.qset HS.out (by decide) (by decide) _⟩, HQ.out.set_ (.inl rfl) _⟩
set_option maxRecDepth 100000 in
set_option maxHeartbeats 6400000 in
theorem scode_o (B s g : Nat) (xs : List Int) (st : Rs) (w : World) (h : SrcI w B s g xs st) (h8 : Byte8 xs) (hl : xs.length ≤ 1000000) (ha : st.a ≤ 500000) (ho : st.o ≤ 500000) (he : st.e = 0) (hok : (goG (unp xs) st.a 1 31).2.1 = true) (hov : 0 < ovL (unp xs) st.a st.o ((goG (unp xs) st.a 1 31).2.2 - st.a)) : Calls Try.prog 32 #[.pointer (some ⟨s, 0, none⟩)] w fun e w' => e = .returned ((.int .i64 (goG (unp xs) st.a 1 31).1)) ∧ SrcI w' B s g xs (⟨(goG (unp xs) st.a 1 31).2.2, ovL (unp xs) st.a st.o ((goG (unp xs) st.a 1 31).2.2 - st.a), 30⟩) ∧ ButQ (fun j => j = s ∨ j = g) w w' := by
  obtain ⟨a, o, e⟩ := st
  obtain ⟨hs, hr⟩ := h
  dsimp only at *
  subst he
  have HS := Lib.hid hs
  have HR := Lib.hid hr
  have HP := Lib.hid (goG_place (unp xs) 31 a 1)
  have HV := Lib.hid (ovL_bd (unp xs) a o ((goG (unp xs) a 1 31).2.2 - a))
  have h9 := fun w h => gget_c B g xs a o w h h8 hl (by omega) (by omega)
  obtain ⟨v, hv⟩ : ∃ v, v = (goG (unp xs) a 1 31).1 := ⟨_, rfl⟩
  obtain ⟨p, hp⟩ : ∃ p, p = (goG (unp xs) a 1 31).2.2 := ⟨_, rfl⟩
  rw [hok, ← hv, ← hp] at h9
  rw [← hv, ← hp]
  rw [← hp] at HP HV hov
  obtain ⟨q, hq⟩ : ∃ q, q = ovL (unp xs) a o (p - a) := ⟨_, rfl⟩
  rw [← hq] at h9 HV ⊢ hov
  skip
  have H9 := Lib.hid h9
  clear hs hr h9 hv hp hq hok
  have e3 : decide (0 < (q : Int)) = true := by simp; omega
  have e4 : (0 : Int) < (q : Int) := by omega
  go_enter Try.func32, Try.ntmps32
  have z0 := HS.out.cell 0
  have z1 := HS.out.cell 1
  go_wp2_with fail
  have hsg : s ≠ g := by obtain ⟨rv, _, hbg, _⟩ := HR.out; exact HS.out.ne_ hbg (by decide)
  refine (H9.out _ HR.out).mono ?_
  rintro e w1 ⟨rfl, hr1, hg1⟩
  clear z0 z1
  have HR := Lib.hid hr1
  skip
  have HS := Lib.hid (HS.out.grown hg1 (by intro h; injection h with h; exact hsg h))
  have HQ := Lib.hid (ButQ.grown (Q := fun j => j = s ∨ j = g) hg1 (.inr rfl))
  clear hr1 hg1
  have z0 := HS.out.cell 0
  have z1 := HS.out.cell 1
  go_wp2_with fail
  refine (rover_c _ _ _ _ _ _ HR.out).mono ?_
  rintro e w2 ⟨rfl, rfl⟩
  have ff := HS.out.frozen 1
  go_wp2_with fail
  go_ret
  exact ⟨rfl, ⟨HS.out.set_ 1 (.int .i64 30), HR.out.qset HS.out (by decide) (by decide) _⟩, HQ.out.set_ (.inl rfl) _⟩
set_option maxRecDepth 100000 in
set_option maxHeartbeats 6400000 in
theorem scode_y (B s g : Nat) (xs : List Int) (st : Rs) (w : World) (h : SrcI w B s g xs st) (h8 : Byte8 xs) (hl : xs.length ≤ 1000000) (ha : st.a ≤ 500000) (ho : st.o ≤ 500000) (he : st.e = 0) (hok : (goG (unp xs) st.a 1 31).2.1 = true) (hov : ¬ 0 < ovL (unp xs) st.a st.o ((goG (unp xs) st.a 1 31).2.2 - st.a)) : Calls Try.prog 32 #[.pointer (some ⟨s, 0, none⟩)] w fun e w' => e = .returned ((.int .i64 (goG (unp xs) st.a 1 31).1)) ∧ SrcI w' B s g xs (⟨(goG (unp xs) st.a 1 31).2.2, ovL (unp xs) st.a st.o ((goG (unp xs) st.a 1 31).2.2 - st.a), 0⟩) ∧ ButQ (fun j => j = s ∨ j = g) w w' := by
  obtain ⟨a, o, e⟩ := st
  obtain ⟨hs, hr⟩ := h
  dsimp only at *
  subst he
  have HS := Lib.hid hs
  have HR := Lib.hid hr
  have HP := Lib.hid (goG_place (unp xs) 31 a 1)
  have HV := Lib.hid (ovL_bd (unp xs) a o ((goG (unp xs) a 1 31).2.2 - a))
  have h9 := fun w h => gget_c B g xs a o w h h8 hl (by omega) (by omega)
  obtain ⟨v, hv⟩ : ∃ v, v = (goG (unp xs) a 1 31).1 := ⟨_, rfl⟩
  obtain ⟨p, hp⟩ : ∃ p, p = (goG (unp xs) a 1 31).2.2 := ⟨_, rfl⟩
  rw [hok, ← hv, ← hp] at h9
  rw [← hv, ← hp]
  rw [← hp] at HP HV hov
  obtain ⟨q, hq⟩ : ∃ q, q = ovL (unp xs) a o (p - a) := ⟨_, rfl⟩
  rw [← hq] at h9 HV ⊢ hov
  skip
  have H9 := Lib.hid h9
  clear hs hr h9 hv hp hq hok
  have e3 : decide (0 < (q : Int)) = false := by simp; omega
  have e4 : (q : Int) ≤ 0 := by omega
  go_enter Try.func32, Try.ntmps32
  have z0 := HS.out.cell 0
  have z1 := HS.out.cell 1
  go_wp2_with fail
  have hsg : s ≠ g := by obtain ⟨rv, _, hbg, _⟩ := HR.out; exact HS.out.ne_ hbg (by decide)
  refine (H9.out _ HR.out).mono ?_
  rintro e w1 ⟨rfl, hr1, hg1⟩
  clear z0 z1
  have HR := Lib.hid hr1
  skip
  have HS := Lib.hid (HS.out.grown hg1 (by intro h; injection h with h; exact hsg h))
  have HQ := Lib.hid (ButQ.grown (Q := fun j => j = s ∨ j = g) hg1 (.inr rfl))
  clear hr1 hg1
  have z0 := HS.out.cell 0
  have z1 := HS.out.cell 1
  go_wp2_with fail
  refine (rover_c _ _ _ _ _ _ HR.out).mono ?_
  rintro e w2 ⟨rfl, rfl⟩
  go_wp2_with fail
  go_ret
  exact ⟨rfl, ⟨HS.out, HR.out⟩, HQ.out⟩
theorem scode_c (B s g : Nat) (xs : List Int) (st : Rs) (w : World) (h : SrcI w B s g xs st) (h8 : Byte8 xs) (hl : xs.length ≤ 1000000) (ha : st.a ≤ 500000) (ho : st.o ≤ 500000) : Calls Try.prog 32 #[.pointer (some ⟨s, 0, none⟩)] w fun e w' => e = .returned (.int .i64 (cdS (unp xs) st).1) ∧ SrcI w' B s g xs ((cdS (unp xs) st).2) ∧ ButQ (fun j => j = s ∨ j = g) w w' := by
  unfold cdS
  by_cases he : st.e = 0
  · rw [if_neg (by simpa using he)]
    cases hok : (goG (unp xs) st.a 1 31).2.1 with
    | false =>
      rw [if_pos (.inl rfl)]
      exact scode_n B s g xs st w h h8 hl ha ho he hok
    | true =>
      by_cases hov : 0 < ovL (unp xs) st.a st.o ((goG (unp xs) st.a 1 31).2.2 - st.a)
      · rw [if_pos (.inr hov)]
        exact scode_o B s g xs st w h h8 hl ha ho he hok hov
      · rw [if_neg (by simp only [Bool.true_eq_false, false_or]; exact hov)]
        exact scode_y B s g xs st w h h8 hl ha ho he hok hov
  · rw [if_pos he]
    exact scode_e B s g xs st w h he
set_option maxRecDepth 100000 in
set_option maxHeartbeats 6400000 in
theorem sflag_e (B s g : Nat) (xs : List Int) (st : Rs) (w : World) (h : SrcI w B s g xs st) (he : st.e ≠ 0) : Calls Try.prog 31 #[.pointer (some ⟨s, 0, none⟩)] w fun e w' => e = .returned (.bool false) ∧ SrcI w' B s g xs (st) ∧ ButQ (fun j => j = s ∨ j = g) w w' := by
  obtain ⟨a, o, e⟩ := st
  obtain ⟨hs, hr⟩ := h
  dsimp only at *
  have HS := Lib.hid hs
  have HR := Lib.hid hr
  clear hs hr
  have e1 : (e != 0) = true := by simpa using he
  go_enter Try.func31, Try.ntmps31
  have z0 := HS.out.cell 0
  have z1 := HS.out.cell 1
  go_wp2_with fail
  go_ret
  exact ⟨rfl, ⟨HS.out, HR.out⟩, ButQ.refl _ _⟩
set_option maxRecDepth 100000 in
set_option maxHeartbeats 6400000 in
theorem sflag_o (B s g : Nat) (xs : List Int) (st : Rs) (w : World) (h : SrcI w B s g xs st) (h8 : Byte8 xs) (hl : xs.length ≤ 1000000) (ha : st.a ≤ 500000) (ho : st.o ≤ 500000) (he : st.e = 0) (hov : 0 < overL (unp xs) st.a st.o) : Calls Try.prog 31 #[.pointer (some ⟨s, 0, none⟩)] w fun e w' => e = .returned ((.bool (nextL (unp xs) st.a))) ∧ SrcI w' B s g xs (⟨st.a + 1, overL (unp xs) st.a st.o, 30⟩) ∧ ButQ (fun j => j = s ∨ j = g) w w' := by
  obtain ⟨a, o, e⟩ := st
  obtain ⟨hs, hr⟩ := h
  dsimp only at *
  subst he
  have HS := Lib.hid hs
  have HR := Lib.hid hr
  have h9 := fun w h => rbit_c B g xs a o w h h8 hl (by omega) (by omega)
  obtain ⟨v, hv⟩ : ∃ v, v = nextL (unp xs) a := ⟨_, rfl⟩
  rw [← hv] at h9 ⊢
  obtain ⟨q, hq⟩ : ∃ q, q = overL (unp xs) a o := ⟨_, rfl⟩
  rw [← hq] at h9 hov ⊢
  have H9 := Lib.hid h9
  clear hs hr h9 hv hq
  have e3 : decide (0 < (q : Int)) = true := by simp; omega
  have e4 : (0 : Int) < (q : Int) := by omega
  have hsg : s ≠ g := by obtain ⟨rv, _, hbg, _⟩ := HR.out; exact HS.out.ne_ hbg (by decide)
  go_enter Try.func31, Try.ntmps31
  have z0 := HS.out.cell 0
  have z1 := HS.out.cell 1
  go_wp2_with fail
  refine (H9.out _ HR.out).mono ?_
  rintro e w1 ⟨rfl, hr1, hg1⟩
  clear z0 z1
  have HR := Lib.hid hr1
  have HS := Lib.hid (HS.out.grown hg1 (by intro h; injection h with h; exact hsg h))
  have HQ := Lib.hid (ButQ.grown (Q := fun j => j = s ∨ j = g) hg1 (.inr rfl))
  clear hr1 hg1
  have z0 := HS.out.cell 0
  have z1 := HS.out.cell 1
  go_wp2_with fail
  refine (rover_c _ _ _ _ _ _ HR.out).mono ?_
  rintro e w2 ⟨rfl, rfl⟩
  have ff := HS.out.frozen 1
  go_wp2_with fail
  go_ret
  exact ⟨rfl, ⟨HS.out.set_ 1 (.int .i64 30), HR.out.qset HS.out (by decide) (by decide) _⟩, HQ.out.set_ (.inl rfl) _⟩
set_option maxRecDepth 100000 in
set_option maxHeartbeats 6400000 in
theorem sflag_y (B s g : Nat) (xs : List Int) (st : Rs) (w : World) (h : SrcI w B s g xs st) (h8 : Byte8 xs) (hl : xs.length ≤ 1000000) (ha : st.a ≤ 500000) (ho : st.o ≤ 500000) (he : st.e = 0) (hov : ¬ 0 < overL (unp xs) st.a st.o) : Calls Try.prog 31 #[.pointer (some ⟨s, 0, none⟩)] w fun e w' => e = .returned ((.bool (nextL (unp xs) st.a))) ∧ SrcI w' B s g xs (⟨st.a + 1, overL (unp xs) st.a st.o, 0⟩) ∧ ButQ (fun j => j = s ∨ j = g) w w' := by
  obtain ⟨a, o, e⟩ := st
  obtain ⟨hs, hr⟩ := h
  dsimp only at *
  subst he
  have HS := Lib.hid hs
  have HR := Lib.hid hr
  have h9 := fun w h => rbit_c B g xs a o w h h8 hl (by omega) (by omega)
  obtain ⟨v, hv⟩ : ∃ v, v = nextL (unp xs) a := ⟨_, rfl⟩
  rw [← hv] at h9 ⊢
  obtain ⟨q, hq⟩ : ∃ q, q = overL (unp xs) a o := ⟨_, rfl⟩
  rw [← hq] at h9 hov ⊢
  have H9 := Lib.hid h9
  clear hs hr h9 hv hq
  have e3 : decide (0 < (q : Int)) = false := by simp; omega
  have e4 : (q : Int) ≤ 0 := by omega
  have hsg : s ≠ g := by obtain ⟨rv, _, hbg, _⟩ := HR.out; exact HS.out.ne_ hbg (by decide)
  go_enter Try.func31, Try.ntmps31
  have z0 := HS.out.cell 0
  have z1 := HS.out.cell 1
  go_wp2_with fail
  refine (H9.out _ HR.out).mono ?_
  rintro e w1 ⟨rfl, hr1, hg1⟩
  clear z0 z1
  have HR := Lib.hid hr1
  have HS := Lib.hid (HS.out.grown hg1 (by intro h; injection h with h; exact hsg h))
  have HQ := Lib.hid (ButQ.grown (Q := fun j => j = s ∨ j = g) hg1 (.inr rfl))
  clear hr1 hg1
  have z0 := HS.out.cell 0
  have z1 := HS.out.cell 1
  go_wp2_with fail
  refine (rover_c _ _ _ _ _ _ HR.out).mono ?_
  rintro e w2 ⟨rfl, rfl⟩
  go_wp2_with fail
  go_ret
  exact ⟨rfl, ⟨HS.out, HR.out⟩, HQ.out⟩
theorem sflag_c (B s g : Nat) (xs : List Int) (st : Rs) (w : World) (h : SrcI w B s g xs st) (h8 : Byte8 xs) (hl : xs.length ≤ 1000000) (ha : st.a ≤ 500000) (ho : st.o ≤ 500000) : Calls Try.prog 31 #[.pointer (some ⟨s, 0, none⟩)] w fun e w' => e = .returned (.bool (flS (unp xs) st).1) ∧ SrcI w' B s g xs ((flS (unp xs) st).2) ∧ ButQ (fun j => j = s ∨ j = g) w w' := by
  unfold flS
  by_cases he : st.e = 0
  · rw [if_neg (by simpa using he)]
    by_cases hov : 0 < overL (unp xs) st.a st.o
    · rw [if_pos hov]
      exact sflag_o B s g xs st w h h8 hl ha ho he hov
    · rw [if_neg hov]
      exact sflag_y B s g xs st w h h8 hl ha ho he hov
  · rw [if_pos he]
    exact sflag_e B s g xs st w h he

end Go.Proofs.Ytgdlleoefncikaa
