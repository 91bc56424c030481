/- up: a reference made, and its plane told. -/
import Derived.Test.YtfknikgfilfcmaaUp2
import Derived.Test.YtfknikgfilfcmaaPl6
namespace Go.Proofs.Ytfknikgfilfcmaa
open Go.RowKit
set_option linter.unusedVariables false
set_option linter.unusedSimpArgs false

def clipV (V : List Int) (m : Int) : List Int := fillL V.length (fun k => min (max (rdn V k) 0) m) V.length
theorem clipV_length (V : List Int) (m : Int) : (clipV V m).length = V.length := fillL_length _ _ _
theorem rdn_clipV (V : List Int) (m : Int) {k : Nat} (hk : k < V.length) : rdn (clipV V m) k = min (max (rdn V k) 0) m := by
  unfold clipV rdn fillL
  rw [List.getD_eq_getElem?_getD]
  simp [hk]
theorem clipV_bd (V : List Int) {m : Int} (h : 1 ≤ m) (k : Nat) : 0 ≤ rdn (clipV V m) k ∧ rdn (clipV V m) k ≤ m := by
  by_cases hk : k < V.length
  · rw [rdn_clipV V m hk]
    omega
  · have : rdn (clipV V m) k = 0 := by
      unfold rdn
      rw [List.getD_eq_getElem?_getD, List.getElem?_eq_none (by rw [clipV_length]; omega)]
      rfl
    omega
theorem clip_join {W H : Int} {V : List Int} {m : Int} (h : okB W H V.length = true) : joinP (fun x _ => min (max x 0) m) W H V W H V = ⟨W, H, clipV V m⟩ := by
  unfold joinP
  rw [if_pos (by simp [bothB, h])]
  rfl

/-- A reference that a call made: its block and its samples lie behind B. -/
structure RefOwn (w : World) (B R a b : Nat) (V : List Int) (m : Int) : Prop where
  at_ : RefAt w R a b V m
  new : B ≤ R
  own : ∃ ad c, Blk w R 51 #[.int .i64 a, .int .i64 b, .slice (some ad) V.length c, .int .i64 m] ∧ OwnI w B (.slice (some ad) V.length c) V
theorem RefOwn.below {w w' : World} {B R a b : Nat} {V : List Int} {m : Int} (h : RefOwn w B R a b V m) (hb : Below w.heap.size w w') : RefOwn w' B R a b V m := by
  obtain ⟨h0, h1, ad, c, h2, h3⟩ := h
  exact ⟨h0.below hb, h1, ad, c, h2.below hb h2.lt, h3.kept hb⟩
theorem RefOwn.lower {w : World} {B B' R a b : Nat} {V : List Int} {m : Int} (h : RefOwn w B R a b V m) (hB : B' ≤ B) : RefOwn w B' R a b V m := by
  obtain ⟨h0, h1, ad, c, h2, h3⟩ := h
  exact ⟨h0, Nat.le_trans hB h1, ad, c, h2, h3.lower hB⟩
/-- A store into a block of another type. -/
theorem RefOwn.set_ {w : World} {B R a b g i : Nat} {V : List Int} {m : Int} {t : TypeId} {cs : Array Value} (h : RefOwn w B R a b V m) (hg : Blk w g t cs) (ht : t ≠ 3) (ht2 : t ≠ 51) (x : Value) : RefOwn (w.setCell ⟨g, i, none⟩ x) B R a b V m := by
  obtain ⟨h0, h1, ad, c, h2, h3⟩ := h
  have hne : R ≠ g := Blk.ne_ h2 hg (Ne.symm ht2)
  have h2' := h2.far (p := ⟨g, i, none⟩) hne x
  have h3' : OwnI (w.setCell ⟨g, i, none⟩ x) B _ V := OwnI.grown h3 (only_setCell (World.grownBy.refl w (some g)) (.inl rfl) x) (.inr (own_blk_ne h3 hg (Ne.symm ht)))
  exact ⟨⟨h0.a1, h0.a2, h0.b1, h0.b2, h0.len, h0.m1, h0.m2, h0.s, ad, c, h2', h3'.reads⟩, h1, ad, c, h2', h3'⟩
set_option maxRecDepth 100000 in
set_option maxHeartbeats 3200000 in
theorem uNew_own (a b : Nat) (V : List Int) (A : Option Addr) (c : Nat) (m : Int) (w : World) (hR : ReadsI w A V) (h1 : 1 ≤ a) (h2 : a ≤ 1024) (h3 : 1 ≤ b) (h4 : b ≤ 1024) (hl : V.length = a * b) (m1 : 1 ≤ m) (m2 : m ≤ 65535) :
    Calls Try.prog 7 #[plV a b (.slice A V.length c), .int .i64 m] w fun e w' => ∃ R, e = .returned (.pointer (some ⟨R, 0, none⟩)) ∧ RefOwn w' w.heap.size R a b (clipV V m) m ∧ Below w.heap.size w w' := by
  have hok : okB a b V.length = true := by rw [hl]; exact okB_mk h1 h2 h3 h4
  have ha := area_bd (W := a) (H := b) (by omega) (by omega) (by omega) (by omega)
  have hN : ((a * b : Nat) : Int) = (a : Int) * (b : Int) := Int.natCast_mul a b
  have hn : V.length ≤ 1048576 := by omega
  have Hok := Lib.hid hok
  have HL := Lib.hid hl
  have HR := Lib.hid (hR.alloc (.cells #[.int .i64 a, .int .i64 b, .slice A V.length c] 24))
  have HB := Lib.hid (below_alloc_ (Below.refl w.heap.size w) (.cells #[.int .i64 a, .int .i64 b, .slice A V.length c] 24))
  have HP := Lib.hid (Blk.new w 24 #[.int .i64 a, .int .i64 b, .slice A V.length c])
  clear hok hl ha hN hR
  go_enter Try.func7, Try.ntmps7
  go_wp2_with fail
  refine (pright_c a b A V.length c _ (by omega)).mono ?_
  rintro e w1 ⟨rfl, hb1⟩
  rw [Hok.out]
  have HR := Lib.hid (HR.out.kept hb1)
  have HP := Lib.hid (HP.out.below hb1 HP.out.lt)
  have HB := Lib.hid (HB.out.trans (hb1.mono HB.out.size))
  clear hb1
  obtain ⟨c0, c1, c2⟩ := HP.out.cells3
  have HB1z := Lib.hid HB.out.size
  go_wp2_with fail
  refine (pclip_c a b V A c 0 m _ HR.out (by omega)).mono ?_
  rintro e w2 ⟨v, rfl, ho, hb2⟩
  rw [clip_join Hok.out] at ho ⊢
  obtain ⟨A2, c4, rfl, hq⟩ := ho.slice
  have HB := Lib.hid (HB.out.trans (hb2.mono HB.out.size))
  have HQ := Lib.hid hq
  have hge := HB.out.size
  have HG := Lib.hid hge
  have HO := Lib.hid (ho.lower (B' := w.heap.size) (by have := HB1z.out; exact this))
  clear hb2 ho hq c0 c1 c2 hge
  go_wp2_with fail
  go_ret
  have hl := clipV_length V m
  have hpos : 0 < (clipV V m).length := by rw [hl, HL.out]; exact Nat.mul_pos h1 h3
  obtain ⟨ad, rfl, _, _⟩ := HQ.out.2 hpos
  refine ⟨_, rfl, ⟨⟨h1, h2, h3, h4, hl.trans HL.out, m1, m2, clipV_bd V m1, ad, c4, Blk.new _ _ _, HQ.out.alloc _⟩, HG.out, ad, c4, Blk.new _ _ _, HO.out.kept (below_alloc_ (Below.refl _ _) _)⟩, below_alloc_ HB.out _⟩
theorem uNew_yes (a b : Nat) (V : List Int) (A : Option Addr) (c : Nat) (m : Int) (w : World) (hR : ReadsI w A V) (h1 : 1 ≤ a) (h2 : a ≤ 1024) (h3 : 1 ≤ b) (h4 : b ≤ 1024) (hl : V.length = a * b) (m1 : 1 ≤ m) (m2 : m ≤ 65535) :
    Calls Try.prog 7 #[plV a b (.slice A V.length c), .int .i64 m] w fun e w' => ∃ R, e = .returned (.pointer (some ⟨R, 0, none⟩)) ∧ w.heap.size ≤ R ∧ RefAt w' R a b (clipV V m) m ∧ Below w.heap.size w w' :=
  (uNew_own a b V A c m w hR h1 h2 h3 h4 hl m1 m2).mono (by rintro e w' ⟨R, rfl, h, hb⟩; exact ⟨R, rfl, h.new, h.at_, hb⟩)
theorem uNew_no (W H : Int) (A : Option Addr) (n c : Nat) (m : Int) (w : World) (hn : n ≤ 9223372036854775807) (h : ¬ (okB W H n = true ∧ 1 ≤ m ∧ m ≤ 65535)) :
    Calls Try.prog 7 #[plV W H (.slice A n c), .int .i64 m] w fun e w' => e = .returned (.pointer none) ∧ Below w.heap.size w w' := by
  have HB := Lib.hid (below_alloc_ (Below.refl w.heap.size w) (.cells #[.int .i64 W, .int .i64 H, .slice A n c] 24))
  cases hok : okB W H n with
  | false =>
    have Hok := Lib.hid hok
    clear h hok
    go_enter Try.func7, Try.ntmps7
    go_wp2_with fail
    refine (pright_c W H A n c _ (by omega)).mono ?_
    rintro e w1 ⟨rfl, hb1⟩
    rw [Hok.out]
    have HB := Lib.hid (HB.out.trans (hb1.mono HB.out.size))
    clear hb1
    go_wp2_with fail
    go_ret
    exact ⟨rfl, HB.out⟩
  | true =>
    have hm : m < 1 ∨ 65535 < m := by
      rw [hok] at h
      simp at h
      omega
    have Hok := Lib.hid hok
    clear h hok
    rcases hm with hm | hm
    all_goals
      go_enter Try.func7, Try.ntmps7
      go_wp2_with fail
      refine (pright_c W H A n c _ (by omega)).mono ?_
      rintro e w1 ⟨rfl, hb1⟩
      rw [Hok.out]
      have HB := Lib.hid (HB.out.trans (hb1.mono HB.out.size))
      clear hb1
      go_wp2_with fail
      go_ret
      exact ⟨rfl, HB.out⟩
theorem uPlane_nil (w : World) :
    Calls Try.prog 12 #[.pointer none] w fun e w' => e = .returned (plV 0 0 (.slice none 0 0)) ∧ Below w.heap.size w w' := by
  go_enter Try.func12, Try.ntmps12
  go_wp2_with fail
  refine bodyPost_ret (results_cell_row rfl _ _ w.heap.size 24 _ (0, 0) _ rfl (Blk.new w 24 #[.int .i64 0, .int .i64 0, .slice none 0 0]) Try.underlying24 rfl (by kernel_rfl)) rfl ?_
  exact ⟨rfl, below_alloc_ (Below.refl _ _) _⟩

end Go.Proofs.Ytfknikgfilfcmaa
