/- What New of layer 19's reference answers. -/
import Derived.Test.YtfknikgfilfcmaaRef19
import Derived.Test.YtfknikgfilfcmaaRef7b
namespace Go.Proofs.Ytfknikgfilfcmaa
open Go.RowKit
set_option linter.unusedVariables false
set_option linter.unusedSimpArgs false

section
variable {w : World} {b : Nat} {x y z u : Value}
theorem ret_four (h : Blk w b 35 #[x, y, z, u]) (x' y' z' u' : Value) :
    Blk ((((w.setCell ⟨b, 0, none⟩ x').setCell ⟨b, 1, none⟩ y').setCell ⟨b, 2, none⟩ z').setCell ⟨b, 3, none⟩ u') b 35 #[x', y', z', u'] ∧
    (∀ B v xs, OwnI w B v xs → OwnI ((((w.setCell ⟨b, 0, none⟩ x').setCell ⟨b, 1, none⟩ y').setCell ⟨b, 2, none⟩ z').setCell ⟨b, 3, none⟩ u') B v xs) ∧
    (∀ B a, Below B a w → B ≤ b → Below B a ((((w.setCell ⟨b, 0, none⟩ x').setCell ⟨b, 1, none⟩ y').setCell ⟨b, 2, none⟩ z').setCell ⟨b, 3, none⟩ u')) := by
  have h1 := h.set_ 0 x'
  have h2 := h1.set_ 1 y'
  have h3 := h2.set_ 2 z'
  have h4 := h3.set_ 3 u'
  refine ⟨h4, fun B v xs ho => ?_, fun B a hb hB => (((hb.setCell hB _).setCell hB _).setCell hB _).setCell hB _⟩
  have o1 : OwnI (w.setCell ⟨b, 0, none⟩ x') B v xs := OwnI.grown ho (only_setCell (World.grownBy.refl w (some b)) (.inl rfl) _) (.inr (own_blk_ne ho h (by decide)))
  have o2 : OwnI ((w.setCell ⟨b, 0, none⟩ x').setCell ⟨b, 1, none⟩ y') B v xs := OwnI.grown o1 (only_setCell (World.grownBy.refl _ (some b)) (.inl rfl) _) (.inr (own_blk_ne o1 h1 (by decide)))
  have o3 : OwnI (((w.setCell ⟨b, 0, none⟩ x').setCell ⟨b, 1, none⟩ y').setCell ⟨b, 2, none⟩ z') B v xs := OwnI.grown o2 (only_setCell (World.grownBy.refl _ (some b)) (.inl rfl) _) (.inr (own_blk_ne o2 h2 (by decide)))
  exact OwnI.grown o3 (only_setCell (World.grownBy.refl _ (some b)) (.inl rfl) _) (.inr (own_blk_ne o3 h3 (by decide)))
end
set_option maxRecDepth 100000 in
set_option maxHeartbeats 3200000 in
theorem r19New_c (W H : Int) (V : List Int) (A : Option Addr) (c : Nat) (m : Int) (w : World) (hR : ReadsI w A V) (hn : V.length ≤ 9223372036854775807) (p : Pl) (hp : joinP (fun x _ => min (max x 0) m) W H V W H V = p) :
    Calls Try.prog 13 #[plV W H (.slice A V.length c), .int .i64 m] w fun e w' => ∃ v, e = .returned (refV p.W p.H v m) ∧ OwnI w' w.heap.size v p.V ∧ Below w.heap.size w w' := by
  have hb1 := (Blk.new (w.alloc (.cells #[.int .i64 W, .int .i64 H, .slice A V.length c] 24)) 35 #[.int .i64 0, .int .i64 0, .slice none 0 0, .int .i64 0])
  rw [World.size_alloc] at hb1
  have B1 := Lib.hid hb1
  have HB := Lib.hid (below_alloc_ (below_alloc_ (Below.refl w.heap.size w) (.cells #[.int .i64 W, .int .i64 H, .slice A V.length c] 24)) (.cells #[.int .i64 0, .int .i64 0, .slice none 0 0, .int .i64 0] 35))
  have RP := Lib.hid ((hR.alloc (.cells #[.int .i64 W, .int .i64 H, .slice A V.length c] 24)).alloc (.cells #[.int .i64 0, .int .i64 0, .slice none 0 0, .int .i64 0] 35))
  have HP := Lib.hid hp
  clear hb1 hR hp
  go_enter Try.func13, Try.ntmps13
  go_wp2_with fail
  refine (rclip_c 0 m W H V A c _ RP.out hn).mono ?_
  rintro e w1 ⟨v, rfl, ho, hb'⟩
  rw [HP.out] at ho ⊢
  obtain ⟨A1, c1, rfl, _⟩ := ho.slice
  have B1 := Lib.hid (B1.out.below hb' B1.out.lt)
  have HO := Lib.hid (ho.lower (B' := w.heap.size) HB.out.size)
  have HB := Lib.hid (HB.out.trans (hb'.mono HB.out.size))
  clear ho hb'
  obtain ⟨c0, c2, c3, c4⟩ := B1.out.cells4
  have f0 := B1.out.frozen 0
  have f1 := B1.out.frozen 1
  have f2 := B1.out.frozen 2
  have f3 := B1.out.frozen 3
  go_wp2_with fail
  obtain ⟨r1, r2, r3⟩ := ret_four B1.out (.int .i64 p.W) (.int .i64 p.H) (.slice A1 p.V.length c1) (.int .i64 m)
  refine bodyPost_ret (results_cell_row rfl _ _ (w.heap.size + 1) 35 _ (0, 0) _ rfl r1 Try.underlying35 rfl (by kernel_rfl)) rfl ?_
  exact ⟨_, rfl, r2 _ _ _ HO.out, r3 _ _ HB.out (by omega)⟩

end Go.Proofs.Ytfknikgfilfcmaa
