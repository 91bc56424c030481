/- Planes: added, subtracted, clipped, compared. -/
import Derived.Test.YtfknikgfilfcmaaPl3
namespace Go.Proofs.Ytfknikgfilfcmaa
open Go.RowKit
set_option linter.unusedVariables false
set_option linter.unusedSimpArgs false

/-- A call ends with the plane p in a list of its own. -/
def PlRes (p : Pl) (w : World) (e : Ending) (w' : World) : Prop := ∃ v, e = .returned (plV p.W p.H v) ∧ OwnI w' w.heap.size v p.V ∧ Below w.heap.size w w'
theorem PlRes.of_below {p : Pl} {w w1 : World} {e : Ending} {w' : World} (h : PlRes p w1 e w') (hb : Below w.heap.size w w1) : PlRes p w e w' := by
  obtain ⟨v, rfl, ho, hb'⟩ := h
  exact ⟨v, rfl, ho.lower hb.size, hb.trans (hb'.mono hb.size)⟩
section
variable {w : World} {b : Nat} {t : TypeId} {x y z : Value}
theorem Blk.three (h : Blk w b t #[x, y, z]) : (w.cell? ⟨b, 0, none⟩ = some x ∧ w.cell? ⟨b, 1, none⟩ = some y ∧ w.cell? ⟨b, 2, none⟩ = some z) ∧ (w.frozen? ⟨b, 0, none⟩ = false ∧ w.frozen? ⟨b, 1, none⟩ = false ∧ w.frozen? ⟨b, 2, none⟩ = false) :=
  ⟨⟨h.cell 0, h.cell 1, h.cell 2⟩, ⟨h.frozen 0, h.frozen 1, h.frozen 2⟩⟩
/-- A plane stored into a variable. -/
theorem ret_plane (h : Blk w b 24 #[x, y, z]) (x' y' z' : Value) :
    Blk (((w.setCell ⟨b, 0, none⟩ x').setCell ⟨b, 1, none⟩ y').setCell ⟨b, 2, none⟩ z') b 24 #[x', y', z'] ∧
    (∀ B v xs, OwnI w B v xs → OwnI (((w.setCell ⟨b, 0, none⟩ x').setCell ⟨b, 1, none⟩ y').setCell ⟨b, 2, none⟩ z') B v xs) ∧
    (∀ B a, Below B a w → B ≤ b → Below B a (((w.setCell ⟨b, 0, none⟩ x').setCell ⟨b, 1, none⟩ y').setCell ⟨b, 2, none⟩ z')) := by
  have h1 := h.set_ 0 x'
  have h2 := h1.set_ 1 y'
  have h3 := h2.set_ 2 z'
  refine ⟨h3, fun B v xs ho => ?_, fun B a hb hB => ((hb.setCell hB _).setCell hB _).setCell hB _⟩
  have o1 : OwnI (w.setCell ⟨b, 0, none⟩ x') B v xs := OwnI.grown ho (only_setCell (World.grownBy.refl w (some b)) (.inl rfl) _) (.inr (own_blk_ne ho h (by decide)))
  have o2 : OwnI ((w.setCell ⟨b, 0, none⟩ x').setCell ⟨b, 1, none⟩ y') B v xs := OwnI.grown o1 (only_setCell (World.grownBy.refl _ (some b)) (.inl rfl) _) (.inr (own_blk_ne o1 h1 (by decide)))
  exact OwnI.grown o2 (only_setCell (World.grownBy.refl _ (some b)) (.inl rfl) _) (.inr (own_blk_ne o2 h2 (by decide)))
end
theorem bothB_t {W H W' H' : Int} {n n' : Nat} (h : bothB W H n W' H' n' = true) : ∃ a b : Nat, W = a ∧ H = b ∧ W' = a ∧ H' = b ∧ 1 ≤ a ∧ a ≤ 1024 ∧ 1 ≤ b ∧ b ≤ 1024 ∧ n = a * b ∧ n' = a * b := by
  simp only [bothB, Bool.and_eq_true, beq_iff_eq] at h
  obtain ⟨⟨⟨h1, h2⟩, rfl⟩, rfl⟩ := h
  obtain ⟨a, b, rfl, rfl, k1, k2, k3, k4, k5⟩ := okB_nat h1
  obtain ⟨a', b', e1, e2, _, _, _, _, k6⟩ := okB_nat h2
  have : a' = a := by omega
  subst this
  have : b' = b := by omega
  subst this
  exact ⟨_, _, rfl, rfl, rfl, rfl, k1, k2, k3, k4, k5, k6⟩
/-- Two planes joined, number by number. -/
def joinP (f : Int → Int → Int) (W H : Int) (V : List Int) (W' H' : Int) (V' : List Int) : Pl :=
  if bothB W H V.length W' H' V'.length = true then ⟨W, H, fillL V.length (fun k => f (rdn V k) (rdn V' k)) V.length⟩ else Pl.none_
theorem joinP_length (f : Int → Int → Int) (W H : Int) (V : List Int) (W' H' : Int) (V' : List Int) : (joinP f W H V W' H' V').V.length ≤ V.length := by
  unfold joinP
  split
  · simp [fillL_length]
  · simp [Pl.none_]
theorem pjoined_c0 (F : Nat) (f : Int → Int → Int) (W H : Int) (V : List Int) (W' H' : Int) (V' : List Int) (A A' : Option Addr) (c c' : Nat) (w : World) (hR : ReadsI w A V) (hR' : ReadsI w A' V') (hn : V.length ≤ 9223372036854775807) (hn' : V'.length ≤ 9223372036854775807)
    (hcf : ∀ (args : Array Value) (W : World), (callFunc F args).run Try.prog W = .ok (.enter F args) W)
    (hF : ∀ W x y, Below w.heap.size w W → Calls Try.prog F #[.int .i64 x, .int .i64 y] W fun e w' => e = .returned (.int .i64 (f x y)) ∧ W = w') :
    Calls Try.prog 31 #[plV W H (.slice A V.length c), plV W' H' (.slice A' V'.length c'), .func (.func F) #[] #[]] w (PlRes (joinP f W H V W' H' V') w) := by
  cases h : bothB W H V.length W' H' V'.length with
  | false =>
    refine (pjoined_no F #[] W H _ W' H' _ A A' c c' w hn hn' h).mono ?_
    rintro e w' ⟨rfl, hb⟩
    unfold joinP
    rw [h]
    exact ⟨_, rfl, OwnI.nil _ _, hb⟩
  | true =>
    have h0 := h
    obtain ⟨a, b, rfl, rfl, rfl, rfl, h1, h2, h3, h4, h5, h6⟩ := bothB_t h
    refine (pjoined_yes0 F f a b V V' A A' c c' w hR hR' h1 h2 h3 h4 h5 h6 hcf hF).mono ?_
    rintro e w' ⟨g, rfl, hg, hr, hb⟩
    unfold joinP
    rw [if_pos h0]
    have ho := RowI.own hr hg (by rw [fillL_length]; have := area_bd (W := a) (H := b) (by omega) (by omega) (by omega) (by omega); unfold maxLen; have : ((a * b : Nat) : Int) = (a : Int) * (b : Int) := Int.natCast_mul a b; omega)
    rw [fillL_length, ← h5] at ho
    exact ⟨_, by rw [← h5], ho, hb⟩
theorem pjoined_c2 (F : Nat) (f : Int → Int → Int) (p1 p2 : Value) (W H : Int) (V : List Int) (W' H' : Int) (V' : List Int) (A A' : Option Addr) (c c' : Nat) (w : World) (hR : ReadsI w A V) (hR' : ReadsI w A' V') (hn : V.length ≤ 9223372036854775807) (hn' : V'.length ≤ 9223372036854775807)
    (hcf : ∀ (args : Array Value) (W : World), (callFunc F args).run Try.prog W = .ok (.enter F args) W)
    (hF : ∀ W x y, Below w.heap.size w W → Calls Try.prog F #[.int .i64 x, .int .i64 y, p1, p2] W fun e w' => e = .returned (.int .i64 (f x y)) ∧ W = w') :
    Calls Try.prog 31 #[plV W H (.slice A V.length c), plV W' H' (.slice A' V'.length c'), .func (.func F) #[] #[p1, p2]] w (PlRes (joinP f W H V W' H' V') w) := by
  cases h : bothB W H V.length W' H' V'.length with
  | false =>
    refine (pjoined_no F #[p1, p2] W H _ W' H' _ A A' c c' w hn hn' h).mono ?_
    rintro e w' ⟨rfl, hb⟩
    unfold joinP
    rw [h]
    exact ⟨_, rfl, OwnI.nil _ _, hb⟩
  | true =>
    have h0 := h
    obtain ⟨a, b, rfl, rfl, rfl, rfl, h1, h2, h3, h4, h5, h6⟩ := bothB_t h
    refine (pjoined_yes2 F f p1 p2 a b V V' A A' c c' w hR hR' h1 h2 h3 h4 h5 h6 hcf hF).mono ?_
    rintro e w' ⟨g, rfl, hg, hr, hb⟩
    unfold joinP
    rw [if_pos h0]
    have ho := RowI.own hr hg (by rw [fillL_length]; have := area_bd (W := a) (H := b) (by omega) (by omega) (by omega) (by omega); unfold maxLen; have : ((a * b : Nat) : Int) = (a : Int) * (b : Int) := Int.natCast_mul a b; omega)
    rw [fillL_length, ← h5] at ho
    exact ⟨_, by rw [← h5], ho, hb⟩

theorem cf_clip : ∀ (args : Array Value) (W : World), (callFunc 32 args).run Try.prog W = .ok (.enter 32 args) W := fun _ _ => by kernel_rfl
theorem pclip1_c (x y l m : Int) (b1 b2 : Nat) (w : World) (h1 : w.cell? ⟨b1, 0, none⟩ = some (.int .i64 l)) (h2 : w.cell? ⟨b2, 0, none⟩ = some (.int .i64 m)) :
    Calls Try.prog 32 #[.int .i64 x, .int .i64 y, .pointer (some ⟨b1, 0, none⟩), .pointer (some ⟨b2, 0, none⟩)] w fun e w' => e = .returned (.int .i64 (min (max x l) m)) ∧ w = w' := by
  go_enter Try.func32, Try.ntmps32
  go_wp2_with fail
  all_goals
    go_ret
    exact ⟨ret_int (by omega), rfl⟩

set_option maxRecDepth 100000 in
set_option maxHeartbeats 1600000 in
theorem pclip_c (W H : Int) (V : List Int) (A : Option Addr) (c : Nat) (l m : Int) (w : World) (hR : ReadsI w A V) (hn : V.length ≤ 9223372036854775807) :
    Calls Try.prog 20 #[plV W H (.slice A V.length c), .int .i64 l, .int .i64 m] w (PlRes (joinP (fun x _ => min (max x l) m) W H V W H V) w) := by
  have e0 := ((((Below.refl w.heap.size w).alloc (Nat.le_refl _) (.cells #[.int .i64 W, .int .i64 H, .slice A V.length c] 24)).alloc (by simp) (.cells #[.int .i64 l] 3)).alloc (by simp; omega) (.cells #[.int .i64 m] 3)).alloc (by simp; omega) (.cells #[.int .i64 0, .int .i64 0, .slice none 0 0] 24)
  have ⟨e1, e2⟩ := two_new (w.alloc (.cells #[.int .i64 W, .int .i64 H, .slice A V.length c] 24)) (.cells #[.int .i64 l] 3) (.cells #[.int .i64 m] 3)
  have e1 := (Blk.alloc (t := 3) e1 (.cells #[.int .i64 0, .int .i64 0, .slice none 0 0] 24))
  have e2 := (Blk.alloc (t := 3) e2 (.cells #[.int .i64 0, .int .i64 0, .slice none 0 0] 24))
  have e3 := Blk.new (((w.alloc (.cells #[.int .i64 W, .int .i64 H, .slice A V.length c] 24)).alloc (.cells #[.int .i64 l] 3)).alloc (.cells #[.int .i64 m] 3)) 24 #[.int .i64 0, .int .i64 0, .slice none 0 0]
  have hz0 : ((((w.alloc (.cells #[.int .i64 W, .int .i64 H, .slice A V.length c] 24)).alloc (.cells #[.int .i64 l] 3)).alloc (.cells #[.int .i64 m] 3)).alloc (.cells #[.int .i64 0, .int .i64 0, .slice none 0 0] 24)).heap.size = w.heap.size + 1 + 1 + 1 + 1 := by simp only [World.size_alloc]
  simp only [World.size_alloc] at e1 e2 e3
  have E0 := Lib.hid e0
  have E1 := Lib.hid e1
  have E2 := Lib.hid e2
  have E3 := Lib.hid e3
  have HZ := Lib.hid hz0
  clear e0 e1 e2 e3 hz0
  go_enter Try.func20, Try.ntmps20
  go_wp2_with fail
  generalize (((w.alloc (.cells #[.int .i64 W, .int .i64 H, .slice A V.length c] 24)).alloc (.cells #[.int .i64 l] 3)).alloc (.cells #[.int .i64 m] 3)).alloc (.cells #[.int .i64 0, .int .i64 0, .slice none 0 0] 24) = w0 at *
  have hz := HZ.out
  refine (pjoined_c2 32 (fun x _ => min (max x l) m) _ _ W H V W H V A A c c w0 (hR.kept E0.out) (hR.kept E0.out) hn hn cf_clip
    (fun W1 x y hb => pclip1_c x y l m _ _ W1 ((hb.cell (by simp; omega)).trans (E1.out.cell 0)) ((hb.cell (by simp; omega)).trans (E2.out.cell 0)))).mono ?_
  rintro e w1 ⟨v, rfl, ho, hb1⟩
  have P3 := E3.out.below hb1 (by omega)
  have HB := Lib.hid (E0.out.trans (hb1.mono (by omega)))
  have HO := Lib.hid (ho.lower (B' := w.heap.size) (by omega))
  obtain ⟨⟨g0, g1, g2⟩, f0, f1, f2⟩ := P3.three
  have HP := Lib.hid P3
  clear hb1 P3 E0 E1 E2 E3 hz HZ
  obtain ⟨A1, c1, rfl, _⟩ := ho.slice
  clear ho
  go_wp2_with fail
  obtain ⟨r1, r2, r3⟩ := ret_plane HP.out (.int .i64 (joinP (fun x _ => min (max x l) m) W H V W H V).W) (.int .i64 (joinP (fun x _ => min (max x l) m) W H V W H V).H) (.slice A1 (joinP (fun x _ => min (max x l) m) W H V W H V).V.length c1)
  refine bodyPost_ret (results_cell_row rfl _ _ (w.heap.size + 1 + 1 + 1) 24 _ (0, 0) _ rfl r1 Try.underlying24 rfl (by kernel_rfl)) rfl ?_
  exact ⟨_, rfl, r2 _ _ _ HO.out, r3 _ _ HB.out (by omega)⟩


def sameB (W H : Int) (V : List Int) (W' H' : Int) (V' : List Int) : Bool := bothB W H V.length W' H' V'.length && decide (V = V')

end Go.Proofs.Ytfknikgfilfcmaa
