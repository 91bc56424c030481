/- Planes: made, sized, padded, cropped, turned. -/
import Derived.Test.YtfknikgfilfcmaaPl5
namespace Go.Proofs.Ytfknikgfilfcmaa
open Go.RowKit Go.Shelf
set_option linter.unusedVariables false
set_option linter.unusedSimpArgs false

def madeP (w h : Int) (f : Int → Int → Int) : Pl := if sideB w = true ∧ sideB h = true then ⟨w, h, madeL w.toNat h.toNat f (w.toNat * h.toNat)⟩ else Pl.none_

set_option maxRecDepth 100000 in
set_option maxHeartbeats 6400000 in
theorem pmade_no (F : Nat) (caps : Array Value) (x y : Int) (w : World) (h : ¬ (sideB x = true ∧ sideB y = true)) :
    Calls Try.prog 42 #[.int .i64 x, .int .i64 y, .func (.func F) #[] caps] w fun e w' => e = .returned (plV 0 0 (.slice none 0 0)) ∧ Below w.heap.size w w' := by
  have Hno := Lib.hid h
  clear h
  have e0 := (((Below.refl w.heap.size w).alloc (Nat.le_refl _) (.cells #[.int .i64 x] 3)).alloc (by simp) (.cells #[.func (.func F) #[] caps] 30)).alloc (by simp; omega) (.cells #[.int .i64 0, .int .i64 0, .slice none 0 0] 24)
  have e3 := Blk.new ((w.alloc (.cells #[.int .i64 x] 3)).alloc (.cells #[.func (.func F) #[] caps] 30)) 24 #[.int .i64 0, .int .i64 0, .slice none 0 0]
  have hz0 : (((w.alloc (.cells #[.int .i64 x] 3)).alloc (.cells #[.func (.func F) #[] caps] 30)).alloc (.cells #[.int .i64 0, .int .i64 0, .slice none 0 0] 24)).heap.size = w.heap.size + 1 + 1 + 1 := by simp only [World.size_alloc]
  simp only [World.size_alloc] at e3
  have E0 := Lib.hid e0
  have E3 := Lib.hid e3
  have HZ := Lib.hid hz0
  clear e0 e3 hz0
  refine calls_marks Try.func42 rfl ?_
  simp only [Try.ntmps42, List.size_toArray, List.length_cons, List.length_nil, Nat.reduceAdd, Nat.reduceSub, Array.replicate_succ, Array.replicate_zero, List.push_toArray, List.append_toArray, List.nil_append, List.cons_append]
  go_wp2_with fail
  refine (pnew_no x y _ Hno.out).mono ?_
  generalize ((w.alloc (.cells #[.int .i64 x] 3)).alloc (.cells #[.func (.func F) #[] caps] 30)).alloc (.cells #[.int .i64 0, .int .i64 0, .slice none 0 0] 24) = w0 at *
  rintro e w1 ⟨rfl, hb1⟩
  have hz := HZ.out
  have hz1 := hb1.size
  have D3 := Lib.hid (E3.out.below hb1 (by omega))
  have DB := Lib.hid (E0.out.trans (hb1.mono (by omega)))
  clear E0 E3 hb1
  go_wp2_with fail
  refine (ppoints_c 0 0 _ _).mono ?_
  rintro e w2 ⟨rfl, rfl⟩
  have ⟨f1, f2⟩ := two_new w1 (.cells #[.int .i64 0, .int .i64 0, .slice none 0 0] 24) (.cells #[.int .i64 0, .int .i64 0, .slice none 0 0] 24)
  have L3 := Lib.hid ((D3.out.alloc (.cells #[.int .i64 0, .int .i64 0, .slice none 0 0] 24)).alloc (.cells #[.int .i64 0, .int .i64 0, .slice none 0 0] 24))
  have L5 := Lib.hid (show Blk _ _ 24 _ from f1)
  have L6 := Lib.hid (show Blk _ _ 24 _ from f2)
  have LB := Lib.hid ((DB.out.alloc DB.out.size (.cells #[.int .i64 0, .int .i64 0, .slice none 0 0] 24)).alloc (by have := DB.out.size; simp; omega) (.cells #[.int .i64 0, .int .i64 0, .slice none 0 0] 24))
  have LZ := Lib.hid (show ((w1.alloc (.cells #[.int .i64 0, .int .i64 0, .slice none 0 0] 24)).alloc (.cells #[.int .i64 0, .int .i64 0, .slice none 0 0] 24)).heap.size = w1.heap.size + 1 + 1 by simp only [World.size_alloc])
  clear f1 f2 D3 DB
  go_wp2_with fail
  generalize (w1.alloc (.cells #[.int .i64 0, .int .i64 0, .slice none 0 0] 24)).alloc (.cells #[.int .i64 0, .int .i64 0, .slice none 0 0] 24) = wl at *
  have hlz := LZ.out
  refine wp_range (N := 0) rfl (enters_of Try.func47 (by kernel_rfl) rfl) (ppoints_no 0 0 none 0 0 _ (fun _ args _ => args.size = 2) wl (by omega) (by decide +kernel) L6.out) (Below.refl _ _) (fun k hk => by omega)
    (fun k args W h => h)
    (fun k W => Blk W (w.heap.size + 1 + 1) 24 #[.int .i64 0, .int .i64 0, .slice none 0 0] ∧ Blk W w1.heap.size 24 #[.int .i64 0, .int .i64 0, .slice none 0 0] ∧ Below w.heap.size w W)
    (fun _ _ => False) (fun _ _ _ _ => False)
    ?hI ?hIx ?hM ?h0 ?hassign ?hbody ?hdone ?hstop
  case hI =>
    rintro k A B ⟨i3, i5, i6⟩ q
    exact ⟨i3.qt q, i5.qt q, below_qt i6 (Nat.le_refl _) (by have := LB.out.size; omega) q⟩
  case hIx => exact fun _ _ _ h _ => h
  case hM => exact fun _ _ _ _ _ h _ => h
  case h0 => exact ⟨L3.out, L5.out, LB.out⟩
  case hassign => exact fun _ _ _ _ _ h => absurd h (by omega)
  case hbody => exact fun _ _ _ _ _ _ h => absurd h (by omega)
  case hdone =>
    rintro D W hD ⟨i3, i5, i6⟩ hK
    obtain ⟨⟨c0, c1, c2⟩, _⟩ := i5.three
    obtain ⟨⟨g0, g1, g2⟩, k0, k1, k2⟩ := i3.three
    have I3 := Lib.hid i3
    have I6 := Lib.hid i6
    have HD := Lib.hid hK
    clear i3 i5 i6 hK
    go_wp2_with fail
    obtain ⟨r1, r2, r3⟩ := ret_plane I3.out (.int .i64 0) (.int .i64 0) (.slice none 0 0)
    refine leave_mark (def_setCell (def_setCell (def_setCell HD.out _ _) _ _) _ _) (fun w' q => ⟨_, results_cell_row rfl _ _ (w.heap.size + 1 + 1) 24 _ (0, 0) _ rfl (r1.qt q) Try.underlying24 rfl (by kernel_rfl), ?_⟩)
    exact ⟨rfl, below_qt (r3 _ _ I6.out (by omega)) (Nat.le_refl _) (by have := LB.out.size; omega) q⟩
  case hstop => exact fun _ _ _ _ h _ => h.elim

theorem pmade_c (F : Nat) (pb : Value) (f : Int → Int → Int) (x y : Int) (w : World)
    (hcf : ∀ (args : Array Value) (W : World), (callFunc F args).run Try.prog W = .ok (.enter F args) W) (hF : Tells F pb f w) :
    Calls Try.prog 42 #[.int .i64 x, .int .i64 y, .func (.func F) #[] #[pb]] w (PlRes (madeP x y f) w) := by
  by_cases h : sideB x = true ∧ sideB y = true
  · have h1 := sideB_t h.1
    have h2 := sideB_t h.2
    obtain ⟨a, rfl⟩ := Int.eq_ofNat_of_zero_le (a := x) (by omega)
    obtain ⟨b, rfl⟩ := Int.eq_ofNat_of_zero_le (a := y) (by omega)
    refine (pmade_yes F pb f a b w (by omega) (by omega) (by omega) (by omega) hcf hF).mono ?_
    rintro e w' ⟨g, rfl, hg, hr, hb⟩
    unfold madeP
    rw [if_pos h]
    simp only [Int.toNat_natCast]
    have hlen : (madeL a b f (a * b)).length = a * b := fillL_length _ _ _
    have ho := RowI.own hr hg (by rw [hlen]; have := area_bd (W := a) (H := b) (by omega) (by omega) (by omega) (by omega); unfold maxLen; have : ((a * b : Nat) : Int) = (a : Int) * (b : Int) := Int.natCast_mul a b; omega)
    rw [hlen] at ho
    exact ⟨_, rfl, ho, hb⟩
  · refine (pmade_no F #[pb] x y w h).mono ?_
    rintro e w' ⟨rfl, hb⟩
    unfold madeP
    rw [if_neg h]
    exact ⟨_, rfl, OwnI.nil _ _, hb⟩

theorem psized1_c (W H : Int) (V : List Int) (A : Option Addr) (c b : Nat) (x y : Int) (w : World) (hR : ReadsI w A V) (hn : V.length ≤ 9223372036854775807) (hb : Blk w b 24 #[.int .i64 W, .int .i64 H, .slice A V.length c]) :
    Calls Try.prog 43 #[.int .i64 x, .int .i64 y, .pointer (some ⟨b, 0, none⟩)] w fun e w' => e = .returned (.int .i64 (atP W H V x y)) ∧ Below w.heap.size w w' := by
  obtain ⟨⟨c0, c1, c2⟩, _⟩ := hb.three
  clear hb
  have HR := Lib.hid hR
  clear hR
  go_enter Try.func43, Try.ntmps43
  go_wp2_with fail
  refine (pat_c W H V A c x y w HR.out hn).mono ?_
  rintro e w1 ⟨rfl, hb1⟩
  have HB := Lib.hid hb1
  clear hb1
  go_wp2_with fail
  go_ret
  exact ⟨rfl, HB.out⟩
theorem cf_sized : ∀ (args : Array Value) (W : World), (callFunc 43 args).run Try.prog W = .ok (.enter 43 args) W := fun _ _ => by kernel_rfl

/-- A plane of other sides, by the nearest places. -/
def sizedP (W H : Int) (V : List Int) (w h : Int) : Pl := madeP w h (fun x y => atP W H V x y)
set_option maxRecDepth 100000 in
set_option maxHeartbeats 1600000 in
theorem psized_c (W H : Int) (V : List Int) (A : Option Addr) (c : Nat) (x y : Int) (w : World) (hR : ReadsI w A V) (hn : V.length ≤ 9223372036854775807) :
    Calls Try.prog 36 #[plV W H (.slice A V.length c), .int .i64 x, .int .i64 y] w (PlRes (sizedP W H V x y) w) := by
  have e0 := ((Below.refl w.heap.size w).alloc (Nat.le_refl _) (.cells #[.int .i64 W, .int .i64 H, .slice A V.length c] 24)).alloc (by simp) (.cells #[.int .i64 0, .int .i64 0, .slice none 0 0] 24)
  have ⟨e1, e3⟩ := two_new w (.cells #[.int .i64 W, .int .i64 H, .slice A V.length c] 24) (.cells #[.int .i64 0, .int .i64 0, .slice none 0 0] 24)
  have hz0 : ((w.alloc (.cells #[.int .i64 W, .int .i64 H, .slice A V.length c] 24)).alloc (.cells #[.int .i64 0, .int .i64 0, .slice none 0 0] 24)).heap.size = w.heap.size + 1 + 1 := by simp only [World.size_alloc]
  have E0 := Lib.hid e0
  have E1 := Lib.hid (show Blk _ _ 24 _ from e1)
  have E3 := Lib.hid (show Blk _ _ 24 _ from e3)
  have HZ := Lib.hid hz0
  have HR := Lib.hid hR
  clear e0 e1 e3 hz0 hR
  go_enter Try.func36, Try.ntmps36
  go_wp2_with fail
  generalize (w.alloc (.cells #[.int .i64 W, .int .i64 H, .slice A V.length c] 24)).alloc (.cells #[.int .i64 0, .int .i64 0, .slice none 0 0] 24) = w0 at *
  have hz := HZ.out
  refine (pmade_c 43 _ (fun x y => atP W H V x y) x y w0 cf_sized (fun W1 x y hb => psized1_c W H V A c _ x y W1 ((HR.out.kept E0.out).kept hb) hn (E1.out.below hb (by omega)))).mono ?_
  rintro e w1 ⟨v, rfl, ho, hb1⟩
  have P3 := E3.out.below hb1 (by omega)
  have HB := Lib.hid (E0.out.trans (hb1.mono (by omega)))
  have HO := Lib.hid (ho.lower (B' := w.heap.size) (by omega))
  obtain ⟨⟨g0, g1, g2⟩, f0, f1, f2⟩ := P3.three
  have HP := Lib.hid P3
  clear hb1 P3 E0 E1 E3 hz HZ
  obtain ⟨A1, c1, rfl, _⟩ := ho.slice
  clear ho
  go_wp2_with fail
  obtain ⟨r1, r2, r3⟩ := ret_plane HP.out (.int .i64 (madeP x y (fun x y => atP W H V x y)).W) (.int .i64 (madeP x y (fun x y => atP W H V x y)).H) (.slice A1 (madeP x y (fun x y => atP W H V x y)).V.length c1)
  refine bodyPost_ret (results_cell_row rfl _ _ (w.heap.size + 1) 24 _ (0, 0) _ rfl r1 Try.underlying24 rfl (by kernel_rfl)) rfl ?_
  exact ⟨_, rfl, r2 _ _ _ HO.out, r3 _ _ HB.out (by omega)⟩

set_option maxRecDepth 100000 in
set_option maxHeartbeats 1600000 in
theorem ppad_n0 (W H : Int) (V : List Int) (A : Option Addr) (c : Nat) (x y : Int) (w : World) (hR : ReadsI w A V) (hn : V.length ≤ 9223372036854775807) (hok : okB W H V.length = false) :
    Calls Try.prog 23 #[plV W H (.slice A V.length c), .int .i64 x, .int .i64 y] w fun e w' => e = .returned (plV 0 0 (.slice none 0 0)) ∧ Below w.heap.size w w' := by
  have e0 := ((Below.refl w.heap.size w).alloc (Nat.le_refl _) (.cells #[.int .i64 W, .int .i64 H, .slice A V.length c] 24)).alloc (by simp) (.cells #[.int .i64 0, .int .i64 0, .slice none 0 0] 24)
  have ⟨e1, e3⟩ := two_new w (.cells #[.int .i64 W, .int .i64 H, .slice A V.length c] 24) (.cells #[.int .i64 0, .int .i64 0, .slice none 0 0] 24)
  have hz0 : ((w.alloc (.cells #[.int .i64 W, .int .i64 H, .slice A V.length c] 24)).alloc (.cells #[.int .i64 0, .int .i64 0, .slice none 0 0] 24)).heap.size = w.heap.size + 1 + 1 := by simp only [World.size_alloc]
  have E0 := Lib.hid e0
  have E1 := Lib.hid (show Blk _ _ 24 _ from e1)
  have E3 := Lib.hid (show Blk _ _ 24 _ from e3)
  have HZ := Lib.hid hz0
  have HR := Lib.hid hR
  have Hok := Lib.hid hok
  clear e0 e1 e3 hz0 hR hok
  go_enter Try.func23, Try.ntmps23
  go_wp2_with fail
  generalize (w.alloc (.cells #[.int .i64 W, .int .i64 H, .slice A V.length c] 24)).alloc (.cells #[.int .i64 0, .int .i64 0, .slice none 0 0] 24) = w0 at *
  have hz := HZ.out
  refine (pright_c W H A V.length c w0 hn).mono ?_
  rintro e w1 ⟨rfl, hb1⟩
  rw [Hok.out]
  have hs1 := hb1.size
  have P1 := Lib.hid (E1.out.below hb1 (by omega))
  have P3 := E3.out.below hb1 (by omega)
  have PB := Lib.hid (E0.out.trans (hb1.mono (by omega)))
  obtain ⟨⟨g0, g1, g2⟩, f0, f1, f2⟩ := P3.three
  have HP := Lib.hid P3
  obtain ⟨⟨c0, c1, c2⟩, _⟩ := P1.out.three
  clear hb1 P3 E0 E1 E3 HZ
  go_wp2_with fail
  obtain ⟨r1, r2, r3⟩ := ret_plane HP.out (.int .i64 0) (.int .i64 0) (.slice none 0 0)
  refine bodyPost_ret (results_cell_row rfl _ _ (w.heap.size + 1) 24 _ (0, 0) _ rfl r1 Try.underlying24 rfl (by kernel_rfl)) rfl ?_
  exact ⟨rfl, r3 _ _ PB.out (by omega)⟩

set_option maxRecDepth 100000 in
set_option maxHeartbeats 1600000 in
theorem ppad_n1 (W H : Int) (V : List Int) (A : Option Addr) (c : Nat) (x y : Int) (w : World) (hR : ReadsI w A V) (hn : V.length ≤ 9223372036854775807) (hok : okB W H V.length = true) (h1 : x < W) :
    Calls Try.prog 23 #[plV W H (.slice A V.length c), .int .i64 x, .int .i64 y] w fun e w' => e = .returned (plV 0 0 (.slice none 0 0)) ∧ Below w.heap.size w w' := by
  have e0 := ((Below.refl w.heap.size w).alloc (Nat.le_refl _) (.cells #[.int .i64 W, .int .i64 H, .slice A V.length c] 24)).alloc (by simp) (.cells #[.int .i64 0, .int .i64 0, .slice none 0 0] 24)
  have ⟨e1, e3⟩ := two_new w (.cells #[.int .i64 W, .int .i64 H, .slice A V.length c] 24) (.cells #[.int .i64 0, .int .i64 0, .slice none 0 0] 24)
  have hz0 : ((w.alloc (.cells #[.int .i64 W, .int .i64 H, .slice A V.length c] 24)).alloc (.cells #[.int .i64 0, .int .i64 0, .slice none 0 0] 24)).heap.size = w.heap.size + 1 + 1 := by simp only [World.size_alloc]
  have E0 := Lib.hid e0
  have E1 := Lib.hid (show Blk _ _ 24 _ from e1)
  have E3 := Lib.hid (show Blk _ _ 24 _ from e3)
  have HZ := Lib.hid hz0
  have HR := Lib.hid hR
  have Hok := Lib.hid hok
  clear e0 e1 e3 hz0 hR hok
  go_enter Try.func23, Try.ntmps23
  go_wp2_with fail
  generalize (w.alloc (.cells #[.int .i64 W, .int .i64 H, .slice A V.length c] 24)).alloc (.cells #[.int .i64 0, .int .i64 0, .slice none 0 0] 24) = w0 at *
  have hz := HZ.out
  refine (pright_c W H A V.length c w0 hn).mono ?_
  rintro e w1 ⟨rfl, hb1⟩
  rw [Hok.out]
  have hs1 := hb1.size
  have P1 := Lib.hid (E1.out.below hb1 (by omega))
  have P3 := E3.out.below hb1 (by omega)
  have PB := Lib.hid (E0.out.trans (hb1.mono (by omega)))
  obtain ⟨⟨g0, g1, g2⟩, f0, f1, f2⟩ := P3.three
  have HP := Lib.hid P3
  obtain ⟨⟨c0, c1, c2⟩, _⟩ := P1.out.three
  clear hb1 P3 E0 E1 E3 HZ
  go_wp2_with fail
  obtain ⟨r1, r2, r3⟩ := ret_plane HP.out (.int .i64 0) (.int .i64 0) (.slice none 0 0)
  refine bodyPost_ret (results_cell_row rfl _ _ (w.heap.size + 1) 24 _ (0, 0) _ rfl r1 Try.underlying24 rfl (by kernel_rfl)) rfl ?_
  exact ⟨rfl, r3 _ _ PB.out (by omega)⟩

set_option maxRecDepth 100000 in
set_option maxHeartbeats 1600000 in
theorem ppad_n2 (W H : Int) (V : List Int) (A : Option Addr) (c : Nat) (x y : Int) (w : World) (hR : ReadsI w A V) (hn : V.length ≤ 9223372036854775807) (hok : okB W H V.length = true) (h1 : ¬ x < W) (h2 : y < H) :
    Calls Try.prog 23 #[plV W H (.slice A V.length c), .int .i64 x, .int .i64 y] w fun e w' => e = .returned (plV 0 0 (.slice none 0 0)) ∧ Below w.heap.size w w' := by
  have e0 := ((Below.refl w.heap.size w).alloc (Nat.le_refl _) (.cells #[.int .i64 W, .int .i64 H, .slice A V.length c] 24)).alloc (by simp) (.cells #[.int .i64 0, .int .i64 0, .slice none 0 0] 24)
  have ⟨e1, e3⟩ := two_new w (.cells #[.int .i64 W, .int .i64 H, .slice A V.length c] 24) (.cells #[.int .i64 0, .int .i64 0, .slice none 0 0] 24)
  have hz0 : ((w.alloc (.cells #[.int .i64 W, .int .i64 H, .slice A V.length c] 24)).alloc (.cells #[.int .i64 0, .int .i64 0, .slice none 0 0] 24)).heap.size = w.heap.size + 1 + 1 := by simp only [World.size_alloc]
  have E0 := Lib.hid e0
  have E1 := Lib.hid (show Blk _ _ 24 _ from e1)
  have E3 := Lib.hid (show Blk _ _ 24 _ from e3)
  have HZ := Lib.hid hz0
  have HR := Lib.hid hR
  have Hok := Lib.hid hok
  clear e0 e1 e3 hz0 hR hok
  go_enter Try.func23, Try.ntmps23
  go_wp2_with fail
  generalize (w.alloc (.cells #[.int .i64 W, .int .i64 H, .slice A V.length c] 24)).alloc (.cells #[.int .i64 0, .int .i64 0, .slice none 0 0] 24) = w0 at *
  have hz := HZ.out
  refine (pright_c W H A V.length c w0 hn).mono ?_
  rintro e w1 ⟨rfl, hb1⟩
  rw [Hok.out]
  have hs1 := hb1.size
  have P1 := Lib.hid (E1.out.below hb1 (by omega))
  have P3 := E3.out.below hb1 (by omega)
  have PB := Lib.hid (E0.out.trans (hb1.mono (by omega)))
  obtain ⟨⟨g0, g1, g2⟩, f0, f1, f2⟩ := P3.three
  have HP := Lib.hid P3
  obtain ⟨⟨c0, c1, c2⟩, _⟩ := P1.out.three
  clear hb1 P3 E0 E1 E3 HZ
  go_wp2_with fail
  obtain ⟨r1, r2, r3⟩ := ret_plane HP.out (.int .i64 0) (.int .i64 0) (.slice none 0 0)
  refine bodyPost_ret (results_cell_row rfl _ _ (w.heap.size + 1) 24 _ (0, 0) _ rfl r1 Try.underlying24 rfl (by kernel_rfl)) rfl ?_
  exact ⟨rfl, r3 _ _ PB.out (by omega)⟩

set_option maxRecDepth 100000 in
set_option maxHeartbeats 1600000 in
theorem ppad_y (W H : Int) (V : List Int) (A : Option Addr) (c : Nat) (x y : Int) (w : World) (hR : ReadsI w A V) (hn : V.length ≤ 9223372036854775807) (hok : okB W H V.length = true) (h1 : ¬ x < W) (h2 : ¬ y < H) :
    Calls Try.prog 23 #[plV W H (.slice A V.length c), .int .i64 x, .int .i64 y] w (PlRes (sizedP W H V x y) w) := by
  have e0 := ((Below.refl w.heap.size w).alloc (Nat.le_refl _) (.cells #[.int .i64 W, .int .i64 H, .slice A V.length c] 24)).alloc (by simp) (.cells #[.int .i64 0, .int .i64 0, .slice none 0 0] 24)
  have ⟨e1, e3⟩ := two_new w (.cells #[.int .i64 W, .int .i64 H, .slice A V.length c] 24) (.cells #[.int .i64 0, .int .i64 0, .slice none 0 0] 24)
  have hz0 : ((w.alloc (.cells #[.int .i64 W, .int .i64 H, .slice A V.length c] 24)).alloc (.cells #[.int .i64 0, .int .i64 0, .slice none 0 0] 24)).heap.size = w.heap.size + 1 + 1 := by simp only [World.size_alloc]
  have E0 := Lib.hid e0
  have E1 := Lib.hid (show Blk _ _ 24 _ from e1)
  have E3 := Lib.hid (show Blk _ _ 24 _ from e3)
  have HZ := Lib.hid hz0
  have HR := Lib.hid hR
  have Hok := Lib.hid hok
  clear e0 e1 e3 hz0 hR hok
  go_enter Try.func23, Try.ntmps23
  go_wp2_with fail
  generalize (w.alloc (.cells #[.int .i64 W, .int .i64 H, .slice A V.length c] 24)).alloc (.cells #[.int .i64 0, .int .i64 0, .slice none 0 0] 24) = w0 at *
  have hz := HZ.out
  refine (pright_c W H A V.length c w0 hn).mono ?_
  rintro e w1 ⟨rfl, hb1⟩
  rw [Hok.out]
  have hs1 := hb1.size
  have P1 := Lib.hid (E1.out.below hb1 (by omega))
  have P3 := E3.out.below hb1 (by omega)
  have PB := Lib.hid (E0.out.trans (hb1.mono (by omega)))
  obtain ⟨⟨g0, g1, g2⟩, f0, f1, f2⟩ := P3.three
  have HP := Lib.hid P3
  obtain ⟨⟨c0, c1, c2⟩, _⟩ := P1.out.three
  clear hb1 P3 E0 E1 E3 HZ
  go_wp2_with fail
  refine (psized_c W H V A c x y w1 (HR.out.kept PB.out) hn).mono ?_
  rintro e w2 ⟨v, rfl, ho, hb2⟩
  have Q3 := HP.out.below hb2 (by omega)
  have HB := Lib.hid (PB.out.trans (hb2.mono (by omega)))
  have HO := Lib.hid (ho.lower (B' := w.heap.size) (by omega))
  clear g0 g1 g2 f0 f1 f2 c0 c1 c2
  obtain ⟨⟨g0, g1, g2⟩, f0, f1, f2⟩ := Q3.three
  have HP2 := Lib.hid Q3
  clear Q3 hb2 P1 PB
  obtain ⟨A1, c1, rfl, _⟩ := ho.slice
  clear ho
  go_wp2_with fail
  obtain ⟨r1, r2, r3⟩ := ret_plane HP2.out (.int .i64 (sizedP W H V x y).W) (.int .i64 (sizedP W H V x y).H) (.slice A1 (sizedP W H V x y).V.length c1)
  refine bodyPost_ret (results_cell_row rfl _ _ (w.heap.size + 1) 24 _ (0, 0) _ rfl r1 Try.underlying24 rfl (by kernel_rfl)) rfl ?_
  exact ⟨_, rfl, r2 _ _ _ HO.out, r3 _ _ HB.out (by omega)⟩

def padP (W H : Int) (V : List Int) (x y : Int) : Pl := if okB W H V.length = true ∧ ¬ x < W ∧ ¬ y < H then sizedP W H V x y else Pl.none_
theorem ppad_c (W H : Int) (V : List Int) (A : Option Addr) (c : Nat) (x y : Int) (w : World) (hR : ReadsI w A V) (hn : V.length ≤ 9223372036854775807) : Calls Try.prog 23 #[plV W H (.slice A V.length c), .int .i64 x, .int .i64 y] w (PlRes (padP W H V x y) w) := by
  have no : ∀ e w', e = .returned (plV 0 0 (.slice none 0 0)) ∧ Below w.heap.size w w' → ¬ (okB W H V.length = true ∧ ¬ x < W ∧ ¬ y < H) → PlRes (padP W H V x y) w e w' := by
    rintro e w' ⟨rfl, hb⟩ h
    unfold padP
    rw [if_neg h]
    exact ⟨_, rfl, OwnI.nil _ _, hb⟩
  cases hok : okB W H V.length with
  | false => exact (ppad_n0 W H V A c x y w hR hn hok).mono fun e w' h => no e w' h (by rw [hok]; simp)
  | true =>
    by_cases h1 : x < W
    · exact (ppad_n1 W H V A c x y w hR hn hok h1).mono fun e w' h => no e w' h (fun h => h.2.1 h1)
    · by_cases h2 : y < H
      · exact (ppad_n2 W H V A c x y w hR hn hok h1 h2).mono fun e w' h => no e w' h (fun h => h.2.2 h2)
      · unfold padP
        rw [if_pos ⟨hok, h1, h2⟩]
        exact ppad_y W H V A c x y w hR hn hok h1 h2





def cropP (W H : Int) (V : List Int) (x y : Int) : Pl := if okB W H V.length = true ∧ ¬ W < x ∧ ¬ H < y then sizedP W H V x y else Pl.none_




end Go.Proofs.Ytfknikgfilfcmaa
