/- What the reference's taps of layer 8 answers. -/
import Derived.Test.YtceecaohfnamnaaRef8
namespace Go.Proofs.Ytceecaohfnamnaa
open Go.RowKit
set_option linter.unusedVariables false
set_option linter.unusedSimpArgs false

/-- The taps of a filter's step: where, how much; what is added; what it is divided by. -/
def tapsL (f : Int) (odd : Bool) : List (Int × Int) :=
  if odd then (if f = 0 ∨ f = 2 then [(-3, -1), (-1, 9), (1, 9), (3, -1)] else if f = 1 then [(-1, 1), (1, 1)] else [(-1, 1)])
  else (if f = 0 ∨ f = 1 then [(-1, 1), (1, 1)] else if f = 2 then [(-3, -1), (-1, 9), (1, 9), (3, -1)] else [(1, 1)])
def tapsA (f : Int) (odd : Bool) : Int := if odd then (if f = 0 ∨ f = 2 then 8 else if f = 1 then 1 else 0) else (if f = 0 ∨ f = 1 then 2 else if f = 2 then 16 else 1)
def tapsO (f : Int) (odd : Bool) : Int := if odd then (if f = 0 ∨ f = 2 then 16 else if f = 1 then 2 else 1) else (if f = 0 ∨ f = 1 then 4 else if f = 2 then 32 else 2)
def tapCells (L : List (Int × Int)) : Array Value := (L.flatMap fun p => [Value.int .i64 p.1, Value.int .i64 p.2]).toArray

theorem Blk.newAt (w : World) (t : TypeId) (cs : Array Value) {g : Nat} (h : g = w.heap.size) : Blk (w.alloc (.cells cs t)) g t cs := by subst h; exact Blk.new w t cs
/-- What taps answers. -/
def TapsPost (f : Int) (odd : Bool) (w : World) (e : Ending) (w' : World) : Prop := ∃ g, e = .returned (.tuple #[.slice (some ⟨g, 0, none⟩) (tapsL f odd).length (tapsL f odd).length, .int .i64 (tapsA f odd), .int .i64 (tapsO f odd)]) ∧
      Blk w' g 47 (tapCells (tapsL f odd)) ∧ w.heap.size ≤ g ∧ Below w.heap.size w w'
theorem tapsPost {f : Int} {odd : Bool} {w w' : World} {e : Ending} (L : List (Int × Int)) (a o : Int) (g : Nat) (hL : tapsL f odd = L) (ha : tapsA f odd = a) (ho : tapsO f odd = o) (he : e = .returned (.tuple #[.slice (some ⟨g, 0, none⟩) L.length L.length, .int .i64 a, .int .i64 o]))
    (hb : Blk w' g 47 (tapCells L)) (hg : w.heap.size ≤ g) (hw : Below w.heap.size w w') : TapsPost f odd w e w' := by
  unfold TapsPost
  rw [hL, ha, ho]
  exact ⟨g, he, hb, hg, hw⟩
theorem rtaps_0_true (w : World) : Calls Try.prog 32 #[.int .i64 0, .bool true] w (TapsPost 0 true w) := by
  go_enter Try.func32, Try.ntmps32
  go_wp2
  go_ret3
  exact tapsPost [(-3, -1), (-1, 9), (1, 9), (3, -1)] 8 16 _ (by decide) (by decide) (by decide) rfl (by first | exact Blk.newAt _ _ _ (by simp) | exact (Blk.newAt _ _ _ (by simp)).alloc _) (by first | exact Nat.le_refl _ | (simp; done) | (simp; omega)) (((Below.refl _ _).alloc (Nat.le_refl _) _).alloc (by simp) _)
theorem rtaps_0_false (w : World) : Calls Try.prog 32 #[.int .i64 0, .bool false] w (TapsPost 0 false w) := by
  go_enter Try.func32, Try.ntmps32
  go_wp2
  go_ret3
  exact tapsPost [(-1, 1), (1, 1)] 2 4 _ (by decide) (by decide) (by decide) rfl (by first | exact Blk.newAt _ _ _ (by simp) | exact (Blk.newAt _ _ _ (by simp)).alloc _) (by first | exact Nat.le_refl _ | (simp; done) | (simp; omega)) (((Below.refl _ _).alloc (Nat.le_refl _) _).alloc (by simp) _)
theorem rtaps_1_true (w : World) : Calls Try.prog 32 #[.int .i64 1, .bool true] w (TapsPost 1 true w) := by
  go_enter Try.func32, Try.ntmps32
  go_wp2
  go_ret3
  exact tapsPost [(-1, 1), (1, 1)] 1 2 _ (by decide) (by decide) (by decide) rfl (by first | exact Blk.newAt _ _ _ (by simp) | exact (Blk.newAt _ _ _ (by simp)).alloc _) (by first | exact Nat.le_refl _ | (simp; done) | (simp; omega)) (((Below.refl _ _).alloc (Nat.le_refl _) _).alloc (by simp) _)
theorem rtaps_1_false (w : World) : Calls Try.prog 32 #[.int .i64 1, .bool false] w (TapsPost 1 false w) := by
  go_enter Try.func32, Try.ntmps32
  go_wp2
  go_ret3
  exact tapsPost [(-1, 1), (1, 1)] 2 4 _ (by decide) (by decide) (by decide) rfl (by first | exact Blk.newAt _ _ _ (by simp) | exact (Blk.newAt _ _ _ (by simp)).alloc _) (by first | exact Nat.le_refl _ | (simp; done) | (simp; omega)) (((Below.refl _ _).alloc (Nat.le_refl _) _).alloc (by simp) _)
theorem rtaps_2_true (w : World) : Calls Try.prog 32 #[.int .i64 2, .bool true] w (TapsPost 2 true w) := by
  go_enter Try.func32, Try.ntmps32
  go_wp2
  go_ret3
  exact tapsPost [(-3, -1), (-1, 9), (1, 9), (3, -1)] 8 16 _ (by decide) (by decide) (by decide) rfl (by first | exact Blk.newAt _ _ _ (by simp) | exact (Blk.newAt _ _ _ (by simp)).alloc _) (by first | exact Nat.le_refl _ | (simp; done) | (simp; omega)) (((Below.refl _ _).alloc (Nat.le_refl _) _).alloc (by simp) _)
theorem rtaps_2_false (w : World) : Calls Try.prog 32 #[.int .i64 2, .bool false] w (TapsPost 2 false w) := by
  go_enter Try.func32, Try.ntmps32
  go_wp2
  go_ret3
  exact tapsPost [(-3, -1), (-1, 9), (1, 9), (3, -1)] 16 32 _ (by decide) (by decide) (by decide) rfl (by first | exact Blk.newAt _ _ _ (by simp) | exact (Blk.newAt _ _ _ (by simp)).alloc _) (by first | exact Nat.le_refl _ | (simp; done) | (simp; omega)) (((Below.refl _ _).alloc (Nat.le_refl _) _).alloc (by simp) _)
theorem rtaps_n_true (f : Int) (w : World) (h0 : f ≠ 0) (h1 : f ≠ 1) (h2 : f ≠ 2) : Calls Try.prog 32 #[.int .i64 f, .bool true] w (TapsPost f true w) := by
  have hL : tapsL f true = [(-1, 1)] := by simp [tapsL, h0, h1, h2]
  have hA : tapsA f true = 0 := by simp [tapsA, h0, h1, h2]
  have hO : tapsO f true = 1 := by simp [tapsO, h0, h1, h2]
  have HL := Lib.hid hL
  have HA := Lib.hid hA
  have HO := Lib.hid hO
  have b0 : (f == 0) = false := beq_eq_false_iff_ne.2 h0
  have b1 : (f == 1) = false := beq_eq_false_iff_ne.2 h1
  have b2 : (f == 2) = false := beq_eq_false_iff_ne.2 h2
  clear h0 h1 h2 hL hA hO
  go_enter Try.func32, Try.ntmps32
  go_wp2
  go_ret3
  exact tapsPost [(-1, 1)] 0 1 _ HL.out HA.out HO.out rfl (by refine Blk.newAt _ _ _ ?_; first | rfl | (simp; done) | omega) (by omega) ((((Below.refl _ _).alloc (Nat.le_refl _) _).alloc (by simp) _).alloc (by first | (simp; omega) | (simp; done) | omega) _)
theorem rtaps_n_false (f : Int) (w : World) (h0 : f ≠ 0) (h1 : f ≠ 1) (h2 : f ≠ 2) : Calls Try.prog 32 #[.int .i64 f, .bool false] w (TapsPost f false w) := by
  have hL : tapsL f false = [(1, 1)] := by simp [tapsL, h0, h1, h2]
  have hA : tapsA f false = 1 := by simp [tapsA, h0, h1, h2]
  have hO : tapsO f false = 2 := by simp [tapsO, h0, h1, h2]
  have HL := Lib.hid hL
  have HA := Lib.hid hA
  have HO := Lib.hid hO
  have b0 : (f == 0) = false := beq_eq_false_iff_ne.2 h0
  have b1 : (f == 1) = false := beq_eq_false_iff_ne.2 h1
  have b2 : (f == 2) = false := beq_eq_false_iff_ne.2 h2
  clear h0 h1 h2 hL hA hO
  go_enter Try.func32, Try.ntmps32
  go_wp2
  go_ret3
  exact tapsPost [(1, 1)] 1 2 _ HL.out HA.out HO.out rfl (by refine Blk.newAt _ _ _ ?_; first | rfl | (simp; done) | omega) (by omega) ((((Below.refl _ _).alloc (Nat.le_refl _) _).alloc (by simp) _).alloc (by first | (simp; omega) | (simp; done) | omega) _)
theorem rtaps_c (f : Int) (odd : Bool) (w : World) : Calls Try.prog 32 #[.int .i64 f, .bool odd] w (TapsPost f odd w) := by
  rcases (by omega : f = 0 ∨ f = 1 ∨ f = 2 ∨ (f ≠ 0 ∧ f ≠ 1 ∧ f ≠ 2)) with rfl | rfl | rfl | ⟨h0, h1, h2⟩
  · cases odd
    · exact rtaps_0_false w
    · exact rtaps_0_true w
  · cases odd
    · exact rtaps_1_false w
    · exact rtaps_1_true w
  · cases odd
    · exact rtaps_2_false w
    · exact rtaps_2_true w
  · cases odd
    · exact rtaps_n_false f w h0 h1 h2
    · exact rtaps_n_true f w h0 h1 h2

end Go.Proofs.Ytceecaohfnamnaa
