/- What copied and steps of package lift do. -/
import Derived.Test.YtceecaohfnamnaaLift
import Derived.Test.YtceecaohfnamnaaApp
import Derived.Deep.RegionHeld3
import Derived.StillTailTactics
namespace Go.Proofs.Ytceecaohfnamnaa
open Go.RowKit
set_option linter.unusedVariables false
set_option linter.unusedSimpArgs false

theorem lcopied_yes (A : Option Addr) (c : Nat) (xs : List Int) (f : Int) (w : World) (hR : ReadsI w A xs) (hm : xs.length ≤ 100000000) (h1 : rightF f = true) (h2 : rightL xs.length = true) :
    Calls Try.prog 18 #[.int .i64 f, .slice A xs.length c] w fun e w' => ∃ v, e = .returned v ∧ OwnI w' w.heap.size v xs ∧ Below w.heap.size w w' := by
  obtain ⟨i0, hi, hz0, hz1, hz2⟩ := info_parts info_int
  have hone : ∀ u ∈ xs.map (Value.int .i64), u.oneCell' = true := by
    intro u hu
    obtain ⟨x, _, rfl⟩ := List.mem_map.1 hu
    rfl
  have H1 := Lib.hid h1
  have H2 := Lib.hid h2
  clear h1 h2
  go_enter Try.func18, Try.ntmps18
  go_wp2_with fail
  refine (lright_c _ _).mono ?_
  rintro e w1 ⟨rfl, rfl⟩
  rw [H1.out]
  go_wp2_with fail
  refine (lline_c _ _ _ _ (by omega)).mono ?_
  rintro e w1 ⟨rfl, rfl⟩
  rw [H2.out]
  go_wp2_with (
    at_builtin
    refine wpList_append_two rfl (.const (.slice none 0 0)) (.tmp 13) _ _ rfl w.heap.size 3 3 i0 (.int .i64 0) 1 8 Try.underlying35 Try.underlying23 hi hz0 hz1 hz2 rfl (by omega) (.slice none 0 0) 0 [] rfl
      (World.ownsRow_nil _ _ _ _) w.heap.size A xs.length c _ rfl hR hone (by simp only [maxLen]; omega) (by omega) (Nat.le_refl _) ?_
    intro v1 w1 hown1 hg1 hat1
    have hb1 : Below w.heap.size w w1 := (Below.refl _ _).grown hg1 (Nat.le_refl _) (by simp [Value.ownBlock]))
  go_ret
  exact ⟨_, rfl, by unfold OwnI; simpa using hown1, hb1⟩
theorem lcopied_no (A : Option Addr) (c : Nat) (n : Nat) (f : Int) (w : World) (hm : n ≤ 9223372036854775807) (h : ¬ (rightF f = true ∧ rightL n = true)) :
    Calls Try.prog 18 #[.int .i64 f, .slice A n c] w fun e w' => e = .returned (.slice none 0 0) ∧ w = w' := by
  cases h1 : rightF f with
  | false =>
    have H1 := Lib.hid h1
    clear h1 h
    go_enter Try.func18, Try.ntmps18
    go_wp2_with fail
    refine (lright_c _ _).mono ?_
    rintro e w1 ⟨rfl, rfl⟩
    rw [H1.out]
    go_wp2_with fail
    go_ret
    exact ⟨rfl, rfl⟩
  | true =>
    have h2 : rightL n = false := by
      cases h2 : rightL n
      · rfl
      · exact absurd ⟨h1, h2⟩ h
    have H1 := Lib.hid h1
    have H2 := Lib.hid h2
    clear h1 h2 h
    go_enter Try.func18, Try.ntmps18
    go_wp2_with fail
    refine (lright_c _ _).mono ?_
    rintro e w1 ⟨rfl, rfl⟩
    rw [H1.out]
    go_wp2_with fail
    refine (lline_c _ _ _ _ hm).mono ?_
    rintro e w1 ⟨rfl, rfl⟩
    rw [H2.out]
    go_wp2_with fail
    go_ret
    exact ⟨rfl, rfl⟩

/-- A line after k steps at the places first, first + 2, ..: each has had sign times what its step adds. -/
def stepsZ (first : Nat) (sign : Int) (S : List Int → Int → Int) (xs : List Int) (k : Nat) : List Int :=
  tab xs.length fun j => if j % 2 = first ∧ j < first + 2 * k then wrap64 (rdn xs j + wrap64 (sign * S xs j)) else rdn xs j
/-- A step that reads places of the other kind alone. -/
def Apart (S : List Int → Int → Int) (xs : List Int) (first : Nat) : Prop := ∀ ys : List Int, ys.length = xs.length → (∀ j, j < xs.length → j % 2 ≠ first → rdn ys j = rdn xs j) → ∀ i : Nat, i < xs.length → i % 2 = first → S ys i = S xs i
theorem stepsZ_zero (first : Nat) (sign : Int) (S : List Int → Int → Int) (xs : List Int) : stepsZ first sign S xs 0 = xs := by
  conv => rhs; rw [← tab_rdn xs]
  refine tab_congr fun a _ => if_neg (by omega)
theorem stepsZ_step (first : Nat) (hf : first < 2) (sign : Int) (S : List Int → Int → Int) (xs : List Int) (k : Nat) (hk : first + 2 * k < xs.length) (hS : Apart S xs first) :
    S (stepsZ first sign S xs k) ((first + 2 * k : Nat) : Int) = S xs ((first + 2 * k : Nat) : Int) ∧ rdn (stepsZ first sign S xs k) (first + 2 * k) = rdn xs (first + 2 * k) ∧
      (stepsZ first sign S xs k).set (first + 2 * k) (wrap64 (rdn xs (first + 2 * k) + wrap64 (sign * S xs ((first + 2 * k : Nat) : Int)))) = stepsZ first sign S xs (k + 1) := by
  refine ⟨hS _ (tab_length _ _) (fun j hj hp => ?_) _ hk (by omega), ?_, ?_⟩
  · rw [rdn_tab _ _ hj, if_neg (by omega)]
  · unfold stepsZ
    rw [rdn_tab _ _ hk, if_neg (by omega)]
  · conv => lhs; unfold stepsZ
    rw [tab_set]
    unfold stepsZ
    refine tab_congr fun x hx => ?_
    by_cases e : x = first + 2 * k
    · subst e
      rw [if_pos rfl, if_pos (by omega)]
    · rw [if_neg e]
      by_cases h : x % 2 = first ∧ x < first + 2 * k
      · rw [if_pos h, if_pos (by omega)]
      · rw [if_neg h, if_neg (by omega)]

set_option maxHeartbeats 1600000 in
theorem lsteps_c (F : Nat) (g c B : Nat) (b5 b2 : Nat) (v5 v2 : Value) (xs : List Int) (first : Nat) (sign : Int) (S : List Int → Int → Int) (w : World)
    (hown : OwnI w B (.slice (some ⟨g, 0, none⟩) xs.length c) xs) (h5 : w.cell? ⟨b5, 0, none⟩ = some v5) (h2 : w.cell? ⟨b2, 0, none⟩ = some v2) (n5 : b5 ≠ g) (n2 : b2 ≠ g)
    (hf : first < 2) (hm : xs.length ≤ 100000000) (hS : Apart S xs first)
    (hcf : ∀ (args : Array Value) (W : World), (callFunc F args).run Try.prog W = .ok (.enter F args) W)
    (hF : ∀ W ys (i : Nat), ys.length = xs.length → i < xs.length → W.cell? ⟨b5, 0, none⟩ = some v5 → W.cell? ⟨b2, 0, none⟩ = some v2 → OwnI W B (.slice (some ⟨g, 0, none⟩) xs.length c) ys →
      Calls Try.prog F #[.int .i64 i, .pointer (some ⟨b5, 0, none⟩), .pointer (some ⟨b2, 0, none⟩)] W fun e w' => e = .returned (.int .i64 (S ys i)) ∧ W = w') :
    Calls Try.prog 19 #[.slice (some ⟨g, 0, none⟩) xs.length c, .int .i64 first, .int .i64 sign, .func (.func F) #[] #[.pointer (some ⟨b5, 0, none⟩), .pointer (some ⟨b2, 0, none⟩)]] w fun e w' => e = .returned (.tuple #[]) ∧
      OwnI w' B (.slice (some ⟨g, 0, none⟩) xs.length c) (stepsZ first sign S xs ((xs.length + 1 - first) / 2)) ∧ w.grownBy w' (some g) := by
  have HF := Lib.hid hF
  have Ho := Lib.hid hown
  have H5 := Lib.hid h5
  have H2 := Lib.hid h2
  have HS := Lib.hid hS
  clear hF hown h5 h2 hS
  go_enter Try.func19, Try.ntmps19
  go_wp2_with fail
  have e0 : Hid (OwnI w B (.slice (some ⟨g, 0, none⟩) xs.length c) (stepsZ first sign S xs 0)) := by rw [stepsZ_zero]; exact Ho
  go_loopw [8] (fun v wr => ∃ k : Nat, first + 2 * k ≤ xs.length + 1 ∧ v = .int .i64 ((first + 2 * k : Nat) : Int) ∧ OwnI wr B (.slice (some ⟨g, 0, none⟩) xs.length c) (stepsZ first sign S xs k) ∧ w.grownBy wr (some g)) (fun v _ => xs.length + 2 - (intOf v).toNat)
  case atStart => exact ⟨0, by omega, by simp, e0.out, World.grownBy.refl _ _⟩
  case round =>
    clear e0
    obtain ⟨k, hk, rfl, ho, hg⟩ := hrel
    have h5 : wr.cell? ⟨b5, 0, none⟩ = some v5 := (World.cell?_of_block (hg.block b5 (World.block_lt_of_cell? w _ H5.out) (by simp; exact n5))).trans H5.out
    have h2 : wr.cell? ⟨b2, 0, none⟩ = some v2 := (World.cell?_of_block (hg.block b2 (World.block_lt_of_cell? w _ H2.out) (by simp; exact n2))).trans H2.out
    by_cases hlt : first + 2 * k < xs.length
    · have ⟨st1, st2, st3⟩ := stepsZ_step first hf sign S xs k hlt HS.out
      have hl : (stepsZ first sign S xs k).length = xs.length := tab_length _ _
      have Hc := Lib.hid (HF.out wr.drew _ _ hl hlt h5 h2 ho.drew)
      rw [st1] at Hc
      have hc := ho.cellr (i := first + 2 * k) (by rw [hl]; exact hlt)
      have hfz := ho.frozenr (first + 2 * k)
      rw [st2] at hc
      have Ho1 := Lib.hid ho
      have Hg := Lib.hid hg
      have St3 := Lib.hid st3
      clear ho hg st1 st2 st3 hl h5 h2
      have x1 : (0 : Int) ≤ ((first + 2 * k : Nat) : Int) := by omega
      have x2 : ((first + 2 * k : Nat) : Int) < (xs.length : Int) := by omega
      generalize hj : first + 2 * k = j at *
      have Hj := Lib.hid hj
      clear hj
      generalize rdn xs j = y at *
      generalize S xs (j : Int) = z at *
      go_wp2_with fail
      have Hq : Calls Try.prog F #[.int .i64 (j : Int), .pointer (some ⟨b5, 0, none⟩), .pointer (some ⟨b2, 0, none⟩)] wr.drew fun e w'' => e = .returned (.int .i64 z) ∧ w'' = wr.drew := Hc.out.mono fun e w' ⟨h1, h2⟩ => ⟨h1, h2.symm⟩
      have Hq := Lib.hid Hq
      go_still_tail 11, (by kernel_rfl)
      still_call Hq.out
      repeat still_step
      refine wpStill_nil ?_
      change wpList _ _ _ _ _ wr.drew
      go_wp2_with fail
      go_roundw
      case rel =>
        have hw : ∀ n : Int, IntKind.i64.wrap n = wrap64 n := fun n => by rw [IntKind.wrap_i64, wrap64_def]
        have hp := (Ho1.out.put j (wrap64 (y + wrap64 (sign * z)))).drew
        rw [St3.out] at hp
        refine ⟨k + 1, by have := Hj.out; omega, ?_, ?_, ?_⟩
        · have := Hj.out
          go_num
        · simpa [hw] using hp
        · exact only_drew (only_setCell Hg.out (.inl rfl) _)
      case measure => simp [intOf]; omega
    · have hk2 : k = (xs.length + 1 - first) / 2 := by omega
      have Hk2 := Lib.hid hk2
      clear hk2
      have Ho1 := Lib.hid ho
      have Hg := Lib.hid hg
      clear ho hg h5 h2
      go_wp2_with fail
      go_end0
      rw [← Hk2.out]
      exact ⟨rfl, Ho1.out, Hg.out⟩

theorem lsteps_nil (F : Nat) (caps : Array Value) (first sign : Int) (w : World) (h0 : 0 ≤ first) :
    Calls Try.prog 19 #[.slice none 0 0, .int .i64 first, .int .i64 sign, .func (.func F) #[] caps] w fun e w' => e = .returned (.tuple #[]) ∧ w = w' := by
  go_enter Try.func19, Try.ntmps19
  go_wp2_with fail
  go_loop [8] (fun v => v = .int .i64 first) (fun v => 0)
  case atStart => rfl
  case round =>
    obtain rfl := hrel
    go_wp2_with fail
    go_end0
    exact ⟨rfl, rfl⟩

end Go.Proofs.Ytceecaohfnamnaa
