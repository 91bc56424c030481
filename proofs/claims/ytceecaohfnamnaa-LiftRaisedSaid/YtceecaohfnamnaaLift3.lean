/- What Forward and Inverse of package lift answer. -/
import Derived.Test.YtceecaohfnamnaaLift2
namespace Go.Proofs.Ytceecaohfnamnaa
open Go.RowKit
set_option linter.unusedVariables false
set_option linter.unusedSimpArgs false

theorem atZ_kind {xs ys : List Int} {p : Nat} (hl : ys.length = xs.length) (hn : 2 ≤ xs.length) (he : xs.length % 2 = 0) (h : ∀ j, j < xs.length → j % 2 = p → rdn ys j = rdn xs j) {j : Int} (hj : j % 2 = (p : Int)) : atZ ys j = atZ xs j := by
  unfold atZ
  rw [hl]
  split
  · exact h _ (by omega) (by omega)
  · split
    · exact h _ (by omega) (by omega)
    · exact h _ (by omega) (by omega)
theorem step_apart (f : Int) (odd : Bool) (xs : List Int) (hn : 2 ≤ xs.length) (he : xs.length % 2 = 0) : Apart (stepZ f odd) xs (if odd then 1 else 0) := by
  intro ys hl h i hi hp
  have key : ∀ d : Int, d % 2 = 1 → atZ ys ((i : Int) + d) = atZ xs ((i : Int) + d) := by
    intro d hd
    refine atZ_kind (p := if odd then 0 else 1) hl hn he (fun j hj hj2 => h j hj ?_) ?_
    · cases odd <;> simp_all
    · cases odd <;> simp at hp ⊢ <;> omega
  have k1 : atZ ys ((i : Int) - 1) = atZ xs ((i : Int) - 1) := by rw [Int.sub_eq_add_neg]; exact key (-1) (by omega)
  have k2 := key 1 (by omega)
  have k3 : atZ ys ((i : Int) - 3) = atZ xs ((i : Int) - 3) := by rw [Int.sub_eq_add_neg]; exact key (-3) (by omega)
  have k4 := key 3 (by omega)
  unfold stepZ fourZ twoZ
  rw [k1, k2, k3, k4]

/-- All the places of a kind, at once. -/
def allZ (first : Nat) (sign : Int) (S : List Int → Int → Int) (xs : List Int) : List Int :=
  tab xs.length fun j => if j % 2 = first then wrap64 (rdn xs j + wrap64 (sign * S xs j)) else rdn xs j
theorem allZ_length (first : Nat) (sign : Int) (S : List Int → Int → Int) (xs : List Int) : (allZ first sign S xs).length = xs.length := tab_length _ _
theorem stepsZ_all (first : Nat) (hf : first < 2) (sign : Int) (S : List Int → Int → Int) (xs : List Int) : stepsZ first sign S xs ((xs.length + 1 - first) / 2) = allZ first sign S xs := by
  unfold stepsZ allZ
  refine tab_congr fun j hj => ?_
  by_cases h : j % 2 = first
  · rw [if_pos ⟨h, by omega⟩, if_pos h]
  · rw [if_neg (fun h2 => h h2.1), if_neg h]
def fwdZ (f : Int) (xs : List Int) : List Int := if rightF f = true ∧ rightL xs.length = true then allZ 0 1 (stepZ f false) (allZ 1 (-1) (stepZ f true) xs) else []
def invZ (f : Int) (xs : List Int) : List Int := if rightF f = true ∧ rightL xs.length = true then allZ 1 1 (stepZ f true) (allZ 0 (-1) (stepZ f false) xs) else []

theorem cf20 : ∀ (args : Array Value) (W : World), (callFunc 20 args).run Try.prog W = .ok (.enter 20 args) W := fun _ _ => by kernel_rfl
theorem cf22 : ∀ (args : Array Value) (W : World), (callFunc 22 args).run Try.prog W = .ok (.enter 22 args) W := fun _ _ => by kernel_rfl
theorem cf26 : ∀ (args : Array Value) (W : World), (callFunc 26 args).run Try.prog W = .ok (.enter 26 args) W := fun _ _ => by kernel_rfl
theorem cf27 : ∀ (args : Array Value) (W : World), (callFunc 27 args).run Try.prog W = .ok (.enter 27 args) W := fun _ _ => by kernel_rfl

theorem lclo20_c (g c B b5 b2 n : Nat) (f : Int) (W : World) (ys : List Int) (i : Nat) (hl : ys.length = n) (hi : i < n) (h5 : W.cell? ⟨b5, 0, none⟩ = some (.slice (some ⟨g, 0, none⟩) n c)) (h2 : W.cell? ⟨b2, 0, none⟩ = some (.int .i64 f))
    (ho : OwnI W B (.slice (some ⟨g, 0, none⟩) n c) ys) (hn : 2 ≤ n) (hm : n ≤ 10000) :
    Calls Try.prog 20 #[.int .i64 i, .pointer (some ⟨b5, 0, none⟩), .pointer (some ⟨b2, 0, none⟩)] W fun e w' => e = .returned (.int .i64 (stepZ f true ys i)) ∧ W = w' := by
  subst hl
  obtain ⟨A, c', hv, hR⟩ := ho.slice
  injection hv with hA hn' hc'
  subst hA hc'
  go_enter Try.func20, Try.ntmps20
  go_wp2_with fail
  refine (lodd_c _ _ _ _ _ _ hR hn (by omega) (by omega) (by omega)).mono ?_
  rintro e w1 ⟨rfl, rfl⟩
  go_wp2_with fail
  go_ret
  exact ⟨rfl, rfl⟩

theorem lclo22_c (g c B b5 b2 n : Nat) (f : Int) (W : World) (ys : List Int) (i : Nat) (hl : ys.length = n) (hi : i < n) (h5 : W.cell? ⟨b5, 0, none⟩ = some (.slice (some ⟨g, 0, none⟩) n c)) (h2 : W.cell? ⟨b2, 0, none⟩ = some (.int .i64 f))
    (ho : OwnI W B (.slice (some ⟨g, 0, none⟩) n c) ys) (hn : 2 ≤ n) (hm : n ≤ 10000) :
    Calls Try.prog 22 #[.int .i64 i, .pointer (some ⟨b5, 0, none⟩), .pointer (some ⟨b2, 0, none⟩)] W fun e w' => e = .returned (.int .i64 (stepZ f false ys i)) ∧ W = w' := by
  subst hl
  obtain ⟨A, c', hv, hR⟩ := ho.slice
  injection hv with hA hn' hc'
  subst hA hc'
  go_enter Try.func22, Try.ntmps22
  go_wp2_with fail
  refine (leven_c _ _ _ _ _ _ hR hn (by omega) (by omega) (by omega)).mono ?_
  rintro e w1 ⟨rfl, rfl⟩
  go_wp2_with fail
  go_ret
  exact ⟨rfl, rfl⟩

theorem lclo26_c (g c B b5 b2 n : Nat) (f : Int) (W : World) (ys : List Int) (i : Nat) (hl : ys.length = n) (hi : i < n) (h5 : W.cell? ⟨b5, 0, none⟩ = some (.slice (some ⟨g, 0, none⟩) n c)) (h2 : W.cell? ⟨b2, 0, none⟩ = some (.int .i64 f))
    (ho : OwnI W B (.slice (some ⟨g, 0, none⟩) n c) ys) (hn : 2 ≤ n) (hm : n ≤ 10000) :
    Calls Try.prog 26 #[.int .i64 i, .pointer (some ⟨b5, 0, none⟩), .pointer (some ⟨b2, 0, none⟩)] W fun e w' => e = .returned (.int .i64 (stepZ f false ys i)) ∧ W = w' := by
  subst hl
  obtain ⟨A, c', hv, hR⟩ := ho.slice
  injection hv with hA hn' hc'
  subst hA hc'
  go_enter Try.func26, Try.ntmps26
  go_wp2_with fail
  refine (leven_c _ _ _ _ _ _ hR hn (by omega) (by omega) (by omega)).mono ?_
  rintro e w1 ⟨rfl, rfl⟩
  go_wp2_with fail
  go_ret
  exact ⟨rfl, rfl⟩

theorem lclo27_c (g c B b5 b2 n : Nat) (f : Int) (W : World) (ys : List Int) (i : Nat) (hl : ys.length = n) (hi : i < n) (h5 : W.cell? ⟨b5, 0, none⟩ = some (.slice (some ⟨g, 0, none⟩) n c)) (h2 : W.cell? ⟨b2, 0, none⟩ = some (.int .i64 f))
    (ho : OwnI W B (.slice (some ⟨g, 0, none⟩) n c) ys) (hn : 2 ≤ n) (hm : n ≤ 10000) :
    Calls Try.prog 27 #[.int .i64 i, .pointer (some ⟨b5, 0, none⟩), .pointer (some ⟨b2, 0, none⟩)] W fun e w' => e = .returned (.int .i64 (stepZ f true ys i)) ∧ W = w' := by
  subst hl
  obtain ⟨A, c', hv, hR⟩ := ho.slice
  injection hv with hA hn' hc'
  subst hA hc'
  go_enter Try.func27, Try.ntmps27
  go_wp2_with fail
  refine (lodd_c _ _ _ _ _ _ hR hn (by omega) (by omega) (by omega)).mono ?_
  rintro e w1 ⟨rfl, rfl⟩
  go_wp2_with fail
  go_ret
  exact ⟨rfl, rfl⟩

set_option maxHeartbeats 1600000 in
theorem lfwd_c (A : Option Addr) (c : Nat) (xs : List Int) (f : Int) (w : World) (hR : ReadsI w A xs) (hm : xs.length ≤ 10000) :
    Calls Try.prog 9 #[.int .i64 f, .slice A xs.length c] w fun e w' => ∃ v, e = .returned v ∧ OwnI w' w.heap.size v (fwdZ f xs) ∧ Below w.heap.size w w' := by
  by_cases h : rightF f = true ∧ rightL xs.length = true
  · have Hspec : Hid (fwdZ f xs = allZ 0 1 (stepZ f false) (allZ 1 (-1) (stepZ f true) xs)) := Lib.hid (if_pos h)
    obtain ⟨h1, h2⟩ := h
    have ⟨hn, he⟩ : 2 ≤ xs.length ∧ xs.length % 2 = 0 := of_decide_eq_true h2
    have H1 := Lib.hid h1
    have H2 := Lib.hid h2
    have HR := Lib.hid (hR.kept ((Below.refl _ _).alloc (Nat.le_refl _) (.cells #[.int .i64 f] 22)))
    have He := Lib.hid he
    clear h1 h2 hR he
    go_enter Try.func9, Try.ntmps9
    go_wp2_with fail
    refine (lcopied_yes _ _ _ _ _ HR.out (by omega) H1.out H2.out).mono ?_
    rintro e w1 ⟨v, rfl, hown, hb⟩
    obtain ⟨g, c1, rfl, hg, hlt, _, _⟩ := hown.form (by omega)
    have hp2 : w1.cell? ⟨w.heap.size, 0, none⟩ = some (.int .i64 f) := (hb.cell (p := ⟨w.heap.size, 0, none⟩) (by simp)).trans (by simp)
    have hz : w.heap.size < w1.heap.size := by have := hb.size; simp at this; omega
    have hg2 : w.heap.size < g := by simp at hg; omega
    have Hb : Hid (Below w.heap.size w w1) := Lib.hid (((Below.refl _ _).alloc (Nat.le_refl _) _).trans (hb.mono (by simp)))
    have Ho := Lib.hid hown
    clear hb hown hg
    go_wp2_with fail
    have Ho2 := Lib.hid (Ho.out.kept ((Below.refl _ _).alloc (Nat.le_refl _) (.cells #[Value.slice (some ⟨g, 0, none⟩) xs.length c1] 35)))
    have q5 : (w1.alloc (.cells #[Value.slice (some ⟨g, 0, none⟩) xs.length c1] 35)).cell? ⟨w1.heap.size, 0, none⟩ = some (.slice (some ⟨g, 0, none⟩) xs.length c1) := by simp
    have q2 : (w1.alloc (.cells #[Value.slice (some ⟨g, 0, none⟩) xs.length c1] 35)).cell? ⟨w.heap.size, 0, none⟩ = some (.int .i64 f) := (World.cell?_alloc_lt w1 _ ⟨w.heap.size, 0, none⟩ hz).trans hp2
    refine (lsteps_c _ g c1 _ w1.heap.size w.heap.size (.slice (some ⟨g, 0, none⟩) xs.length c1) (.int .i64 f) xs 1 (-1) (stepZ f true) _ Ho2.out q5 q2 (by omega) (by omega) (by omega) (by omega) (step_apart f true xs hn He.out) cf20
      (fun W ys i hl hi k5 k2 ho => lclo20_c g c1 _ _ _ _ f W ys i hl hi k5 k2 ho hn hm)).mono ?_
    rintro e w2 ⟨rfl, ho2, hg2'⟩
    rw [stepsZ_all _ (by omega)] at ho2
    have r5 : w2.cell? ⟨w1.heap.size, 0, none⟩ = some (.slice (some ⟨g, 0, none⟩) xs.length c1) := (World.cell?_of_block (hg2'.block w1.heap.size (by simp) (by simp; omega))).trans q5
    have r2 : w2.cell? ⟨w.heap.size, 0, none⟩ = some (.int .i64 f) := (World.cell?_of_block (hg2'.block w.heap.size (by simp; omega) (by simp; omega))).trans q2
    have Hg2 := Lib.hid hg2'
    have hzz : w1.heap.size < w2.heap.size := by have := hg2'.size; simp at this; omega
    have hl := allZ_length 1 (-1) (stepZ f true) xs
    have Ho3 := Lib.hid ho2
    clear q5 q2 hg2' hp2 ho2 Ho2 Ho
    obtain ⟨ys, hys⟩ : ∃ ys, allZ 1 (-1) (stepZ f true) xs = ys := ⟨_, rfl⟩
    rw [hys] at hl Ho3 Hspec
    clear hys
    go_wp2_with fail
    have Hl := Lib.hid hl
    rw [← hl] at r5 Ho3 hn ⊢
    clear hl
    refine (lsteps_c _ g c1 _ w1.heap.size w.heap.size (.slice (some ⟨g, 0, none⟩) ys.length c1) (.int .i64 f) ys 0 1 (stepZ f false) _ Ho3.out r5 r2 (by omega) (by omega) (by omega) (by have := Hl.out; omega) (step_apart f false ys hn (by rw [Hl.out]; exact He.out)) cf22
      (fun W zs i hl hi k5 k2 ho => lclo22_c g c1 _ _ _ _ f W zs i hl hi k5 k2 ho hn (by have := Hl.out; omega))).mono ?_
    rintro e w3 ⟨rfl, ho3, hg3⟩
    rw [stepsZ_all _ (by omega)] at ho3
    have s5 : w3.cell? ⟨w1.heap.size, 0, none⟩ = some (.slice (some ⟨g, 0, none⟩) ys.length c1) := (World.cell?_of_block (hg3.block w1.heap.size hzz (by simp; omega))).trans r5
    have Hg3 := Lib.hid hg3
    have Ho4 := Lib.hid ho3
    clear ho3 hg3 r5 r2
    go_wp2_with fail
    go_ret
    refine ⟨_, rfl, ?_, ?_⟩
    · rw [Hspec.out]
      exact OwnI.lower Ho4.out (by simp)
    · exact ((Hb.out.alloc (by omega) _).grown Hg2.out (by simp; omega) (by intro k hk; injection hk with hk; omega)).grown Hg3.out (by omega) (by intro k hk; injection hk with hk; omega)
  · have Hspec : Hid (fwdZ f xs = []) := Lib.hid (if_neg h)
    have H := Lib.hid h
    clear h hR
    go_enter Try.func9, Try.ntmps9
    go_wp2_with fail
    refine (lcopied_no _ _ _ _ _ (by omega) H.out).mono ?_
    rintro e w1 ⟨rfl, rfl⟩
    go_wp2_with fail
    refine (lsteps_nil _ _ _ _ _ (by omega)).mono ?_
    rintro e w2 ⟨rfl, rfl⟩
    go_wp2_with fail
    refine (lsteps_nil _ _ _ _ _ (by omega)).mono ?_
    rintro e w2 ⟨rfl, rfl⟩
    go_wp2_with fail
    go_ret
    refine ⟨_, rfl, by rw [Hspec.out]; exact OwnI.nil _ _, ?_⟩
    exact ((Below.refl _ _).alloc (Nat.le_refl _) _).alloc (by simp) _

set_option maxHeartbeats 1600000 in
theorem linv_c (A : Option Addr) (c : Nat) (xs : List Int) (f : Int) (w : World) (hR : ReadsI w A xs) (hm : xs.length ≤ 10000) :
    Calls Try.prog 11 #[.int .i64 f, .slice A xs.length c] w fun e w' => ∃ v, e = .returned v ∧ OwnI w' w.heap.size v (invZ f xs) ∧ Below w.heap.size w w' := by
  by_cases h : rightF f = true ∧ rightL xs.length = true
  · have Hspec : Hid (invZ f xs = allZ 1 1 (stepZ f true) (allZ 0 (-1) (stepZ f false) xs)) := Lib.hid (if_pos h)
    obtain ⟨h1, h2⟩ := h
    have ⟨hn, he⟩ : 2 ≤ xs.length ∧ xs.length % 2 = 0 := of_decide_eq_true h2
    have H1 := Lib.hid h1
    have H2 := Lib.hid h2
    have HR := Lib.hid (hR.kept ((Below.refl _ _).alloc (Nat.le_refl _) (.cells #[.int .i64 f] 22)))
    have He := Lib.hid he
    clear h1 h2 hR he
    go_enter Try.func11, Try.ntmps11
    go_wp2_with fail
    refine (lcopied_yes _ _ _ _ _ HR.out (by omega) H1.out H2.out).mono ?_
    rintro e w1 ⟨v, rfl, hown, hb⟩
    obtain ⟨g, c1, rfl, hg, hlt, _, _⟩ := hown.form (by omega)
    have hp2 : w1.cell? ⟨w.heap.size, 0, none⟩ = some (.int .i64 f) := (hb.cell (p := ⟨w.heap.size, 0, none⟩) (by simp)).trans (by simp)
    have hz : w.heap.size < w1.heap.size := by have := hb.size; simp at this; omega
    have hg2 : w.heap.size < g := by simp at hg; omega
    have Hb : Hid (Below w.heap.size w w1) := Lib.hid (((Below.refl _ _).alloc (Nat.le_refl _) _).trans (hb.mono (by simp)))
    have Ho := Lib.hid hown
    clear hb hown hg
    go_wp2_with fail
    have Ho2 := Lib.hid (Ho.out.kept ((Below.refl _ _).alloc (Nat.le_refl _) (.cells #[Value.slice (some ⟨g, 0, none⟩) xs.length c1] 35)))
    have q5 : (w1.alloc (.cells #[Value.slice (some ⟨g, 0, none⟩) xs.length c1] 35)).cell? ⟨w1.heap.size, 0, none⟩ = some (.slice (some ⟨g, 0, none⟩) xs.length c1) := by simp
    have q2 : (w1.alloc (.cells #[Value.slice (some ⟨g, 0, none⟩) xs.length c1] 35)).cell? ⟨w.heap.size, 0, none⟩ = some (.int .i64 f) := (World.cell?_alloc_lt w1 _ ⟨w.heap.size, 0, none⟩ hz).trans hp2
    refine (lsteps_c _ g c1 _ w1.heap.size w.heap.size (.slice (some ⟨g, 0, none⟩) xs.length c1) (.int .i64 f) xs 0 (-1) (stepZ f false) _ Ho2.out q5 q2 (by omega) (by omega) (by omega) (by omega) (step_apart f false xs hn He.out) cf26
      (fun W ys i hl hi k5 k2 ho => lclo26_c g c1 _ _ _ _ f W ys i hl hi k5 k2 ho hn hm)).mono ?_
    rintro e w2 ⟨rfl, ho2, hg2'⟩
    rw [stepsZ_all _ (by omega)] at ho2
    have r5 : w2.cell? ⟨w1.heap.size, 0, none⟩ = some (.slice (some ⟨g, 0, none⟩) xs.length c1) := (World.cell?_of_block (hg2'.block w1.heap.size (by simp) (by simp; omega))).trans q5
    have r2 : w2.cell? ⟨w.heap.size, 0, none⟩ = some (.int .i64 f) := (World.cell?_of_block (hg2'.block w.heap.size (by simp; omega) (by simp; omega))).trans q2
    have Hg2 := Lib.hid hg2'
    have hzz : w1.heap.size < w2.heap.size := by have := hg2'.size; simp at this; omega
    have hl := allZ_length 0 (-1) (stepZ f false) xs
    have Ho3 := Lib.hid ho2
    clear q5 q2 hg2' hp2 ho2 Ho2 Ho
    obtain ⟨ys, hys⟩ : ∃ ys, allZ 0 (-1) (stepZ f false) xs = ys := ⟨_, rfl⟩
    rw [hys] at hl Ho3 Hspec
    clear hys
    go_wp2_with fail
    have Hl := Lib.hid hl
    rw [← hl] at r5 Ho3 hn ⊢
    clear hl
    refine (lsteps_c _ g c1 _ w1.heap.size w.heap.size (.slice (some ⟨g, 0, none⟩) ys.length c1) (.int .i64 f) ys 1 1 (stepZ f true) _ Ho3.out r5 r2 (by omega) (by omega) (by omega) (by have := Hl.out; omega) (step_apart f true ys hn (by rw [Hl.out]; exact He.out)) cf27
      (fun W zs i hl hi k5 k2 ho => lclo27_c g c1 _ _ _ _ f W zs i hl hi k5 k2 ho hn (by have := Hl.out; omega))).mono ?_
    rintro e w3 ⟨rfl, ho3, hg3⟩
    rw [stepsZ_all _ (by omega)] at ho3
    have s5 : w3.cell? ⟨w1.heap.size, 0, none⟩ = some (.slice (some ⟨g, 0, none⟩) ys.length c1) := (World.cell?_of_block (hg3.block w1.heap.size hzz (by simp; omega))).trans r5
    have Hg3 := Lib.hid hg3
    have Ho4 := Lib.hid ho3
    clear ho3 hg3 r5 r2
    go_wp2_with fail
    go_ret
    refine ⟨_, rfl, ?_, ?_⟩
    · rw [Hspec.out]
      exact OwnI.lower Ho4.out (by simp)
    · exact ((Hb.out.alloc (by omega) _).grown Hg2.out (by simp; omega) (by intro k hk; injection hk with hk; omega)).grown Hg3.out (by omega) (by intro k hk; injection hk with hk; omega)
  · have Hspec : Hid (invZ f xs = []) := Lib.hid (if_neg h)
    have H := Lib.hid h
    clear h hR
    go_enter Try.func11, Try.ntmps11
    go_wp2_with fail
    refine (lcopied_no _ _ _ _ _ (by omega) H.out).mono ?_
    rintro e w1 ⟨rfl, rfl⟩
    go_wp2_with fail
    refine (lsteps_nil _ _ _ _ _ (by omega)).mono ?_
    rintro e w2 ⟨rfl, rfl⟩
    go_wp2_with fail
    refine (lsteps_nil _ _ _ _ _ (by omega)).mono ?_
    rintro e w2 ⟨rfl, rfl⟩
    go_wp2_with fail
    go_ret
    refine ⟨_, rfl, by rw [Hspec.out]; exact OwnI.nil _ _, ?_⟩
    exact ((Below.refl _ _).alloc (Nat.le_refl _) _).alloc (by simp) _

end Go.Proofs.Ytceecaohfnamnaa
