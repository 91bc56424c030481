/- Params: a video got, by the reference. -/
import Derived.Test.YtgdlleoefncikaaParF
import Derived.Test.YtgdlleoefncikaaRef1c
namespace Go.Proofs.Ytgdlleoefncikaa
open Go.RowKit Go.Sort
set_option linter.unusedVariables false
set_option linter.unusedSimpArgs false
theorem goG_in (T : List Bool) : ∀ (f i : Nat) (x : Int), (goG T i x f).2.1 = true → (goG T i x f).2.2 ≤ T.length
  | 0, i, x, h => by
    unfold goG at h ⊢
    cases hn : nextL T i with
    | true => rw [if_pos rfl]; rcases Nat.lt_or_ge i T.length with hlt | hge; exact hlt; rw [nextL_end hge] at hn; cases hn
    | false => rw [hn] at h; cases h
  | f + 1, i, x, h => by
    cases hn : nextL T i with
    | true => rw [goG_yes _ hn]; rcases Nat.lt_or_ge i T.length with hlt | hge; exact hlt; rw [nextL_end hge] at hn; cases hn
    | false => rw [goG_no _ hn] at h ⊢; exact goG_in T f _ _ h
theorem ovL_ok {T : List Bool} {a : Nat} (h : (goG T a 1 31).2.1 = true) : ovL T a 0 ((goG T a 1 31).2.2 - a) = 0 := by
  have h1 := goG_in T 31 a 1 h
  have h2 := goG_place T 31 a 1
  exact ovL_none' T a 0 _ (by omega)
theorem cdS_ok {T : List Bool} {a : Nat} (h : (goG T a 1 31).2.1 = true) : cdS T ⟨a, 0, 0⟩ = ((goG T a 1 31).1, ⟨(goG T a 1 31).2.2, 0, 0⟩) := by
  unfold cdS
  rw [if_neg (fun h => h rfl)]
  dsimp only
  rw [ovL_ok h, h, if_neg (by simp)]
theorem cdS_no {T : List Bool} {a : Nat} (h : (goG T a 1 31).2.1 = false) : (cdS T ⟨a, 0, 0⟩).2.e = 30 := by
  unfold cdS
  rw [if_neg (fun h => h rfl)]
  dsimp only
  rw [h, if_pos (.inl rfl)]
theorem flS_in {T : List Bool} {a : Nat} (h : a < T.length) : flS T ⟨a, 0, 0⟩ = (nextL T a, ⟨a + 1, 0, 0⟩) := by
  have e : overL T a 0 = 0 := by unfold overL; rw [if_pos h]
  unfold flS
  rw [if_neg (fun h => h rfl)]
  dsimp only
  rw [e, if_neg (by omega)]
theorem flS_out {T : List Bool} {a : Nat} (h : T.length ≤ a) : (flS T ⟨a, 0, 0⟩).1 = false ∧ (flS T ⟨a, 0, 0⟩).2.e = 30 := by
  have e : 0 < overL T a 0 := by unfold overL; rw [if_neg (by omega)]; omega
  unfold flS
  rw [if_neg (fun h => h rfl)]
  dsimp only
  rw [if_pos e]
  exact ⟨nextL_end h, rfl⟩
theorem flS_stays {T : List Bool} {s : Rs} (h : s.e ≠ 0) : flS T s = (false, s) := by unfold flS; rw [if_pos h]
theorem gS_stays {T : List Bool} {i : Nat} {v : Vd} {s : Rs} (h : s.e ≠ 0) : gS T i v s = (v, s) := by
  unfold gS
  rw [flS_stays h]
  rfl
/-- A fault stays. -/
theorem stI_stays {T : List Bool} {v : Vd} {s : Rs} : ∀ {i j : Nat}, i ≤ j → (stI T v s i).2.e = 30 → (stI T v s j).2.e = 30
  | i, 0, h, e => by have : i = 0 := by omega
                     subst this; exact e
  | i, j + 1, h, e => by
    by_cases hij : i = j + 1
    · subst hij; exact e
    · have e2 := stI_stays (i := i) (j := j) (by omega) e
      show (gS T j (stI T v s j).1 (stI T v s j).2).2.e = 30
      rw [gS_stays (by rw [e2]; decide)]
      exact e2
/-- A code that has no end, in a group: the fault. -/
theorem gS_no {T : List Bool} {i : Nat} {v : Vd} {a : Nat} (h : nextL T a = true) (h2 : (goG T (a + 1) 1 31).2.1 = false) : (gS T i v ⟨a, 0, 0⟩).2.e = 30 := by
  have hlt : a < T.length := by rcases Nat.lt_or_ge a T.length with hlt | hge; exact hlt; rw [nextL_end hge] at h; cases h
  unfold gS
  rw [flS_in hlt, h]
  dsimp only
  rw [if_pos rfl]
  have e := cdS_no h2
  rcases i with _ | _ | i
  · show (cdS T (cdS T ⟨a + 1, 0, 0⟩).2).2.e = 30
    rw [cdS_stays (by rw [e]; decide)]
    exact e
  · exact e
  · exact e
theorem gS_no2 {T : List Bool} {v : Vd} {a : Nat} (h : nextL T a = true) (h1 : (goG T (a + 1) 1 31).2.1 = true) (h2 : (goG T (goG T (a + 1) 1 31).2.2 1 31).2.1 = false) : (gS T 0 v ⟨a, 0, 0⟩).2.e = 30 := by
  have hlt : a < T.length := by rcases Nat.lt_or_ge a T.length with hlt | hge; exact hlt; rw [nextL_end hge] at h; cases h
  unfold gS
  rw [flS_in hlt, h]
  dsimp only
  rw [if_pos rfl, cdS_ok h1]
  exact cdS_no h2
theorem gS_zero {T : List Bool} {i : Nat} {v : Vd} {a : Nat} (hlt : a < T.length) (h : nextL T a = false) : gS T i v ⟨a, 0, 0⟩ = (v, ⟨a + 1, 0, 0⟩) := by
  unfold gS
  rw [flS_in hlt, h]
  rfl
theorem gS_over {T : List Bool} {i : Nat} {v : Vd} {a : Nat} (h : T.length ≤ a) : (gS T i v ⟨a, 0, 0⟩).2.e = 30 := by
  have e := flS_out h
  unfold gS
  rw [e.1]
  exact e.2
theorem gS_0 {T : List Bool} {v : Vd} {a : Nat} (h : nextL T a = true) (h1 : (goG T (a + 1) 1 31).2.1 = true) (h2 : (goG T (goG T (a + 1) 1 31).2.2 1 31).2.1 = true) :
    gS T 0 v ⟨a, 0, 0⟩ = (⟨(goG T (a + 1) 1 31).1, (goG T (goG T (a + 1) 1 31).2.2 1 31).1, v.C, v.B⟩, ⟨(goG T (goG T (a + 1) 1 31).2.2 1 31).2.2, 0, 0⟩) := by
  have hlt : a < T.length := by rcases Nat.lt_or_ge a T.length with hlt | hge; exact hlt; rw [nextL_end hge] at h; cases h
  unfold gS
  rw [flS_in hlt, h]
  dsimp only
  rw [if_pos rfl, cdS_ok h1]
  dsimp only
  rw [cdS_ok h2]
  rfl
theorem gS_1 {T : List Bool} {v : Vd} {a : Nat} (h : nextL T a = true) (h1 : (goG T (a + 1) 1 31).2.1 = true) : gS T 1 v ⟨a, 0, 0⟩ = (⟨v.W, v.H, (goG T (a + 1) 1 31).1, v.B⟩, ⟨(goG T (a + 1) 1 31).2.2, 0, 0⟩) := by
  have hlt : a < T.length := by rcases Nat.lt_or_ge a T.length with hlt | hge; exact hlt; rw [nextL_end hge] at h; cases h
  unfold gS
  rw [flS_in hlt, h]
  dsimp only
  rw [if_pos rfl, cdS_ok h1]
  rfl
theorem gS_2 {T : List Bool} {v : Vd} {a : Nat} (h : nextL T a = true) (h1 : (goG T (a + 1) 1 31).2.1 = true) : gS T 2 v ⟨a, 0, 0⟩ = (⟨v.W, v.H, v.C, (goG T (a + 1) 1 31).1⟩, ⟨(goG T (a + 1) 1 31).2.2, 0, 0⟩) := by
  have hlt : a < T.length := by rcases Nat.lt_or_ge a T.length with hlt | hge; exact hlt; rw [nextL_end hge] at h; cases h
  unfold gS
  rw [flS_in hlt, h]
  dsimp only
  rw [if_pos rfl, cdS_ok h1]
  rfl
/-- How it begins, in the reference's words. -/
theorem bgS_no1 {T : List Bool} (h : (goG T 0 1 31).2.1 = false) : (getS T) = (⟨0, 0, 0, 0⟩, 30) := by
  have e := cdS_no h
  have e2 := cdS_stays (T := T) (s := (cdS T ⟨0, 0, 0⟩).2) (by rw [e]; decide)
  have hb : bgS T ⟨0, 0, 0⟩ = (⟨0, 0, 0, 0⟩, 30, (cdS T ⟨0, 0, 0⟩).2) := by
    unfold bgS
    rw [if_neg (fun q => by rw [e] at q; exact absurd q.1 (by decide)), e2]
    dsimp only
    rw [if_pos (by rw [e]; decide), e]
  unfold getS
  rw [hb]
  rfl
theorem bgS_val1 {T : List Bool} (h : (goG T 0 1 31).2.1 = true) (h1 : (goG T 0 1 31).1 ≠ 1) : getS T = (⟨0, 0, 0, 0⟩, 281) := by
  have hb : bgS T ⟨0, 0, 0⟩ = (⟨0, 0, 0, 0⟩, 281, ⟨(goG T 0 1 31).2.2, 0, 0⟩) := by
    unfold bgS
    rw [cdS_ok h, if_pos ⟨rfl, h1⟩]
  unfold getS
  rw [hb]
  rfl
theorem bgS_no2 {T : List Bool} (h : (goG T 0 1 31).2.1 = true) (h1 : (goG T 0 1 31).1 = 1) (h2 : (goG T (goG T 0 1 31).2.2 1 31).2.1 = false) : getS T = (⟨0, 0, 0, 0⟩, 30) := by
  have e := cdS_no h2
  have hb : bgS T ⟨0, 0, 0⟩ = (⟨0, 0, 0, 0⟩, 30, (cdS T ⟨(goG T 0 1 31).2.2, 0, 0⟩).2) := by
    unfold bgS
    rw [cdS_ok h, if_neg (fun q => q.2 h1)]
    dsimp only
    rw [if_pos (by rw [e]; decide), e]
  unfold getS
  rw [hb]
  rfl
theorem bgS_val2 {T : List Bool} (h : (goG T 0 1 31).2.1 = true) (h1 : (goG T 0 1 31).1 = 1) (h2 : (goG T (goG T 0 1 31).2.2 1 31).2.1 = true) (h3 : 5 ≤ (goG T (goG T 0 1 31).2.2 1 31).1) : getS T = (⟨0, 0, 0, 0⟩, 281) := by
  have hb : bgS T ⟨0, 0, 0⟩ = (⟨0, 0, 0, 0⟩, 281, ⟨(goG T (goG T 0 1 31).2.2 1 31).2.2, 0, 0⟩) := by
    unfold bgS
    rw [cdS_ok h, if_neg (fun q => q.2 h1)]
    dsimp only
    rw [cdS_ok h2, if_neg (fun q => q rfl), if_pos h3]
  unfold getS
  rw [hb]
  rfl
theorem bgS_yes {T : List Bool} (h : (goG T 0 1 31).2.1 = true) (h1 : (goG T 0 1 31).1 = 1) (h2 : (goG T (goG T 0 1 31).2.2 1 31).2.1 = true) (h3 : (goG T (goG T 0 1 31).2.2 1 31).1 < 5) :
    getS T = endS (stI T (baseV (goG T (goG T 0 1 31).2.2 1 31).1.toNat) ⟨(goG T (goG T 0 1 31).2.2 1 31).2.2, 0, 0⟩ 3).1 (stI T (baseV (goG T (goG T 0 1 31).2.2 1 31).1.toNat) ⟨(goG T (goG T 0 1 31).2.2 1 31).2.2, 0, 0⟩ 3).2 := by
  have hb : bgS T ⟨0, 0, 0⟩ = (baseV (goG T (goG T 0 1 31).2.2 1 31).1.toNat, 0, ⟨(goG T (goG T 0 1 31).2.2 1 31).2.2, 0, 0⟩) := by
    unfold bgS
    rw [cdS_ok h, if_neg (fun q => q.2 h1)]
    dsimp only
    rw [cdS_ok h2, if_neg (fun q => q rfl), if_neg (by omega)]
  unfold getS
  rw [hb, if_neg (fun q => q rfl)]
theorem endS_no {v : Vd} {s : Rs} (h : s.e = 30) : endS v s = (⟨0, 0, 0, 0⟩, 30) := by
  unfold endS
  rw [if_pos (by rw [h]; decide), h]

end Go.Proofs.Ytgdlleoefncikaa
