/- Bands: each place of a plane lies in one band alone. -/
import Derived.Test.YtjlajggilcihoaaBd15
import Derived.Test.YtjlajggilcihoaaBd7
namespace Go.Proofs.Ytjlajggilcihoaa
open Go.RowKit
set_option linter.unusedVariables false
set_option linter.unusedSimpArgs false

def inBd (a : Nat) (b : Bd) (i : Nat) : Bool := inK a b.x.toNat b.y.toNat b.w.toNat b.h.toNat i
/-- In how many of the first k bands a place lies. -/
def covK (w h d : Int) (a : Nat) (k i : Nat) : Int := match k with | 0 => 0 | k + 1 => covK w h d a k i + if inBd a (bandK w h d k) i = true then 1 else 0
theorem covK_bd (w h d : Int) (a k i : Nat) : 0 ≤ covK w h d a k i ∧ covK w h d a k i ≤ k := by
  induction k with
  | zero => exact ⟨Int.le_refl _, Int.le_refl _⟩
  | succ k ih =>
    unfold covK
    split <;> omega
theorem inBd_iff {a : Nat} {b : Bd} {i : Nat} {x y w h : Nat} (e : b = ⟨b.l, b.o, x, y, w, h⟩) : inBd a b i = true ↔ x ≤ i % a ∧ i % a < x + w ∧ y ≤ i / a ∧ i / a < y + h := by
  rw [e]
  unfold inBd inK
  simp only [Int.toNat_natCast, Bool.and_eq_true, decide_eq_true_eq]
  omega
/-- The first bands, up to a level: a corner of the plane, each place of it once. -/
theorem cov_level {a c : Nat} {d : Nat} (hok : okF a c d = true) (i : Nat) : ∀ l : Nat, l ≤ d → ∀ u v : Nat, u * 2 ^ (d - l) = a → v * 2 ^ (d - l) = c → covK a c d a (3 * l + 1) i = if i % a < u ∧ i / a < v then 1 else 0 := by
  intro l
  obtain ⟨_, _, _, _, _, hd6, _, _⟩ := okF_t hok
  have hd6 : d ≤ 6 := by omega
  have hp : ∀ k : Nat, 0 < 2 ^ k := fun k => Nat.pow_pos (by omega)
  induction l with
  | zero =>
    intro _ u v hu hv
    have e0 : bandK a c d 0 = ⟨0, 0, (0 : Nat), (0 : Nat), u, v⟩ := by
      rw [bandK_zero]
      unfold bandI p2
      have e1 : ((d : Int) - max ((0 : Int) - 1) 0).toNat = d := by omega
      rw [e1]
      have : (a : Int) / 2 ^ d = u := by rw [← hu, Nat.sub_zero]; push_cast; exact Int.mul_ediv_cancel _ (by have := hp d; norm_cast; omega)
      have h2 : (c : Int) / 2 ^ d = v := by rw [← hv, Nat.sub_zero]; push_cast; exact Int.mul_ediv_cancel _ (by have := hp d; norm_cast; omega)
      rw [this, h2]
      simp
    show covK a c d a (0 + 1) i = _
    unfold covK covK
    have := inBd_iff (a := a) (b := bandK a c d 0) (i := i) (x := 0) (y := 0) (w := u) (h := v) (by rw [e0])
    generalize i % a = X at *
    generalize i / a = Y at *
    by_cases hc : X < u ∧ Y < v
    · rw [if_pos hc, if_pos (this.2 ⟨by omega, by omega, by omega, by omega⟩)]; rfl
    · rw [if_neg hc, if_neg (fun h => hc ⟨by have := (this.1 h).2.1; omega, by have := (this.1 h).2.2.2; omega⟩)]; rfl
  | succ l ih =>
    intro hl u v hu hv
    obtain ⟨u', hu'⟩ : ∃ u', u = 2 * u' := by
      have hw := (okF_t hok).2.2.2.2.2.2.1
      have e : d - l = d - (l + 1) + 1 := by omega
      have hdv : 2 ^ (d - l) ∣ a := by
        have h1 : 2 ^ d ∣ a := by
          have : (a : Int) % p2 d = 0 := hw
          unfold p2 at this
          simp only [Int.toNat_natCast] at this
          have h3 : ((a % 2 ^ d : Nat) : Int) = 0 := by push_cast; exact this
          exact Nat.dvd_of_mod_eq_zero (by omega)
        exact Nat.dvd_trans (Nat.pow_dvd_pow 2 (by omega)) h1
      obtain ⟨q, hq⟩ := hdv
      refine ⟨q, Nat.eq_of_mul_eq_mul_right (hp (d - (l + 1))) ?_⟩
      rw [hu, hq, e, Nat.pow_succ]
      rw [Nat.mul_assoc, Nat.mul_comm]
    obtain ⟨v', hv'⟩ : ∃ v', v = 2 * v' := by
      have hw := (okF_t hok).2.2.2.2.2.2.2
      have e : d - l = d - (l + 1) + 1 := by omega
      have hdv : 2 ^ (d - l) ∣ c := by
        have h1 : 2 ^ d ∣ c := by
          have : (c : Int) % p2 d = 0 := hw
          unfold p2 at this
          simp only [Int.toNat_natCast] at this
          have h3 : ((c % 2 ^ d : Nat) : Int) = 0 := by push_cast; exact this
          exact Nat.dvd_of_mod_eq_zero (by omega)
        exact Nat.dvd_trans (Nat.pow_dvd_pow 2 (by omega)) h1
      obtain ⟨q, hq⟩ := hdv
      refine ⟨q, Nat.eq_of_mul_eq_mul_right (hp (d - (l + 1))) ?_⟩
      rw [hv, hq, e, Nat.pow_succ]
      rw [Nat.mul_assoc, Nat.mul_comm]
    subst hu'
    subst hv'
    have e : d - l = d - (l + 1) + 1 := by omega
    have hbase := ih (by omega) u' v' (by rw [e, Nat.pow_succ, ← hu, Nat.mul_comm 2 u', Nat.mul_assoc, Nat.mul_comm 2]) (by rw [e, Nat.pow_succ, ← hv, Nat.mul_comm 2 v', Nat.mul_assoc, Nat.mul_comm 2])
    have hsh : ∀ o : Nat, 1 ≤ o → o ≤ 3 → bandK a c d (3 * l + o) = ⟨(l : Int) + 1, o, ((if o % 2 = 1 then u' else 0 : Nat) : Int), ((if o / 2 % 2 = 1 then v' else 0 : Nat) : Int), u', v'⟩ := by
      intro o o1 o2
      rw [bandK_at _ _ _ o1 o2]
      unfold bandI p2
      have e1 : ((d : Int) - max ((l : Int) + 1 - 1) 0).toNat = d - l := by omega
      rw [e1]
      have h1 : (a : Int) / 2 ^ (d - l) = u' := by
        have : (a : Int) = (u' : Int) * 2 ^ (d - l) := by rw [← hu, e]; push_cast; rw [Int.pow_succ, Int.mul_comm 2 (u' : Int), Int.mul_assoc, Int.mul_comm 2]
        rw [this]; exact Int.mul_ediv_cancel _ (by have := hp (d - l); norm_cast; omega)
      have h2 : (c : Int) / 2 ^ (d - l) = v' := by
        have : (c : Int) = (v' : Int) * 2 ^ (d - l) := by rw [← hv, e]; push_cast; rw [Int.pow_succ, Int.mul_comm 2 (v' : Int), Int.mul_assoc, Int.mul_comm 2]
        rw [this]; exact Int.mul_ediv_cancel _ (by have := hp (d - l); norm_cast; omega)
      rw [h1, h2]
      rcases (by omega : o = 1 ∨ o = 2 ∨ o = 3) with h | h | h <;> subst h <;> simp
    have c1 := inBd_iff (a := a) (i := i) (b := bandK a c d (3 * l + 1)) (x := u') (y := 0) (w := u') (h := v') (by rw [hsh 1 (by omega) (by omega)]; simp)
    have c2 := inBd_iff (a := a) (i := i) (b := bandK a c d (3 * l + 2)) (x := 0) (y := v') (w := u') (h := v') (by rw [hsh 2 (by omega) (by omega)]; simp)
    have c3 := inBd_iff (a := a) (i := i) (b := bandK a c d (3 * l + 3)) (x := u') (y := v') (w := u') (h := v') (by rw [hsh 3 (by omega) (by omega)]; simp)
    show covK a c d a (3 * l + 1 + 1 + 1 + 1) i = _
    rw [covK, covK, covK, hbase]
    clear hbase ih hsh
    show _ + (if inBd a (bandK a c d (3 * l + 1)) i = true then 1 else 0) + (if inBd a (bandK a c d (3 * l + 2)) i = true then 1 else 0) + (if inBd a (bandK a c d (3 * l + 3)) i = true then 1 else 0) = _
    generalize i % a = X at *
    generalize i / a = Y at *
    by_cases hx1 : X < u' <;> by_cases hx2 : X < 2 * u' <;> by_cases hy1 : Y < v' <;> by_cases hy2 : Y < 2 * v'
    all_goals
      simp only [c1, c2, c3]
      split <;> split <;> split <;> split <;> split <;> omega
theorem cov_all {a c : Nat} {d : Nat} (hok : okF a c d = true) {i : Nat} (hi : i < a * c) : covK a c d a (3 * d + 1) i = 1 := by
  have := cov_level hok i d (Nat.le_refl _) a c (by simp) (by simp)
  rw [this, if_pos]
  have ha : 0 < a := by rcases Nat.eq_zero_or_pos a with h | h; · subst h; simp at hi
                        · exact h
  exact ⟨Nat.mod_lt _ ha, Nat.div_lt_of_lt_mul hi⟩
/-- The plane that is made of its first k bands. -/
def qL (w h d : Int) (a : Nat) (V : List Int) (k : Nat) : List Int := tab V.length fun i => if covK w h d a k i = 0 then 0 else rdn V i
/-- How often each place was met: by the first k bands. -/
def nL (w h d : Int) (a n k : Nat) : List Int := tab n fun i => covK w h d a k i
theorem qL_zero (w h d : Int) (a : Nat) (V : List Int) : qL w h d a V 0 = List.replicate V.length 0 := by
  rw [← tab_zero]
  exact tab_congr fun i _ => by simp [covK]
theorem nL_zero (w h d : Int) (a n : Nat) : nL w h d a n 0 = List.replicate n 0 := by
  rw [← tab_zero]
  exact tab_congr fun i _ => rfl
theorem qL_succ (w h d : Int) {a : Nat} {V : List Int} {k : Nat} {x y bw bh : Nat} (hb : bandK w h d k = ⟨(bandK w h d k).l, (bandK w h d k).o, x, y, bw, bh⟩) (hx : x + bw ≤ a) :
    laidL (qL w h d a V k) (cutL V a x y bw (bw * bh)) a x y bw bh V.length = qL w h d a V (k + 1) := by
  unfold laidL qL
  refine tab_congr fun i hi => ?_
  have hc := covK_bd w h d a k i
  have hin := inBd_iff (a := a) (i := i) hb
  unfold laidK
  rw [rdn_tab _ _ hi]
  show _ = if covK w h d a k i + (if inBd a (bandK w h d k) i = true then 1 else 0) = 0 then 0 else rdn V i
  by_cases h1 : inK a x y bw bh i = true
  · have h2 : inBd a (bandK w h d k) i = true := by
      rw [hin]
      unfold inK at h1
      simp only [Bool.and_eq_true, decide_eq_true_eq] at h1
      omega
    rw [if_pos h1, if_pos h2, if_neg (by omega)]
    unfold inK at h1
    simp only [Bool.and_eq_true, decide_eq_true_eq] at h1
    obtain ⟨⟨⟨h3, h4⟩, h5⟩, h6⟩ := h1
    have hc : i % a - x < bw := by omega
    have hk : (i / a - y) * bw + (i % a - x) < bw * bh := place_lt hc (by omega)
    unfold cutL
    rw [rdn_tab _ _ hk, place_div hc, place_mod hc, show y + (i / a - y) = i / a by omega]
    have := Nat.div_add_mod' i a
    rw [show i / a * a + x + (i % a - x) = i by omega]
  · have h2 : ¬ inBd a (bandK w h d k) i = true := by
      rw [hin]
      intro h7
      apply h1
      unfold inK
      simp only [Bool.and_eq_true, decide_eq_true_eq]
      omega
    rw [if_neg h1, if_neg h2, Int.add_zero]
/-- In the midst of a band: y rows of it and x places more were met. -/
def midL (w h d : Int) (a n k : Nat) (bx by_ bw y x : Nat) : List Int := tab n fun i => covK w h d a k i + if bx ≤ i % a ∧ i % a < bx + bw ∧ by_ ≤ i / a ∧ (i / a < by_ + y ∨ i / a = by_ + y ∧ i % a < bx + x) then 1 else 0
theorem midL_length (w h d : Int) (a n k bx by_ bw y x : Nat) : (midL w h d a n k bx by_ bw y x).length = n := tab_length _ _
theorem midL_zero (w h d : Int) (a n k bx by_ bw : Nat) : midL w h d a n k bx by_ bw 0 0 = nL w h d a n k := by
  unfold midL nL
  exact tab_congr fun i _ => by rw [if_neg (by omega)]; omega
theorem midL_row (w h d : Int) (a n k bx by_ bw y : Nat) : midL w h d a n k bx by_ bw y bw = midL w h d a n k bx by_ bw (y + 1) 0 := by
  unfold midL
  refine tab_congr fun i _ => ?_
  congr 1
  by_cases h : bx ≤ i % a ∧ i % a < bx + bw ∧ by_ ≤ i / a ∧ (i / a < by_ + y ∨ i / a = by_ + y ∧ i % a < bx + bw)
  · rw [if_pos h, if_pos (by omega)]
  · rw [if_neg h, if_neg (by omega)]
theorem midL_end (w h d : Int) {a : Nat} (n : Nat) {k : Nat} {x y bw bh : Nat} (hb : bandK w h d k = ⟨(bandK w h d k).l, (bandK w h d k).o, x, y, bw, bh⟩) : midL w h d a n k x y bw bh 0 = nL w h d a n (k + 1) := by
  unfold midL nL
  refine tab_congr fun i _ => ?_
  show _ = covK w h d a k i + (if inBd a (bandK w h d k) i = true then 1 else 0)
  congr 1
  have hin := inBd_iff (a := a) (i := i) hb
  by_cases h : inBd a (bandK w h d k) i = true
  · rw [if_pos h, if_pos (by have := hin.1 h; omega)]
  · rw [if_neg h, if_neg (fun h' => h (hin.2 (by omega)))]
theorem midL_at (w h d : Int) {a n : Nat} (k : Nat) {bx by_ bw y x : Nat} (hx : x < bw) (hbx : bx + bw ≤ a) (hn : (by_ + y) * a + bx + x < n) :
    rdn (midL w h d a n k bx by_ bw y x) ((by_ + y) * a + bx + x) = covK w h d a k ((by_ + y) * a + bx + x) ∧ (midL w h d a n k bx by_ bw y x).set ((by_ + y) * a + bx + x) (covK w h d a k ((by_ + y) * a + bx + x) + 1) = midL w h d a n k bx by_ bw y (x + 1) := by
  have e1 : ((by_ + y) * a + bx + x) % a = bx + x := by rw [Nat.add_assoc, Nat.add_comm, Nat.add_mul_mod_self_right, Nat.mod_eq_of_lt (by omega)]
  have e2 : ((by_ + y) * a + bx + x) / a = by_ + y := by rw [Nat.add_assoc, Nat.add_comm, Nat.add_mul_div_right _ _ (by omega), Nat.div_eq_of_lt (by omega), Nat.zero_add]
  unfold midL
  constructor
  · rw [rdn_tab _ _ hn, e1, e2, if_neg (by omega)]
    omega
  · rw [tab_set]
    refine tab_congr fun i _ => ?_
    by_cases h : i = (by_ + y) * a + bx + x
    · rw [if_pos h, h, e1, e2, if_pos (by omega)]
    · rw [if_neg h]
      congr 1
      by_cases h2 : bx ≤ i % a ∧ i % a < bx + bw ∧ by_ ≤ i / a ∧ (i / a < by_ + y ∨ i / a = by_ + y ∧ i % a < bx + x)
      · rw [if_pos h2, if_pos (by omega)]
      · rw [if_neg h2, if_neg]
        rintro ⟨h3, h4, h5, h6 | ⟨h6, h7⟩⟩
        · exact h2 ⟨h3, h4, h5, .inl h6⟩
        · by_cases h8 : i % a < bx + x
          · exact h2 ⟨h3, h4, h5, .inr ⟨h6, h8⟩⟩
          · have := Nat.div_add_mod' i a
            rw [h6] at this
            omega
theorem band_side {n d s : Int} (h1 : 1 ≤ n) (h2 : n ≤ 1024) (d0 : 0 ≤ d) (d6 : d ≤ 6) (hn : n % p2 d = 0) (s0 : 0 ≤ s) (s1 : s ≤ d) : 1 ≤ n / p2 s ∧ n / p2 s ≤ n ∧ (1 ≤ s → 2 * (n / p2 s) ≤ n) := by
  rcases p2_in d0 d6 with ⟨e, _⟩ | ⟨e, _⟩ | ⟨e, _⟩ | ⟨e, _⟩ | ⟨e, _⟩ | ⟨e, _⟩ | ⟨e, _⟩ <;> rw [e] at hn <;>
    rcases p2_in s0 (by omega) with ⟨u, _⟩ | ⟨u, _⟩ | ⟨u, _⟩ | ⟨u, _⟩ | ⟨u, _⟩ | ⟨u, _⟩ | ⟨u, _⟩ <;> rw [u] <;> omega
theorem band_nat {a c d k : Nat} (hok : okF a c d = true) (hk : k < 3 * d + 1) : ∃ x y bw bh : Nat, bandK a c d k = ⟨(bandK a c d k).l, (bandK a c d k).o, x, y, bw, bh⟩ ∧ 1 ≤ bw ∧ 1 ≤ bh ∧ x + bw ≤ a ∧ y + bh ≤ c := by
  obtain ⟨w1, w2, h1, h2, d0, d6, e1, e2⟩ := okF_t hok
  have hb : ∀ l o : Int, 0 ≤ l → l ≤ d → (l = 0 → o = 0) → ∃ x y bw bh : Nat, bandI a c d l o = ⟨l, o, x, y, bw, bh⟩ ∧ 1 ≤ bw ∧ 1 ≤ bh ∧ x + bw ≤ a ∧ y + bh ≤ c := by
    intro l o l0 l1 ho
    have A := band_side w1 w2 d0 d6 e1 (s := (d : Int) - max (l - 1) 0) (by omega) (by omega)
    have B := band_side h1 h2 d0 d6 e2 (s := (d : Int) - max (l - 1) 0) (by omega) (by omega)
    unfold bandI
    generalize (a : Int) / p2 ((d : Int) - max (l - 1) 0) = u at *
    generalize (c : Int) / p2 ((d : Int) - max (l - 1) 0) = v at *
    obtain ⟨u, rfl⟩ := Int.eq_ofNat_of_zero_le (a := u) (by omega)
    obtain ⟨v, rfl⟩ := Int.eq_ofNat_of_zero_le (a := v) (by omega)
    refine ⟨if o % 2 = 1 then u else 0, if o / 2 % 2 = 1 then v else 0, u, v, ?_, by omega, by omega, ?_, ?_⟩
    · congr 1 <;> split <;> rfl
    · split
      · have : l ≠ 0 := fun h => by have := ho h; omega
        have := A.2.2 (by omega)
        omega
      · omega
    · split
      · have : l ≠ 0 := fun h => by have := ho h; omega
        have := B.2.2 (by omega)
        omega
      · omega
  unfold bandK
  split
  · obtain ⟨x, y, bw, bh, e, r⟩ := hb 0 0 (by omega) (by omega) (fun _ => rfl)
    exact ⟨x, y, bw, bh, by rw [e], r⟩
  · obtain ⟨x, y, bw, bh, e, r⟩ := hb (((k - 1) / 3 + 1 : Nat) : Int) (((k - 1) % 3 + 1 : Nat) : Int) (by omega) (by omega) (by omega)
    exact ⟨x, y, bw, bh, by rw [e], r⟩
end Go.Proofs.Ytjlajggilcihoaa
