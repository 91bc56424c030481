/- Fields: blocks laid over units; a field that is levelled. -/
import Derived.Test.YtiedjeholmoccaaFd4
namespace Go.Proofs.Ytiedjeholmoccaa
open Go.RowKit Go.Sort
set_option linter.unusedVariables false
set_option linter.unusedSimpArgs false

/-- What counts of a block. -/
def plainBk (b : Bk) : Bk :=
  ⟨b.m, b.g && decide (b.m ≠ 0), if b.m % 2 = 0 ∨ (b.g && decide (b.m ≠ 0)) = true then 0 else b.x0, if b.m % 2 = 0 ∨ (b.g && decide (b.m ≠ 0)) = true then 0 else b.y0,
    if b.m / 2 % 2 = 0 ∨ (b.g && decide (b.m ≠ 0)) = true then 0 else b.x1, if b.m / 2 % 2 = 0 ∨ (b.g && decide (b.m ≠ 0)) = true then 0 else b.y1,
    if b.m ≠ 0 then 0 else b.d0, if b.m ≠ 0 then 0 else b.d1, if b.m ≠ 0 then 0 else b.d2⟩
theorem plain_plain (b : Bk) : plainBk (plainBk b) = plainBk b := by
  unfold plainBk
  simp only [Bk.mk.injEq, true_and]
  refine ⟨by simp, ?_, ?_, ?_, ?_, ?_, ?_, ?_⟩
  all_goals
    split
    · first
        | rfl
        | (split <;> first | rfl | simp_all)
    · rfl
theorem plain_ok {b : Bk} (h : okBk b = true) : okBk (plainBk b) = true := by
  unfold okBk at h ⊢
  simp only [Bool.and_eq_true] at h ⊢
  obtain ⟨⟨⟨⟨⟨⟨⟨h0, h1⟩, h2⟩, h3⟩, h4⟩, h5⟩, h6⟩, h7⟩ := h
  have hz : smallB 0 = true := by decide
  refine ⟨⟨⟨⟨⟨⟨⟨h0, ?_⟩, ?_⟩, ?_⟩, ?_⟩, ?_⟩, ?_⟩, ?_⟩ <;> unfold plainBk <;> dsimp only <;> split <;> assumption
def kat (K : List Bk) (p : Nat) : Bk := K.getD p Bk.zero
def tabK (n : Nat) (f : Nat → Bk) : List Bk := (List.range n).map f
theorem tabK_length (n : Nat) (f : Nat → Bk) : (tabK n f).length = n := by simp [tabK]
theorem kat_tab (n : Nat) (f : Nat → Bk) {p : Nat} (h : p < n) : kat (tabK n f) p = f p := by simp [kat, tabK, List.getD_eq_getElem?_getD, h]
theorem tabK_congr {n : Nat} {f g : Nat → Bk} (h : ∀ p, p < n → f p = g p) : tabK n f = tabK n g := List.map_congr_left fun p hp => h p (List.mem_range.1 hp)
theorem kat_lt {K : List Bk} {p : Nat} (h : p < K.length) : kat K p = K[p] := by simp [kat, List.getD_eq_getElem?_getD, h]
theorem tabK_of (K : List Bk) : tabK K.length (kat K) = K := by
  apply List.ext_getElem
  · simp [tabK]
  · intro j h1 h2
    simp [tabK, kat, List.getD_eq_getElem?_getD, h2]
theorem ext_kat {K L : List Bk} (hl : K.length = L.length) (h : ∀ p, p < K.length → kat K p = kat L p) : K = L := by
  rw [← tabK_of K, ← tabK_of L, ← hl]
  exact tabK_congr h
theorem tabK_set (n : Nat) (f : Nat → Bk) (p : Nat) (b : Bk) : (tabK n f).set p b = tabK n (fun x => if x = p then b else f x) := by
  apply List.ext_getElem
  · simp [tabK]
  · intro j h1 h2
    simp only [tabK, List.getElem_set, List.getElem_map, List.getElem_range]
    by_cases e : p = j
    · subst e; simp
    · rw [if_neg e, if_neg (fun h => e h.symm)]
/-- A block laid all over a unit; W: how many blocks a row has. -/
def layL (W : Nat) (K : List Bk) (u : Un) (b : Bk) : List Bk := tabK K.length fun p => if inUn u (p % W) (p / W) = true then b else kat K p
theorem layL_length (W : Nat) (K : List Bk) (u : Un) (b : Bk) : (layL W K u b).length = K.length := tabK_length _ _
theorem kat_lay {W : Nat} {K : List Bk} {u : Un} {b : Bk} {p : Nat} (hp : p < K.length) : kat (layL W K u b) p = if inUn u (p % W) (p / W) = true then b else kat K p := kat_tab _ _ hp
/-- In the midst of it: y rows and x blocks more. -/
def midK (W : Nat) (K : List Bk) (ux uy us : Nat) (b : Bk) (y x : Nat) : List Bk := tabK K.length fun p => if ux ≤ p % W ∧ p % W < ux + us ∧ uy ≤ p / W ∧ (p / W < uy + y ∨ p / W = uy + y ∧ p % W < ux + x) then b else kat K p
theorem midK_length (W : Nat) (K : List Bk) (ux uy us : Nat) (b : Bk) (y x : Nat) : (midK W K ux uy us b y x).length = K.length := tabK_length _ _
theorem midK_zero (W : Nat) (K : List Bk) (ux uy us : Nat) (b : Bk) : midK W K ux uy us b 0 0 = K := by
  conv => rhs; rw [← tabK_of K]
  exact tabK_congr fun p _ => by rw [if_neg (by omega)]
theorem midK_row (W : Nat) (K : List Bk) (ux uy us : Nat) (b : Bk) (y : Nat) : midK W K ux uy us b y us = midK W K ux uy us b (y + 1) 0 := by
  refine tabK_congr fun p _ => ?_
  by_cases h : ux ≤ p % W ∧ p % W < ux + us ∧ uy ≤ p / W ∧ (p / W < uy + y ∨ p / W = uy + y ∧ p % W < ux + us)
  · rw [if_pos h, if_pos (by omega)]
  · rw [if_neg h, if_neg (by omega)]
theorem midK_end (W : Nat) (K : List Bk) (ux uy us : Nat) (b : Bk) : midK W K ux uy us b us 0 = layL W K ⟨ux, uy, us⟩ b := by
  refine tabK_congr fun p _ => ?_
  have hin := inUn_iff (u := ⟨ux, uy, us⟩) (X := p % W) (Y := p / W)
  by_cases h : inUn ⟨ux, uy, us⟩ (p % W) (p / W) = true
  · rw [if_pos h, if_pos (by have := hin.1 h; dsimp only at this; omega)]
  · rw [if_neg h, if_neg (fun h' => h (hin.2 (by dsimp only; omega)))]
theorem midK_set {W : Nat} {K : List Bk} {ux uy us y x : Nat} (b : Bk) (hx : x < us) (hw : ux + us ≤ W) : (midK W K ux uy us b y x).set ((uy + y) * W + ux + x) b = midK W K ux uy us b y (x + 1) := by
  have e1 : ((uy + y) * W + ux + x) % W = ux + x := by rw [Nat.add_assoc, Nat.add_comm, Nat.add_mul_mod_self_right, Nat.mod_eq_of_lt (by omega)]
  have e2 : ((uy + y) * W + ux + x) / W = uy + y := by rw [Nat.add_assoc, Nat.add_comm, Nat.add_mul_div_right _ _ (by omega), Nat.div_eq_of_lt (by omega), Nat.zero_add]
  unfold midK
  rw [tabK_set]
  refine tabK_congr fun p _ => ?_
  by_cases h : p = (uy + y) * W + ux + x
  · rw [if_pos h, h, e1, e2, if_pos (by omega)]
  · rw [if_neg h]
    by_cases h2 : ux ≤ p % W ∧ p % W < ux + us ∧ uy ≤ p / W ∧ (p / W < uy + y ∨ p / W = uy + y ∧ p % W < ux + x)
    · rw [if_pos h2, if_pos (by omega)]
    · rw [if_neg h2, if_neg]
      rintro ⟨h3, h4, h5, h6 | ⟨h6, h7⟩⟩
      · exact h2 ⟨h3, h4, h5, .inl h6⟩
      · by_cases h8 : p % W < ux + x
        · exact h2 ⟨h3, h4, h5, .inr ⟨h6, h8⟩⟩
        · have := Nat.div_add_mod' p W
          rw [h6] at this
          omega
/-- The place of a unit's first block. -/
def frst (W : Nat) (u : Un) : Nat := u.y.toNat * W + u.x.toNat
/-- A field's blocks, its first j units levelled. -/
def levK (W : Nat) (K : List Bk) (us : List Un) : Nat → List Bk
  | 0 => K
  | j + 1 => layL W (levK W K us j) (us.getD j ⟨0, 0, 0⟩) (plainBk (kat K (frst W (us.getD j ⟨0, 0, 0⟩))))
theorem levK_length (W : Nat) (K : List Bk) (us : List Un) (j : Nat) : (levK W K us j).length = K.length := by
  induction j with
  | zero => rfl
  | succ j ih => rw [levK, layL_length, ih]
def unG (us : List Un) (j : Nat) : Un := us.getD j ⟨0, 0, 0⟩
theorem unG_lt {us : List Un} {j : Nat} (h : j < us.length) : unG us j = us[j] := by simp [unG, List.getD_eq_getElem?_getD, h]
theorem uniq_of_count {us : List Un} {X Y : Nat} (h : (us.countP fun u => inUn u X Y) = 1) {i j : Nat} (hi : i < us.length) (hj : j < us.length) (h1 : inUn (unG us i) X Y = true) (h2 : inUn (unG us j) X Y = true) : i = j := by
  have key : ∀ i j, i < j → j < us.length → inUn (unG us i) X Y = true → inUn (unG us j) X Y = true → False := by
    intro i j hij hj h1 h2
    rw [unG_lt (by omega)] at h1
    rw [unG_lt hj] at h2
    have e : us.countP (fun u => inUn u X Y) = (us.take j).countP (fun u => inUn u X Y) + (us.drop j).countP (fun u => inUn u X Y) := by rw [← List.countP_append, List.take_append_drop]
    have p1 : 0 < (us.take j).countP (fun u => inUn u X Y) := List.countP_pos_iff.2 ⟨us[i], List.mem_take_iff_getElem.2 ⟨i, by omega, rfl⟩, h1⟩
    have p2 : 0 < (us.drop j).countP (fun u => inUn u X Y) := List.countP_pos_iff.2 ⟨us[j], List.mem_drop_iff_getElem.2 ⟨0, by omega, by simp⟩, h2⟩
    omega
  rcases Nat.lt_trichotomy i j with h3 | h3 | h3
  · exact (key i j h3 hj h1 h2).elim
  · exact h3
  · exact (key j i h3 hi h2 h1).elim
theorem some_of_count {us : List Un} {X Y : Nat} (h : (us.countP fun u => inUn u X Y) = 1) : ∃ i, i < us.length ∧ inUn (unG us i) X Y = true := by
  have : 0 < us.countP (fun u => inUn u X Y) := by omega
  obtain ⟨u, hu, hin⟩ := List.countP_pos_iff.1 this
  obtain ⟨i, hi, rfl⟩ := List.getElem_of_mem hu
  exact ⟨i, hi, by rw [unG_lt hi]; exact hin⟩
section
variable {W : Nat} {K : List Bk} {us : List Un} {p : Nat}
theorem lev_out (hp : p < K.length) {j : Nat} (h : ∀ i, i < j → inUn (unG us i) (p % W) (p / W) = false) : kat (levK W K us j) p = kat K p := by
  induction j with
  | zero => rfl
  | succ j ih =>
    rw [levK, kat_lay (by rw [levK_length]; exact hp)]
    have := h j (by omega)
    unfold unG at this
    rw [if_neg (by rw [this]; decide)]
    exact ih fun i hi => h i (by omega)
theorem lev_in (hp : p < K.length) (hc : (us.countP fun u => inUn u (p % W) (p / W)) = 1) {i : Nat} (hi : i < us.length) (hin : inUn (unG us i) (p % W) (p / W) = true) : ∀ {j : Nat}, i < j → j ≤ us.length → kat (levK W K us j) p = plainBk (kat K (frst W (unG us i)))
  | j + 1, hij, hj => by
    rw [levK, kat_lay (by rw [levK_length]; exact hp)]
    by_cases h : inUn (unG us j) (p % W) (p / W) = true
    · have e := uniq_of_count hc hi (by omega) hin h
      subst e
      unfold unG at h ⊢
      rw [if_pos h]
    · have h' := h
      unfold unG at h'
      rw [if_neg h']
      refine lev_in hp hc hi hin ?_ (by omega)
      rcases Nat.lt_or_ge i j with h1 | h1
      · exact h1
      · have : i = j := by omega
        subst this
        exact absurd hin h
end
/-- The field that is levelled. -/
def levelK (a : Nat) (S : List Int) (K : List Bk) : List Bk := levK (4 * a) K (unsL a S) (unsL a S).length
theorem levelK_length (a : Nat) (S : List Int) (K : List Bk) : (levelK a S K).length = K.length := levK_length _ _ _ _
theorem place_xy {W x y : Nat} (h : x < W) : (y * W + x) % W = x ∧ (y * W + x) / W = y := by
  constructor
  · rw [Nat.add_comm, Nat.add_mul_mod_self_right, Nat.mod_eq_of_lt h]
  · rw [Nat.add_comm, Nat.add_mul_div_right _ _ (by omega), Nat.div_eq_of_lt h, Nat.zero_add]
section
variable {a d : Nat} {S : List Int} {K : List Bk}
theorem fl_count (ha : 0 < a) (hl : S.length = a * d) (hS : ∀ k, k < S.length → 0 ≤ rdn S k ∧ rdn S k ≤ 2) (hK : K.length = 16 * (a * d)) {p : Nat} (hp : p < K.length) : ((unsL a S).countP fun u => inUn u (p % (4 * a)) (p / (4 * a))) = 1 := by
  refine count_units hl hS (Nat.mod_lt _ (by omega)) (Nat.div_lt_of_lt_mul ?_)
  rw [show 4 * a * (4 * d) = 16 * (a * d) by rw [Nat.mul_mul_mul_comm]]
  omega
theorem frst_in (ha : 0 < a) (hl : S.length = a * d) (hS : ∀ k, k < S.length → 0 ≤ rdn S k ∧ rdn S k ≤ 2) (hK : K.length = 16 * (a * d)) {j : Nat} (hj : j < (unsL a S).length) :
    frst (4 * a) (unG (unsL a S) j) < K.length ∧ inUn (unG (unsL a S) j) (frst (4 * a) (unG (unsL a S) j) % (4 * a)) (frst (4 * a) (unG (unsL a S) j) / (4 * a)) = true := by
  rw [unG_lt hj]
  obtain ⟨x, y, s, e, h1, h2, h3, h4⟩ := unsL_in ha hl hS (List.getElem_mem hj)
  rw [e]
  unfold frst
  simp only [Int.toNat_natCast]
  have hxy := place_xy (W := 4 * a) (x := x) (y := y) (by omega)
  rw [hxy.1, hxy.2, inUn_iff]
  refine ⟨?_, by dsimp only; omega⟩
  have h5 : (y + 1) * (4 * a) ≤ 4 * d * (4 * a) := Nat.mul_le_mul_right _ (by omega)
  rw [Nat.add_mul, show 4 * d * (4 * a) = 16 * (a * d) by rw [Nat.mul_mul_mul_comm, Nat.mul_comm d a]] at h5
  omega
/-- A unit's first block is as it was until the unit's turn comes. -/
theorem lev_first (ha : 0 < a) (hl : S.length = a * d) (hS : ∀ k, k < S.length → 0 ≤ rdn S k ∧ rdn S k ≤ 2) (hK : K.length = 16 * (a * d)) {j : Nat} (hj : j < (unsL a S).length) :
    kat (levK (4 * a) K (unsL a S) j) (frst (4 * a) (unG (unsL a S) j)) = kat K (frst (4 * a) (unG (unsL a S) j)) := by
  obtain ⟨h1, h2⟩ := frst_in ha hl hS hK hj
  refine lev_out h1 fun i hi => ?_
  cases h : inUn (unG (unsL a S) i) (frst (4 * a) (unG (unsL a S) j) % (4 * a)) (frst (4 * a) (unG (unsL a S) j) / (4 * a)) with
  | false => rfl
  | true =>
    have := uniq_of_count (fl_count ha hl hS hK h1) (by omega) hj h h2
    omega
/-- What is levelled stays. -/
theorem level_level (ha : 0 < a) (hl : S.length = a * d) (hS : ∀ k, k < S.length → 0 ≤ rdn S k ∧ rdn S k ≤ 2) (hK : K.length = 16 * (a * d)) : levelK a S (levelK a S K) = levelK a S K := by
  have hG : (levelK a S K).length = 16 * (a * d) := by rw [levelK_length, hK]
  refine ext_kat (levelK_length _ _ _) fun p hp => ?_
  rw [levelK_length] at hp
  have hc := fl_count ha hl hS hG hp
  rw [levelK_length] at hp
  obtain ⟨i, hi, hin⟩ := some_of_count hc
  have e1 : kat (levelK a S (levelK a S K)) p = plainBk (kat (levelK a S K) (frst (4 * a) (unG (unsL a S) i))) := lev_in (by rw [levelK_length]; exact hp) hc hi hin hi (Nat.le_refl _)
  have e2 : kat (levelK a S K) p = plainBk (kat K (frst (4 * a) (unG (unsL a S) i))) := lev_in hp hc hi hin hi (Nat.le_refl _)
  obtain ⟨h1, h2⟩ := frst_in ha hl hS hK hi
  have e3 : kat (levelK a S K) (frst (4 * a) (unG (unsL a S) i)) = plainBk (kat K (frst (4 * a) (unG (unsL a S) i))) := lev_in h1 (fl_count ha hl hS hK h1) hi h2 hi (Nat.le_refl _)
  rw [e1, e2, e3, plain_plain]
theorem okK_kat (h : okK K = true) {p : Nat} (hp : p < K.length) : okBk (kat K p) = true := by rw [kat_lt hp]; exact okK_t h hp
theorem okK_of {L : List Bk} (h : ∀ p, p < L.length → okBk (kat L p) = true) : okK L = true := by
  refine List.all_eq_true.2 fun b hb => ?_
  obtain ⟨i, hi, rfl⟩ := List.getElem_of_mem hb
  rw [← kat_lt hi]
  exact h i hi
/-- Levelled blocks may be. -/
theorem level_ok (ha : 0 < a) (hl : S.length = a * d) (hS : ∀ k, k < S.length → 0 ≤ rdn S k ∧ rdn S k ≤ 2) (hK : K.length = 16 * (a * d)) (h : okK K = true) : okK (levelK a S K) = true := by
  refine okK_of fun p hp => ?_
  rw [levelK_length] at hp
  have hc := fl_count ha hl hS hK hp
  obtain ⟨i, hi, hin⟩ := some_of_count hc
  have e2 : kat (levelK a S K) p = plainBk (kat K (frst (4 * a) (unG (unsL a S) i))) := lev_in hp hc hi hin hi (Nat.le_refl _)
  rw [e2]
  exact plain_ok (okK_kat h (frst_in ha hl hS hK hi).1)
end
end Go.Proofs.Ytiedjeholmoccaa
