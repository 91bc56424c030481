/- Planes: plain laws: padded and cropped, turned twice, added and subtracted. -/
import Derived.Test.YtjlajggilcihoaaPl6
namespace Go.Proofs.Ytjlajggilcihoaa
open Go.RowKit
set_option linter.unusedVariables false
set_option linter.unusedSimpArgs false

theorem madeL_length (a b : Nat) (f : Int → Int → Int) (k : Nat) : (madeL a b f k).length = a * b := fillL_length _ _ _
theorem place_lt {a b x y : Nat} (hx : x < a) (hy : y < b) : y * a + x < a * b := by
  have : (y + 1) * a ≤ b * a := Nat.mul_le_mul_right a (by omega)
  rw [Nat.mul_comm b a, Nat.add_mul] at this
  omega
theorem place_mod {a x y : Nat} (hx : x < a) : (y * a + x) % a = x := by rw [Nat.add_comm, Nat.add_mul_mod_self_right, Nat.mod_eq_of_lt hx]
theorem place_div {a x y : Nat} (hx : x < a) : (y * a + x) / a = y := by rw [Nat.add_comm, Nat.add_mul_div_right _ _ (by omega), Nat.div_eq_of_lt hx, Nat.zero_add]
theorem place_eq {a b k : Nat} (hk : k < a * b) : k % a < a ∧ k / a < b ∧ k = k / a * a + k % a := by
  have ha : 0 < a := by
    rcases Nat.eq_zero_or_pos a with h | h
    · subst h; simp at hk
    · exact h
  refine ⟨Nat.mod_lt _ ha, ?_, ?_⟩
  · rw [Nat.div_lt_iff_lt_mul ha, Nat.mul_comm]; exact hk
  · rw [Nat.mul_comm]; exact (Nat.div_add_mod k a).symm
theorem made_at {a b x y : Nat} (f : Int → Int → Int) (hx : x < a) (hy : y < b) : rdn (madeL a b f (a * b)) (y * a + x) = f x y := by
  have hk := place_lt hx hy
  unfold madeL
  rw [fillL_full]
  unfold rdn
  simp only [List.getD_eq_getElem?_getD, List.getElem?_map, List.getElem?_range hk, Option.map_some, Option.getD_some]
  rw [place_mod hx, place_div hx]
theorem made_eq {a b : Nat} {f : Int → Int → Int} {V : List Int} (hl : V.length = a * b) (h : ∀ x y : Nat, x < a → y < b → f x y = rdn V (y * a + x)) : madeL a b f (a * b) = V := by
  refine ext_rdn (by rw [madeL_length, hl]) (fun i hi => ?_)
  rw [madeL_length] at hi
  obtain ⟨h1, h2, h3⟩ := place_eq hi
  rw [h3, made_at f h1 h2, h _ _ h1 h2]
theorem near_nat {x a : Nat} (h : x < a) : nearI x a = x := by unfold nearI; omega
theorem atP_nat {a b : Nat} {V : List Int} (hok : okB a b V.length = true) {x y : Nat} (hx : x < a) (hy : y < b) : atP a b V x y = rdn V (y * a + x) := by
  unfold atP
  rw [if_pos hok, near_nat hx, near_nat hy]
  refine congrArg (rdn V) ?_
  have : ((y * a : Nat) : Int) = (y : Int) * (a : Int) := Int.natCast_mul y a
  omega
theorem okB_made {a b : Nat} (f : Int → Int → Int) (h1 : 1 ≤ a) (h2 : a ≤ 1024) (h3 : 1 ≤ b) (h4 : b ≤ 1024) : okB a b (madeL a b f (a * b)).length = true := by rw [madeL_length]; exact okB_mk h1 h2 h3 h4
theorem madeP_nat {a b : Nat} (f : Int → Int → Int) (h1 : 1 ≤ a) (h2 : a ≤ 1024) (h3 : 1 ≤ b) (h4 : b ≤ 1024) : madeP a b f = ⟨a, b, madeL a b f (a * b)⟩ := by
  unfold madeP
  rw [if_pos ⟨sideB_mk (by omega) (by omega), sideB_mk (by omega) (by omega)⟩]
  simp only [Int.toNat_natCast]
/-- Padded and cropped: as it was. -/
theorem crop_pad {W H : Int} {V : List Int} (hok : okB W H V.length = true) {x y : Int} (hx : W ≤ x) (hx2 : x ≤ 1024) (hy : H ≤ y) (hy2 : y ≤ 1024) :
    okB (padP W H V x y).W (padP W H V x y).H (padP W H V x y).V.length = true ∧ cropP (padP W H V x y).W (padP W H V x y).H (padP W H V x y).V W H = ⟨W, H, V⟩ := by
  have hok0 := hok
  obtain ⟨a, b, rfl, rfl, h1, h2, h3, h4, h5⟩ := okB_nat hok
  obtain ⟨a', rfl⟩ := Int.eq_ofNat_of_zero_le (a := x) (by omega)
  obtain ⟨b', rfl⟩ := Int.eq_ofNat_of_zero_le (a := y) (by omega)
  have e : padP a b V a' b' = ⟨a', b', madeL a' b' (fun x y => atP a b V x y) (a' * b')⟩ := by
    unfold padP
    rw [if_pos ⟨hok0, by omega, by omega⟩]
    exact madeP_nat _ (by omega) (by omega) (by omega) (by omega)
  rw [e]
  have hm := okB_made (a := a') (b := b') (fun x y => atP a b V x y) (by omega) (by omega) (by omega) (by omega)
  refine ⟨hm, ?_⟩
  unfold cropP
  rw [if_pos ⟨hm, by simp; omega, by simp; omega⟩]
  unfold sizedP
  rw [madeP_nat _ h1 h2 h3 h4]
  congr 1
  refine made_eq h5 (fun x y hx hy => ?_)
  rw [atP_nat hm (by omega) (by omega), made_at _ (by omega) (by omega), atP_nat hok0 hx hy]
/-- What is cropped to the lesser sides and padded to p's has p's sides. -/
theorem pad_crop {W H : Int} {W' H' : Int} {V' : List Int} (h1 : 1 ≤ W) (h2 : W ≤ 1024) (h3 : 1 ≤ H) (h4 : H ≤ 1024) (hok : okB W' H' V'.length = true) :
    ∃ U, U.length = (W * H).toNat ∧ padP (cropP W' H' V' (max 1 (min W' W)) (max 1 (min H' H))).W (cropP W' H' V' (max 1 (min W' W)) (max 1 (min H' H))).H (cropP W' H' V' (max 1 (min W' W)) (max 1 (min H' H))).V W H = ⟨W, H, U⟩ ∧
      (cropP W' H' V' (max 1 (min W' W)) (max 1 (min H' H))).V.length ≤ 1048576 := by
  have hok0 := hok
  obtain ⟨a', b', rfl, rfl, k1, k2, k3, k4, k5⟩ := okB_nat hok
  obtain ⟨a, rfl⟩ := Int.eq_ofNat_of_zero_le (a := W) (by omega)
  obtain ⟨b, rfl⟩ := Int.eq_ofNat_of_zero_le (a := H) (by omega)
  obtain ⟨c, hc⟩ : ∃ c : Nat, max 1 (min (a' : Int) a) = c := ⟨(max 1 (min (a' : Int) a)).toNat, by omega⟩
  obtain ⟨d, hd⟩ : ∃ d : Nat, max 1 (min (b' : Int) b) = d := ⟨(max 1 (min (b' : Int) b)).toNat, by omega⟩
  rw [hc, hd]
  have e : cropP a' b' V' c d = ⟨c, d, madeL c d (fun x y => atP a' b' V' x y) (c * d)⟩ := by
    unfold cropP
    rw [if_pos ⟨hok0, by omega, by omega⟩]
    exact madeP_nat _ (by omega) (by omega) (by omega) (by omega)
  rw [e]
  have hm := okB_made (a := c) (b := d) (fun x y => atP a' b' V' x y) (by omega) (by omega) (by omega) (by omega)
  refine ⟨madeL a b (fun x y => atP c d (madeL c d (fun x y => atP a' b' V' x y) (c * d)) x y) (a * b), ?_, ?_, ?_⟩
  · rw [madeL_length]; have : ((a * b : Nat) : Int) = (a : Int) * (b : Int) := Int.natCast_mul a b; omega
  · unfold padP
    rw [if_pos ⟨hm, by simp; omega, by simp; omega⟩]
    exact madeP_nat _ (by omega) (by omega) (by omega) (by omega)
  · show (madeL c d (fun x y => atP a' b' V' x y) (c * d)).length ≤ 1048576
    rw [madeL_length]
    have := Nat.mul_le_mul (show c ≤ 1024 by omega) (show d ≤ 1024 by omega)
    omega
theorem bothB_same {W H : Int} {n : Nat} (h : okB W H n = true) : bothB W H n W H n = true := by simp [bothB, h]
/-- Added and subtracted again. -/
theorem sub_add {W H : Int} {V U : List Int} (hok : okB W H V.length = true) (hu : U.length = V.length) (hb : ∀ z ∈ V, -9223372036854775808 ≤ z ∧ z ≤ 9223372036854775807) :
    joinP (fun x y => wrap64 (x + y)) W H V W H U = ⟨W, H, fillL V.length (fun k => wrap64 (rdn V k + rdn U k)) V.length⟩ ∧
    joinP (fun x y => wrap64 (x - y)) W H (fillL V.length (fun k => wrap64 (rdn V k + rdn U k)) V.length) W H U = ⟨W, H, V⟩ := by
  constructor
  · unfold joinP
    rw [if_pos (by rw [hu]; exact bothB_same hok)]
  · unfold joinP
    rw [if_pos (by rw [hu, fillL_length]; exact bothB_same hok)]
    congr 1
    rw [fillL_length]
    refine ext_rdn (fillL_length _ _ _) (fun i hi => ?_)
    rw [fillL_length] at hi
    rw [fillL_full, fillL_full]
    have e : ∀ f : Nat → Int, rdn ((List.range V.length).map f) i = f i := fun f => by
      unfold rdn
      simp [List.getD_eq_getElem?_getD, List.getElem?_range hi]
    rw [e, e]
    show wrap64 (wrap64 (rdn V i + rdn U i) - rdn U i) = rdn V i
    rw [wrap64_sub_l]
    have hz := hb (rdn V i) (by unfold rdn; rw [List.getD_eq_getElem?_getD, List.getElem?_eq_getElem hi]; exact List.getElem_mem hi)
    rw [show rdn V i + rdn U i - rdn U i = rdn V i by omega]
    exact wrap64_id hz.1 hz.2
theorem same_of {p : Pl} {W H : Int} {V : List Int} (h : p = ⟨W, H, V⟩) (hok : okB W H V.length = true) : sameB p.W p.H p.V W H V = true := by
  subst h
  simp [sameB, bothB, hok]

end Go.Proofs.Ytjlajggilcihoaa
