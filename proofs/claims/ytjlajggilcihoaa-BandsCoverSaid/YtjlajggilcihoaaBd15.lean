/- Bands: what cutting and laying answer, whatever they are handed. -/
import Derived.Test.YtjlajggilcihoaaBd12
import Derived.Test.YtjlajggilcihoaaBd14
namespace Go.Proofs.Ytjlajggilcihoaa
open Go.RowKit
set_option linter.unusedVariables false
set_option linter.unusedSimpArgs false

/-- What is cut out. -/
def cutP (W H : Int) (V : List Int) (b : Bd) : Pl := if inB W H V.length b = true then ⟨b.w, b.h, cutL V W.toNat b.x.toNat b.y.toNat b.w.toNat (b.w.toNat * b.h.toNat)⟩ else Pl.none_
/-- A plane's numbers, another's laid over at a band. -/
def layV (W H : Int) (V : List Int) (b : Bd) (W' H' : Int) (U : List Int) : List Int := if layB W H V.length b W' H' U.length = true then laidL V U W.toNat b.x.toNat b.y.toNat b.w.toNat b.h.toNat V.length else V
theorem inB_nat {W H : Int} {n : Nat} {b : Bd} (h : inB W H n b = true) : ∃ a c x y bw bh : Nat, W = a ∧ H = c ∧ 1 ≤ a ∧ a ≤ 1024 ∧ 1 ≤ c ∧ c ≤ 1024 ∧ n = a * c ∧ b = ⟨b.l, b.o, x, y, bw, bh⟩ ∧ 1 ≤ bw ∧ 1 ≤ bh ∧ x + bw ≤ a ∧ y + bh ≤ c := by
  obtain ⟨h0, h1, h2, h3, h4, h5, h6, h7, h8⟩ := inB_t h
  obtain ⟨a, c, rfl, rfl, a1, a2, b1, b2, hn⟩ := okB_nat h0
  obtain ⟨l, o, x, y, bw, bh⟩ := b
  dsimp only at *
  obtain ⟨x, rfl⟩ := Int.eq_ofNat_of_zero_le h3
  obtain ⟨y, rfl⟩ := Int.eq_ofNat_of_zero_le h4
  obtain ⟨bw, rfl⟩ := Int.eq_ofNat_of_zero_le (a := bw) (by omega)
  obtain ⟨bh, rfl⟩ := Int.eq_ofNat_of_zero_le (a := bh) (by omega)
  exact ⟨a, c, x, y, bw, bh, rfl, rfl, a1, a2, b1, b2, hn, rfl, by omega, by omega, by omega, by omega⟩
/-- What was cut out is laid back: the plane is as it was. -/
theorem laid_cut {V : List Int} {a x y bw bh : Nat} (hx : x + bw ≤ a) : laidL V (cutL V a x y bw (bw * bh)) a x y bw bh V.length = V := by
  refine ext_rdn (by unfold laidL; rw [tab_length]) fun i hi => ?_
  unfold laidL at hi ⊢
  rw [tab_length] at hi
  rw [rdn_tab _ _ hi]
  unfold laidK
  split
  · rename_i h
    unfold inK at h
    simp only [Bool.and_eq_true, decide_eq_true_eq] at h
    obtain ⟨⟨⟨h1, h2⟩, h3⟩, h4⟩ := h
    have hc : i % a - x < bw := by omega
    have hk : (i / a - y) * bw + (i % a - x) < bw * bh := place_lt hc (by omega)
    unfold cutL
    rw [rdn_tab _ _ hk, place_div hc, place_mod hc, show y + (i / a - y) = i / a by omega]
    have := Nat.div_add_mod' i a
    rw [show i / a * a + x + (i % a - x) = i by omega]
  · rfl
/-- And if another had been laid there before. -/
theorem laid_cut2 {V U : List Int} {a x y bw bh : Nat} (hx : x + bw ≤ a) : laidL (laidL V U a x y bw bh V.length) (cutL V a x y bw (bw * bh)) a x y bw bh V.length = V := by
  conv => rhs; rw [← laid_cut (V := V) (y := y) (bh := bh) hx]
  unfold laidL
  refine tab_congr fun i hi => ?_
  unfold laidK
  cases h : inK a x y bw bh i with
  | true => rfl
  | false =>
    simp only [Bool.false_eq_true, if_false]
    rw [rdn_tab _ _ hi]
    simp [h]
theorem bcut_c (W H : Int) (V : List Int) (A : Option Addr) (c : Nat) (b : Bd) (w : World) (hR : ReadsI w A V) (hc : V.length ≤ c) (hc2 : c ≤ 9223372036854775807) :
    Calls Try.prog 16 #[plV W H (.slice A V.length c), bdV b] w (PlRes (cutP W H V b) w) := by
  unfold cutP
  cases h : inB W H V.length b with
  | false => exact bcut_no W H A V.length c b w (by omega) h
  | true =>
    obtain ⟨a, d, x, y, bw, bh, rfl, rfl, a1, a2, b1, b2, hl, hb, w1, w2, hx, hy⟩ := inB_nat h
    rw [hb]
    obtain ⟨ad, rfl, _⟩ := hR.2 (by rw [hl]; exact Nat.mul_pos a1 b1)
    exact bcut_yes a d V ad c b.l b.o x y bw bh w hR a1 a2 b1 b2 hl hc hc2 w1 w2 hx hy
theorem r10cut_c (W H : Int) (V : List Int) (A : Option Addr) (c : Nat) (b : Bd) (w : World) (hR : ReadsI w A V) (hn : V.length ≤ 9223372036854775807) :
    Calls Try.prog 18 #[plV W H (.slice A V.length c), bdV b] w (PlRes (cutP W H V b) w) := by
  unfold cutP
  cases h : inB W H V.length b with
  | false => exact r10cut_no W H A V.length c b w hn h
  | true =>
    obtain ⟨a, d, x, y, bw, bh, rfl, rfl, a1, a2, b1, b2, hl, hb, w1, w2, hx, hy⟩ := inB_nat h
    rw [hb]
    exact r10cut_yes a d V A c b.l b.o x y bw bh w hR a1 a2 b1 b2 hl w1 w2 hx hy
theorem layB_nat {W H : Int} {n n' : Nat} {b : Bd} {W' H' : Int} (h : layB W H n b W' H' n' = true) : ∃ a c x y bw bh : Nat, W = a ∧ H = c ∧ 1 ≤ a ∧ a ≤ 1024 ∧ 1 ≤ c ∧ c ≤ 1024 ∧ n = a * c ∧ b = ⟨b.l, b.o, x, y, bw, bh⟩ ∧ 1 ≤ bw ∧ 1 ≤ bh ∧ x + bw ≤ a ∧ y + bh ≤ c ∧ W' = bw ∧ H' = bh ∧ n' = bw * bh := by
  simp only [layB, Bool.and_eq_true, decide_eq_true_eq] at h
  obtain ⟨⟨⟨h1, h2⟩, h3⟩, h4⟩ := h
  obtain ⟨a, d, x, y, bw, bh, e1, e2, a1, a2, b1, b2, hl, hb, w1, w2, hx, hy⟩ := inB_nat h1
  have h5 := (okB_t h2).2.2.2.2
  rw [hb] at h3 h4
  dsimp only at h3 h4
  rw [h3, h4, ← Int.natCast_mul] at h5
  exact ⟨a, d, x, y, bw, bh, e1, e2, a1, a2, b1, b2, hl, hb, w1, w2, hx, hy, h3, h4, Int.ofNat.inj h5⟩
theorem blay_c (W H : Int) (V : List Int) (v : Value) (b : Bd) (W' H' : Int) (U : List Int) (A' : Option Addr) (cq B1 : Nat) (w : World) (hO : OwnI w B1 v V) (hR' : ReadsI w A' U) (hn' : U.length ≤ 9223372036854775807) :
    Calls Try.prog 19 #[plV W H v, bdV b, plV W' H' (.slice A' U.length cq)] w fun e w' => e = .returned (.bool (layB W H V.length b W' H' U.length)) ∧ OwnI w' B1 v (layV W H V b W' H' U) ∧ w.grownBy w' v.ownBlock := by
  unfold layV
  cases h : layB W H V.length b W' H' U.length with
  | false =>
    obtain ⟨A, c, rfl, _⟩ := hO.slice
    refine (blay_no W H A V.length c b W' H' A' U.length cq w hO.max hn' h).mono ?_
    rintro e w' ⟨rfl, hb⟩
    exact ⟨rfl, hO.kept hb, only_of_below hb _⟩
  | true =>
    obtain ⟨a, d, x, y, bw, bh, rfl, rfl, a1, a2, b1, b2, hl, hb, w1, w2, hx, hy, rfl, rfl, hl2⟩ := layB_nat h
    rw [hb]
    obtain ⟨g, c, rfl, _⟩ := hO.formr (by rw [hl]; exact Nat.mul_pos a1 b1)
    refine (blay_yes a d V g c b.l b.o x y bw bh U A' cq B1 w hO hR' a1 a2 b1 b2 hl hl2 w1 w2 hx hy).mono ?_
    rintro e w' ⟨rfl, ho, hb⟩
    exact ⟨rfl, ho, ⟨hb.os, hb.tape, hb.output, hb.size, fun k hk hne => hb.block k hk (fun e => hne (by rw [e]; rfl)) (fun e => hne (by rw [e]; rfl))⟩⟩
theorem r10laid_c (W H : Int) (V : List Int) (A : Option Addr) (c : Nat) (b : Bd) (W' H' : Int) (U : List Int) (A' : Option Addr) (cq : Nat) (w : World) (hR : ReadsI w A V) (hR' : ReadsI w A' U) (hn : V.length ≤ 9223372036854775807) (hn' : U.length ≤ 9223372036854775807) :
    Calls Try.prog 20 #[plV W H (.slice A V.length c), bdV b, plV W' H' (.slice A' U.length cq)] w fun e w' => ∃ A1 c1, e = .returned (.tuple #[plV W H (.slice A1 V.length c1), .bool (layB W H V.length b W' H' U.length)]) ∧ ReadsI w' A1 (layV W H V b W' H' U) ∧ (layV W H V b W' H' U).length = V.length ∧ Below w.heap.size w w' := by
  unfold layV
  cases h : layB W H V.length b W' H' U.length with
  | false =>
    refine (r10laid_no W H A V.length c b W' H' A' U.length cq w hn hn' h).mono ?_
    rintro e w' ⟨rfl, hb⟩
    exact ⟨A, c, rfl, hR.kept hb, rfl, hb⟩
  | true =>
    obtain ⟨a, d, x, y, bw, bh, rfl, rfl, a1, a2, b1, b2, hl, hb, w1, w2, hx, hy, rfl, rfl, hl2⟩ := layB_nat h
    rw [hb]
    refine (r10laid_yes a d V A c b.l b.o x y bw bh U A' cq w hR hR' a1 a2 b1 b2 hl hl2 w1 w2 hx hy).mono ?_
    rintro e w' ⟨v, rfl, ho, hb⟩
    obtain ⟨A1, c1, rfl, hr⟩ := ho.slice
    have hz : (laidL V U a x y bw bh V.length).length = V.length := by unfold laidL; exact tab_length _ _
    rw [hz]
    exact ⟨A1, c1, rfl, hr, hz, hb⟩

end Go.Proofs.Ytjlajggilcihoaa
