/- Bands: words for laying a band row by row. -/
import Derived.Test.YtjlajggilcihoaaBd11
import Derived.Test.YtjlajggilcihoaaPl9
import Derived.Test.YtjlajggilcihoaaRng2
import Derived.Test.YtjlajggilcihoaaBut
import Derived.Laws.CopyOwn
namespace Go.Proofs.Ytjlajggilcihoaa
open Go.RowKit Go.Shelf
set_option linter.unusedVariables false
set_option linter.unusedSimpArgs false

/-- The numbers xs with ys over them from off on. -/
def overL (xs : List Int) (off : Nat) (ys : List Int) : List Int := xs.take off ++ (ys ++ xs.drop (off + ys.length))
theorem overL_length {xs ys : List Int} {off : Nat} (h : off + ys.length ≤ xs.length) : (overL xs off ys).length = xs.length := by simp [overL]; omega
theorem rdn_overL {xs ys : List Int} {off : Nat} (h : off + ys.length ≤ xs.length) (i : Nat) : rdn (overL xs off ys) i = if off ≤ i ∧ i < off + ys.length then rdn ys (i - off) else rdn xs i := by
  unfold overL rdn
  simp only [List.getD_eq_getElem?_getD]
  have hl : (xs.take off).length = off := by simp; omega
  by_cases h1 : i < off
  · rw [if_neg (by omega), List.getElem?_append_left (by omega), List.getElem?_take, if_pos h1]
  · rw [List.getElem?_append_right (by omega), hl]
    by_cases h2 : i < off + ys.length
    · rw [if_pos (by omega), List.getElem?_append_left (by omega)]
    · rw [if_neg (by omega), List.getElem?_append_right (by omega), List.getElem?_drop, show off + ys.length + (i - off - ys.length) = i by omega]
section
variable {V U : List Int} {a x y bw bh n k : Nat}
theorem mixL_from (hn : n = V.length) : mixL V U a x y bw bh n (y * a) = V := by
  subst hn
  unfold mixL
  rw [tab_congr (g := fun j => V.getD j 0) (fun j hj => ?_)]
  · exact tab_of V
  · by_cases h : j < y * a
    · rw [if_pos h]
      unfold laidK inK
      have hd : j / a < y := (Nat.div_lt_iff_lt_mul (Nat.pos_of_ne_zero (by rintro rfl; omega))).2 h
      rw [if_neg (by simp; intro _ _ h; omega)]
      rfl
    · rw [if_neg h]
      rfl
theorem mixL_to (ha : 0 < a) : mixL V U a x y bw bh n ((y + bh) * a) = laidL V U a x y bw bh n := by
  unfold mixL laidL
  refine tab_congr fun j hj => ?_
  by_cases h : j < (y + bh) * a
  · rw [if_pos h]
  · rw [if_neg h]
    unfold laidK inK
    have hd : y + bh ≤ j / a := (Nat.le_div_iff_mul_le ha).2 (by omega)
    rw [if_neg (by simp; intro _ _ _; omega)]
theorem mixL_row (ha : x + bw ≤ a) (hk : k < bh) (hn : (y + k + 1) * a ≤ n) (hu : U.length = bw * bh) :
    overL (mixL V U a x y bw bh n ((y + k) * a)) ((y + k) * a + x) (rowL bw U k) = mixL V U a x y bw bh n ((y + k + 1) * a) := by
  have hr : (rowL bw U k).length = bw := rowL_length (row_in hk hu)
  have hm : (y + k + 1) * a = (y + k) * a + a := by rw [Nat.add_mul _ 1, Nat.one_mul]
  have hf : (y + k) * a + x + (rowL bw U k).length ≤ (mixL V U a x y bw bh n ((y + k) * a)).length := by rw [mixL_length, hr]; omega
  refine ext_rdn (by rw [overL_length hf, mixL_length, mixL_length]) fun i hi => ?_
  rw [overL_length hf, mixL_length] at hi
  rw [rdn_overL hf, hr]
  unfold mixL
  rw [rdn_tab _ _ hi, rdn_tab _ _ hi, hm]
  by_cases h1 : i < (y + k) * a
  · rw [if_neg (by omega), if_pos h1, if_pos (by omega)]
  by_cases h2 : i < (y + k) * a + a
  · obtain ⟨c, rfl⟩ : ∃ c, i = (y + k) * a + c := ⟨i - (y + k) * a, by omega⟩
    have hc : c < a := by omega
    rw [if_neg h1, if_pos h2]
    unfold laidK inK
    rw [place_mod hc, place_div hc]
    by_cases h3 : x ≤ c ∧ c < x + bw
    · rw [if_pos (by omega), if_pos (by simp; omega), show (y + k) * a + c - ((y + k) * a + x) = c - x by omega, rdn_rowL (by omega), show y + k - y = k by omega]
    · rw [if_neg (by omega), if_neg (by simp; omega)]
  · rw [if_neg (by omega), if_neg h1, if_neg h2]
end
section
variable {w w' x : World} {B n1 i j : Nat} {K : Nat → Prop}
theorem ButTwo.setRow (h : ButTwo n1 i j w w') {g : Nat} (hp : g = i ∨ g = j ∨ n1 ≤ g) (cs : Array Value) : ButTwo n1 i j w (w'.setRow g cs) :=
  ⟨h.os, h.tape, h.output, by simpa [World.setRow] using h.size, fun k hk h1 h2 => (setRow_other w' g k cs (by rintro rfl; rcases hp with hp | hp | hp <;> omega)).trans (h.block k hk h1 h2)⟩
theorem ButTwo.qt (h : ButTwo n1 i j w w') (hn : n1 ≤ w.heap.size) (hB : n1 ≤ B) (q : Qt B w' x) : ButTwo n1 i j w x :=
  ⟨q.os.trans h.os, q.tape.trans h.tape, q.output.trans h.output, Nat.le_trans h.size q.size, fun k hk h1 h2 => by
    have hlt : k < w'.heap.size := by have := h.size; omega
    rw [← h.block k hk h1 h2, Array.getElem?_eq_getElem hlt]
    exact q.same k _ (Array.getElem?_eq_getElem hlt) (.inl (by omega))⟩
theorem KeepB.setRow (h : KeepB K w w') {g : Nat} (hp : ¬ K g) (cs : Array Value) : KeepB K w (w'.setRow g cs) :=
  h.trans ⟨by simp [World.setRow], fun k hk => setRow_other w' g k cs (fun e => hp (e ▸ hk))⟩
theorem keepsFrom_setRow {g : Nat} {t : TypeId} {cur cs : Array Value} (hg : w.heap[g]? = some (.cells cur t (0, 0))) : KeepsFrom B w (w.setRow g cs) :=
  ⟨by simp [World.setRow], fun k o _ hk ho => by
    by_cases e : k = g
    · subst e; rw [hg] at hk; cases hk; cases ho
    · exact (setRow_other w g k cs e).trans hk⟩
/-- Numbers are copied over a part of a row of the call's own. -/
theorem OwnI.cur {g c : Nat} {xs : List Int} {m : Nat} (h : OwnI w B (.slice (some ⟨g, 0, none⟩) m c) xs) : ∃ cur : Array Value, w.heap[g]? = some (.cells cur 3 (0, 0)) ∧ xs.length ≤ cur.size ∧
    ∀ (off : Nat) (ys : List Int), off + ys.length ≤ xs.length → OwnI (w.setRow g (cur.toList.take off ++ (ys.map (Value.int .i64) ++ cur.toList.drop (off + ys.length))).toArray) B (.slice (some ⟨g, 0, none⟩) m c) (overL xs off ys) := by
  obtain ⟨h1, h2⟩ := id h
  rcases h2 with ⟨h, _⟩ | ⟨g', cap, cur, hv, hg, hh, hc, hc2, hs, ht⟩
  · cases h
  · injection hv with hv hn hcc
    injection hv with hv
    injection hv with hv
    subst hv
    subst hn
    subst hcc
    rw [Nat.mul_one] at hs ht
    refine ⟨cur, hh, by omega, fun off ys hf => ⟨by rw [List.length_map, overL_length hf, Nat.mul_one], .inr ⟨g, c, _, by rw [overL_length hf], hg, setRow_heap w g _ _ _ _ hh, by rw [overL_length hf]; exact hc, hc2, by simp; omega, ?_⟩⟩⟩
    rw [overL_length hf, Nat.mul_one]
    unfold overL
    rw [List.map_append, List.map_append, List.map_take, List.map_drop, ← ht, List.take_take, Nat.min_eq_left (by omega)]
    have hl : (cur.toList.take off).length = off := by simp; omega
    rw [show xs.length = off + (xs.length - off) by omega, List.take_append, hl, show off + (xs.length - off) - off = xs.length - off by omega, List.take_of_length_le (by omega), List.take_append, List.length_map, List.take_of_length_le (l := ys.map _) (by simp; omega)]
    rw [List.drop_take, show off + (xs.length - off) - (off + ys.length) = xs.length - off - ys.length by omega]
end
theorem OwnI.caps {w : World} {B g n c : Nat} {xs : List Int} (h : OwnI w B (.slice (some ⟨g, 0, none⟩) n c) xs) : xs.length ≤ c ∧ c ≤ 9223372036854775807 := by
  obtain rfl := h.len.1
  rcases h.2 with ⟨h, _⟩ | ⟨g', cap, cur, hv, hg, hh, hc, hc2, hs, ht⟩
  · cases h
  · injection hv with hv hn hcc
    subst hcc
    unfold maxLen at hc2
    exact ⟨hc, by omega⟩
theorem ButTwo.of_below {n1 i j : Nat} {w w' : World} (h : Below n1 w w') : ButTwo n1 i j w w' := ⟨h.os, h.tape, h.output, h.size, fun k hk _ _ => h.block k hk⟩
theorem ButTwo.mono {n1 n2 i j : Nat} {w w' : World} (h : ButTwo n1 i j w w') (hn : n2 ≤ n1) : ButTwo n2 i j w w' := ⟨h.os, h.tape, h.output, h.size, fun k hk => h.block k (by omega)⟩
theorem add0 (g n : Nat) : (⟨g, 0, none⟩ : Addr).add n = ⟨g, n, none⟩ := by
  unfold Addr.add
  split
  · rename_i h; subst h; rfl
  · simp
theorem brow_g (a : Nat) (H : Int) (g n c : Nat) (l o : Int) (x y bw bh k : Nat) (w : World) (a1 : a ≤ 1024) (hx : x ≤ 1024) (hy : y + k ≤ 1024) (hw : bw ≤ 1024) (b1 : 1 ≤ bw) (hin : (y + k) * a + x + bw ≤ n) (hc : n ≤ c) (hc2 : c ≤ 9223372036854775807) :
    Calls Try.prog 28 #[plV a H (.slice (some ⟨g, 0, none⟩) n c), .agg #[.int .i64 l, .int .i64 o, .int .i64 x, .int .i64 y, .int .i64 bw, .int .i64 bh], .int .i64 k] w fun e w' => e = .returned (.slice (some ⟨g, (y + k) * a + x, none⟩) bw (c - ((y + k) * a + x))) ∧ Below w.heap.size w w' := by
  have h := brow_c a H ⟨g, 0, none⟩ n c l o x y bw bh k w a1 hx hy hw b1 hin hc hc2
  rw [add0] at h
  exact h
/-- What is left but in the normal way isn't left at all. -/
def onlyN (Q : Exit → Act → World → Prop) : Exit → Act → World → Prop
  | .normal, a, w => Q .normal a w
  | _, _, _ => False
theorem wp_onlyN {P : Program} {c : Code} {Q : Exit → Act → World → Prop} {a : Act} {w : World} (h : c.wp P (onlyN Q) a w) : c.wp P Q a w :=
  Code.wp_mono (fun e a w q => by cases e <;> first | exact q | exact q.elim) h
theorem prows_b (W H : Int) (v : Value) (w : World) :
    Calls Try.prog 32 #[plV W H v] w fun e w' => ∃ b, e = .returned (.func (.func 38) #[] #[.pointer (some ⟨b, 0, none⟩)]) ∧ Blk w' b 39 #[.int .i64 W, .int .i64 H, v] ∧ w.heap.size ≤ b ∧ Below w.heap.size w w' := by
  refine (prows_c W H v w).mono ?_
  rintro e w' ⟨rfl, rfl⟩
  exact ⟨w.heap.size, rfl, Blk.new _ _ _, Nat.le_refl _, below_alloc_ (Below.refl _ _) _⟩

end Go.Proofs.Ytjlajggilcihoaa
