/- Rows of structs in memory: things that take a fixed number of cells each. -/
import Derived.Test.YtgdlleoefncikaaMono3
namespace Go.Proofs.Ytgdlleoefncikaa
open Go.RowKit Go.Sort
set_option linter.unusedVariables false
set_option linter.unusedSimpArgs false

/-- How a thing lies in memory: its type, its cells. -/
structure Enc (α : Type) where
  t : TypeId
  n : Nat
  bytes : Nat
  z : Value
  c : α → List Value
  hl : ∀ a, (c a).length = n
  hn : 0 < n
  one : ∀ a, ∀ u ∈ c a, u.oneCell' = true
  info : (Try.prog.info? t).map (fun i => (i.zero, i.size, i.bytes)) = some (some z, n, bytes)
  zs : z.cells.size = n
  small : bytes ≤ 1000

section
variable {α : Type} {E : Enc α} {w w' : World} {B B' g : Nat} {v : Value} {xs : List α} {A : Option Addr}
def flE (E : Enc α) (xs : List α) : List Value := xs.flatMap E.c
theorem flE_nil : flE E [] = [] := rfl
theorem flE_append (xs ys : List α) : flE E (xs ++ ys) = flE E xs ++ flE E ys := by simp [flE]
theorem flE_cons (x : α) (xs : List α) : flE E (x :: xs) = E.c x ++ flE E xs := by simp [flE]
theorem flE_one (x : α) : flE E [x] = E.c x := by simp [flE]
theorem flE_length (xs : List α) : (flE E xs).length = xs.length * E.n := by
  induction xs with
  | nil => simp [flE]
  | cons x xs ih => rw [flE_cons, List.length_append, ih, E.hl, List.length_cons, Nat.add_mul]; omega
theorem flE_at : ∀ (xs : List α) {i j : Nat} (hi : i < xs.length) (hj : j < E.n), (flE E xs)[i * E.n + j]? = (E.c xs[i])[j]?
  | x :: xs, 0, j, _, hj => by
    rw [flE_cons, Nat.zero_mul, Nat.zero_add, List.getElem?_append_left (by rw [E.hl]; exact hj)]
    rfl
  | x :: xs, i + 1, j, hi, hj => by
    rw [flE_cons, List.getElem?_append_right (by rw [E.hl, Nat.add_mul]; omega), E.hl, show (i + 1) * E.n + j - E.n = i * E.n + j by rw [Nat.add_mul]; omega]
    exact flE_at xs (by simpa using hi) hj
theorem flE_ones (xs : List α) : ∀ u ∈ flE E xs, u.oneCell' = true := by
  intro u hu
  obtain ⟨b, _, hb⟩ := List.mem_flatMap.1 hu
  exact E.one b u hb
def OwnE (E : Enc α) (w : World) (B : Nat) (v : Value) (xs : List α) : Prop := w.ownsRow B E.t E.n v xs.length (flE E xs)
def ReadsE (E : Enc α) (w : World) (A : Option Addr) (xs : List α) : Prop := Reads w w.heap.size E.n A xs.length (flE E xs)
theorem OwnE.nil (w : World) (B : Nat) : OwnE E w B (.slice none 0 0) [] := World.ownsRow_nil w B _ _
theorem OwnE.kept (h : OwnE E w B v xs) (hb : Below w.heap.size w w') : OwnE E w' B v xs := World.ownsRow.kept h (only_of_below hb none) (by cases v.ownBlock <;> simp)
theorem OwnE.grown {row : Option Nat} (h : OwnE E w B v xs) (hb : w.grownBy w' row) (hne : v.ownBlock = none ∨ v.ownBlock ≠ row) : OwnE E w' B v xs := World.ownsRow.kept h hb hne
theorem OwnE.lower (h : OwnE E w B v xs) (hB : B' ≤ B) : OwnE E w B' v xs := by
  obtain ⟨h1, h2⟩ := h
  refine ⟨h1, ?_⟩
  rcases h2 with h2 | ⟨g, cap, cur, hv, hg, r⟩
  · exact .inl h2
  · exact .inr ⟨g, cap, cur, hv, by omega, r⟩
theorem OwnE.alloc (h : OwnE E w B v xs) (o : Obj) : OwnE E (w.alloc o) B v xs := World.ownsRow.alloc h o
theorem OwnE.drew (h : OwnE E w B v xs) : OwnE E w.drew B v xs := h.kept ⟨rfl, rfl, rfl, Nat.le_refl _, fun _ _ => rfl⟩
theorem OwnE.max (h : OwnE E w B v xs) : xs.length ≤ 9223372036854775807 := by
  rcases h.2 with ⟨_, h2⟩ | ⟨g, cap, cur, _, _, _, h3, h4, _⟩
  · omega
  · unfold maxLen at h4
    omega
theorem OwnE.slice (h : OwnE E w B v xs) : ∃ A c, v = .slice A xs.length c ∧ ReadsE E w A xs := by
  obtain ⟨h1, h2⟩ := id h
  rcases h2 with ⟨rfl, h2⟩ | ⟨g, cap, cur, rfl, hg, r⟩
  · have : xs.length = 0 := h2
    have : xs = [] := List.eq_nil_of_length_eq_zero this
    subst this
    exact ⟨none, 0, rfl, by
      have : flE E ([] : List α) = [] := rfl
      unfold ReadsE
      rw [this]
      exact Reads.none_⟩
  · exact ⟨_, cap, rfl, Reads.of_own (c := cap) h⟩
theorem OwnE.reads {n c : Nat} (h : OwnE E w B (.slice A n c) xs) : ReadsE E w A xs := by
  obtain ⟨A', c', e, hr⟩ := h.slice
  injection e with e1 e2 e3
  subst e1
  exact hr
theorem OwnE.set_ {i : Nat} {t : TypeId} {cs : Array Value} (h : OwnE E w B v xs) (hg : Blk w g t cs) (ht : E.t ≠ t) (x : Value) : OwnE E (w.setCell ⟨g, i, none⟩ x) B v xs :=
  OwnE.grown h (only_setCell (World.grownBy.refl w (some g)) (.inl rfl) x) (.inr (own_blk_ne h hg ht))
theorem OwnE.blk_lt (h : OwnE E w B v xs) : ∀ k, v.ownBlock = some k → B ≤ k ∧ k < w.heap.size := World.ownsRow.lt h
theorem OwnE.below (h : OwnE E w B v xs) {W : World} (hb : Below B W w) (hB : B ≤ w.heap.size) (hg : w.grownBy w' v.ownBlock) : Below B W w' := hb.grown hg hB (fun k hk => (h.blk_lt k hk).1)
theorem Blk.appE {t : TypeId} {cs : Array Value} (hb : Blk w g t cs) (h : OwnE E w B v xs) (ht : E.t ≠ t) (hg : w.grownBy w' v.ownBlock) : Blk w' g t cs := hb.grown hg (fun e => own_blk_ne h hb ht e.symm)
theorem ReadsE.kept (h : ReadsE E w A xs) (hb : Below w.heap.size w w') : ReadsE E w' A xs := Reads.more (Reads.below h hb) hb.size
theorem ReadsE.alloc (h : ReadsE E w A xs) (o : Obj) : ReadsE E (w.alloc o) A xs := h.kept ((Below.refl _ _).alloc (Nat.le_refl _) _)
theorem ReadsE.drew (h : ReadsE E w A xs) : ReadsE E w.drew A xs := h
theorem ReadsE.nil (w : World) : ReadsE E w none [] := by
  have : flE E ([] : List α) = [] := rfl
  unfold ReadsE
  rw [this]
  exact Reads.none_
theorem add_offE (ad : Addr) (n m : Nat) : ad.add (n + (m + 1)) = ⟨(ad.add n).block, (ad.add n).off + (m + 1), none⟩ := by
  unfold Addr.add
  rw [if_neg (by omega)]
  split
  · rename_i h; subst h; simp
  · simp; omega
theorem ReadsE.at_ (h : ReadsE E w A xs) {i : Nat} (hi : i < xs.length) : ∃ ad, A = some ad ∧ ad.block < w.heap.size ∧ (∀ u, (E.c xs[i])[0]? = some u → w.cell? (ad.add (i * E.n)) = some u) ∧
    ∀ j u, (E.c xs[i])[j + 1]? = some u → w.cell? ⟨(ad.add (i * E.n)).block, (ad.add (i * E.n)).off + (j + 1), none⟩ = some u := by
  obtain ⟨ad, e, hb, hc⟩ := h.2 (by omega)
  have hlt : ∀ j u, (E.c xs[i])[j]? = some u → j < E.n := fun j u hu => by
    rw [← E.hl xs[i]]; exact (List.getElem?_eq_some_iff.1 hu).1
  refine ⟨ad, e, hb, fun u hu => ?_, fun j u hu => ?_⟩
  · have := hc (i * E.n + 0) u (by rw [flE_at xs hi (hlt 0 u hu)]; exact hu)
    simpa using this
  · rw [← add_offE ad (i * E.n) j]
    exact hc _ u (by rw [flE_at xs hi (hlt _ u hu)]; exact hu)
/-- The cells of a row that the call owns. -/
theorem OwnE.form (h : OwnE E w B v xs) (hp : 0 < xs.length) : ∃ g c, v = .slice (some ⟨g, 0, none⟩) xs.length c ∧ B ≤ g ∧ g < w.heap.size := by
  obtain ⟨g, cap, rfl, hg, hlt⟩ := World.ownsRow.form h hp
  exact ⟨g, cap, rfl, hg, hlt⟩
theorem OwnE.len {m c : Nat} (h : OwnE E w B (.slice (some ⟨g, 0, none⟩) m c) xs) : m = xs.length ∧ B ≤ g ∧ g < w.heap.size := by
  rcases h.2 with ⟨e, _⟩ | ⟨g', cap, cur, e, hb, hh, _⟩
  · cases e
  · injection e with e1 e2 e3
    injection e1 with e1
    injection e1 with e1
    subst e1
    refine ⟨e2, hb, ?_⟩
    rcases Nat.lt_or_ge g w.heap.size with hlt | hge
    · exact hlt
    · rw [Array.getElem?_eq_none hge] at hh; cases hh
theorem OwnE.cell {m c : Nat} (h : OwnE E w B (.slice (some ⟨g, 0, none⟩) m c) xs) {i j : Nat} (hi : i < xs.length) {u : Value} (hu : (E.c xs[i])[j]? = some u) : w.cell? ⟨g, i * E.n + j, none⟩ = some u := by
  have hm := h.len.1
  subst hm
  have hj : j < E.n := by rw [← E.hl xs[i]]; exact (List.getElem?_eq_some_iff.1 hu).1
  have := World.ownsRow.cellAt h (i * E.n + j) (by
    have h1 : (i + 1) * E.n ≤ xs.length * E.n := Nat.mul_le_mul_right _ hi
    rw [Nat.add_mul] at h1
    omega)
  rw [this, flE_at xs hi hj]
  exact hu
theorem OwnE.frozen {m c : Nat} (h : OwnE E w B (.slice (some ⟨g, 0, none⟩) m c) xs) (j : Nat) : w.frozen? ⟨g, j, none⟩ = false := by
  have hm := h.len.1
  subst hm
  exact World.ownsRow.frozenAt h j
theorem ownsRow_setCells {e : TypeId} {size n c : Nat} : ∀ (vs : List Value) (o : Nat) {w : World} {ys : List Value}, w.ownsRow B e size (.slice (some ⟨g, 0, none⟩) n c) n ys → (w.setCells g o vs).ownsRow B e size (.slice (some ⟨g, 0, none⟩) n c) n (ys.take o ++ (vs ++ ys.drop (o + vs.length)) |>.take ys.length) ∨ ys.length < o + vs.length
  | [], o, w, ys, h => .inl (by
      simp only [World.setCells, List.nil_append, List.length_nil, Nat.add_zero, List.take_append_drop, List.take_length]
      exact h)
  | v :: vs, o, w, ys, h => by
    by_cases hlt : ys.length < o + (v :: vs).length
    · exact .inr hlt
    · refine .inl ?_
      simp only [List.length_cons] at hlt ⊢
      have h1 := World.ownsRow.stored h o v
      rcases ownsRow_setCells vs (o + 1) h1.1 with h2 | h2
      · rw [World.setCells]
        have e1 : (ys.set o v).take (o + 1) = ys.take o ++ [v] := by
          rw [List.take_set, List.take_add_one, List.getElem?_eq_getElem (by omega), Option.toList_some, List.set_append_right _ _ (by simp; omega)]
          simp [List.length_take, show min o ys.length = o by omega]
        have e2 : (ys.set o v).drop (o + 1 + vs.length) = ys.drop (o + (vs.length + 1)) := by
          rw [List.drop_set_of_lt (by omega)]
          congr 1
          omega
        rw [e1, e2, List.length_set, List.append_assoc] at h2
        exact h2
      · rw [List.length_set] at h2
        omega
theorem flE_set (i : Nat) (xs : List α) (b : α) (hi : i < xs.length) : (flE E xs).take (i * E.n) ++ (E.c b ++ (flE E xs).drop (i * E.n + E.n)) = flE E (xs.set i b) := by
  have h1 : flE E xs = flE E (xs.take i) ++ (E.c xs[i] ++ flE E (xs.drop (i + 1))) := by
    rw [← flE_cons, ← flE_append, List.getElem_cons_drop, List.take_append_drop]
  have hl1 : (flE E (xs.take i)).length = i * E.n := by rw [flE_length, List.length_take, Nat.min_eq_left (by omega)]
  have h2 : (flE E xs).take (i * E.n) = flE E (xs.take i) := by rw [h1, ← hl1, List.take_left]
  have h3 : (flE E xs).drop (i * E.n + E.n) = flE E (xs.drop (i + 1)) := by
    rw [h1, ← List.drop_drop, ← hl1, List.drop_left, ← E.hl xs[i], List.drop_left]
  rw [h2, h3, ← flE_cons, ← flE_append, List.set_eq_take_append_cons_drop, if_pos hi]
/-- A thing stored whole. -/
theorem OwnE.put {m c : Nat} (h : OwnE E w B (.slice (some ⟨g, 0, none⟩) m c) xs) {i : Nat} (hi : i < xs.length) (b : α) : OwnE E (w.setCells g (i * E.n) (E.c b)) B (.slice (some ⟨g, 0, none⟩) m c) (xs.set i b) := by
  have hm := h.len.1
  subst hm
  have hlen : (flE E xs).length = xs.length * E.n := flE_length xs
  have hle : i * E.n + E.n ≤ xs.length * E.n := by
    have h1 : (i + 1) * E.n ≤ xs.length * E.n := Nat.mul_le_mul_right _ hi
    rw [Nat.add_mul] at h1
    omega
  rcases ownsRow_setCells (B := B) (E.c b) (i * E.n) h with h1 | h1
  · rw [E.hl, flE_set i xs b hi, List.take_of_length_le (by rw [flE_length, flE_length, List.length_set]; omega)] at h1
    unfold OwnE
    rw [List.length_set]
    exact h1
  · rw [E.hl, hlen] at h1
    omega
theorem setCells_grown {W : World} {vs : List Value} : ∀ {o : Nat} {w : World}, W.grownBy w (some g) → W.grownBy (w.setCells g o vs) (some g) := by
  induction vs with
  | nil => exact fun h => h
  | cons v vs ih => exact fun h => ih (only_setCell h (.inl rfl) v)
theorem setCells_size {vs : List Value} : ∀ {o : Nat} {w : World}, (w.setCells g o vs).heap.size = w.heap.size := by
  induction vs with
  | nil => intro o w; rfl
  | cons v vs ih => intro o w; rw [World.setCells, ih]; simp [World.setCell]
/-- A block that is just such things. -/
def RowE (E : Enc α) (w : World) (g : Nat) (xs : List α) : Prop := Blk w g E.t (flE E xs).toArray
theorem RowE.own (h : RowE E w g xs) (hB : B ≤ g) (hm : xs.length ≤ maxLen) : OwnE E w B (.slice (some ⟨g, 0, none⟩) xs.length xs.length) xs :=
  ⟨flE_length xs, .inr ⟨g, xs.length, _, rfl, hB, h, Nat.le_refl _, hm, by simp [flE_length], by rw [List.take_of_length_le (by simp [flE_length])]⟩⟩
theorem RowE.reads (h : RowE E w g xs) (hm : xs.length ≤ maxLen) : ReadsE E w (some ⟨g, 0, none⟩) xs := Reads.of_own (h.own (Nat.zero_le _) hm)
theorem RowE.new (w : World) (xs : List α) : RowE E (w.alloc (.cells (flE E xs).toArray E.t)) w.heap.size xs := Blk.new _ _ _
/-- The whole of a block read as a row. -/
theorem Blk.readsN {t : TypeId} {cs : List Value} {m n : Nat} (h : Blk w g t cs.toArray) (hm : cs.length = m * n) : Reads w (g + 1) n (some ⟨g, 0, none⟩) m cs := by
  refine ⟨hm, fun _ => ⟨_, rfl, by simp, fun j u hu => ?_⟩⟩
  rw [show (⟨g, 0, none⟩ : Addr).add j = ⟨g, j, none⟩ by unfold Addr.add; split <;> simp_all, h.cell j]
  simpa using hu
theorem wpList_appE {ops : Array Oper} {rest : List Oper} {o : Oper} {a : Act} {Q : Exit → Act → World → Prop} (hgd : o.guard = none) (s x : Operand) (t : TypeId)
    (ho : o.op = .call { callee := .builtin .append, args := #[s, x], argTypes := #[t, t] }) (ht : Try.prog.underlying t = some (.slice E.t)) (v : Value) (xs : List α) (hs : a.eval s = v) (base : Nat) (hown : OwnE E w base v xs)
    (A : Option Addr) (B m c : Nat) (ys : List α) (hul : ys.length = m) (hx : a.eval x = .slice A m c) (hr : Reads w B E.n A m (flE E ys))
    (hlen : xs.length + m ≤ 10000000) (hbase : base ≤ w.heap.size)
    (h : ∀ v' w', OwnE E w' base v' (xs ++ ys) → w.grownBy w' v.ownBlock → (v'.ownBlock = v.ownBlock ∨ v'.ownBlock = some w.heap.size) → wpList Try.prog ops Q rest (a.put o.dst v') w') : wpList Try.prog ops Q (o :: rest) a w := by
  subst hul
  obtain ⟨i0, hi, hz0, hz1, hz2⟩ := info_parts E.info
  refine wpList_append_any w hgd s x t ho base E.t i0 E.z E.n E.bytes ht hi hz0 hz1 hz2 E.zs E.hn v xs.length _ hs hown B A ys.length c _ hx hr (flE_ones ys) (by unfold maxLen; omega) (by
    have := E.small
    have h1 : (xs.length + ys.length) * E.bytes ≤ 10000000 * 1000 := Nat.mul_le_mul hlen this
    omega) hbase (fun v' w' h1 h2 h3 => h v' w' ?_ h2 h3)
  unfold OwnE
  rw [List.length_append, flE_append]
  exact h1
end
/-- Things appended onto an empty literal: a new row. -/
theorem append_litE {α : Type} (E : Enc α) (t : TypeId) (ht : Try.prog.underlying t = some (.slice E.t)) (T : TypeId) {w : World} {B0 : Nat} {g : Nat} (hO : OwnE E w B0 (.slice (some ⟨g, 0, none⟩) 0 0) []) {A : Option Addr} {V : List α} (hr : ReadsE E w A V) (c : Nat) (hlen : V.length ≤ 10000000) (hB : B0 ≤ w.heap.size) :
    ∃ A' c' w', (Builtin.append_ #[t, t] T #[.slice (some ⟨g, 0, none⟩) 0 0, .slice A V.length c]).run Try.prog w = .ok (.slice A' V.length c') w' ∧ OwnE E w' B0 (.slice A' V.length c') V ∧ Below w.heap.size w w' := by
  obtain ⟨i0, hi, hz0, hz1, hz2⟩ := info_parts E.info
  have hsm := E.small
  have hn := E.hn
  rcases Nat.eq_zero_or_pos V.length with h0 | h0
  · have hV : V = [] := List.eq_nil_of_length_eq_zero h0
    subst hV
    have hn : (Builtin.append_ #[t, t] T #[.slice (some ⟨g, 0, none⟩) 0 0, .slice A 0 c]).run Try.prog w = .ok (.slice (some ⟨g, 0, none⟩) 0 0) w := by
      cases A with
      | none => simp [Builtin.append_, run_underlying ht, sizeOf, typeInfo, hi, Builtin.lenOf, Builtin.firstCells, storeCells]
      | some ad => simp [Builtin.append_, run_underlying ht, sizeOf, typeInfo, hi, Builtin.lenOf, run_firstCells_some (P := Try.prog) w i0.size 0 ad 0 c [] (by simp) (by simp), storeCells]
    exact ⟨_, _, w, hn, hO, Below.refl _ _⟩
  · obtain ⟨ad, rfl, _, hc⟩ := hr.2 h0
    have hb : V.length * E.bytes ≤ 10000000 * 1000 := Nat.mul_le_mul hlen hsm
    have hrun := run_append_grow (P := Try.prog) w t T E.t i0 E.z ht hi hz0 ⟨g, 0, none⟩ 0 0 [] (by simp) (by simp) ad V.length c (flE E V) (by rw [hz1]; exact flE_length V) hc (by omega) (by omega) (by
      refine growslice_fits (by omega) (by rw [hz2, Nat.zero_add]; omega))
    have hge := grownCap_ge w V.length 0 E.t
    have hcm : grownCap w V.length 0 E.t ≤ maxLen := grownCap_le_maxLen w V.length 0 E.t (by unfold maxLen; omega)
    simp only [Nat.zero_add] at hrun
    generalize grownCap w V.length 0 E.t = cap at hrun hge hcm
    refine ⟨_, _, _, hrun, ⟨flE_length V, .inr ⟨w.heap.size, cap, _, rfl, hB, heap_alloc_new w.drew _, hge, hcm, ?_, ?_⟩⟩, ⟨rfl, rfl, rfl, by simp, fun k hk => heap_alloc_old w.drew _ hk⟩⟩
    · simp only [Array.size_append, List.size_toArray, size_zeroCells, E.zs, flE_length, List.length_nil, Nat.zero_add, ← Nat.add_mul]
      congr 1
      omega
    · simp only [Array.toList_append, List.nil_append]
      rw [← flE_length (E := E) V]
      exact List.take_left
end Go.Proofs.Ytgdlleoefncikaa
