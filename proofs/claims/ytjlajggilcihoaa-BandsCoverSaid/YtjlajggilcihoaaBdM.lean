/- Lists of bands in memory. -/
import Derived.Test.YtjlajggilcihoaaBd6
import Derived.Test.YtjlajggilcihoaaOwn2
namespace Go.Proofs.Ytjlajggilcihoaa
open Go.RowKit
set_option linter.unusedVariables false
set_option linter.unusedSimpArgs false

def flB (bs : List Bd) : List Value := bs.flatMap bdC
theorem flB_nil : flB [] = [] := rfl
theorem flB_append (xs ys : List Bd) : flB (xs ++ ys) = flB xs ++ flB ys := by simp [flB]
theorem flB_length (bs : List Bd) : (flB bs).length = bs.length * 6 := by
  induction bs with
  | nil => rfl
  | cons b bs ih =>
    have : flB (b :: bs) = bdC b ++ flB bs := by simp [flB]
    rw [this, List.length_append, ih, List.length_cons, Nat.add_mul]
    simp [bdC]
    omega
theorem flB_at : ∀ (bs : List Bd) {i j : Nat} (hi : i < bs.length) (hj : j < 6), (flB bs)[i * 6 + j]? = (bdC bs[i])[j]?
  | b :: bs, 0, j, _, hj => by
    have h : flB (b :: bs) = bdC b ++ flB bs := by simp [flB]
    rw [h, Nat.zero_mul, Nat.zero_add, List.getElem?_append_left (by simpa [bdC] using hj)]
    rfl
  | b :: bs, i + 1, j, hi, hj => by
    have h : flB (b :: bs) = bdC b ++ flB bs := by simp [flB]
    have hl : (bdC b).length = 6 := rfl
    rw [h, List.getElem?_append_right (by omega), hl, show (i + 1) * 6 + j - 6 = i * 6 + j by omega]
    exact flB_at bs (by simpa using hi) hj
def OwnB (w : World) (B : Nat) (v : Value) (bs : List Bd) : Prop := w.ownsRow B 31 6 v bs.length (flB bs)
def ReadsB (w : World) (A : Option Addr) (bs : List Bd) : Prop := Reads w w.heap.size 6 A bs.length (flB bs)
theorem info_band : (Try.prog.info? 31).map (fun i => (i.zero, i.size, i.bytes)) = some (some (.agg #[.int .i64 0, .int .i64 0, .int .i64 0, .int .i64 0, .int .i64 0, .int .i64 0]), 6, 48) := by kernel_rfl
theorem add_offB (ad : Addr) (n m : Nat) : ad.add (n + (m + 1)) = ⟨(ad.add n).block, (ad.add n).off + (m + 1), none⟩ := by
  unfold Addr.add
  rw [if_neg (by omega)]
  split
  · rename_i h; subst h; simp
  · simp; omega
section
variable {w w' : World} {B B' g : Nat} {v : Value} {bs : List Bd} {A : Option Addr}
theorem OwnB.nil (w : World) (B : Nat) : OwnB w B (.slice none 0 0) [] := World.ownsRow_nil w B _ _
theorem OwnB.kept (h : OwnB w B v bs) (hb : Below w.heap.size w w') : OwnB w' B v bs := World.ownsRow.kept h (only_of_below hb none) (by cases v.ownBlock <;> simp)
theorem OwnB.grown {row : Option Nat} (h : OwnB w B v bs) (hb : w.grownBy w' row) (hne : v.ownBlock = none ∨ v.ownBlock ≠ row) : OwnB w' B v bs := World.ownsRow.kept h hb hne
theorem OwnB.lower (h : OwnB w B v bs) (hB : B' ≤ B) : OwnB w B' v bs := by
  obtain ⟨h1, h2⟩ := h
  refine ⟨h1, ?_⟩
  rcases h2 with h2 | ⟨g, cap, cur, hv, hg, r⟩
  · exact .inl h2
  · exact .inr ⟨g, cap, cur, hv, by omega, r⟩
theorem OwnB.alloc (h : OwnB w B v bs) (o : Obj) : OwnB (w.alloc o) B v bs := World.ownsRow.alloc h o
theorem OwnB.drew (h : OwnB w B v bs) : OwnB w.drew B v bs := h.kept ⟨rfl, rfl, rfl, Nat.le_refl _, fun _ _ => rfl⟩
theorem OwnB.slice (h : OwnB w B v bs) : ∃ A c, v = .slice A bs.length c ∧ ReadsB w A bs := by
  obtain ⟨h1, h2⟩ := id h
  rcases h2 with ⟨rfl, h2⟩ | ⟨g, cap, cur, rfl, hg, r⟩
  · have : bs.length = 0 := h2
    have : bs = [] := List.eq_nil_of_length_eq_zero this
    subst this
    exact ⟨none, 0, rfl, Reads.none_⟩
  · exact ⟨_, cap, rfl, Reads.of_own (c := cap) h⟩
theorem OwnB.set_ {i : Nat} {t : TypeId} {cs : Array Value} (h : OwnB w B v bs) (hg : Blk w g t cs) (ht : 31 ≠ t) (x : Value) : OwnB (w.setCell ⟨g, i, none⟩ x) B v bs :=
  OwnB.grown h (only_setCell (World.grownBy.refl w (some g)) (.inl rfl) x) (.inr (own_blk_ne h hg ht))
theorem OwnB.blk_lt (h : OwnB w B v bs) : ∀ k, v.ownBlock = some k → B ≤ k ∧ k < w.heap.size := World.ownsRow.lt h
theorem OwnB.below (h : OwnB w B v bs) {W : World} (hb : Below B W w) (hB : B ≤ w.heap.size) (hg : w.grownBy w' v.ownBlock) : Below B W w' := hb.grown hg hB (fun k hk => (h.blk_lt k hk).1)
theorem Blk.appB {t : TypeId} {cs : Array Value} (hb : Blk w g t cs) (h : OwnB w B v bs) (ht : 31 ≠ t) (hg : w.grownBy w' v.ownBlock) : Blk w' g t cs := hb.grown hg (fun e => own_blk_ne h hb ht e.symm)
theorem ReadsB.kept (h : ReadsB w A bs) (hb : Below w.heap.size w w') : ReadsB w' A bs := Reads.more (Reads.below h hb) hb.size
theorem ReadsB.alloc (h : ReadsB w A bs) (o : Obj) : ReadsB (w.alloc o) A bs := h.kept ((Below.refl _ _).alloc (Nat.le_refl _) _)
theorem ReadsB.drew (h : ReadsB w A bs) : ReadsB w.drew A bs := h
theorem ReadsB.at_ (h : ReadsB w A bs) {i : Nat} (hi : i < bs.length) : ∃ ad, A = some ad ∧ ad.block < w.heap.size ∧ w.cell? (ad.add (i * 6)) = some (.int .i64 bs[i].l) ∧ w.cell? ⟨(ad.add (i * 6)).block, (ad.add (i * 6)).off + 1, none⟩ = some (.int .i64 bs[i].o) ∧
    w.cell? ⟨(ad.add (i * 6)).block, (ad.add (i * 6)).off + 2, none⟩ = some (.int .i64 bs[i].x) ∧ w.cell? ⟨(ad.add (i * 6)).block, (ad.add (i * 6)).off + 3, none⟩ = some (.int .i64 bs[i].y) ∧
    w.cell? ⟨(ad.add (i * 6)).block, (ad.add (i * 6)).off + 4, none⟩ = some (.int .i64 bs[i].w) ∧ w.cell? ⟨(ad.add (i * 6)).block, (ad.add (i * 6)).off + 5, none⟩ = some (.int .i64 bs[i].h) := by
  obtain ⟨ad, e, hb, hc⟩ := h.2 (by omega)
  refine ⟨ad, e, hb, ?_, ?_, ?_, ?_, ?_, ?_⟩
  · have := hc (i * 6 + 0) _ (flB_at bs hi (j := 0) (by omega))
    simpa using this
  · rw [← add_offB ad (i * 6) 0]; exact hc _ _ (flB_at bs hi (j := 1) (by omega))
  · rw [← add_offB ad (i * 6) 1]; exact hc _ _ (flB_at bs hi (j := 2) (by omega))
  · rw [← add_offB ad (i * 6) 2]; exact hc _ _ (flB_at bs hi (j := 3) (by omega))
  · rw [← add_offB ad (i * 6) 3]; exact hc _ _ (flB_at bs hi (j := 4) (by omega))
  · rw [← add_offB ad (i * 6) 4]; exact hc _ _ (flB_at bs hi (j := 5) (by omega))
/-- The whole of a block read as a row. -/
theorem Blk.readsAll {t : TypeId} {cs : List Value} {m : Nat} (h : Blk w g t cs.toArray) (hm : cs.length = m * 6) : Reads w (g + 1) 6 (some ⟨g, 0, none⟩) m cs := by
  refine ⟨hm, fun _ => ⟨_, rfl, by simp, fun j u hu => ?_⟩⟩
  rw [show (⟨g, 0, none⟩ : Addr).add j = ⟨g, j, none⟩ by unfold Addr.add; split <;> simp_all, h.cell j]
  simpa using hu
theorem flB_one (bs : List Bd) : ∀ u ∈ flB bs, u.oneCell' = true := by
  intro u hu
  obtain ⟨b, _, hb⟩ := List.mem_flatMap.1 hu
  simp [bdC] at hb
  rcases hb with rfl | rfl | rfl | rfl | rfl | rfl <;> rfl
theorem wpList_appB {ops : Array Oper} {rest : List Oper} {o : Oper} {a : Act} {Q : Exit → Act → World → Prop} (hgd : o.guard = none) (s x : Operand) (t : TypeId)
    (ho : o.op = .call { callee := .builtin .append, args := #[s, x], argTypes := #[t, t] }) (ht : Try.prog.underlying t = some (.slice 31)) (v : Value) (xs : List Bd) (hs : a.eval s = v) (base : Nat) (hown : OwnB w base v xs)
    (A : Option Addr) (B m c : Nat) (ys : List Bd) (hul : ys.length = m) (hx : a.eval x = .slice A m c) (hr : Reads w B 6 A m (flB ys))
    (hlen : xs.length + m ≤ 1000000) (hbase : base ≤ w.heap.size)
    (h : ∀ v' w', OwnB w' base v' (xs ++ ys) → w.grownBy w' v.ownBlock → (v'.ownBlock = v.ownBlock ∨ v'.ownBlock = some w.heap.size) → wpList Try.prog ops Q rest (a.put o.dst v') w') : wpList Try.prog ops Q (o :: rest) a w := by
  subst hul
  obtain ⟨i0, hi, hz0, hz1, hz2⟩ := info_parts info_band
  refine wpList_append_any w hgd s x t ho base 31 i0 (.agg #[.int .i64 0, .int .i64 0, .int .i64 0, .int .i64 0, .int .i64 0, .int .i64 0]) 6 48 ht hi hz0 hz1 hz2 rfl (by omega) v xs.length _ hs hown B A ys.length c _ hx hr (flB_one ys) (by unfold maxLen; omega) (by omega) hbase (fun v' w' h1 h2 h3 => h v' w' ?_ h2 h3)
  unfold OwnB
  rw [List.length_append, flB_append]
  exact h1
end
end Go.Proofs.Ytjlajggilcihoaa
