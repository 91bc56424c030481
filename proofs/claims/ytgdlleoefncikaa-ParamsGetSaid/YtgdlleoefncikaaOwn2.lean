/- Two rows of the call's own side by side; one number appended. -/
import Derived.Test.YtgdlleoefncikaaApp
namespace Go.Proofs.Ytgdlleoefncikaa
open Go.RowKit
set_option linter.unusedVariables false
set_option linter.unusedSimpArgs false

/-- Two rows that share no block. -/
def Diff (v u : Value) : Prop := ∀ k, v.ownBlock = some k → u.ownBlock ≠ some k
theorem Diff.symm {v u : Value} (h : Diff v u) : Diff u v := fun k h1 h2 => h k h2 h1
theorem Diff.nil_l (u : Value) (n c : Nat) : Diff (.slice none n c) u := fun k h => by simp [Value.ownBlock] at h
theorem Diff.nil_r (u : Value) (n c : Nat) : Diff u (.slice none n c) := (Diff.nil_l u n c).symm
section
variable {w w' : World} {B : Nat} {u v v' : Value} {xs ys : List Int}
theorem OwnI.blk_lt (h : OwnI w B v xs) : ∀ k, v.ownBlock = some k → B ≤ k ∧ k < w.heap.size := World.ownsRow.lt h
theorem OwnI.alloc (h : OwnI w B v xs) (o : Obj) : OwnI (w.alloc o) B v xs := World.ownsRow.alloc h o
theorem OwnI.other (hu : OwnI w B u ys) (hd : Diff v u) (hg : w.grownBy w' v.ownBlock) (hat : v'.ownBlock = v.ownBlock ∨ v'.ownBlock = some w.heap.size) : OwnI w' B u ys ∧ Diff v' u := by
  constructor
  · refine OwnI.grown hu hg ?_
    cases hk : u.ownBlock with
    | none => exact .inl rfl
    | some k => exact .inr fun e => hd k e.symm hk
  · intro k hk hk2
    rcases hat with h | h
    · exact hd k (h ▸ hk) hk2
    · have := (hu.blk_lt k hk2).2
      rw [h] at hk
      injection hk with hk
      omega
theorem reads_one (w : World) (t : TypeId) (x : Value) : Reads (w.alloc (.cells #[x] t)) (w.heap.size + 1) 1 (some ⟨w.heap.size, 0, none⟩) 1 [x] := by
  refine ⟨rfl, fun _ => ⟨_, rfl, by simp, fun j u hu => ?_⟩⟩
  match j with
  | 0 => simp at hu; subst hu; simp [Addr.add]
  | j + 1 => simp at hu
theorem reads_two (w : World) (t : TypeId) (x y : Value) : Reads (w.alloc (.cells #[x, y] t)) (w.heap.size + 1) 1 (some ⟨w.heap.size, 0, none⟩) 2 [x, y] := by
  refine ⟨rfl, fun _ => ⟨_, rfl, by simp, fun j u hu => ?_⟩⟩
  match j with
  | 0 => simp at hu; subst hu; simp [Addr.add]
  | 1 => simp at hu; subst hu; simp [Addr.add]
  | j + 2 => simp at hu
theorem one_int (x : Int) : ∀ u ∈ [Value.int .i64 x], u.oneCell' = true := by simp [Value.oneCell']
theorem two_int (x y : Int) : ∀ u ∈ [Value.int .i64 x, Value.int .i64 y], u.oneCell' = true := by simp [Value.oneCell']
theorem OwnI.app1 {x : Int} {v1 : Value} (h : w.ownsRow B 3 1 v1 (xs.length + 1) (xs.map (Value.int .i64) ++ [Value.int .i64 x])) : OwnI w B v1 (xs ++ [x]) := by
  unfold OwnI
  rw [List.length_append, List.map_append]
  exact h
theorem OwnI.app2 {x y : Int} {v1 : Value} (h : w.ownsRow B 3 1 v1 (xs.length + 2) (xs.map (Value.int .i64) ++ [Value.int .i64 x, Value.int .i64 y])) : OwnI w B v1 (xs ++ [x, y]) := by
  unfold OwnI
  rw [List.length_append, List.map_append]
  exact h
theorem OwnI.row (h : OwnI w B v xs) : w.ownsRow B 3 1 v xs.length (xs.map (Value.int .i64)) := h
theorem far_cell {W w1 : World} {v : Value} (hg : W.grownBy w1 v.ownBlock) (hv : ∀ k, v.ownBlock = some k → B ≤ k) {p : Addr} (hp : p.block < B) (hB : B ≤ W.heap.size) : w1.cell? p = W.cell? p :=
  World.cell?_of_block (hg.block p.block (by omega) (fun e => by have := hv _ e.symm; omega))
theorem reads_cells {w : World} {g m : Nat} {us : List Int} (hl : us.length = m) (hc : ∀ j, j < m → w.cell? ⟨g, j, none⟩ = some (.int .i64 (us.getD j 0))) : Reads w (g + 1) 1 (some ⟨g, 0, none⟩) m (us.map (Value.int .i64)) := by
  refine ⟨by simp [hl], fun _ => ⟨_, rfl, by simp, fun j u hu => ?_⟩⟩
  rw [List.getElem?_map] at hu
  have hj : j < us.length := by
    rcases Nat.lt_or_ge j us.length with h | h
    · exact h
    · rw [List.getElem?_eq_none h] at hu; cases hu
  rw [List.getElem?_eq_getElem hj] at hu
  have := hc j (by omega)
  rw [show (⟨g, 0, none⟩ : Addr).add j = ⟨g, j, none⟩ by unfold Addr.add; split <;> simp_all, this, ← hu]
  simp [List.getD_eq_getElem?_getD, List.getElem?_eq_getElem hj]
theorem map_int_one (us : List Int) : ∀ u ∈ us.map (Value.int .i64), u.oneCell' = true := by
  intro u hu
  obtain ⟨x, _, rfl⟩ := List.mem_map.1 hu
  rfl
/-- append of m numbers that lie in block g. -/
theorem step_app {ops : Array Oper} {o : Oper} {a : Act} {K : Act → World → Prop} {Q : Exit → Act → World → Prop} {E : Prop} (hgd : o.guard = none) (s x : Operand) (t : TypeId)
    (ho : o.op = .call { callee := .builtin .append, args := #[s, x], argTypes := #[t, t] }) (ht : Try.prog.underlying t = some (.slice 3)) (v : Value) (xs : List Int) (hs : a.eval s = v) (base : Nat) (hown : OwnI w base v xs)
    (m : Nat) (us : List Int) (hul : us.length = m) (g c : Nat) (hx : a.eval x = .slice (some ⟨g, 0, none⟩) m c) (hc : ∀ j, j < m → w.cell? ⟨g, j, none⟩ = some (.int .i64 (us.getD j 0)))
    (hlen : xs.length + m ≤ 10000000000) (hbase : base ≤ w.heap.size)
    (h : ∀ v' w', OwnI w' base v' (xs ++ us) → w.grownBy w' v.ownBlock → (v'.ownBlock = v.ownBlock ∨ v'.ownBlock = some w.heap.size) → K (a.put o.dst v') w') :
    if Region.wanted o (yielded ops a.tmps) = true then Oper.wp Try.prog o a w K Q else E := by
  obtain ⟨i0, hi, hz0, hz1, hz2⟩ := info_parts info_int
  refine step_append_any w hgd s x t ho base 3 i0 (.int .i64 0) 1 8 ht hi hz0 hz1 hz2 rfl (by omega) v xs.length _ hs hown (g + 1) _ m c _ hx (reads_cells hul hc) (map_int_one us) (by unfold maxLen; omega) (by omega) hbase (fun v' w' h1 h2 h3 => h v' w' ?_ h2 h3)
  unfold OwnI
  rw [List.length_append, List.map_append, hul]
  exact h1
theorem wpList_app {ops : Array Oper} {rest : List Oper} {o : Oper} {a : Act} {Q : Exit → Act → World → Prop} (hgd : o.guard = none) (s x : Operand) (t : TypeId)
    (ho : o.op = .call { callee := .builtin .append, args := #[s, x], argTypes := #[t, t] }) (ht : Try.prog.underlying t = some (.slice 3)) (v : Value) (xs : List Int) (hs : a.eval s = v) (base : Nat) (hown : OwnI w base v xs)
    (m : Nat) (us : List Int) (hul : us.length = m) (g c : Nat) (hx : a.eval x = .slice (some ⟨g, 0, none⟩) m c) (hc : ∀ j, j < m → w.cell? ⟨g, j, none⟩ = some (.int .i64 (us.getD j 0)))
    (hlen : xs.length + m ≤ 10000000000) (hbase : base ≤ w.heap.size)
    (h : ∀ v' w', OwnI w' base v' (xs ++ us) → w.grownBy w' v.ownBlock → (v'.ownBlock = v.ownBlock ∨ v'.ownBlock = some w.heap.size) → wpList Try.prog ops Q rest (a.put o.dst v') w') : wpList Try.prog ops Q (o :: rest) a w := by
  obtain ⟨i0, hi, hz0, hz1, hz2⟩ := info_parts info_int
  refine wpList_append_any w hgd s x t ho base 3 i0 (.int .i64 0) 1 8 ht hi hz0 hz1 hz2 rfl (by omega) v xs.length _ hs hown (g + 1) _ m c _ hx (reads_cells hul hc) (map_int_one us) (by unfold maxLen; omega) (by omega) hbase (fun v' w' h1 h2 h3 => h v' w' ?_ h2 h3)
  unfold OwnI
  rw [List.length_append, List.map_append, hul]
  exact h1
theorem cells1 {w : World} {g : Nat} {x : Int} (h : w.cell? ⟨g, 0, none⟩ = some (.int .i64 x)) : ∀ j, j < 1 → w.cell? ⟨g, j, none⟩ = some (.int .i64 ([x].getD j 0)) := by
  intro j hj
  obtain rfl : j = 0 := by omega
  exact h
theorem cells2 {w : World} {g : Nat} {x y : Int} (h : w.cell? ⟨g, 0, none⟩ = some (.int .i64 x)) (h1 : w.cell? ⟨g, 1, none⟩ = some (.int .i64 y)) : ∀ j, j < 2 → w.cell? ⟨g, j, none⟩ = some (.int .i64 ([x, y].getD j 0)) := by
  intro j hj
  match j, hj with
  | 0, _ => exact h
  | 1, _ => exact h1
/-- Behind an append: what lay below B lies as it lay. -/
theorem below_app {W : World} (hb : Below B W w) (hown : OwnI w B v xs) (hB : B ≤ w.heap.size) (hg : w.grownBy w' v.ownBlock) : Below B W w' :=
  hb.grown hg hB (fun k hk => (hown.blk_lt k hk).1)
end
end Go.Proofs.Ytgdlleoefncikaa
