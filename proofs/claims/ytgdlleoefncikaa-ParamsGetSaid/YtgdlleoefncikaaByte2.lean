/- Rows of bytes of the call's own; bytes appended. -/
import Derived.Test.YtgdlleoefncikaaByte
import Derived.Test.YtgdlleoefncikaaOwn2
namespace Go.Proofs.Ytgdlleoefncikaa
open Go.RowKit
set_option linter.unusedVariables false
set_option linter.unusedSimpArgs false

section
variable {w w' : World} {B : Nat} {u v v' : Value} {xs ys : List Int}
theorem OwnB.blk_lt (h : OwnB w B v xs) : ∀ k, v.ownBlock = some k → B ≤ k ∧ k < w.heap.size := World.ownsRow.lt h
theorem OwnB.alloc (h : OwnB w B v xs) (o : Obj) : OwnB (w.alloc o) B v xs := World.ownsRow.alloc h o
theorem OwnB.other (hu : OwnB w B u ys) (hd : Diff v u) (hg : w.grownBy w' v.ownBlock) (hat : v'.ownBlock = v.ownBlock ∨ v'.ownBlock = some w.heap.size) : OwnB w' B u ys ∧ Diff v' u := by
  constructor
  · refine OwnB.grown hu hg ?_
    cases hk : u.ownBlock with
    | none => exact .inl rfl
    | some k => exact .inr fun e => hd k e.symm hk
  · intro k hk hk2
    rcases hat with h | h
    · exact hd k (h ▸ hk) hk2
    · have := (hu.blk_lt k hk2).2
      rw [h] at hk
      injection hk with hk
      omega
theorem reads_oneB (w : World) (t : TypeId) (x : Value) : Reads (w.alloc (.cells #[x] t)) (w.heap.size + 1) 1 (some ⟨w.heap.size, 0, none⟩) 1 [x] := by
  refine ⟨rfl, fun _ => ⟨_, rfl, by simp, fun j u hu => ?_⟩⟩
  match j with
  | 0 => simp at hu; subst hu; simp [Addr.add]
  | j + 1 => simp at hu
theorem reads_twoB (w : World) (t : TypeId) (x y : Value) : Reads (w.alloc (.cells #[x, y] t)) (w.heap.size + 1) 1 (some ⟨w.heap.size, 0, none⟩) 2 [x, y] := by
  refine ⟨rfl, fun _ => ⟨_, rfl, by simp, fun j u hu => ?_⟩⟩
  match j with
  | 0 => simp at hu; subst hu; simp [Addr.add]
  | 1 => simp at hu; subst hu; simp [Addr.add]
  | j + 2 => simp at hu
theorem one_byte (x : Int) : ∀ u ∈ [Value.int .u8 x], u.oneCell' = true := by simp [Value.oneCell']
theorem two_byte (x y : Int) : ∀ u ∈ [Value.int .u8 x, Value.int .u8 y], u.oneCell' = true := by simp [Value.oneCell']
theorem OwnB.app1 {x : Int} {v1 : Value} (h : w.ownsRow B 5 1 v1 (xs.length + 1) (xs.map (Value.int .u8) ++ [Value.int .u8 x])) : OwnB w B v1 (xs ++ [x]) := by
  unfold OwnB
  rw [List.length_append, List.map_append]
  exact h
theorem OwnB.app2 {x y : Int} {v1 : Value} (h : w.ownsRow B 5 1 v1 (xs.length + 2) (xs.map (Value.int .u8) ++ [Value.int .u8 x, Value.int .u8 y])) : OwnB w B v1 (xs ++ [x, y]) := by
  unfold OwnB
  rw [List.length_append, List.map_append]
  exact h
theorem OwnB.row (h : OwnB w B v xs) : w.ownsRow B 5 1 v xs.length (xs.map (Value.int .u8)) := h
theorem far_cellB {W w1 : World} {v : Value} (hg : W.grownBy w1 v.ownBlock) (hv : ∀ k, v.ownBlock = some k → B ≤ k) {p : Addr} (hp : p.block < B) (hB : B ≤ W.heap.size) : w1.cell? p = W.cell? p :=
  World.cell?_of_block (hg.block p.block (by omega) (fun e => by have := hv _ e.symm; omega))
theorem reads_cellsB {w : World} {g m : Nat} {us : List Int} (hl : us.length = m) (hc : ∀ j, j < m → w.cell? ⟨g, j, none⟩ = some (.int .u8 (us.getD j 0))) : Reads w (g + 1) 1 (some ⟨g, 0, none⟩) m (us.map (Value.int .u8)) := by
  refine ⟨by simp [hl], fun _ => ⟨_, rfl, by simp, fun j u hu => ?_⟩⟩
  rw [List.getElem?_map] at hu
  have hj : j < us.length := by
    rcases Nat.lt_or_ge j us.length with h | h
    · exact h
    · rw [List.getElem?_eq_none h] at hu; cases hu
  rw [List.getElem?_eq_getElem hj] at hu
  have := hc j (by omega)
  rw [show (⟨g, 0, none⟩ : Addr).add j = ⟨g, j, none⟩ by unfold Addr.add; split <;> simp_all, this, ← hu]
  simp [List.getD_eq_getElem?_getD, List.getElem?_eq_getElem hj]
theorem map_byte_one (us : List Int) : ∀ u ∈ us.map (Value.int .u8), u.oneCell' = true := by
  intro u hu
  obtain ⟨x, _, rfl⟩ := List.mem_map.1 hu
  rfl
/-- append of m numbers that lie in block g. -/
theorem stepB_app {ops : Array Oper} {o : Oper} {a : Act} {K : Act → World → Prop} {Q : Exit → Act → World → Prop} {E : Prop} (hgd : o.guard = none) (s x : Operand) (t : TypeId)
    (ho : o.op = .call { callee := .builtin .append, args := #[s, x], argTypes := #[t, t] }) (ht : Try.prog.underlying t = some (.slice 5)) (v : Value) (xs : List Int) (hs : a.eval s = v) (base : Nat) (hown : OwnB w base v xs)
    (m : Nat) (us : List Int) (hul : us.length = m) (g c : Nat) (hx : a.eval x = .slice (some ⟨g, 0, none⟩) m c) (hc : ∀ j, j < m → w.cell? ⟨g, j, none⟩ = some (.int .u8 (us.getD j 0)))
    (hlen : xs.length + m ≤ 10000000000) (hbase : base ≤ w.heap.size)
    (h : ∀ v' w', OwnB w' base v' (xs ++ us) → w.grownBy w' v.ownBlock → (v'.ownBlock = v.ownBlock ∨ v'.ownBlock = some w.heap.size) → K (a.put o.dst v') w') :
    if Region.wanted o (yielded ops a.tmps) = true then Oper.wp Try.prog o a w K Q else E := by
  obtain ⟨i0, hi, hz0, hz1, hz2⟩ := info_parts info_byte
  refine step_append_any w hgd s x t ho base 5 i0 (.int .u8 0) 1 1 ht hi hz0 hz1 hz2 rfl (by omega) v xs.length _ hs hown (g + 1) _ m c _ hx (reads_cellsB hul hc) (map_byte_one us) (by unfold maxLen; omega) (by omega) hbase (fun v' w' h1 h2 h3 => h v' w' ?_ h2 h3)
  unfold OwnB
  rw [List.length_append, List.map_append, hul]
  exact h1
theorem wpListB_app {ops : Array Oper} {rest : List Oper} {o : Oper} {a : Act} {Q : Exit → Act → World → Prop} (hgd : o.guard = none) (s x : Operand) (t : TypeId)
    (ho : o.op = .call { callee := .builtin .append, args := #[s, x], argTypes := #[t, t] }) (ht : Try.prog.underlying t = some (.slice 5)) (v : Value) (xs : List Int) (hs : a.eval s = v) (base : Nat) (hown : OwnB w base v xs)
    (m : Nat) (us : List Int) (hul : us.length = m) (g c : Nat) (hx : a.eval x = .slice (some ⟨g, 0, none⟩) m c) (hc : ∀ j, j < m → w.cell? ⟨g, j, none⟩ = some (.int .u8 (us.getD j 0)))
    (hlen : xs.length + m ≤ 10000000000) (hbase : base ≤ w.heap.size)
    (h : ∀ v' w', OwnB w' base v' (xs ++ us) → w.grownBy w' v.ownBlock → (v'.ownBlock = v.ownBlock ∨ v'.ownBlock = some w.heap.size) → wpList Try.prog ops Q rest (a.put o.dst v') w') : wpList Try.prog ops Q (o :: rest) a w := by
  obtain ⟨i0, hi, hz0, hz1, hz2⟩ := info_parts info_byte
  refine wpList_append_any w hgd s x t ho base 5 i0 (.int .u8 0) 1 1 ht hi hz0 hz1 hz2 rfl (by omega) v xs.length _ hs hown (g + 1) _ m c _ hx (reads_cellsB hul hc) (map_byte_one us) (by unfold maxLen; omega) (by omega) hbase (fun v' w' h1 h2 h3 => h v' w' ?_ h2 h3)
  unfold OwnB
  rw [List.length_append, List.map_append, hul]
  exact h1
theorem bcells1 {w : World} {g : Nat} {x : Int} (h : w.cell? ⟨g, 0, none⟩ = some (.int .u8 x)) : ∀ j, j < 1 → w.cell? ⟨g, j, none⟩ = some (.int .u8 ([x].getD j 0)) := by
  intro j hj
  obtain rfl : j = 0 := by omega
  exact h
theorem bcells2 {w : World} {g : Nat} {x y : Int} (h : w.cell? ⟨g, 0, none⟩ = some (.int .u8 x)) (h1 : w.cell? ⟨g, 1, none⟩ = some (.int .u8 y)) : ∀ j, j < 2 → w.cell? ⟨g, j, none⟩ = some (.int .u8 ([x, y].getD j 0)) := by
  intro j hj
  match j, hj with
  | 0, _ => exact h
  | 1, _ => exact h1
/-- Behind an append: what lay below B lies as it lay. -/
theorem below_appB {W : World} (hb : Below B W w) (hown : OwnB w B v xs) (hB : B ≤ w.heap.size) (hg : w.grownBy w' v.ownBlock) : Below B W w' :=
  hb.grown hg hB (fun k hk => (hown.blk_lt k hk).1)
end
end Go.Proofs.Ytgdlleoefncikaa
