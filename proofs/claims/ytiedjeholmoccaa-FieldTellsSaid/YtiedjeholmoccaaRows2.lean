/- Words: a part of a row; rows appended; a row told by a function. -/
import Derived.Test.YtiedjeholmoccaaQuiet
import Derived.Test.YtiedjeholmoccaaOwn2
namespace Go.Proofs.Ytiedjeholmoccaa
open Go.RowKit
set_option linter.unusedVariables false
set_option linter.unusedSimpArgs false
/-- m numbers of a list from place k on. -/
def partL (V : List Int) (k m : Nat) : List Int := (V.drop k).take m
theorem partL_length {V : List Int} {k m : Nat} (h : k + m ≤ V.length) : (partL V k m).length = m := by simp [partL]; omega
theorem rdn_partL {V : List Int} {k m x : Nat} (hx : x < m) : rdn (partL V k m) x = rdn V (k + x) := by
  unfold partL rdn
  simp [List.getD_eq_getElem?_getD, List.getElem?_take, hx]
theorem partL_tab {V : List Int} {k m : Nat} (h : k + m ≤ V.length) : partL V k m = tab m (fun j => rdn V (k + j)) := by
  apply List.ext_getElem
  · rw [partL_length h, tab_length]
  · intro j h1 h2
    rw [partL_length h] at h1
    simp [partL, tab, rdn, List.getD_eq_getElem?_getD, List.getElem?_eq_getElem (show k + j < V.length by omega)]
theorem tab_append (n m : Nat) (f : Nat → Int) : tab (n + m) f = tab n f ++ tab m (fun j => f (n + j)) := by
  unfold tab
  rw [List.range_add, List.map_append, List.map_map]
  rfl
theorem ReadsI.part {w : World} {ad : Addr} {V : List Int} {k m : Nat} (h : ReadsI w (some ad) V) (ha : 0 < m) (hk : k + m ≤ V.length) : ReadsI w (some (ad.add k)) (partL V k m) := by
  refine ⟨by simp, fun _ => ⟨_, rfl, ?_, fun j u hu => ?_⟩⟩
  · obtain ⟨ad', e, hb, _⟩ := h.2 (by omega)
    injection e with e
    subst e
    rw [block_of_add]
    exact hb
  · rw [List.getElem?_map] at hu
    have hj : j < m := by
      rcases Nat.lt_or_ge j m with h1 | h1
      · exact h1
      · rw [List.getElem?_eq_none (by rw [partL_length hk]; exact h1)] at hu; cases hu
    rw [List.getElem?_eq_getElem (by rw [partL_length hk]; exact hj)] at hu
    simp only [Option.map_some, Option.some.injEq] at hu
    rw [add_of_add, h.cellv (i := k + j) (by omega), ← hu, ← rdn_partL hj]
    simp [rdn, List.getD_eq_getElem?_getD, partL_length hk, hj]
theorem step_appR {w : World} {ops : Array Oper} {o : Oper} {a : Act} {K : Act → World → Prop} {Q : Exit → Act → World → Prop} {E : Prop} (hgd : o.guard = none) (s x : Operand) (t : TypeId)
    (ho : o.op = .call { callee := .builtin .append, args := #[s, x], argTypes := #[t, t] }) (ht : Try.prog.underlying t = some (.slice 3)) (v : Value) (xs : List Int) (hs : a.eval s = v) (base : Nat) (hown : OwnI w base v xs)
    (A : Option Addr) (m c : Nat) (us : List Int) (hul : us.length = m) (hx : a.eval x = .slice A m c) (hr : ReadsI w A us)
    (hlen : xs.length + m ≤ 10000000000) (hbase : base ≤ w.heap.size)
    (h : ∀ v' w', OwnI w' base v' (xs ++ us) → w.grownBy w' v.ownBlock → (v'.ownBlock = v.ownBlock ∨ v'.ownBlock = some w.heap.size) → K (a.put o.dst v') w') :
    if Region.wanted o (yielded ops a.tmps) = true then Oper.wp Try.prog o a w K Q else E := by
  subst hul
  obtain ⟨i0, hi, hz0, hz1, hz2⟩ := info_parts info_int
  refine step_append_any w hgd s x t ho base 3 i0 (.int .i64 0) 1 8 ht hi hz0 hz1 hz2 rfl (by omega) v xs.length _ hs hown w.heap.size A us.length c _ hx hr (map_int_one us) (by unfold maxLen; omega) (by omega) hbase (fun v' w' h1 h2 h3 => h v' w' ?_ h2 h3)
  unfold OwnI
  rw [List.length_append, List.map_append]
  exact h1
theorem wpList_appR {w : World} {ops : Array Oper} {rest : List Oper} {o : Oper} {a : Act} {Q : Exit → Act → World → Prop} (hgd : o.guard = none) (s x : Operand) (t : TypeId)
    (ho : o.op = .call { callee := .builtin .append, args := #[s, x], argTypes := #[t, t] }) (ht : Try.prog.underlying t = some (.slice 3)) (v : Value) (xs : List Int) (hs : a.eval s = v) (base : Nat) (hown : OwnI w base v xs)
    (A : Option Addr) (m c : Nat) (us : List Int) (hul : us.length = m) (hx : a.eval x = .slice A m c) (hr : ReadsI w A us)
    (hlen : xs.length + m ≤ 10000000000) (hbase : base ≤ w.heap.size)
    (h : ∀ v' w', OwnI w' base v' (xs ++ us) → w.grownBy w' v.ownBlock → (v'.ownBlock = v.ownBlock ∨ v'.ownBlock = some w.heap.size) → wpList Try.prog ops Q rest (a.put o.dst v') w') : wpList Try.prog ops Q (o :: rest) a w := by
  subst hul
  obtain ⟨i0, hi, hz0, hz1, hz2⟩ := info_parts info_int
  refine wpList_append_any w hgd s x t ho base 3 i0 (.int .i64 0) 1 8 ht hi hz0 hz1 hz2 rfl (by omega) v xs.length _ hs hown w.heap.size A us.length c _ hx hr (map_int_one us) (by unfold maxLen; omega) (by omega) hbase (fun v' w' h1 h2 h3 => h v' w' ?_ h2 h3)
  unfold OwnI
  rw [List.length_append, List.map_append]
  exact h1
/-- A store into a block of another type. -/
theorem OwnI.set_ {w : World} {B : Nat} {v : Value} {xs : List Int} {g i : Nat} {t : TypeId} {cs : Array Value} (h : OwnI w B v xs) (hg : Blk w g t cs) (ht : 3 ≠ t) (x : Value) : OwnI (w.setCell ⟨g, i, none⟩ x) B v xs :=
  OwnI.grown h (only_setCell (World.grownBy.refl w (some g)) (.inl rfl) x) (.inr (own_blk_ne h hg ht))
theorem Blk.app {w w' : World} {B : Nat} {v : Value} {xs : List Int} {g : Nat} {t : TypeId} {cs : Array Value} (hb : Blk w g t cs) (h : OwnI w B v xs) (ht : 3 ≠ t) (hg : w.grownBy w' v.ownBlock) : Blk w' g t cs :=
  hb.grown hg (fun e => own_blk_ne h hb ht e.symm)
end Go.Proofs.Ytiedjeholmoccaa
