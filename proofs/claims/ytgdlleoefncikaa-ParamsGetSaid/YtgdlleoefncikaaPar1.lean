/- Params: the table of bases, the groups of a video's numbers. -/
import Derived.Test.YtgdlleoefncikaaWords
import Derived.LoopN
import Derived.Deep.DeepCutAuto
import Derived.Deep.MidRow
namespace Go.Proofs.Ytgdlleoefncikaa
open Go.RowKit
set_option linter.unusedVariables false
set_option linter.unusedSimpArgs false

/-- A video as a value. -/
abbrev vid (W H C B : Int) : Value := .agg #[.int .i64 W, .int .i64 H, .int .i64 C, .int .i64 B]
/-- All bases, as one value. -/
abbrev tabV : Array Value := #[.int .i64 16, .int .i64 16, .int .i64 2, .int .i64 8, .int .i64 32, .int .i64 24, .int .i64 2, .int .i64 8, .int .i64 48, .int .i64 32, .int .i64 1, .int .i64 8, .int .i64 64, .int .i64 48, .int .i64 1, .int .i64 10, .int .i64 128, .int .i64 96, .int .i64 0, .int .i64 16]
theorem four (w : World) (o0 o1 o2 o3 : Obj) : ((((w.alloc o0).alloc o1).alloc o2).alloc o3).drew.heap[w.heap.size]? = some o0 ∧ ((((w.alloc o0).alloc o1).alloc o2).alloc o3).drew.heap[w.heap.size + 1]? = some o1 ∧
    ((((w.alloc o0).alloc o1).alloc o2).alloc o3).drew.heap[w.heap.size + 1 + 1]? = some o2 ∧ ((((w.alloc o0).alloc o1).alloc o2).alloc o3).drew.heap[w.heap.size + 1 + 1 + 1]? = some o3 ∧ Below w.heap.size w ((((w.alloc o0).alloc o1).alloc o2).alloc o3).drew := by
  have s1 : (w.alloc o0).heap.size = w.heap.size + 1 := World.size_alloc _ _
  have s2 : ((w.alloc o0).alloc o1).heap.size = w.heap.size + 1 + 1 := by rw [World.size_alloc, s1]
  have s3 : (((w.alloc o0).alloc o1).alloc o2).heap.size = w.heap.size + 1 + 1 + 1 := by rw [World.size_alloc, s2]
  have h0 := heap_alloc_new w o0
  have h1 := heap_alloc_new (w.alloc o0) o1
  have h2 := heap_alloc_new ((w.alloc o0).alloc o1) o2
  have h3 := heap_alloc_new (((w.alloc o0).alloc o1).alloc o2) o3
  rw [s1] at h1
  rw [s2] at h2
  rw [s3] at h3
  refine ⟨?_, ?_, ?_, ?_, ?_⟩
  · show ((((w.alloc o0).alloc o1).alloc o2).alloc o3).heap[w.heap.size]? = _
    rw [heap_alloc_old _ _ (by rw [s3]; omega), heap_alloc_old _ _ (by rw [s2]; omega), heap_alloc_old _ _ (by rw [s1]; omega), h0]
  · show ((((w.alloc o0).alloc o1).alloc o2).alloc o3).heap[w.heap.size + 1]? = _
    rw [heap_alloc_old _ _ (by rw [s3]; omega), heap_alloc_old _ _ (by rw [s2]; omega), h1]
  · show ((((w.alloc o0).alloc o1).alloc o2).alloc o3).heap[w.heap.size + 1 + 1]? = _
    rw [heap_alloc_old _ _ (by rw [s3]; omega), h2]
  · exact h3
  · exact Below.drew (((((Below.refl _ _).alloc (Nat.le_refl _) _).alloc (by rw [s1]; omega) _).alloc (by rw [s2]; omega) _).alloc (by rw [s3]; omega) _)

theorem setCells_new (W : World) (t : TypeId) : ∀ (vs : List Value) (o : Nat) (cs : Array Value), o + vs.length = cs.size →
    (W.alloc (.cells cs t)).setCells W.heap.size o vs = W.alloc (.cells (cs.toList.take o ++ vs).toArray t)
  | [], o, cs, h => by
    simp only [List.length_nil, Nat.add_zero] at h
    simp only [World.setCells, List.append_nil]
    rw [List.take_of_length_le (by simp [h])]
  | v :: vs, o, cs, h => by
    simp only [List.length_cons] at h
    rw [World.setCells, World.setCell_alloc_at _ _ _ _ _ rfl, setCells_new W t vs (o + 1) _ (by simp; omega)]
    congr 2
    apply Array.ext'
    simp only [Array.toList_setIfInBounds]
    rw [List.take_set, List.take_add_one, List.getElem?_eq_getElem (by simp; omega), Option.toList_some, List.set_append_right _ _ (by simp; omega)]
    simp [List.length_take, show min o cs.size = o by omega]
/-- A whole array stored into the variable that has been made last. -/
theorem wpList_store_new {P : Program} {ops : Array Oper} {rest : List Oper} {op : Oper} {a : Act} {W : World} {Q : Exit → Act → World → Prop} (hgd : op.guard = none) (ty : TypeId) (x y : Operand) (ho : op.op = .store ty x y)
    (t : TypeId) (old cells : Array Value) (hx : a.eval x = .pointer (some ⟨W.heap.size, 0, none⟩)) (hy : a.eval y = .agg cells) (hs : old.size = cells.size)
    (hi : (P.info? ty).map (·.size) = some cells.size) (h1 : cells.all (·.oneCell') = true)
    (h : wpList P ops Q rest (a.put op.dst undef) (W.alloc (.cells cells t))) : wpList P ops Q (op :: rest) a (W.alloc (.cells old t)) := by
  refine wpList_store_mid hgd ty x y ho W.heap.size 0 cells hx hy (fun j hj => ?_) hi h1 ?_
  · rw [Nat.zero_add, World.cell?_alloc_at _ _ _ _ rfl, World.frozen?_alloc_at _ _ _ _ rfl]
    exact ⟨by rw [Array.getElem?_eq_getElem (by omega)]; rfl, rfl⟩
  · rw [setCells_new W t _ 0 old (by simp [hs])]
    simpa using h

theorem tab_one : tabV.all (·.oneCell') = true := by simp [Value.oneCell']

set_option maxRecDepth 100000 in
theorem ptable_c (w : World) :
    Calls Try.prog 18 #[] w fun e w' => e = .returned (.agg tabV) ∧ Below w.heap.size w w' := by
  go_enter Try.func18, Try.ntmps18
  go_upto_region 1 with fail
  go_step
  iterate 18 go_step
  refine wpList_store_new rfl _ _ _ rfl 42 _ tabV rfl rfl rfl (by kernel_rfl) tab_one ?_
  go_wp2_with fail
  refine bodyPost_ret (results_cell_row rfl _ _ w.heap.size 42 tabV (0, 0) _ rfl (heap_alloc_new _ _) Try.underlying42 rfl (by kernel_rfl)) rfl ?_
  exact ⟨rfl, (Below.refl _ _).alloc (Nat.le_refl _) _⟩

end Go.Proofs.Ytgdlleoefncikaa
