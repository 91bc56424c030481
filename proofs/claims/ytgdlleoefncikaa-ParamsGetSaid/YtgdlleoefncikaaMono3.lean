/- Steps of such a walk: an empty literal, numbers appended onto it; rows made. -/
import Derived.Test.YtgdlleoefncikaaMono2
namespace Go.Proofs.Ytgdlleoefncikaa
open Go.RowKit Go.Sort
set_option linter.unusedVariables false

/-- A row of the call's own, in a value F, whichever block it lies in. -/
def Brings.owned (B0 : Nat) (F : Value → Value) (xs : List Int) : Brings where
  T := Option Addr × Nat
  inh := (none, 0)
  f t := F (.slice t.1 xs.length t.2)
  φ t w := OwnI w B0 (.slice t.1 xs.length t.2) xs
  g t := none
  st _ _ _ hb h := h.kept hb
/-- An empty literal. -/
def Brings.lit (B0 : Nat) : Brings where
  T := Nat
  inh := 0
  f b := .slice (some ⟨b, 0, none⟩) 0 0
  φ b w := OwnI w B0 (.slice (some ⟨b, 0, none⟩) 0 0) []
  g b := some b
  st _ _ _ hb h := h.kept hb
section
variable {md : Region.Mode} {ops : Array Oper} {w0 : World} {Lq : Act → Known → Prop}
theorem wpL_owned {k k' : Nat} {Bs : List Brings} {o : Oper} {rest : List Oper} {a : Act} {s : Known} {B0 : Nat} {F : Value → Value} {xs : List Int} (hk : k + 1 = k') (hw : Region.wanted o (yielded ops a.tmps) = true) (h : ∀ w, Below w0.heap.size w0 w → awaited md s o w → bringsAt Try.prog o a w (brought (Brings.owned B0 F xs) w))
    (hr : ∀ A c, wpL Try.prog md ops w0 Lq k' Bs rest (a.put o.dst (F (.slice A xs.length c))) (s.add k (fun w => OwnI w B0 (.slice A xs.length c) xs) none)) : wpL Try.prog md ops w0 Lq k (Brings.owned B0 F xs :: Bs) (o :: rest) a s :=
  wpL_brings hk hw h fun t => hr t.1 t.2
theorem wpL_lit {k k' : Nat} {Bs : List Brings} {o : Oper} {rest : List Oper} {a : Act} {s : Known} {B0 : Nat} (hk : k + 1 = k') (hw : Region.wanted o (yielded ops a.tmps) = true) (h : ∀ w, Below w0.heap.size w0 w → awaited md s o w → bringsAt Try.prog o a w (brought (Brings.lit B0) w))
    (hr : ∀ b, wpL Try.prog md ops w0 Lq k' Bs rest (a.put o.dst (.slice (some ⟨b, 0, none⟩) 0 0)) (s.add k (fun w => OwnI w B0 (.slice (some ⟨b, 0, none⟩) 0 0) []) (some b))) : wpL Try.prog md ops w0 Lq k (Brings.lit B0 :: Bs) (o :: rest) a s :=
  wpL_brings hk hw h fun t => hr t
end
theorem lit_brings {B0 : Nat} {w : World} (hB : B0 ≤ w.heap.size) : bringsUpon Try.prog w (brought (Brings.lit B0) w) (.ok (.value (.slice (some ⟨w.heap.size, 0, none⟩) 0 0)) (w.alloc (.cells #[] 3))) :=
  ⟨w.heap.size, rfl, by exact (RowI.new w []).own hB (by decide), (Below.refl _ _).alloc (Nat.le_refl _) _, fun b hb => by cases hb; exact ⟨Nat.le_refl _, by rw [World.size_alloc]; omega⟩⟩
theorem brings_append {P : Program} {o : Oper} {a : Act} {w w' : World} {R : Value → World → Prop} (s x : Operand) (t t' : TypeId) {v u v' : Value}
    (ho : o.op = .call { callee := .builtin .append, args := #[s, x], argTypes := #[t, t'] }) (hs : a.eval s = v) (hx : a.eval x = u) (hrun : (Builtin.append_ #[t, t'] o.type #[v, u]).run P w = .ok v' w') (h : R v' w') : bringsAt P o a w R := by
  unfold bringsAt execOp
  simp only [ho, resolve, invoke, builtin, Sem.run_bind, Sem.run_pure, Result.andThen_ok, List.map_toArray, List.map_cons, List.map_nil, hs, hx, hrun]
  exact h
theorem append_lit (t : TypeId) (ht : Try.prog.underlying t = some (.slice 3)) (T : TypeId) {w : World} {B0 : Nat} {g : Nat} (hO : OwnI w B0 (.slice (some ⟨g, 0, none⟩) 0 0) []) {A : Option Addr} {V : List Int} (hr : ReadsI w A V) (c : Nat) (hlen : V.length ≤ 10000000000) (hB : B0 ≤ w.heap.size) :
    ∃ A' c' w', (Builtin.append_ #[t, t] T #[.slice (some ⟨g, 0, none⟩) 0 0, .slice A V.length c]).run Try.prog w = .ok (.slice A' V.length c') w' ∧ OwnI w' B0 (.slice A' V.length c') V ∧ Below w.heap.size w w' := by
  obtain ⟨i0, hi, hz0, hz1, hz2⟩ := info_parts info_int
  rcases Nat.eq_zero_or_pos V.length with h0 | h0
  · have hV : V = [] := List.eq_nil_of_length_eq_zero h0
    subst hV
    obtain ⟨v', w', hrun, h2, h3, h4⟩ := run_append_any (P := Try.prog) w B0 t T 3 i0 (.int .i64 0) 1 8 ht hi hz0 hz1 hz2 rfl (by omega) (.slice (some ⟨g, 0, none⟩) 0 0) 0 [] hO w.heap.size A 0 c [] hr (by simp) (by unfold maxLen; omega) (by omega) hB
    have hn : (Builtin.append_ #[t, t] T #[.slice (some ⟨g, 0, none⟩) 0 0, .slice A 0 c]).run Try.prog w = .ok (.slice (some ⟨g, 0, none⟩) 0 0) w := by
      cases A with
      | none => simp [Builtin.append_, run_underlying ht, sizeOf, typeInfo, hi, Builtin.lenOf, Builtin.firstCells, storeCells]
      | some ad => simp [Builtin.append_, run_underlying ht, sizeOf, typeInfo, hi, Builtin.lenOf, run_firstCells_some (P := Try.prog) w i0.size 0 ad 0 c [] (by simp) (by simp), storeCells]
    exact ⟨_, _, w, hn, hO, Below.refl _ _⟩
  · obtain ⟨ad, rfl, _, hc⟩ := hr.2 h0
    have hrun := run_append_grow (P := Try.prog) w t T 3 i0 (.int .i64 0) ht hi hz0 ⟨g, 0, none⟩ 0 0 [] (by simp) (by simp) ad V.length c (V.map (Value.int .i64)) (by rw [hz1]; simp) hc (by omega) (by omega) (by
      refine growslice_fits (by omega) (by rw [hz2]; omega))
    have hge := grownCap_ge w V.length 0 3
    have hcm : grownCap w V.length 0 3 ≤ maxLen := grownCap_le_maxLen w V.length 0 3 (by unfold maxLen; omega)
    simp only [Nat.zero_add] at hrun
    generalize grownCap w V.length 0 3 = cap at hrun hge hcm
    refine ⟨_, _, _, hrun, ⟨by simp, .inr ⟨w.heap.size, cap, _, rfl, hB, heap_alloc_new w.drew _, hge, hcm, ?_, ?_⟩⟩, ⟨rfl, rfl, rfl, by simp, fun k hk => heap_alloc_old w.drew _ hk⟩⟩
    · simp only [Array.size_append, List.size_toArray, size_zeroCells]
      simp [Value.cells]
      omega
    · simp only [Array.toList_append, List.nil_append]
      have : V.length * 1 = (V.map (Value.int .i64)).length := by simp
      rw [this]
      exact List.take_left
theorem at_append_lit {o : Oper} {a : Act} {w : World} (s x : Operand) (t : TypeId) {B0 : Nat} {g : Nat} {A : Option Addr} {V : List Int} {c : Nat}
    (ho : o.op = .call { callee := .builtin .append, args := #[s, x], argTypes := #[t, t] }) (ht : Try.prog.underlying t = some (.slice 3)) (hs : a.eval s = .slice (some ⟨g, 0, none⟩) 0 0) (hx : a.eval x = .slice A V.length c)
    (hO : OwnI w B0 (.slice (some ⟨g, 0, none⟩) 0 0) []) (hr : ReadsI w A V) (hlen : V.length ≤ 10000000000) (hB : B0 ≤ w.heap.size) : bringsAt Try.prog o a w (brought (Brings.owned B0 (fun v => v) V) w) := by
  obtain ⟨A', c', w', hrun, h1, h2⟩ := append_lit t ht o.type hO hr c hlen hB
  exact brings_append s x t t ho hs hx hrun ⟨(A', c'), rfl, h1, h2, fun b hb => by cases hb⟩
end Go.Proofs.Ytgdlleoefncikaa
