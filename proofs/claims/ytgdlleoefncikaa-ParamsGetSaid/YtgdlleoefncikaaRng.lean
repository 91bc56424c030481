/- A range over a function: what an iterator owes, what a caller owes: counted by rounds, each round told what its elements are in the world in which it begins. -/
import Derived.RangeFuncBox
import Derived.RangeFuncNested
import Derived.RangeFuncLeaves
import Derived.Shelf.Abstract
import Derived.Shelf.RegionOpen
import Derived.OwnWalkIn
import Derived.TacticsInMore
import Derived.LoopNIn
import Derived.LoopIn
import Derived.Deep.RegionHeld3
import Derived.OrdersIn
import Derived.Test.YtgdlleoefncikaaBase
namespace Go.Proofs.Ytgdlleoefncikaa
open Go.RowKit Go.Shelf
set_option linter.unusedVariables false

/-- What is made of cells, or lies below B, lies as it lay. -/
structure Qt (B : Nat) (w w' : World) : Prop where
  os : w'.os = w.os
  tape : w'.tape = w.tape
  output : w'.output = w.output
  size : w.heap.size ≤ w'.heap.size
  same : ∀ k o, w.heap[k]? = some o → (k < B ∨ o.isCells = true) → w'.heap[k]? = some o

section
variable {B B' : Nat} {w w' x : World}
theorem Qt.refl (B : Nat) (w : World) : Qt B w w := ⟨rfl, rfl, rfl, Nat.le_refl _, fun _ _ h _ => h⟩
theorem Qt.trans (h : Qt B w w') (k : Qt B w' x) : Qt B w x :=
  ⟨k.os.trans h.os, k.tape.trans h.tape, k.output.trans h.output, Nat.le_trans h.size k.size, fun i o hi ho => k.same i o (h.same i o hi ho) ho⟩
theorem Qt.mono (h : Qt B w w') (hB : B' ≤ B) : Qt B' w w' := ⟨h.os, h.tape, h.output, h.size, fun k o hk ho => h.same k o hk (ho.imp (fun e => Nat.lt_of_lt_of_le e hB) id)⟩
theorem Qt.of_below (h : Below w.heap.size w w') : Qt B w w' := ⟨h.os, h.tape, h.output, h.size, fun k o hk _ => (h.block k (Array.getElem?_eq_some_iff.1 hk).1).trans hk⟩
theorem Qt.putObj {l : Nat} {o : Obj} (o' : Obj) (hB : B ≤ l) (hl : w.heap[l]? = some o) (ho : o.isCells = false) : Qt B w (w.putObj l o') :=
  ⟨rfl, rfl, rfl, by simp, fun k x hk hx => by
    by_cases e : k = l
    · subst e
      rw [hl] at hk
      cases hk
      rcases hx with h | h
      · omega
      · rw [ho] at h; cases h
    · exact (World.putObj_heap_other e).trans hk⟩
/-! What abides such a step. -/
theorem Blk.qt {g : Nat} {t : TypeId} {cs : Array Value} (h : Blk w g t cs) (q : Qt B w w') : Blk w' g t cs := q.same _ _ h (.inr rfl)
theorem qt_cell {p : Addr} {v : Value} (h : w.cell? p = some v) (q : Qt B w w') : w'.cell? p = some v := by
  unfold World.cell? at h ⊢
  cases hb : w.heap[p.block]? with
  | none => simp [hb] at h
  | some o =>
    cases o with
    | cells cs t f => rw [q.same _ _ hb (.inr rfl)]; rw [hb] at h; exact h
    | _ => simp [hb] at h
theorem own_qt {base : Nat} {e : TypeId} {size n : Nat} {v : Value} {xs : List Value} (h : w.ownsRow base e size v n xs) (q : Qt B w w') : w'.ownsRow base e size v n xs := by
  obtain ⟨h1, h2⟩ := h
  refine ⟨h1, h2.imp id ?_⟩
  rintro ⟨g, cap, cur, rfl, hb, hg, r⟩
  exact ⟨g, cap, cur, rfl, hb, q.same _ _ hg (.inr rfl), r⟩
theorem below_qt {n₀ : Nat} {a : World} (h : Below n₀ a w) (hn : n₀ ≤ a.heap.size) (hB : n₀ ≤ B) (q : Qt B w w') : Below n₀ a w' :=
  ⟨q.os.trans h.os, q.tape.trans h.tape, q.output.trans h.output, Nat.le_trans h.size q.size, fun k hk => by
    have hlt : k < w.heap.size := by have := h.size; omega
    rw [← h.block k hk, Array.getElem?_eq_getElem hlt]
    exact q.same k _ (Array.getElem?_eq_getElem hlt) (.inl (by omega))⟩
theorem below_of_qt {n₀ : Nat} (hB : n₀ ≤ B) (hn : n₀ ≤ w.heap.size) (q : Qt B w w') : Below n₀ w w' := below_qt (Below.refl _ _) hn hB q
theorem Reads.qt {b size n : Nat} {A : Option Addr} {xs : List Value} (h : Reads w b size A n xs) (q : Qt B w w') : Reads w' b size A n xs :=
  ⟨h.1, fun hn => by
    obtain ⟨ad, e, hb, hc⟩ := h.2 hn
    exact ⟨ad, e, hb, fun j u hu => qt_cell (hc j u hu) q⟩⟩
theorem keepsFrom_qt_of {B : Nat} (h : Below w.heap.size w w') : KeepsFrom B w w' := ⟨h.size, fun k o _ hk _ => (h.block k (Array.getElem?_eq_some_iff.1 hk).1).trans hk⟩
/-- Behind a step that is said by blocks: below n₀ all is as it was, and what is written besides is cells. -/
theorem keepsFrom_grown {row : Option Nat} (hg : w.grownBy w' row) (hr : ∀ j o, row = some j → w.heap[j]? = some o → o.isCells = true) : KeepsFrom B w w' := (KeepsOthers.of_grownBy hg hr).from B
theorem own_cells {base : Nat} {e : TypeId} {size n : Nat} {v : Value} {xs : List Value} (h : w.ownsRow base e size v n xs) : ∀ j o, v.ownBlock = some j → w.heap[j]? = some o → o.isCells = true := by
  intro j o hj ho
  rcases h.2 with ⟨rfl, _⟩ | ⟨g, cap, cur, rfl, _, hg, _⟩
  · simp [Value.ownBlock] at hj
  · have : g = j := by simpa [Value.ownBlock] using hj
    subst this
    rw [hg] at ho
    cases ho
    rfl
end

/-- The blocks of K lie as they lay. -/
structure KeepB (K : Nat → Prop) (w w' : World) : Prop where
  size : w.heap.size ≤ w'.heap.size
  block : ∀ k, K k → w'.heap[k]? = w.heap[k]?
section
variable {K : Nat → Prop} {w w' x : World}
theorem KeepB.refl (K : Nat → Prop) (w : World) : KeepB K w w := ⟨Nat.le_refl _, fun _ _ => rfl⟩
theorem KeepB.trans (h : KeepB K w w') (k : KeepB K w' x) : KeepB K w x := ⟨Nat.le_trans h.size k.size, fun i hi => (k.block i hi).trans (h.block i hi)⟩
theorem KeepB.of_below {B : Nat} (h : Below B w w') (hK : ∀ k, K k → k < B) : KeepB K w w' := ⟨h.size, fun k hk => h.block k (hK k hk)⟩
theorem KeepB.of_grown {row : Option Nat} (h : w.grownBy w' row) (hK : ∀ k, K k → k < w.heap.size ∧ row ≠ some k) : KeepB K w w' := ⟨h.size, fun k hk => h.block k (hK k hk).1 (fun e => (hK k hk).2 e.symm)⟩
theorem KeepB.of_qt {B : Nat} (q : Qt B w w') (hK : ∀ k, K k → k < B ∧ k < w.heap.size) : KeepB K w w' := ⟨q.size, fun k hk => by
  rw [Array.getElem?_eq_getElem (hK k hk).2]
  exact q.same k _ (Array.getElem?_eq_getElem (hK k hk).2) (.inl (hK k hk).1)⟩
theorem KeepB.alloc (h : KeepB K w w') (hK : ∀ k, K k → k < w'.heap.size) (o : Obj) : KeepB K w (w'.alloc o) := h.trans ⟨by simp, fun k hk => Below.heap_alloc _ _ _ (hK k hk)⟩
theorem KeepB.setCell (h : KeepB K w w') {p : Addr} (hp : ¬ K p.block) (u : Value) : KeepB K w (w'.setCell p u) := h.trans ⟨by simp [World.setCell], fun k hk => Below.heap_setCell _ _ _ _ (fun e => hp (e ▸ hk))⟩
theorem KeepB.drew (h : KeepB K w w') : KeepB K w w'.drew := ⟨h.size, h.block⟩
theorem Blk.keepB {g : Nat} {t : TypeId} {cs : Array Value} (h : Blk w g t cs) (hk : KeepB K w w') (hg : K g) : Blk w' g t cs := (hk.block g hg).trans h
theorem KeepB.cell (h : KeepB K w w') {p : Addr} (hp : K p.block) : w'.cell? p = w.cell? p := World.cell?_of_block (w := w) (h.block p.block hp)
end

/-- What a function to be ranged over owes: N rounds, the k-th one with arguments of which El k says what they are; the round keeps the blocks of K; the iterator itself does no more than to make new blocks. -/
def Sq (P : Program) (gf : Nat) (lb : Array Value) (K : Nat → Prop) (N : Nat) (El : Nat → Array Value → World → Prop) (w : World) : Prop :=
  ∀ (n l : Nat) (J : Nat → World → Prop) (Jx : World → Prop) (W : World), Below w.heap.size w W → (∀ k A B, J k A → Below A.heap.size A B → J k B) →
    (∀ k args W1, k < N → J k W1 → KeepB K W W1 → W.heap.size ≤ W1.heap.size → El k args W1 → YieldAt Fence.wide n P l args W1 fun e W' =>
      (e = .returned (.bool true) ∧ J (k + 1) W' ∧ KeepB K W1 W') ∨ (e = .returned (.bool false) ∧ Jx W')) →
    J 0 W → Calls P gf (#[.func (.yield l) #[] #[]] ++ lb) W fun e W' => (∃ v, e = .returned v) ∧ (J N W' ∨ Jx W')

/-- How a round's body may be left. -/
def rndPost (B : Nat) (K : Nat → Prop) (I : Nat → World → Prop) (Ix : Code → World → Prop) (k : Nat) (W : World) : Exit → Act → World → Prop
  | .normal, _, W' => KeepsFrom B W W' ∧ KeepB K W W' ∧ I (k + 1) W'
  | .ret, _, W' => KeepsFrom B W W' ∧ Ix .ret W'
  | .exit id, _, W' => KeepsFrom B W W' ∧ Ix (.exit id) W'
  | .goto t, _, W' => KeepsFrom B W W' ∧ Ix (.goto t) W'
  | .panic _, _, _ => False
  | .outgrown, _, _ => False

/-- What the assignments ahead of a round's body leave. -/
def asgPost (B : Nat) (K : Nat → Prop) (W : World) (M : Act → World → Prop) : Act → World → Prop := fun a' W' => KeepsFrom B W W' ∧ KeepB K W W' ∧ M a' W'

theorem wp_range {P : Program} {g : Operand} {ps : Array Tmp} {assign body : Code} {Q : Exit → Act → World → Prop} {a : Act} {w : World} {gf : Nat} {lb : Array Value}
    (hg : a.eval g = .func (.func gf) #[] lb) (eg : ∀ args w, (callFunc gf args).run P w = .ok (.enter gf args) w)
    {K : Nat → Prop} {N : Nat} {El : Nat → Array Value → World → Prop} {w0 : World} (hseq : Sq P gf lb K N El w0) (hw0 : Below w0.heap.size w0 w) (hK : ∀ k, K k → k < w.heap.size)
    (hps : ∀ k args W, El k args W → args.size = ps.size)
    (I : Nat → World → Prop) (Ix : Code → World → Prop) (M : Nat → Array Value → Act → World → Prop)
    (hI : ∀ k A B, I k A → Qt w.heap.size A B → I k B) (hIx : ∀ c A B, Ix c A → Qt w.heap.size A B → Ix c B) (hM : ∀ k args a' A B, M k args a' A → Qt w.heap.size A B → M k args a' B)
    (h0 : I 0 w)
    (hassign : ∀ n l k args W, k < N → I k W → KeepB K w W → w.heap.size ≤ W.heap.size → El k args W →
      assign.wpIn (Fence.wide.inRound l) n P (Exit.then (asgPost w.heap.size K W (M k args)) (fun _ _ _ => False)) { tmps := (ps.zip args).foldl (fun t (p, v) => t.setIfInBounds p v) a.tmps, defers := [] } W)
    (hbody : ∀ n l k args a' W, k < N → w.heap.size ≤ l → M k args a' W → w.heap.size ≤ W.heap.size → body.wpIn (Fence.wide.inRound l) n P (rndPost w.heap.size K I Ix k W) a' W)
    (hdone : ∀ (D : Nat) (W : World), w.heap.size ≤ D → I N W → W.heap[D]? = some (.deferred (some [])) → Q .normal { a with defers := { target := .collected D, args := #[] } :: a.defers } W)
    (hstop : ∀ (D : Nat) (c : Code) (W : World), w.heap.size ≤ D → Ix c W → W.heap[D]? = some (.deferred (some [])) → c.wp P Q { a with defers := { target := .collected D, args := #[] } :: a.defers } W) :
    (Code.rangeFunc g ps assign body).wp P Q a w := by
  refine (wpIn_wide (n := 1)).1 (wpIn_rangeFunc ?_)
  intro fn hfn
  let rec_ : LoopState → Option Code → Loop := fun st pe => { state := st, pending := pe, fn, tmps := a.tmps, params := ps, assign, body, defers := w.heap.size }
  have hK0 : ∀ o, ((w.alloc (.deferred (some []))).alloc o).heap[w.heap.size]? = some (.deferred (some [])) := fun o => (Below.heap_alloc _ _ _ (by simp)).trans (World.alloc_heap_new w _)
  have hL0 : ∀ o, ((w.alloc (.deferred (some []))).alloc o).heap[w.heap.size + 1]? = some o := fun o => by
    have := World.alloc_heap_new (w.alloc (.deferred (some []))) o
    rwa [World.size_alloc] at this
  have hB1 : ∀ o, Below w.heap.size w ((w.alloc (.deferred (some []))).alloc o) := fun o => ((Below.refl _ w).alloc (Nat.le_refl _) _).alloc (by simp) _
  obtain ⟨W1, hW1⟩ : ∃ W1, (w.alloc (.deferred (some []))).alloc (.loop (rec_ .ready none)) = W1 := ⟨_, rfl⟩
  refine ⟨w.heap.size + 1, [{ target := .collected w.heap.size, args := #[] }], W1, { target := .fn (.func gf) lb, args := #[.func (.yield (w.heap.size + 1)) #[] #[]] }, W1, gf,
    #[.func (.yield (w.heap.size + 1)) #[] #[]] ++ lb, W1, ?_, ?_, fun _ _ => trivial, ?_, fun _ => Nat.le_refl _, callsIn_wide.2 ?_⟩
  · rw [← hW1]; exact run_enterLoop_outer _ _ _ _ _
  · simp only [resolve, hg]
    simp [go_sem]
  · simp [invoke, go_sem, eg]
  have hK1 := hK0 (.loop (rec_ .ready none))
  have hL1 := hL0 (.loop (rec_ .ready none))
  have hb1 := hB1 (.loop (rec_ .ready none))
  rw [hW1] at hK1 hL1 hb1
  have hq1 : Qt w.heap.size w W1 := Qt.of_below hb1
  have hz1 := hb1.size
  refine (hseq 0 (w.heap.size + 1)
    (fun k W => (I k W ∧ KeepB K w W ∧ w.heap.size ≤ W.heap.size) ∧ W.heap[w.heap.size + 1]? = some (.loop (rec_ .ready none)) ∧ W.heap[w.heap.size]? = some (.deferred (some [])))
    (fun W => ∃ c, Ix c W ∧ W.heap[w.heap.size + 1]? = some (.loop (rec_ .done (some c))) ∧ W.heap[w.heap.size]? = some (.deferred (some [])))
    W1 (hw0.trans (hb1.mono hw0.size)) ?_ ?_ ⟨⟨hI _ _ _ h0 hq1, KeepB.of_below hb1 hK, hz1⟩, hL1, hK1⟩).mono ?_
  · rintro k A B ⟨⟨hi, hbl, hs⟩, hl, hk⟩ hAB
    exact ⟨⟨hI _ _ _ hi (.of_below hAB), hbl.trans (KeepB.of_below hAB (fun k hk => by have := hK k hk; omega)), Nat.le_trans hs hAB.size⟩, (hAB.block _ (Array.getElem?_eq_some_iff.1 hl).1).trans hl, (hAB.block _ (Array.getElem?_eq_some_iff.1 hk).1).trans hk⟩
  · rintro k args W hkN ⟨⟨hi, hbl, hs⟩, hl, hk⟩ hbW hsW hel
    refine ⟨fn, _, assign, body, run_yield (P := P) hl (hps _ _ _ hel), roundIn_of_wpIn hfn (wpIn_mono (hassign 0 _ k args W hkN hi hbl hs hel) ?_)⟩
    rintro e a' Wa hp
    cases e with
    | normal =>
      obtain ⟨hkf, hba, hm⟩ := hp
      have hla := hkf.same _ _ (by omega) hl rfl
      have hka := hkf.same _ _ (Nat.le_refl _) hk rfl
      have hqa : Qt w.heap.size Wa (Wa.putObj (w.heap.size + 1) (.loop { rec_ .ready none with state := .busy })) := Qt.putObj _ (by omega) hla rfl
      have hlt := (Array.getElem?_eq_some_iff.1 hla).1
      refine ⟨_, run_beginRound hla rfl, wpIn_mono (hbody 0 _ k args a' _ hkN (by omega) (hM _ _ _ _ _ hm hqa) (by have := hkf.size; simp; omega)) ?_⟩
      have hl2 : (Wa.putObj (w.heap.size + 1) (.loop { rec_ .ready none with state := .busy })).heap[w.heap.size + 1]? = some (.loop { rec_ .ready none with state := .busy }) := World.putObj_heap_same hlt
      have hk2 : (Wa.putObj (w.heap.size + 1) (.loop { rec_ .ready none with state := .busy })).heap[w.heap.size]? = some (.deferred (some [])) := (World.putObj_heap_other (by omega)).trans hka
      have hb2 : KeepB K W (Wa.putObj (w.heap.size + 1) (.loop { rec_ .ready none with state := .busy })) := hba.trans (KeepB.of_qt hqa (fun k hk => by have := hK k hk; exact ⟨by omega, by omega⟩))
      generalize Wa.putObj (w.heap.size + 1) (.loop { rec_ .ready none with state := .busy }) = W2 at hl2 hk2 hb2 ⊢
      have fin : ∀ (jump : Option Code) (W3 : World), KeepsFrom w.heap.size W2 W3 →
          (Instr.endRound (w.heap.size + 1) jump).run P W3 = .ok (.bool jump.isNone) (W3.putObj (w.heap.size + 1) (.loop (rec_ (if jump.isNone then .ready else .done) jump))) ∧
          Qt w.heap.size W3 (W3.putObj (w.heap.size + 1) (.loop (rec_ (if jump.isNone then .ready else .done) jump))) ∧
          (W3.putObj (w.heap.size + 1) (.loop (rec_ (if jump.isNone then .ready else .done) jump))).heap[w.heap.size + 1]? = some (.loop (rec_ (if jump.isNone then .ready else .done) jump)) ∧
          (W3.putObj (w.heap.size + 1) (.loop (rec_ (if jump.isNone then .ready else .done) jump))).heap[w.heap.size]? = some (.deferred (some [])) := fun jump W3 hk3 => by
        have hl3 := hk3.same _ _ (by omega) hl2 rfl
        exact ⟨run_endRound (P := P) jump hl3, Qt.putObj _ (by omega) hl3 rfl, World.putObj_heap_same (Array.getElem?_eq_some_iff.1 hl3).1, (World.putObj_heap_other (by omega)).trans (hk3.same _ _ (Nat.le_refl _) hk2 rfl)⟩
      rintro e a3 W3 hp
      cases e with
      | normal =>
        obtain ⟨hk3, hb3, hi3⟩ := hp
        obtain ⟨hr, hq, hl4, hk4⟩ := fin none W3 hk3
        have hbb : KeepB K W (W3.putObj (w.heap.size + 1) (.loop (rec_ .ready none))) := (hb2.trans hb3).trans (KeepB.of_qt hq (fun k hk => by have := hK k hk; have := hb2.size; have := hb3.size; exact ⟨by omega, by omega⟩))
        exact ⟨_, _, hr, .inl ⟨rfl, ⟨⟨hI _ _ _ hi3 hq, hbl.trans hbb, Nat.le_trans hs hbb.size⟩, hl4, hk4⟩, hbb⟩⟩
      | ret =>
        obtain ⟨hk3, hi3⟩ := hp
        obtain ⟨hr, hq, hl4, hk4⟩ := fin (some .ret) W3 hk3
        exact ⟨_, _, hr, .inr ⟨rfl, _, hIx _ _ _ hi3 hq, hl4, hk4⟩⟩
      | exit id =>
        obtain ⟨hk3, hi3⟩ := hp
        obtain ⟨hr, hq, hl4, hk4⟩ := fin (some (.exit id)) W3 hk3
        exact ⟨_, _, hr, .inr ⟨rfl, _, hIx _ _ _ hi3 hq, hl4, hk4⟩⟩
      | goto t =>
        obtain ⟨hk3, hi3⟩ := hp
        obtain ⟨hr, hq, hl4, hk4⟩ := fin (some (.goto t)) W3 hk3
        exact ⟨_, _, hr, .inr ⟨rfl, _, hIx _ _ _ hi3 hq, hl4, hk4⟩⟩
      | panic ch => exact hp.elim
      | outgrown => exact hp.elim
    | ret => exact hp.elim
    | exit id => exact hp.elim
    | goto t => exact hp.elim
    | panic ch => exact hp.elim
    | outgrown => exact hp.elim
  · rintro e W2 ⟨⟨v, rfl⟩, (⟨⟨hi, _, _⟩, hl, hk⟩ | ⟨c, hi, hl, hk⟩)⟩
    · exact ⟨none, _, run_endLoop (P := P) hl (by simp [rec_]), hdone _ _ (Nat.le_refl _) (hI _ _ _ hi (Qt.putObj _ (by omega) hl rfl)) ((World.putObj_heap_other (by omega)).trans hk)⟩
    · exact ⟨some c, _, run_endLoop (P := P) hl (by simp [rec_]), (wpIn_wide (n := 1)).2 (hstop _ c _ (Nat.le_refl _) (hIx _ _ _ hi (Qt.putObj _ (by omega) hl rfl)) ((World.putObj_heap_other (by omega)).trans hk))⟩

/-- A function's contract out of its body, where that holds a range over a function. -/
theorem calls_marks {P : Program} {f : FuncId} {fn : Func} {c : Code} {args : Array Value} {w : World} {R : Ending → World → Prop}
    (hf : P.funcs[f]? = some fn) (hb : fn.body = some c)
    (h : c.wp P (bodyPostM Fence.wide 1 P fn R) { tmps := args ++ Array.replicate (fn.ntmps - args.size) undef, defers := [] } w) : Calls P f args w R :=
  callsIn_wide.1 (callsIn_of_wp_marks (n := 1) hf hb trivial (wpIn_wide.2 h) rfl)

/-- A call that has ranged over a function comes to its end. -/
theorem leave_mark {P : Program} {fn : Func} {R : Ending → World → Prop} {tmps : Array Value} {w : World} {D : Nat} (hK : w.heap[D]? = some (.deferred (some [])))
    (h : ∀ w', Qt D w w' → LeavesInM Fence.wide 1 P fn tmps R [] .returning w') : bodyPostM Fence.wide 1 P fn R .ret { tmps := tmps, defers := [{ target := .collected D, args := #[] }] } w :=
  ⟨by simp, .inl ⟨_, _, rfl, run_takeDeferred hK, h _ (Qt.putObj _ (Nat.le_refl _) hK rfl)⟩⟩
theorem leave_mark' {P : Program} {fn : Func} {R : Ending → World → Prop} {tmps : Array Value} {w : World} {D : Nat} (hK : w.heap[D]? = some (.deferred (some [])))
    (h : ∀ w', Qt D w w' → LeavesInM Fence.wide 1 P fn tmps R [] .returning w') : bodyPostM Fence.wide 1 P fn R .normal { tmps := tmps, defers := [{ target := .collected D, args := #[] }] } w :=
  ⟨by simp, .inl ⟨_, _, rfl, run_takeDeferred hK, h _ (Qt.putObj _ (Nat.le_refl _) hK rfl)⟩⟩
theorem def_setCell {w : World} {D : Nat} (hK : w.heap[D]? = some (.deferred (some []))) (p : Addr) (u : Value) : (w.setCell p u).heap[D]? = some (.deferred (some [])) := (KeepsOthers.setCell w p u).same D _ hK rfl
theorem def_below {w w' : World} {D : Nat} (hK : w.heap[D]? = some (.deferred (some []))) (h : Below w.heap.size w w') : w'.heap[D]? = some (.deferred (some [])) := (h.block D (Array.getElem?_eq_some_iff.1 hK).1).trans hK
theorem Below.of_drew {B : Nat} {w w' : World} (h : Below B w.drew w') : Below B w w' := ⟨h.os, h.tape, h.output, h.size, h.block⟩

/-! A region that draws its order, in a round: carried over from the plain calculus. -/
def noDefer (ops : Array Oper) : Bool := ops.all fun o => match o.op with | .defer _ => false | _ => true
theorem noDefer_at {ops : Array Oper} (h : noDefer ops = true) {i : Nat} {o : Oper} (ho : ops[i]? = some o) : ∀ c, o.op ≠ .defer c := by
  intro c e
  have hm : o ∈ ops := by obtain ⟨h1, h2⟩ := Array.getElem?_eq_some_iff.1 ho; rw [← h2]; exact Array.getElem_mem h1
  have := (Array.all_eq_true_iff_forall_mem.1 h) o hm
  rw [e] at this
  cases this
section
variable {P : Program} {ops : Array Oper} {Q : Exit → Act → World → Prop} {l n : Nat}
theorem operIn_of {o : Oper} {a : Act} {w : World} {K : Act → World → Prop} (hd : ∀ c, o.op ≠ .defer c) (h : o.wp P a w K Q) :
    o.wpIn (Fence.wide.inRound l) n P a w K Q := by
  refine ⟨fun _ _ => trivial, ?_⟩
  rw [show (Fence.wide.inRound l).round = some l from rfl, Oper.semAt_some l _ _ hd]
  unfold Oper.wp at h
  cases hr : (execOp a.eval o).run P w with
  | ok x w' =>
    rw [hr] at h
    cases x with
    | value v => exact h
    | skip => exact h
    | defer d => exact h
    | enter f args => exact ⟨fun h => Bool.noConfusion h, CallsIn.inRound l (callsIn_wide.2 h)⟩
    | row row args => exact ⟨fun h => Bool.noConfusion h, fun c cs _ => let ⟨v, w', r, s⟩ := h c cs; ⟨v, w', r, stepsIn_wide.2 s⟩⟩
    | _ => exact h.elim
  | halt x w' =>
    rw [hr] at h
    cases x <;> exact h
theorem wpOpIn_of (hnd : noDefer ops = true) (hlo : ¬ LetsOut Q) {i : Nat} {K : Act → World → Prop} {a : Act} {w : World} (h : wpOp P ops Q i K a w) : wpOpIn (Fence.wide.inRound l) n P ops Q i K a w := by
  unfold wpOp at h
  unfold wpOpIn
  cases ho : ops[i]? with
  | none => rw [ho] at h; exact h
  | some o =>
    rw [ho] at h
    simp only at h ⊢
    split
    · rename_i hw
      rw [if_pos hw] at h
      rcases h with h | ⟨_, h⟩
      · exact operIn_of (noDefer_at hnd ho) h
      · exact absurd h hlo
    · rename_i hw
      rw [if_neg hw] at h
      exact ⟨fun _ _ => trivial, h⟩
theorem wpAnyIn_of (hnd : noDefer ops = true) (hlo : ¬ LetsOut Q) {md : Region.Mode} : ∀ (fuel : Nat) (listed : Array Bool) (a : Act) (w : World), wpAny P md ops Q fuel listed a w → wpAnyIn (Fence.wide.inRound l) n P md ops Q fuel listed a w
  | 0, _, _, _, h => h
  | fuel + 1, _, _, _, h => ⟨h.1, fun i hi => wpOpIn_mono (fun a' w' h' => wpAnyIn_of hnd hlo fuel _ a' w' h') (wpOpIn_of hnd hlo (h.2 i hi))⟩
/-- A region that draws, in a round: loads are taken first under S. -/
theorem wpIn_region_heldR {id : Nat} {S : World → Prop} {a : Act} {w : World} (hm : P.follows .mixedOrders = true) (hnd : noDefer ops = true) (hlo : ¬ LetsOut Q) (hS : S w.drew)
    (h : S w.drew → wpAnyH P .any ops Q S ops.size (Array.replicate ops.size false) a w.drew) : (Code.region id ops true).wpIn (Fence.wide.inRound l) n P Q a w :=
  wpIn_region_any hm (wpAnyIn_of hnd hlo _ _ _ _ (wpAny_of_held _ _ _ _ (h hS)))
end
theorem rnd_noOut1 {B : Nat} {K : Nat → Prop} {I : Nat → World → Prop} {Ix : Code → World → Prop} {k id : Nat} {W : World} : ¬ LetsOut (Exit.inBlock id (rndPost B K I Ix k W)) := fun ⟨_, _, h⟩ => h
theorem rnd_noOut {B : Nat} {K : Nat → Prop} {I : Nat → World → Prop} {Ix : Code → World → Prop} {k : Nat} {W : World} : ¬ LetsOut (rndPost B K I Ix k W) := fun ⟨_, _, h⟩ => h

end Go.Proofs.Ytgdlleoefncikaa
