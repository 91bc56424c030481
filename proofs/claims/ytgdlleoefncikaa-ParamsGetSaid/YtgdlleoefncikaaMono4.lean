/- Steps of such a walk: rows of structs that are brought; such regions in a round of a range over a function. -/
import Derived.Test.YtgdlleoefncikaaEnc
import Derived.Test.YtgdlleoefncikaaRng
namespace Go.Proofs.Ytgdlleoefncikaa
open Go.RowKit Go.Sort
set_option linter.unusedVariables false

/-- A row of structs of the call's own, in a value F. -/
def Brings.ownE {α : Type} (E : Enc α) (B0 : Nat) (F : Value → Value) (xs : List α) : Brings where
  T := Option Addr × Nat
  inh := (none, 0)
  f t := F (.slice t.1 xs.length t.2)
  φ t w := OwnE E w B0 (.slice t.1 xs.length t.2) xs
  g t := none
  st _ _ _ hb h := h.kept hb
section
variable {md : Region.Mode} {ops : Array Oper} {w0 : World} {Lq : Act → Known → Prop} {α : Type} {E : Enc α}
theorem wpL_ownE {k k' : Nat} {Bs : List Brings} {o : Oper} {rest : List Oper} {a : Act} {s : Known} {B0 : Nat} {F : Value → Value} {xs : List α} (hk : k + 1 = k') (hw : Region.wanted o (yielded ops a.tmps) = true) (h : ∀ w, Below w0.heap.size w0 w → awaited md s o w → bringsAt Try.prog o a w (brought (Brings.ownE E B0 F xs) w))
    (hr : ∀ A c, wpL Try.prog md ops w0 Lq k' Bs rest (a.put o.dst (F (.slice A xs.length c))) (s.add k (fun w => OwnE E w B0 (.slice A xs.length c) xs) none)) : wpL Try.prog md ops w0 Lq k (Brings.ownE E B0 F xs :: Bs) (o :: rest) a s :=
  wpL_brings hk hw h fun t => hr t.1 t.2
end
theorem call_ownE {α : Type} {E : Enc α} {B0 : Nat} {F : Value → Value} {xs : List α} {w : World} {f : FuncId} {args : Array Value} (hB : B0 ≤ w.heap.size) (h : Calls Try.prog f args w fun e w' => ∃ v, e = .returned (F v) ∧ OwnE E w' w.heap.size v xs ∧ Below w.heap.size w w') :
    bringsUpon Try.prog w (brought (Brings.ownE E B0 F xs) w) (.ok (.enter f args) w) :=
  call_brings (h.mono fun e w' ⟨v, he, ho, hb⟩ => by
    obtain ⟨A, c, rfl, _⟩ := ho.slice
    exact ⟨(A, c), he, ho.lower hB, hb, fun b hb => by cases hb⟩)
/-- An empty literal of structs; structs appended onto it. -/
def Brings.litE {α : Type} (E : Enc α) (B0 : Nat) : Brings where
  T := Nat
  inh := 0
  f b := .slice (some ⟨b, 0, none⟩) 0 0
  φ b w := OwnE E w B0 (.slice (some ⟨b, 0, none⟩) 0 0) []
  g b := some b
  st _ _ _ hb h := h.kept hb
theorem lit_bringsE {α : Type} {E : Enc α} {B0 : Nat} {w : World} (hB : B0 ≤ w.heap.size) : bringsUpon Try.prog w (brought (Brings.litE E B0) w) (.ok (.value (.slice (some ⟨w.heap.size, 0, none⟩) 0 0)) (w.alloc (.cells #[] E.t))) :=
  ⟨w.heap.size, rfl, by exact RowE.own (E := E) (B := B0) (RowE.new w []) hB (Nat.zero_le _), (Below.refl _ _).alloc (Nat.le_refl _) _, fun b hb => by cases hb; exact ⟨Nat.le_refl _, by rw [World.size_alloc]; omega⟩⟩
theorem at_append_litE {α : Type} {E : Enc α} {o : Oper} {a : Act} {w : World} (s x : Operand) (t : TypeId) {B0 : Nat} {g : Nat} {A : Option Addr} {V : List α} {c : Nat}
    (ho : o.op = .call { callee := .builtin .append, args := #[s, x], argTypes := #[t, t] }) (ht : Try.prog.underlying t = some (.slice E.t)) (hs : a.eval s = .slice (some ⟨g, 0, none⟩) 0 0) (hx : a.eval x = .slice A V.length c)
    (hO : OwnE E w B0 (.slice (some ⟨g, 0, none⟩) 0 0) []) (hr : ReadsE E w A V) (hlen : V.length ≤ 10000000) (hB : B0 ≤ w.heap.size) : bringsAt Try.prog o a w (brought (Brings.ownE E B0 (fun v => v) V) w) := by
  obtain ⟨A', c', w', hrun, h1, h2⟩ := append_litE E t ht o.type hO hr c hlen hB
  exact brings_append s x t t ho hs hx hrun ⟨(A', c'), rfl, h1, h2, fun b hb => by cases hb⟩
section
variable {md : Region.Mode} {ops : Array Oper} {w0 : World} {Lq : Act → Known → Prop} {α : Type} {E : Enc α}
theorem wpL_litE {k k' : Nat} {Bs : List Brings} {o : Oper} {rest : List Oper} {a : Act} {s : Known} {B0 : Nat} (hk : k + 1 = k') (hw : Region.wanted o (yielded ops a.tmps) = true) (h : ∀ w, Below w0.heap.size w0 w → awaited md s o w → bringsAt Try.prog o a w (brought (Brings.litE E B0) w))
    (hr : ∀ b, wpL Try.prog md ops w0 Lq k' Bs rest (a.put o.dst (.slice (some ⟨b, 0, none⟩) 0 0)) (s.add k (fun w => OwnE E w B0 (.slice (some ⟨b, 0, none⟩) 0 0) []) (some b))) : wpL Try.prog md ops w0 Lq k (Brings.litE E B0 :: Bs) (o :: rest) a s :=
  wpL_brings hk hw h fun t => hr t
end
section
variable {P : Program} {w : World} {l : List Oper} {id n r : Nat} {Q : Exit → Act → World → Prop} {a : Act}
theorem mono_any (S : Nat → Brings) (hB : Region.lexB .any l.toArray = true)
    (h : wpM P .any l.toArray S w (fun a' s => ∀ w', Holds w s w' → Q .normal a' w') 0 l a Known.none_) : wpAny P .any l.toArray Q l.toArray.size (Array.replicate l.toArray.size false) a { w with drawn := w.drawn + 1 } := by
  simp only [Region.lexB, Bool.and_eq_true] at hB
  have inv0 : HeadInv .any l.toArray l.toArray.size (Array.replicate l.toArray.size false) :=
    ⟨by simp, fun j oj _ hl => (by rw [getD_replicate_false] at hl; cases hl), fun t h1 h2 => by omega⟩
  have H := anyM_lex (md := .any) (g := 0) (n := l.toArray.size) hB.1 (fun i hi listed inv hun j hj => by
    obtain ⟨_, oj, hoj, _⟩ := mem_ready.1 hj
    exact (Array.getElem?_eq_some_iff.1 hoj).1) l 0 _ a Known.none_ (fun j hj => by simp) (by simp) inv0 (by
      have := lexHead_of_from _ _ _ hB.2
      simpa using this) h
  have := wpAny_of_anyM (w0 := w) (md := .any) (ops := l.toArray) (Q' := Q) (g := 0) (fun listed a' s' w' hw' hL => by
    refine ⟨?_, hL.2 w' hw'⟩
    have := hL.1
    simpa [Region.seqB] using this) l.length _ a Known.none_ { w with drawn := w.drawn + 1 }
      ⟨⟨rfl, rfl, rfl, Nat.le_refl _, fun _ _ => rfl⟩, fun _ => trivial, fun _ _ _ _ _ => trivial, fun _ _ h => (by cases h), fun _ _ _ h => (by cases h)⟩ H
  simpa using this
theorem mono_tail_any (n : Nat) (S : Nat → Brings) (hB : Region.lexTailB .any l.toArray n = true)
    (h : wpM P .any l.toArray S w (fun a' s => ∀ w', Holds w s w' → wpList P l.toArray Q (l.drop n) a' w') 0 (l.take n) a Known.none_) : wpAny P .any l.toArray Q l.toArray.size (Array.replicate l.toArray.size false) a { w with drawn := w.drawn + 1 } := by
  simp only [Region.lexTailB, Bool.and_eq_true, decide_eq_true_eq] at hB
  obtain ⟨⟨⟨⟨hsel, hn⟩, hs⟩, hc⟩, hlex⟩ := hB
  have hn' : n < l.length := by simpa using hn
  have htl : (l.take n).length = n := by simp; omega
  have hdl : (l.drop n).length = l.toArray.size - n := by simp
  have inv0 : HeadInv .any l.toArray n (Array.replicate l.toArray.size false) :=
    ⟨by simp, fun j oj _ hl => (by rw [getD_replicate_false] at hl; cases hl), fun t _ ht => getD_in (by simpa using ht) (getD_replicate_false _ _)⟩
  have H := anyM_lex (md := .any) (g := l.toArray.size - n) (n := n) hsel (fun i hi listed inv hun j hj => by
    rcases Nat.lt_or_ge j n with h | h
    · exact h
    · exact absurd hj (tail_waits hs hc hn inv _ i rfl hi hun j h)) (l.take n) 0 _ a Known.none_ (fun j hj => by
    have hj' : j < n := by rw [htl] at hj; exact hj
    simp [hj']) (by simpa using htl) inv0 (by rw [htl]; exact hlex) h
  have := wpAny_of_anyM (w0 := w) (md := .any) (ops := l.toArray) (Q' := Q) (g := l.toArray.size - n) (fun listed a' s' w' hw' hL => by
    have := wpAny_of_seq (md := .any) (Q' := Q) (l.drop n) n listed a' w' (fun j => by simp [List.getElem?_drop]) (by rw [hdl]; exact hL.1) (hL.2 w' hw')
    rwa [hdl] at this) _ _ a Known.none_ { w with drawn := w.drawn + 1 }
      ⟨⟨rfl, rfl, rfl, Nat.le_refl _, fun _ _ => rfl⟩, fun _ => trivial, fun _ _ _ _ _ => trivial, fun _ _ h => (by cases h), fun _ _ _ h => (by cases h)⟩ H
  rw [htl, show n + (l.toArray.size - n) = l.toArray.size by omega] at this
  exact this
/-- In a round. -/
theorem wpIn_mono (Bs : List Brings) (hm : P.follows .mixedOrders = true) (hnd : noDefer l.toArray = true) (hlo : ¬ LetsOut Q) (hB : Region.lexB .any l.toArray = true)
    (h : wpL P .any l.toArray w (fun a' s => ∀ w', Holds w s w' → Q .normal a' w') 0 Bs l a Known.none_) : (Code.region id l.toArray true).wpIn (Fence.wide.inRound r) n P Q a w :=
  wpIn_region_any hm (wpAnyIn_of hnd hlo _ _ _ _ (mono_any (bringsAll Bs) hB (wpM_of_wpL l Bs 0 a _ (bringsAll_at Bs) h)))
theorem wpIn_mono_tail (k : Nat) (Bs : List Brings) (hm : P.follows .mixedOrders = true) (hnd : noDefer l.toArray = true) (hlo : ¬ LetsOut Q) (hB : Region.lexTailB .any l.toArray k = true)
    (h : wpL P .any l.toArray w (fun a' s => ∀ w', Holds w s w' → wpList P l.toArray Q (l.drop k) a' w') 0 Bs (l.take k) a Known.none_) : (Code.region id l.toArray true).wpIn (Fence.wide.inRound r) n P Q a w :=
  wpIn_region_any hm (wpAnyIn_of hnd hlo _ _ _ _ (mono_tail_any k (bringsAll Bs) hB (wpM_of_wpL (l.take k) Bs 0 a _ (bringsAll_at Bs) h)))
end
end Go.Proofs.Ytgdlleoefncikaa
