/- Steps of a walk through a region whose operations only add to memory. -/
import Derived.Test.YtgdlleoefncikaaMono
namespace Go.Proofs.Ytgdlleoefncikaa
open Go.RowKit Go.Sort
set_option linter.unusedVariables false

section
variable {P : Program} {md : Region.Mode} {ops : Array Oper} {w0 : World} {Lq : Act → Known → Prop}
def wpL (P : Program) (md : Region.Mode) (ops : Array Oper) (w0 : World) (Lq : Act → Known → Prop) : Nat → List Brings → List Oper → Act → Known → Prop
  | _, _, [], a, s => Lq a s
  | k, [], _ :: _, a, s => False
  | k, B :: Bs, o :: rest, a, s => if Region.wanted o (yielded ops a.tmps) then
      (∀ w, Below w0.heap.size w0 w → awaited md s o w → bringsAt P o a w (B.post w)) ∧ ∀ t, wpL P md ops w0 Lq (k + 1) Bs rest (a.put o.dst (B.f t)) (s.add k (B.φ t) (B.g t))
    else wpL P md ops w0 Lq (k + 1) Bs rest (a.put o.dst undef) s
theorem wpM_of_wpL {S : Nat → Brings} : ∀ (l : List Oper) (Bs : List Brings) (k : Nat) (a : Act) (s : Known), (∀ j B, Bs[j]? = some B → S (k + j) = B) → wpL P md ops w0 Lq k Bs l a s → wpM P md ops S w0 Lq k l a s
  | [], Bs, k, a, s, _, h => by cases Bs <;> exact h
  | o :: rest, [], k, a, s, _, h => h.elim
  | o :: rest, B :: Bs, k, a, s, hS, h => by
    have h0 : S k = B := hS 0 B rfl
    have hS' : ∀ j B', Bs[j]? = some B' → S (k + 1 + j) = B' := fun j B' hj => by have := hS (j + 1) B' (by simpa using hj); rw [← this]; congr 1; omega
    unfold wpL at h
    unfold wpM
    split
    · rename_i hw; rw [if_pos hw] at h; rw [h0]; exact ⟨h.1, fun t => wpM_of_wpL rest Bs (k + 1) _ _ hS' (h.2 t)⟩
    · rename_i hw; rw [if_neg hw] at h; exact wpM_of_wpL rest Bs (k + 1) _ _ hS' h
/-- The only value v, memory having grown. -/
def only (v : Value) (w : World) : Value → World → Prop := fun u w' => u = v ∧ Below w.heap.size w w'
def brought (B : Brings) (w : World) : Value → World → Prop := B.post w
theorem bringsUpon_mono {w : World} {R R' : Value → World → Prop} {r : Result Next} (h : ∀ u w', R u w' → R' u w') (hh : bringsUpon P w R r) : bringsUpon P w R' r := by
  cases r with
  | ok n w' =>
    cases n <;> simp only [bringsUpon] at hh ⊢
    case value u => exact h _ _ hh
    case skip => exact h _ _ hh
    case enter f args => exact ⟨hh.1, hh.2.mono fun e w'' ⟨u, he, hu⟩ => ⟨u, he, h _ _ hu⟩⟩
  | halt x w' => simp only [bringsUpon] at hh
theorem awaited.get {s : Known} {o : Oper} {w : World} (h : awaited md s o w) (k : Nat) (hk : (o.after.any fun e => Region.binds md e && e.on == k) = true) : s.F k w := by
  obtain ⟨e, he, hb⟩ := Array.any_eq_true'.1 hk
  simp only [Bool.and_eq_true, beq_iff_eq] at hb
  have := h e he hb.1
  rwa [hb.2] at this
theorem wpL_nil {k : Nat} {Bs : List Brings} {a : Act} {s : Known} (h : Lq a s) : wpL P md ops w0 Lq k Bs [] a s := by cases Bs <;> exact h
section
variable {k k' : Nat} {Bs : List Brings} {o : Oper} {rest : List Oper} {a : Act} {s : Known}
/-- An operation that reads what was there, or reckons. -/
theorem wpL_take {v : Value} (hk : k + 1 = k') (hw : Region.wanted o (yielded ops a.tmps) = true) (h : ∀ (d : Nat) (os : Array Obj), bringsAt P o a (grow (redrawn w0 d) os) (only v (grow (redrawn w0 d) os)))
    (hr : wpL P md ops w0 Lq k' Bs rest (a.put o.dst v) (s.add k (fun _ => True) none)) : wpL P md ops w0 Lq k (Brings.one v :: Bs) (o :: rest) a s := by
  subst hk
  unfold wpL
  rw [if_pos hw]
  refine ⟨fun w hb hd => ?_, fun _ => hr⟩
  obtain ⟨p, rfl⟩ := regrown_of_below hb
  exact bringsUpon_mono (fun u w' hu => ⟨(), hu.1, trivial, hu.2, fun b hb => by cases hb⟩) (h p.d p.os)
/-- A call with one answer. -/
theorem wpL_call {v : Value} (hk : k + 1 = k') (hw : Region.wanted o (yielded ops a.tmps) = true) (h : ∀ w, Below w0.heap.size w0 w → awaited md s o w → bringsAt P o a w (only v w))
    (hr : wpL P md ops w0 Lq k' Bs rest (a.put o.dst v) (s.add k (fun _ => True) none)) : wpL P md ops w0 Lq k (Brings.one v :: Bs) (o :: rest) a s := by
  subst hk
  unfold wpL
  rw [if_pos hw]
  refine ⟨fun w hb hd => ?_, fun _ => hr⟩
  exact bringsUpon_mono (fun u w' hu => ⟨(), hu.1, trivial, hu.2, fun b hb => by cases hb⟩) (h w hb hd)
/-- An operation that brings something of its own. -/
theorem wpL_brings {B : Brings} (hk : k + 1 = k') (hw : Region.wanted o (yielded ops a.tmps) = true) (h : ∀ w, Below w0.heap.size w0 w → awaited md s o w → bringsAt P o a w (brought B w))
    (hr : ∀ t, wpL P md ops w0 Lq k' Bs rest (a.put o.dst (B.f t)) (s.add k (B.φ t) (B.g t))) : wpL P md ops w0 Lq k (B :: Bs) (o :: rest) a s := by
  subst hk
  unfold wpL
  rw [if_pos hw]
  exact ⟨h, hr⟩
/-- One that is left out. -/
theorem wpL_skip {B : Brings} (hk : k + 1 = k') (hw : Region.wanted o (yielded ops a.tmps) = false)
    (hr : wpL P md ops w0 Lq k' Bs rest (a.put o.dst undef) s) : wpL P md ops w0 Lq k (B :: Bs) (o :: rest) a s := by
  subst hk
  unfold wpL
  rw [if_neg (by rw [hw]; decide)]
  exact hr
end
theorem take_one {w : World} {v : Value} : bringsUpon P w (only v w) (.ok (.value v) w) := ⟨rfl, Below.refl _ _⟩
theorem skip_one {w : World} : bringsUpon P w (only undef w) (.ok .skip w) := ⟨rfl, Below.refl _ _⟩
theorem call_one {w : World} {v : Value} {f : FuncId} {args : Array Value} (h : Calls P f args w fun e w' => e = .returned v ∧ Below w.heap.size w w') : bringsUpon P w (only v w) (.ok (.enter f args) w) :=
  ⟨rfl, h.mono fun e w' ⟨he, hb⟩ => ⟨v, he, rfl, hb⟩⟩
theorem call_one_as {w : World} {v v' : Value} {f : FuncId} {args : Array Value} (h : Calls P f args w fun e w' => e = .returned v ∧ Below w.heap.size w w') (hv : v = v') : bringsUpon P w (only v' w) (.ok (.enter f args) w) := by
  subst hv
  exact call_one h
theorem call_same_as {w : World} {v v' : Value} {f : FuncId} {args : Array Value} (h : Calls P f args w fun e w' => e = .returned v ∧ w = w') (hv : v = v') : bringsUpon P w (only v' w) (.ok (.enter f args) w) := by
  subst hv
  exact call_one (h.mono fun e w' ⟨he, hb⟩ => by subst hb; exact ⟨he, Below.refl _ _⟩)
theorem call_same {w : World} {v : Value} {f : FuncId} {args : Array Value} (h : Calls P f args w fun e w' => e = .returned v ∧ w = w') : bringsUpon P w (only v w) (.ok (.enter f args) w) :=
  call_one (h.mono fun e w' ⟨he, hb⟩ => by subst hb; exact ⟨he, Below.refl _ _⟩)
theorem call_brings {B : Brings} {w : World} {f : FuncId} {args : Array Value} (h : Calls P f args w fun e w' => ∃ t, e = .returned (B.f t) ∧ B.φ t w' ∧ Below w.heap.size w w' ∧ ∀ b, B.g t = some b → w.heap.size ≤ b ∧ b < w'.heap.size) : bringsUpon P w (brought B w) (.ok (.enter f args) w) :=
  ⟨rfl, h.mono fun e w' ⟨t, he, h1, h2, h3⟩ => ⟨B.f t, he, t, rfl, h1, h2, h3⟩⟩
/-- The same world, a value that is told by letters. -/
theorem take_brings {B : Brings} {w : World} {u : Value} (t : B.T) (hu : u = B.f t) (hφ : B.φ t w) (hg : B.g t = none) : bringsUpon P w (brought B w) (.ok (.value u) w) :=
  ⟨t, hu, hφ, Below.refl _ _, fun b hb => by rw [hg] at hb; cases hb⟩

/-! Kinds of things that are brought. -/
theorem take_new {B : Brings} {w w' : World} {u : Value} (t : B.T) (hu : u = B.f t) (hφ : B.φ t w') (hb : Below w.heap.size w w') (hg : ∀ b, B.g t = some b → w.heap.size ≤ b ∧ b < w'.heap.size) : bringsUpon P w (brought B w) (.ok (.value u) w') :=
  ⟨t, hu, hφ, hb, hg⟩
/-- A row of the call's own, in a value F. -/
def Brings.own (B0 : Nat) (F : Value → Value) (xs : List Int) : Brings where
  T := Option Addr × Nat
  inh := (none, 0)
  f t := F (.slice t.1 xs.length t.2)
  φ t w := OwnI w B0 (.slice t.1 xs.length t.2) xs
  g t := (Value.slice t.1 xs.length t.2).ownBlock
  st _ _ _ hb h := h.kept hb
/-- A row that reads, in a value F. -/
def Brings.reads (F : Value → Value) (xs : List Int) : Brings where
  T := Option Addr × Nat
  inh := (none, 0)
  f t := F (.slice t.1 xs.length t.2)
  φ t w := ReadsI w t.1 xs
  g t := none
  st _ _ _ hb h := h.kept hb
/-- A new box. -/
def Brings.box (τ : TypeId) (cs : Array Value) : Brings where
  T := Nat
  inh := 0
  f b := .pointer (some ⟨b, 0, none⟩)
  φ b w := Blk w b τ cs
  g b := some b
  st _ _ _ hb h := h.below hb h.lt
theorem call_own {B0 : Nat} {F : Value → Value} {xs : List Int} {w : World} {f : FuncId} {args : Array Value} (hB : B0 ≤ w.heap.size) (h : Calls P f args w fun e w' => ∃ v, e = .returned (F v) ∧ OwnI w' w.heap.size v xs ∧ Below w.heap.size w w') :
    bringsUpon P w (brought (Brings.own B0 F xs) w) (.ok (.enter f args) w) :=
  call_brings (h.mono fun e w' ⟨v, he, ho, hb⟩ => by
    obtain ⟨A, c, rfl, _⟩ := ho.slice
    exact ⟨(A, c), he, ho.lower hB, hb, fun b hb => ho.blk_lt b hb⟩)
theorem call_reads {F : Value → Value} {xs : List Int} {w : World} {f : FuncId} {args : Array Value} (h : Calls P f args w fun e w' => ∃ A c, e = .returned (F (.slice A xs.length c)) ∧ ReadsI w' A xs ∧ Below w.heap.size w w') :
    bringsUpon P w (brought (Brings.reads F xs) w) (.ok (.enter f args) w) :=
  call_brings (h.mono fun e w' ⟨A, c, he, hr, hb⟩ => ⟨(A, c), he, hr, hb, fun b hb => by cases hb⟩)
theorem wpL_own {k k' : Nat} {Bs : List Brings} {o : Oper} {rest : List Oper} {a : Act} {s : Known} {B0 : Nat} {F : Value → Value} {xs : List Int} (hk : k + 1 = k') (hw : Region.wanted o (yielded ops a.tmps) = true) (h : ∀ w, Below w0.heap.size w0 w → awaited md s o w → bringsAt P o a w (brought (Brings.own B0 F xs) w))
    (hr : ∀ A c, wpL P md ops w0 Lq k' Bs rest (a.put o.dst (F (.slice A xs.length c))) (s.add k (fun w => OwnI w B0 (.slice A xs.length c) xs) (Value.slice A xs.length c).ownBlock)) : wpL P md ops w0 Lq k (Brings.own B0 F xs :: Bs) (o :: rest) a s :=
  wpL_brings hk hw h fun t => hr t.1 t.2
theorem wpL_reads {k k' : Nat} {Bs : List Brings} {o : Oper} {rest : List Oper} {a : Act} {s : Known} {F : Value → Value} {xs : List Int} (hk : k + 1 = k') (hw : Region.wanted o (yielded ops a.tmps) = true) (h : ∀ w, Below w0.heap.size w0 w → awaited md s o w → bringsAt P o a w (brought (Brings.reads F xs) w))
    (hr : ∀ A c, wpL P md ops w0 Lq k' Bs rest (a.put o.dst (F (.slice A xs.length c))) (s.add k (fun w => ReadsI w A xs) none)) : wpL P md ops w0 Lq k (Brings.reads F xs :: Bs) (o :: rest) a s :=
  wpL_brings hk hw h fun t => hr t.1 t.2
theorem wpL_box {k k' : Nat} {Bs : List Brings} {o : Oper} {rest : List Oper} {a : Act} {s : Known} {τ : TypeId} {cs : Array Value} (hk : k + 1 = k') (hw : Region.wanted o (yielded ops a.tmps) = true) (h : ∀ w, Below w0.heap.size w0 w → awaited md s o w → bringsAt P o a w (brought (Brings.box τ cs) w))
    (hr : ∀ b, wpL P md ops w0 Lq k' Bs rest (a.put o.dst (.pointer (some ⟨b, 0, none⟩))) (s.add k (fun w => Blk w b τ cs) (some b))) : wpL P md ops w0 Lq k (Brings.box τ cs :: Bs) (o :: rest) a s :=
  wpL_brings hk hw h fun t => hr t
theorem alloc_box {τ : TypeId} {cs : Array Value} {w : World} : bringsUpon P w (brought (Brings.box τ cs) w) (.ok (.value (.pointer (some ⟨w.heap.size, 0, none⟩))) (w.alloc (.cells cs τ))) :=
  ⟨w.heap.size, rfl, Blk.new w τ cs, (Below.refl _ _).alloc (Nat.le_refl _) _, fun b hb => by cases hb; exact ⟨Nat.le_refl _, by rw [World.size_alloc]; omega⟩⟩
end

section
variable {P : Program} {w : World} {l : List Oper} {id : Nat} {Q : Exit → Act → World → Prop} {a : Act}
def bringsAll (Bs : List Brings) (k : Nat) : Brings := Bs.getD k (Brings.one undef)
theorem bringsAll_at (Bs : List Brings) (j : Nat) (B : Brings) (h : Bs[j]? = some B) : bringsAll Bs (0 + j) = B := by
  unfold bringsAll
  rw [Nat.zero_add, List.getD_eq_getElem?_getD, h]
  rfl
theorem wp_mono (Bs : List Brings) (hm : P.follows .mixedOrders = true) (hB : Region.lexB .any l.toArray = true)
    (h : wpL P .any l.toArray w (fun a' s => ∀ w', Holds w s w' → Q .normal a' w') 0 Bs l a Known.none_) : (Code.region id l.toArray true).wp P Q a w :=
  wp_region_mono (bringsAll Bs) hm hB (wpM_of_wpL l Bs 0 a _ (bringsAll_at Bs) h)
theorem wp_mono_tail (n : Nat) (Bs : List Brings) (hm : P.follows .mixedOrders = true) (hB : Region.lexTailB .any l.toArray n = true)
    (h : wpL P .any l.toArray w (fun a' s => ∀ w', Holds w s w' → wpList P l.toArray Q (l.drop n) a' w') 0 Bs (l.take n) a Known.none_) : (Code.region id l.toArray true).wp P Q a w :=
  wp_region_mono_tail n (bringsAll Bs) hm hB (wpM_of_wpL (l.take n) Bs 0 a _ (bringsAll_at Bs) h)
end
end Go.Proofs.Ytgdlleoefncikaa
