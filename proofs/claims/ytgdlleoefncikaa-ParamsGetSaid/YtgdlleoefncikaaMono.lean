/- Regions that draw their order, whose operations only add to memory: one walk in the text's order serves every order, each operation's value being told by letters of its own. -/
import Derived.Test.YtgdlleoefncikaaWalk
import Derived.Lib.QuietBelow
import Derived.BigQuiet
import Derived.StillTail
namespace Go.Proofs.Ytgdlleoefncikaa
open Go.RowKit Go.Sort
set_option linter.unusedVariables false

/-- What an operation brings: for some letters t the value f t, of which φ t holds from then on; g t: a block that it laid. -/
structure Brings where
  T : Type
  inh : T
  f : T → Value
  φ : T → World → Prop
  g : T → Option Nat
  st : ∀ t w w', Below w.heap.size w w' → φ t w → φ t w'
def Brings.one (v : Value) : Brings := ⟨Unit, (), fun _ => v, fun _ _ => True, fun _ => none, fun _ _ _ _ h => h⟩
def Brings.post (S : Brings) (w : World) (u : Value) (w' : World) : Prop := ∃ t, u = S.f t ∧ S.φ t w' ∧ Below w.heap.size w w' ∧ ∀ b, S.g t = some b → w.heap.size ≤ b ∧ b < w'.heap.size
def bringsUpon (P : Program) (w : World) (R : Value → World → Prop) : Result Next → Prop
  | .ok (.value u) w' => R u w'
  | .ok .skip w' => R undef w'
  | .ok (.enter f args) w' => w' = w ∧ Calls P f args w (fun e w'' => ∃ u, e = .returned u ∧ R u w'')
  | _ => False
def bringsAt (P : Program) (o : Oper) (a : Act) (w : World) (R : Value → World → Prop) : Prop := bringsUpon P w R ((execOp a.eval o).run P w)
/-- What is known: facts by operation, blocks by operation. -/
structure Known where
  F : Nat → World → Prop
  X : Nat → Option Nat
def Known.none_ : Known := ⟨fun _ _ => True, fun _ => none⟩
def Known.add (s : Known) (i : Nat) (φ : World → Prop) (b : Option Nat) : Known := ⟨fun k => if k = i then φ else s.F k, fun k => if k = i then b else s.X k⟩
theorem Known.add_comm (s : Known) {i j : Nat} (h : i ≠ j) (φ ψ : World → Prop) (b c : Option Nat) : (s.add i φ b).add j ψ c = (s.add j ψ c).add i φ b := by
  unfold Known.add
  simp only [Known.mk.injEq]
  constructor <;> funext k <;> by_cases h1 : k = i <;> by_cases h2 : k = j <;> simp [h1, h2]
  · subst h1; subst h2; exact absurd rfl h
  · subst h1; exact fun e => absurd e h
  · intro e; exact absurd e.symm h
  · subst h1; subst h2; exact absurd rfl h
  · subst h1; exact fun e => absurd e h
  · intro e; exact absurd e.symm h

section
variable {P : Program} {md : Region.Mode} {ops : Array Oper} {S : Nat → Brings} {w0 : World}
/-- The facts of those that an operation waits for. -/
def awaited (md : Region.Mode) (s : Known) (o : Oper) (w : World) : Prop := ∀ e ∈ o.after, Region.binds md e = true → s.F e.on w
theorem awaited_add {s : Known} {o : Oper} {w : World} {i : Nat} {φ : World → Prop} {b : Option Nat} (h : ∀ e ∈ o.after, Region.binds md e = true → e.on ≠ i) (hd : awaited md s o w) : awaited md (s.add i φ b) o w := fun e he hb => by
  unfold Known.add
  dsimp only
  rw [if_neg (h e he hb)]
  exact hd e he hb
def monoOp (P : Program) (md : Region.Mode) (ops : Array Oper) (S : Nat → Brings) (w0 : World) (i : Nat) (K : Act → Known → Prop) (a : Act) (s : Known) : Prop :=
  match ops[i]? with
  | none => K a s
  | some o => if Region.wanted o (yielded ops a.tmps) then
      (∀ w, Below w0.heap.size w0 w → awaited md s o w → bringsAt P o a w ((S i).post w)) ∧ ∀ t, K (a.put o.dst ((S i).f t)) (s.add i ((S i).φ t) ((S i).g t))
    else K (a.put o.dst undef) s
theorem monoOp_mono {i : Nat} {a : Act} {s : Known} {K K' : Act → Known → Prop} (h : ∀ a s, K a s → K' a s) (hh : monoOp P md ops S w0 i K a s) : monoOp P md ops S w0 i K' a s := by
  unfold monoOp at *
  split
  · exact h _ _ (by simpa [*] using hh)
  · rename_i o ho
    simp only [ho] at hh
    split
    · rename_i hw; simp only [hw, if_true] at hh; exact ⟨hh.1, fun t => h _ _ (hh.2 t)⟩
    · rename_i hw; simp only [hw] at hh; exact h _ _ hh
/-- In whatever order: behind f operations L holds. -/
def anyM (P : Program) (md : Region.Mode) (ops : Array Oper) (S : Nat → Brings) (w0 : World) (n : Nat) (L : Array Bool → Act → Known → Prop) : Nat → Array Bool → Act → Known → Prop
  | 0, listed, a, s => L listed a s
  | f + 1, listed, a, s => Region.ready md ops listed ≠ [] ∧ ∀ i ∈ Region.ready md ops listed, i < n ∧ monoOp P md ops S w0 i (anyM P md ops S w0 n L f (listed.setIfInBounds i true)) a s
/-- A world in which all that is known holds. -/
structure Holds (w0 : World) (s : Known) (w : World) : Prop where
  below : Below w0.heap.size w0 w
  facts : ∀ k, s.F k w
  st : ∀ k w w', Below w.heap.size w w' → s.F k w → s.F k w'
  lt : ∀ k b, s.X k = some b → w0.heap.size ≤ b ∧ b < w.heap.size
  ne : ∀ k j b, s.X k = some b → s.X j = some b → k = j
theorem Holds.next {s : Known} {w w' : World} {i : Nat} {B : Brings} {t : B.T} (h : Holds w0 s w) (hb : Below w.heap.size w w') (hφ : B.φ t w') (hg : ∀ b, B.g t = some b → w.heap.size ≤ b ∧ b < w'.heap.size) : Holds w0 (s.add i (B.φ t) (B.g t)) w' := by
  have hs := h.below.size
  refine ⟨h.below.trans (hb.mono hs), fun k => ?_, fun k u u' hu => ?_, fun k b hk => ?_, fun k j b hk hj => ?_⟩ <;> unfold Known.add at * <;> dsimp only at *
  · by_cases e : k = i
    · rw [if_pos e]; exact hφ
    · rw [if_neg e]; exact h.st k _ _ hb (h.facts k)
  · by_cases e : k = i
    · rw [if_pos e]; exact B.st t u u' hu
    · rw [if_neg e]; exact h.st k u u' hu
  · by_cases e : k = i
    · rw [if_pos e] at hk; have := hg b hk; omega
    · rw [if_neg e] at hk; have := h.lt k b hk; have := hb.size; omega
  · by_cases e : k = i <;> by_cases e' : j = i
    · omega
    · rw [if_pos e] at hk; rw [if_neg e'] at hj; have := hg b hk; have := h.lt j b hj; omega
    · rw [if_neg e] at hk; rw [if_pos e'] at hj; have := hg b hj; have := h.lt k b hk; omega
    · rw [if_neg e] at hk; rw [if_neg e'] at hj; exact h.ne k j b hk hj
theorem wpOp_of_mono {i : Nat} {a : Act} {s : Known} {K : Act → Known → Prop} {K' : Act → World → Prop} {Q' : Exit → Act → World → Prop} {w : World} (hw : Holds w0 s w) (h : ∀ a s w', Holds w0 s w' → K a s → K' a w') (hh : monoOp P md ops S w0 i K a s) : wpOp P ops Q' i K' a w := by
  unfold monoOp at hh
  unfold wpOp
  split
  · rename_i ho; simp only [ho] at hh; exact h _ _ _ hw hh
  · rename_i o ho
    simp only [ho] at hh
    split
    · rename_i hwt
      simp only [hwt, if_true] at hh
      refine .inl ?_
      have h3 := hh.1 w hw.below (fun e _ _ => hw.facts e.on)
      have go : ∀ u w', (S i).post w u w' → K' (a.put o.dst u) w' := by
        rintro u w' ⟨t, rfl, hφ, hb, hg⟩
        exact h _ _ _ (hw.next hb hφ hg) (hh.2 t)
      unfold bringsAt at h3
      unfold Oper.wp
      generalize (execOp a.eval o).run P w = r at *
      cases r with
      | ok n w' =>
        cases n <;> simp only [bringsUpon] at h3 <;> simp only [Oper.upon]
        case value u => exact go _ _ h3
        case skip => exact go _ _ h3
        case enter f args =>
          obtain ⟨e1, hc⟩ := h3
          rw [e1]
          exact hc.mono fun e w'' ⟨u, he, hu⟩ => by subst he; exact go _ _ hu
      | halt x w' => simp only [bringsUpon] at h3
    · rename_i hwt; simp only [hwt] at hh; exact h _ _ _ hw hh
theorem wpAny_of_anyM {n g : Nat} {L : Array Bool → Act → Known → Prop} {Q' : Exit → Act → World → Prop} (hL : ∀ listed a s w, Holds w0 s w → L listed a s → wpAny P md ops Q' g listed a w) :
    ∀ (f : Nat) (listed : Array Bool) (a : Act) (s : Known) (w : World), Holds w0 s w → anyM P md ops S w0 n L f listed a s → wpAny P md ops Q' (f + g) listed a w
  | 0, listed, a, s, w, hw, h => by rw [Nat.zero_add]; exact hL _ _ _ _ hw h
  | f + 1, listed, a, s, w, hw, h => by
    rw [show f + 1 + g = (f + g) + 1 by omega]
    exact ⟨fun h0 => absurd h0 h.1, fun i hi => wpOp_of_mono hw (fun a' s' w' hw' h' => wpAny_of_anyM hL f _ a' s' w' hw' h') (h.2 i hi).2⟩

/-- What is shown of an operation that comes up, whatever is known. -/
theorem monoOp_put {j : Nat} {oj : Oper} {i : Nat} {oi : Oper} (hj : ops[j]? = some oj) (hap : oi.apart ops oj = true) (hji : j ≠ i)
    (hsi : ∀ cs b, oi.op ≠ .select cs b) (hsj : ∀ cs b, oj.op ≠ .select cs b) (hnot : ∀ e ∈ oj.after, Region.binds md e = true → e.on ≠ i) (hnoi : ∀ e ∈ oi.after, Region.binds md e = true → e.on ≠ j)
    {K K' : Act → Known → Prop} {a : Act} {s : Known} (hwi : Region.wanted oi (yielded ops a.tmps) = true) (hi : ∀ w, Below w0.heap.size w0 w → awaited md s oi w → bringsAt P oi a w ((S i).post w))
    (h : ∀ t, monoOp P md ops S w0 j K (a.put oi.dst ((S i).f t)) (s.add i ((S i).φ t) ((S i).g t)))
    (hK : ∀ a' s', Region.wanted oi (yielded ops a'.tmps) = true → (∀ w, Below w0.heap.size w0 w → awaited md s' oi w → bringsAt P oi a' w ((S i).post w)) → (∀ t, K (a'.put oi.dst ((S i).f t)) (s'.add i ((S i).φ t) ((S i).g t))) → K' a' s') :
    monoOp P md ops S w0 j K' a s := by
  obtain ⟨h1, h2, h3⟩ := Oper.apart_spec hap
  have keepw : ∀ u, Region.wanted oi (yielded ops (a.put oj.dst u).tmps) = true := fun u => by rw [wanted_put oi a oj.dst u h3]; exact hwi
  have keepi : ∀ u (ψ : World → Prop) c, ∀ w, Below w0.heap.size w0 w → awaited md (s.add j ψ c) oi w → bringsAt P oi (a.put oj.dst u) w ((S i).post w) := fun u ψ c w hb hd => by
    unfold bringsAt
    rw [execOp_put oi hsi a oj.dst u h3]
    refine hi w hb fun e he hbe => ?_
    have := hd e he hbe
    unfold Known.add at this
    dsimp only at this
    rwa [if_neg (hnoi e he hbe)] at this
  have keepi0 : ∀ u, ∀ w, Below w0.heap.size w0 w → awaited md s oi w → bringsAt P oi (a.put oj.dst u) w ((S i).post w) := fun u w hb hd => by
    unfold bringsAt
    rw [execOp_put oi hsi a oj.dst u h3]
    exact hi w hb hd
  unfold monoOp at *
  simp only [hj] at *
  have hwj : ∀ v, Region.wanted oj (yielded ops (a.put oi.dst v).tmps) = Region.wanted oj (yielded ops a.tmps) := fun v => wanted_put oj a oi.dst v h1
  split
  · rename_i hw
    refine ⟨fun w hb hd => ?_, fun t' => ?_⟩
    · have := h (S i).inh
      rw [hwj, if_pos hw] at this
      have := this.1 w hb (awaited_add hnot hd)
      unfold bringsAt at *
      rwa [execOp_put oj hsj a oi.dst _ h1] at this
    · refine hK _ _ (keepw _) (keepi _ _ _) fun t => ?_
      have := h t
      rw [hwj, if_pos hw] at this
      have := this.2 t'
      rw [Act.put_comm a _ _ h2, Known.add_comm s (fun e => hji e.symm)] at this
      exact this
  · rename_i hw
    refine hK _ _ (keepw _) (keepi0 _) fun t => ?_
    have := h t
    rw [hwj, if_neg hw] at this
    rw [Act.put_comm a _ _ h2] at this
    exact this
/-- The same, of an operation that is left out. -/
theorem monoOp_put_no {j : Nat} {oj : Oper} {oi : Oper} (hj : ops[j]? = some oj) (hap : oi.apart ops oj = true)
    (hsj : ∀ cs b, oj.op ≠ .select cs b)
    {K K' : Act → Known → Prop} {a : Act} {s : Known} (hwi : Region.wanted oi (yielded ops a.tmps) = false)
    (h : monoOp P md ops S w0 j K (a.put oi.dst undef) s)
    (hK : ∀ a' s', Region.wanted oi (yielded ops a'.tmps) = false → K (a'.put oi.dst undef) s' → K' a' s') :
    monoOp P md ops S w0 j K' a s := by
  obtain ⟨h1, h2, h3⟩ := Oper.apart_spec hap
  have keepw : ∀ u, Region.wanted oi (yielded ops (a.put oj.dst u).tmps) = false := fun u => by rw [wanted_put oi a oj.dst u h3]; exact hwi
  unfold monoOp at *
  simp only [hj] at *
  rw [wanted_put oj a oi.dst _ h1] at h
  split
  · rename_i hw
    rw [if_pos hw] at h
    refine ⟨fun w hb hd => ?_, fun t' => ?_⟩
    · have := h.1 w hb hd
      unfold bringsAt at *
      rwa [execOp_put oj hsj a oi.dst _ h1] at this
    · refine hK _ _ (keepw _) ?_
      have := h.2 t'
      rw [Act.put_comm a _ _ h2] at this
      exact this
  · rename_i hw
    rw [if_neg hw] at h
    refine hK _ _ (keepw _) ?_
    rw [Act.put_comm a _ _ h2] at h
    exact h

/-- An operation that is ready may be taken first. -/
theorem anyM_first {n i : Nat} {oi : Oper} {L : Array Bool → Act → Known → Prop} (hi : ops[i]? = some oi) (hsel : ∀ (j : Nat) (o : Oper) cs b, ops[j]? = some o → o.op ≠ .select cs b)
    (hin : i < n) (htail : ∀ listed, HeadInv md ops n listed → listed.getD i true = false → ∀ j ∈ Region.ready md ops listed, j < n)
    (hdone : ∀ listed a s, L listed a s → ∀ j ∈ Region.ready md ops listed, n ≤ j) :
    ∀ (f : Nat) (listed : Array Bool) (a : Act) (s : Known), HeadInv md ops n listed →
      (∀ j oj, ops[j]? = some oj → j ≠ i → listed.getD j true = false → (∀ e ∈ oj.after, Region.binds md e = true → e.on ≠ i) → oi.apart ops oj = true) →
      i ∈ Region.ready md ops listed → monoOp P md ops S w0 i (anyM P md ops S w0 n L f (listed.setIfInBounds i true)) a s → anyM P md ops S w0 n L (f + 1) listed a s := by
  intro f
  induction f with
  | zero =>
    intro listed a s inv _ hr H
    have hun := (mem_ready.1 hr).1
    refine ⟨fun h => (by rw [h] at hr; cases hr), fun j hj => ?_⟩
    refine ⟨htail listed inv hun j hj, ?_⟩
    by_cases hji : j = i
    · subst hji; exact H
    · exfalso
      have hex : ∃ a' s', L (listed.setIfInBounds i true) a' s' := by
        unfold monoOp at H
        simp only [hi] at H
        split at H
        · exact ⟨_, _, H.2 (S i).inh⟩
        · exact ⟨_, _, H⟩
      obtain ⟨a', s', hL⟩ := hex
      have := hdone _ _ _ hL j (ready_mono hj hji)
      have := htail listed inv hun j hj
      omega
  | succ f ih =>
    intro listed a s inv hfree hr H
    obtain ⟨hun, oi', hoi', halli⟩ := mem_ready.1 hr
    have : oi' = oi := Option.some.inj (hoi'.symm.trans hi)
    subst this
    refine ⟨fun h => (by rw [h] at hr; cases hr), fun j hj => ?_⟩
    have hjn := htail listed inv hun j hj
    refine ⟨hjn, ?_⟩
    by_cases hji : j = i
    · subst hji; exact H
    · obtain ⟨hjun, oj, hoj, hall⟩ := mem_ready.1 hj
      have hnot : ∀ e ∈ oj.after, Region.binds md e = true → e.on ≠ i := fun e he hb heq => by
        have h1 := hall e he hb
        rw [heq, getD_both hun] at h1
        cases h1
      have hnoi : ∀ e ∈ oi'.after, Region.binds md e = true → e.on ≠ j := fun e he hb heq => by
        have h1 := halli e he hb
        rw [heq, getD_both hjun] at h1
        cases h1
      have hap := hfree j oj hoj hji hjun hnot
      have hfree' : ∀ k ok, ops[k]? = some ok → k ≠ i → (listed.setIfInBounds j true).getD k true = false →
          (∀ e ∈ ok.after, Region.binds md e = true → e.on ≠ i) → oi'.apart ops ok = true := fun k ok hk hki hun hno => by
        refine hfree k ok hk hki ?_ hno
        by_cases hjk : j = k
        · subst hjk; exact hjun
        · rw [getD_set_ne true hjk] at hun; exact hun
      have inv' := inv.set hj hjn
      have hr' := ready_mono hr (Ne.symm hji)
      have hcomm : ∀ l : Array Bool, (l.setIfInBounds j true).setIfInBounds i true = (l.setIfInBounds i true).setIfInBounds j true := fun l => Array.setIfInBounds_comm _ _ hji
      unfold monoOp at H
      simp only [hi] at H
      split at H
      · rename_i hw
        refine monoOp_put (i := i) (oi := oi') hoj hap hji (fun cs b => hsel i oi' cs b hi) (fun cs b => hsel j oj cs b hoj) hnot hnoi hw H.1 (fun t => ((H.2 t).2 j (ready_mono hj hji)).2) ?_
        intro a' s' hw' hi' hK
        refine ih _ a' s' inv' hfree' hr' ?_
        unfold monoOp
        simp only [hi, hw', if_true]
        exact ⟨hi', fun t => by rw [hcomm]; exact hK t⟩
      · rename_i hw
        have hw := Bool.eq_false_iff.2 hw
        refine monoOp_put_no (oi := oi') hoj hap (fun cs b => hsel j oj cs b hoj) hw (H.2 j (ready_mono hj hji)).2 ?_
        intro a' s' hw' hK
        refine ih _ a' s' inv' hfree' hr' ?_
        unfold monoOp
        simp only [hi, hw', Bool.false_eq_true, if_false]
        rw [hcomm]; exact hK

/-- The walk in the text's order. -/
def wpM (P : Program) (md : Region.Mode) (ops : Array Oper) (S : Nat → Brings) (w0 : World) (Lq : Act → Known → Prop) : Nat → List Oper → Act → Known → Prop
  | _, [], a, s => Lq a s
  | k, o :: rest, a, s => if Region.wanted o (yielded ops a.tmps) then
      (∀ w, Below w0.heap.size w0 w → awaited md s o w → bringsAt P o a w ((S k).post w)) ∧ ∀ t, wpM P md ops S w0 Lq (k + 1) rest (a.put o.dst ((S k).f t)) (s.add k ((S k).φ t) ((S k).g t))
    else wpM P md ops S w0 Lq (k + 1) rest (a.put o.dst undef) s
theorem anyM_lex {n g : Nat} {Lq : Act → Known → Prop} (hsel : Region.noSelect ops = true) (htail : ∀ i, i < n → ∀ listed, HeadInv md ops n listed → listed.getD i true = false → ∀ j ∈ Region.ready md ops listed, j < n) :
    ∀ (l : List Oper) (k : Nat) (listed : Array Bool) (a : Act) (s : Known), (∀ j, j < l.length → l[j]? = ops[k + j]?) → k + l.length = n → HeadInv md ops n listed →
    Region.lexHead md ops g l.length k listed = true → wpM P md ops S w0 Lq k l a s →
    anyM P md ops S w0 n (fun listed' a' s' => Region.seqB md ops g n listed' = true ∧ Lq a' s') l.length listed a s
  | [], k, listed, a, s, _, hk, _, hB, h => by
    have : k = n := by simpa using hk
    subst this
    exact ⟨by simpa [Region.lexHead] using hB, h⟩
  | o :: l, k, listed, a, s, hl, hk, inv, hB, h => by
    have h0 : ops[k]? = some o := by simpa using (hl 0 (by simp)).symm
    simp only [List.length_cons, Region.lexHead, Bool.and_eq_true] at hB
    obtain ⟨⟨hr, hf⟩, hB'⟩ := hB
    have hkn : k < n := by simp only [List.length_cons] at hk; omega
    have hr' : k ∈ Region.ready md ops listed := by simpa using hr
    refine anyM_first h0 (Region.noSelect_spec hsel) hkn (htail k hkn) (fun listed' a' s' hL => seqB_ready hL.1) l.length listed a s inv (Region.free_spec h0 hf) hr' ?_
    have IH := fun a' s' => anyM_lex (g := g) (Lq := Lq) hsel htail l (k + 1) _ a' s' (fun j hj => by have := hl (j + 1) (by simp; omega); simpa [Nat.add_assoc, Nat.add_comm 1 j] using this) (by simp only [List.length_cons] at hk; omega) (inv.set hr' hkn) hB'
    unfold wpM at h
    unfold monoOp
    simp only [h0]
    split
    · rename_i hw; simp only [hw, if_true] at h; exact ⟨h.1, fun t => IH _ _ (h.2 t)⟩
    · rename_i hw; simp only [hw] at h; exact IH _ _ h
theorem lexHead_of_from : ∀ (f k : Nat) (listed : Array Bool), Region.lexFrom md ops f k listed = true → Region.lexHead md ops 0 f k listed = true
  | 0, k, listed, h => by simpa [Region.lexHead, Region.seqB, Region.lexFrom] using h
  | f + 1, k, listed, h => by
    simp only [Region.lexFrom, Region.lexHead, Bool.and_eq_true] at h ⊢
    exact ⟨h.1, lexHead_of_from f (k + 1) _ h.2⟩
end

section
variable {P : Program} {w : World} {l : List Oper} {id : Nat} {Q : Exit → Act → World → Prop} {a : Act}
/-- A region that draws its order and whose operations only add. -/
theorem wp_region_mono (S : Nat → Brings) (hm : P.follows .mixedOrders = true) (hB : Region.lexB .any l.toArray = true)
    (h : wpM P .any l.toArray S w (fun a' s => ∀ w', Holds w s w' → Q .normal a' w') 0 l a Known.none_) : (Code.region id l.toArray true).wp P Q a w := by
  simp only [Region.lexB, Bool.and_eq_true] at hB
  have inv0 : HeadInv .any l.toArray l.toArray.size (Array.replicate l.toArray.size false) :=
    ⟨by simp, fun j oj _ hl => (by rw [getD_replicate_false] at hl; cases hl), fun t h1 h2 => by omega⟩
  have H := anyM_lex (md := .any) (g := 0) (n := l.toArray.size) hB.1 (fun i hi listed inv hun j hj => by
    obtain ⟨_, oj, hoj, _⟩ := mem_ready.1 hj
    exact (Array.getElem?_eq_some_iff.1 hoj).1) l 0 _ a Known.none_ (fun j hj => by simp) (by simp) inv0 (by
      have := lexHead_of_from _ _ _ hB.2
      simpa using this) h
  refine wp_region_any hm ?_
  have := wpAny_of_anyM (w0 := w) (md := .any) (ops := l.toArray) (Q' := Q) (g := 0) (fun listed a' s' w' hw' hL => by
    refine ⟨?_, hL.2 w' hw'⟩
    have := hL.1
    simpa [Region.seqB] using this) l.length _ a Known.none_ { w with drawn := w.drawn + 1 }
      ⟨⟨rfl, rfl, rfl, Nat.le_refl _, fun _ _ => rfl⟩, fun _ => trivial, fun _ _ _ _ _ => trivial, fun _ _ h => (by cases h), fun _ _ _ h => (by cases h)⟩ H
  simpa using this
/-- A region that draws its order, whose first n operations only add, and whose others come behind them all, in their order. -/
theorem wp_region_mono_tail (n : Nat) (S : Nat → Brings) (hm : P.follows .mixedOrders = true) (hB : Region.lexTailB .any l.toArray n = true)
    (h : wpM P .any l.toArray S w (fun a' s => ∀ w', Holds w s w' → wpList P l.toArray Q (l.drop n) a' w') 0 (l.take n) a Known.none_) : (Code.region id l.toArray true).wp P Q a w := by
  simp only [Region.lexTailB, Bool.and_eq_true, decide_eq_true_eq] at hB
  obtain ⟨⟨⟨⟨hsel, hn⟩, hs⟩, hc⟩, hlex⟩ := hB
  have hn' : n < l.length := by simpa using hn
  have htl : (l.take n).length = n := by simp; omega
  have hdl : (l.drop n).length = l.toArray.size - n := by simp
  have inv0 : HeadInv .any l.toArray n (Array.replicate l.toArray.size false) :=
    ⟨by simp, fun j oj _ hl => (by rw [getD_replicate_false] at hl; cases hl), fun t _ ht => getD_in (by simpa using ht) (getD_replicate_false _ _)⟩
  have H := anyM_lex (md := .any) (g := l.toArray.size - n) (n := n) hsel (fun i hi listed inv hun j hj => by
    rcases Nat.lt_or_ge j n with h | h
    · exact h
    · exact absurd hj (tail_waits hs hc hn inv _ i rfl hi hun j h)) (l.take n) 0 _ a Known.none_ (fun j hj => by
    have hj' : j < n := by rw [htl] at hj; exact hj
    simp [hj']) (by simpa using htl) inv0 (by rw [htl]; exact hlex) h
  refine wp_region_any hm ?_
  have := wpAny_of_anyM (w0 := w) (md := .any) (ops := l.toArray) (Q' := Q) (g := l.toArray.size - n) (fun listed a' s' w' hw' hL => by
    have := wpAny_of_seq (md := .any) (Q' := Q) (l.drop n) n listed a' w' (fun j => by simp [List.getElem?_drop]) (by rw [hdl]; exact hL.1) (hL.2 w' hw')
    rwa [hdl] at this) _ _ a Known.none_ { w with drawn := w.drawn + 1 }
      ⟨⟨rfl, rfl, rfl, Nat.le_refl _, fun _ _ => rfl⟩, fun _ => trivial, fun _ _ _ _ _ => trivial, fun _ _ h => (by cases h), fun _ _ _ h => (by cases h)⟩ H
  rw [htl, show n + (l.toArray.size - n) = l.toArray.size by omega] at this
  exact this
end
end Go.Proofs.Ytgdlleoefncikaa
