/- Regions in a round of a range over a function, carried over from the plain calculus. -/
import Derived.Test.YtiedjeholmoccaaRng
import Derived.Test.YtiedjeholmoccaaQuiet
namespace Go.Proofs.Ytiedjeholmoccaa
open Go.RowKit Go.Shelf Go.Sort
set_option linter.unusedVariables false
section
variable {P : Program} {ops : Array Oper} {Q : Exit → Act → World → Prop} {l n : Nat}
theorem wpListIn_of (hlo : ¬ LetsOut Q) : ∀ (rest : List Oper) (a : Act) (w : World), (∀ o ∈ rest, ∀ c, o.op ≠ .defer c) → wpList P ops Q rest a w → wpListIn (Fence.wide.inRound l) n P ops Q rest a w
  | [], a, w, _, h => h
  | o :: rest, a, w, hd, h => by
    unfold wpListIn
    unfold wpList at h
    have hr : ∀ a' w', wpList P ops Q rest a' w' → wpListIn (Fence.wide.inRound l) n P ops Q rest a' w' := fun a' w' h' => wpListIn_of hlo rest a' w' (fun o ho => hd o (List.mem_cons_of_mem _ ho)) h'
    split
    · rename_i hw
      rw [if_pos hw] at h
      rcases h with h | ⟨_, h⟩
      · exact Oper.wpIn_mono (fun a' w' h' => hr a' w' h') (operIn_of (hd o (List.mem_cons_self ..)) h)
      · exact absurd h hlo
    · rename_i hw
      rw [if_neg hw] at h
      exact ⟨fun _ _ => trivial, hr _ _ h⟩
theorem wpIn_region_plain {id : Nat} {ls : List Oper} {a : Act} {w : World} (hnd : noDefer ls.toArray = true) (hlo : ¬ LetsOut Q) (h : wpList P ls.toArray Q ls a w) :
    (Code.region id ls.toArray false).wpIn (Fence.wide.inRound l) n P Q a w :=
  wpIn_region_lit (wpListIn_of hlo _ _ _ (fun o ho c e => by
    obtain ⟨i, hi⟩ := List.getElem?_of_mem ho
    exact noDefer_at hnd (i := i) (by simpa using hi) c e) h)
theorem wpIn_region_quietR {id : Nat} {C : World → Prop} {a : Act} {w : World} (hm : P.follows .mixedOrders = true) (hnd : noDefer ops = true) (hlo : ¬ LetsOut Q) (hB : Region.lexB .any ops = true) (hC : C { w with drawn := w.drawn + 1 })
    (h : wpQuiet P ops C (fun a' => ∀ w', C w' → Q .normal a' w') ops.toList a) : (Code.region id ops true).wpIn (Fence.wide.inRound l) n P Q a w := by
  simp only [Region.lexB, Bool.and_eq_true] at hB
  refine wpIn_region_any hm (wpAnyIn_of hnd hlo _ _ _ _ (wpAny_of_quiet (Q := fun a' => ∀ w', C w' → Q .normal a' w') (fun _ w' hw' h => h w' hw') _ _ _ _ hC ?_))
  have := wpAnyQ_lex (C := C) (md := .any) hB.1 ops.toList 0 (Array.replicate ops.size false) a (by simp) (by simpa using hB.2) h
  simpa using this
theorem wpIn_region_quiet_belowR {id : Nat} {a : Act} {w : World} {ls : List Oper} (hm : P.follows .mixedOrders = true) (hnd : noDefer ls.toArray = true) (hlo : ¬ LetsOut Q) (hB : Region.lexB .any ls.toArray = true)
    (h : wpQuiet P ls.toArray (fun w' => ∃ p : Regrown, w' = grow (redrawn w p.d) p.os) (fun a' => ∀ w', (∃ p : Regrown, w' = grow (redrawn w p.d) p.os) → Q .normal a' w') ls a) : (Code.region id ls.toArray true).wpIn (Fence.wide.inRound l) n P Q a w :=
  wpIn_region_quietR (C := fun w' => ∃ p : Regrown, w' = grow (redrawn w p.d) p.os) hm hnd hlo hB ⟨⟨w.drawn + 1, #[]⟩, by rw [grow_empty]; rfl⟩ (by simpa using h)
end
end Go.Proofs.Ytiedjeholmoccaa
