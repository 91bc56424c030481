/- An argument that is a slice of the laws' Op (two whole numbers and one of 64 bits), opened. Its first block is a word that the kit's pages offer to be pasted. -/
import Derived.Test.YtoiofnmodinpcaaOpen
import Derived.Test.YtoiofnmodinpcaaWords
import Derived.Test.YtoiofnmodinpcaaOpenInts
import Derived.ChangeSlices
import Derived.Deep.Fields
import Derived.ChangeSame
namespace Go.Proofs.Ytoiofnmodinpcaa
open Go.ChangeShapes Go.WideShapes Go.ChangeAt Go.RowKit Go.Deep
set_option linter.unusedVariables false

section
variable {H : Type} {enc : TypeId × Value → H} {P : Program} {w : World} {base : Nat} {spare : Nat → Bool} {held : Bool}
theorem open_slice_fields {t e : TypeId} {fs : Array Field} {fuel : Nat} {cs : List Value} {x : DataW H × List MemPlace} (ht : P.underlying t = some (.slice e)) (he : P.underlying e = some (.struct fs))
    (hone : oneCellFields P fs = true) (hC : P.cellsOf e = fs.size) (h : DataW.trod enc P w base spare held fuel t cs = some x) :
    (cs = [.slice none 0 0] ∧ x = (.nil, [])) ∨
    ∃ (a : Addr) (len cap m : Nat) (D : Nat → DataW H) (Pl : Nat → List MemPlace), cs = [.slice (some a) len cap] ∧ base ≤ a.block ∧ len ≤ cap ∧ cap ≤ maxLen ∧ m = (if spare a.block then cap else len) ∧
      x = (.slice ((List.range len).map D) ((List.range (m - len)).map fun j => D (len + j)), MemPlace.row a (m * fs.size) ++ (List.range m).flatMap Pl) ∧
      ∀ i, i < m → ∃ (ys : List (DataW H × List MemPlace)) (n : Nat), D i = .agg (ys.map (·.1)) ∧ Pl i = ys.flatMap (·.2) ∧ ys.length = fs.size ∧
        ∀ (j : Nat) (f : Field), fs[j]? = some f → ∃ (v : Value) (y : DataW H × List MemPlace), w.cell? (a.add (i * fs.size + j)) = some v ∧ ys[j]? = some y ∧ DataW.trod enc P w base spare held n f.type [v] = some y := by
  rcases open_slice ht h with h0 | ⟨a, len, cap, m, n, D, Pl, hcs, hb, hl, hm, hmm, hx, hi⟩
  · exact .inl h0
  · refine .inr ⟨a, len, cap, m, D, Pl, hcs, hb, hl, hm, hmm, by rw [hC] at hx; exact hx, fun i him => ?_⟩
    obtain ⟨cs', hc, ht'⟩ := hi i him
    rw [hC] at hc
    obtain ⟨ys, n', hn', hy, hlen, hyl, hf⟩ := DataW.trod_struct he ht'
    obtain ⟨_, hcl, hat⟩ := World.cells?_some hc
    simp only [Prod.mk.injEq] at hy
    refine ⟨ys, n', hy.1, hy.2, hyl, fun j f hj => ?_⟩
    obtain ⟨ho, hk⟩ := hone_of hone j f hj
    have hjl : j < fs.size := (Array.getElem?_eq_some_iff.1 hj).1
    have hcell := hat j hjl
    have hv : cs'[j]? = some (cs'[j]'(by omega)) := List.getElem?_eq_getElem (by omega)
    have h1 := hf j f hj
    rw [ho, hk] at h1
    have hone' : (cs'.drop j).take 1 = [cs'[j]'(by omega)] := by
      rw [List.drop_eq_getElem_cons (by omega)]
      rfl
    rw [hone'] at h1
    have hys : ys[j]? = some (ys[j]'(by omega)) := List.getElem?_eq_getElem (by omega)
    refine ⟨_, _, ?_, hys, h1.trans hys⟩
    rw [← Go.Deep.add_add, hcell, hv]
end

/-- A list of steps: each a kind, a count, a number. -/
def OpsR (W : World) (A : Option Addr) (ops : List (Int × Int × Int)) : Prop :=
  ∀ i (h : i < ops.length), ∃ ad, A = some ad ∧ ad.block < W.heap.size ∧ W.cell? (ad.add (i * 3)) = some (.int .i64 ops[i].1) ∧ W.cell? (ad.add (i * 3 + 1)) = some (.int .i64 ops[i].2.1) ∧ W.cell? (ad.add (i * 3 + 2)) = some (.int .u64 ops[i].2.2)
def IsOps (W : World) (v : Value) (ops : List (Int × Int × Int)) : Prop := ∃ A c, v = .slice A ops.length c ∧ ops.length ≤ maxLen ∧ OpsR W A ops ∧
  ∀ x ∈ ops, (-9223372036854775808 ≤ x.1 ∧ x.1 ≤ 9223372036854775807) ∧ (-9223372036854775808 ≤ x.2.1 ∧ x.2.1 ≤ 9223372036854775807) ∧ (0 ≤ x.2.2 ∧ x.2.2 ≤ 18446744073709551615)
theorem OpsR.kept {w w' : World} {A : Option Addr} {ops : List (Int × Int × Int)} (h : OpsR w A ops) (hb : Below w.heap.size w w') : OpsR w' A ops := fun i hi => by
  obtain ⟨ad, e, hl, h1, h2, h3⟩ := h i hi
  have hk : ∀ j, w'.cell? (ad.add j) = w.cell? (ad.add j) := fun j => hb.cell (by rw [block_of_add]; exact hl)
  exact ⟨ad, e, Nat.lt_of_lt_of_le hl hb.size, (hk _).trans h1, (hk _).trans h2, (hk _).trans h3⟩
theorem add_off (ad : Addr) (n m : Nat) : ad.add (n + (m + 1)) = ⟨(ad.add n).block, (ad.add n).off + (m + 1), none⟩ := by
  unfold Addr.add
  rw [if_neg (by omega)]
  split
  · rename_i h; subst h; simp
  · simp; omega
theorem OpsR.at_ {w : World} {A : Option Addr} {ops : List (Int × Int × Int)} (h : OpsR w A ops) {i : Nat} (hi : i < ops.length) : ∃ ad, A = some ad ∧ ad.block < w.heap.size ∧ w.cell? (ad.add (i * 3)) = some (.int .i64 ops[i].1) ∧
    w.cell? ⟨(ad.add (i * 3)).block, (ad.add (i * 3)).off + 1, none⟩ = some (.int .i64 ops[i].2.1) ∧ w.cell? ⟨(ad.add (i * 3)).block, (ad.add (i * 3)).off + 2, none⟩ = some (.int .u64 ops[i].2.2) := by
  obtain ⟨ad, e, hl, h1, h2, h3⟩ := h i hi
  rw [add_off ad (i * 3) 0] at h2
  rw [add_off ad (i * 3) 1] at h3
  exact ⟨ad, e, hl, h1, h2, h3⟩
theorem opens_ops {H : Type} {enc : TypeId × Value → H} {P : Program} {w : World} {b0 : Nat} {r : Reach} {t e : TypeId} {f0 f1 f2 : Field} {v : Value} {d : DataW H} {ps : List MemPlace}
    (ht : P.underlying t = some (.slice e)) (he : P.underlying e = some (.struct #[f0, f1, f2])) (hone : oneCellFields P #[f0, f1, f2] = true) (hC : P.cellsOf e = 3)
    (h0 : P.underlying f0.type = some (.int .i64)) (h1 : P.underlying f1.type = some (.int .i64)) (h2 : P.underlying f2.type = some (.int .u64))
    (hv : Value.okWide P w r b0 t v) (h : DataW.Trod enc P w 0 (fun _ => true) true t v d ps) : ∃ ops, IsOps w v ops := by
  obtain ⟨a0, len, cap, rfl⟩ := okWide_slice ht hv
  obtain ⟨fuel, hf⟩ := h
  rcases open_slice_fields ht he hone hC hf with ⟨hcs, hx⟩ | ⟨a, len', cap', m, D, Pl, hcs, _, hl, hm, hmm, hx, hi⟩
  · simp [Value.cells] at hcs
    obtain ⟨rfl, rfl, rfl⟩ := hcs
    exact ⟨[], none, 0, rfl, Nat.zero_le _, fun i hi => absurd hi (Nat.not_lt_zero _), fun _ h => by cases h⟩
  · simp [Value.cells] at hcs
    obtain ⟨rfl, rfl, rfl⟩ := hcs
    have hex : ∀ i, i < len → ∃ x : Int × Int × Int, w.cell? (a.add (i * 3)) = some (.int .i64 x.1) ∧ w.cell? (a.add (i * 3 + 1)) = some (.int .i64 x.2.1) ∧ w.cell? (a.add (i * 3 + 2)) = some (.int .u64 x.2.2) ∧
        (-9223372036854775808 ≤ x.1 ∧ x.1 ≤ 9223372036854775807) ∧ (-9223372036854775808 ≤ x.2.1 ∧ x.2.1 ≤ 9223372036854775807) ∧ (0 ≤ x.2.2 ∧ x.2.2 ≤ 18446744073709551615) := by
      intro i hil
      obtain ⟨ys, n, _, _, _, hg⟩ := hi i (by rw [hmm]; simp; omega)
      obtain ⟨u0, y0, c0, _, t0⟩ := hg 0 f0 rfl
      obtain ⟨u1, y1, c1, _, t1⟩ := hg 1 f1 rfl
      obtain ⟨u2, y2, c2, _, t2⟩ := hg 2 f2 rfl
      obtain ⟨z0, e0, _, w0⟩ := DataW.trod_int h0 t0
      obtain ⟨z1, e1, _, w1⟩ := DataW.trod_int h1 t1
      obtain ⟨z2, e2, _, w2⟩ := DataW.trod_int h2 t2
      simp at e0 e1 e2
      subst e0 e1 e2
      refine ⟨(z0, z1, z2), by simpa using c0, by simpa using c1, by simpa using c2, ?_, ?_, ?_⟩
      · simp [Lit.wf, IntKind.min, IntKind.max, IntKind.signed, IntKind.bits] at w0; omega
      · simp [Lit.wf, IntKind.min, IntKind.max, IntKind.signed, IntKind.bits] at w1; omega
      · simp [Lit.wf, IntKind.min, IntKind.max, IntKind.signed, IntKind.bits] at w2; omega
    let F : Nat → Int × Int × Int := fun i => if hil : i < len then (hex i hil).choose else (0, 0, 0)
    have hF : ∀ i (hil : i < len), F i = (hex i hil).choose := fun i hil => dif_pos hil
    refine ⟨(List.range len).map F, some a, cap, by simp, by simp; omega, fun i hi => ?_, fun x hx => ?_⟩
    · have hil : i < len := by simpa using hi
      have hs := (hex i hil).choose_spec
      simp only [List.getElem_map, List.getElem_range, hF i hil]
      have hlt := cell_lt hs.1
      rw [block_of_add] at hlt
      exact ⟨a, rfl, hlt, hs.1, hs.2.1, hs.2.2.1⟩
    · obtain ⟨i, hi, rfl⟩ := List.mem_map.1 hx
      have hil : i < len := by simpa using hi
      rw [hF i hil]
      have hs := (hex i hil).choose_spec
      exact ⟨hs.2.2.2.1, hs.2.2.2.2.1, hs.2.2.2.2.2⟩

end Go.Proofs.Ytoiofnmodinpcaa
