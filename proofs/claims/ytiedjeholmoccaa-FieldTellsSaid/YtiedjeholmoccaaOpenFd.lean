/- Arguments of the types api.Block, api.Unit and api.Field, opened. -/
import Derived.Test.YtiedjeholmoccaaOpenPlaneI
import Derived.Test.YtiedjeholmoccaaFd1
import Derived.Deep.Slices
namespace Go.Proofs.Ytiedjeholmoccaa
open Go.ChangeShapes Go.WideShapes Go.ChangeAt Go.RowKit Go.Joins Go.Deep
set_option linter.unusedVariables false

def I64 (n : Int) : Prop := -9223372036854775808 ≤ n ∧ n ≤ 9223372036854775807
theorem wf64 {n : Int} (h : (Lit.int .i64 n).wf = true) : I64 n := by
  simp [Lit.wf, IntKind.min, IntKind.max, IntKind.signed, IntKind.bits] at h
  unfold I64; omega
def BkIn (b : Bk) : Prop := I64 b.m ∧ I64 b.x0 ∧ I64 b.y0 ∧ I64 b.x1 ∧ I64 b.y1 ∧ I64 b.d0 ∧ I64 b.d1 ∧ I64 b.d2
def UnIn (u : Un) : Prop := I64 u.x ∧ I64 u.y ∧ I64 u.s
section
variable {H : Type} {enc : TypeId × Value → H} {w : World} {base b0 : Nat} {spare : Nat → Bool} {held : Bool} {r : Reach} {v : Value} {d : DataW H} {ps : List MemPlace} {fuel : Nat} {x : DataW H × List MemPlace}
theorem trod_n {c : List Value} {xs : List (DataW H × List MemPlace)} {i n : Nat} (hl : i < xs.length) (h : DataW.trod enc Try.prog w base spare held n 3 c = xs[i]?) : ∃ z, c = [.int .i64 z] ∧ I64 z := by
  rw [List.getElem?_eq_getElem hl] at h
  obtain ⟨z, e, _, hw⟩ := DataW.trod_int Try.underlying3 h
  exact ⟨z, e, wf64 hw⟩
theorem trod_vec {c : List Value} (h : DataW.trod enc Try.prog w base spare held fuel 36 c = some x) : ∃ a b, c = [.int .i64 a, .int .i64 b] ∧ I64 a ∧ I64 b := by
  obtain ⟨xs, n, _, _, hc, hl, hg⟩ := DataW.trod_struct Try.underlying36 h
  rw [show Try.prog.cellsOf 36 = 2 by kernel_rfl] at hc
  have g0 : DataW.trod enc Try.prog w base spare held n 3 ((c.drop 0).take (Try.prog.cellsOf 3)) = xs[0]? := hg 0 _ rfl
  have g1 : DataW.trod enc Try.prog w base spare held n 3 ((c.drop 1).take (Try.prog.cellsOf 3)) = xs[1]? := hg 1 _ rfl
  have hl : xs.length = 2 := hl
  rw [show Try.prog.cellsOf 3 = 1 by kernel_rfl] at g0 g1
  match c, hc with
  | [u0, u1], _ =>
    obtain ⟨a, ea, ha⟩ := trod_n (by omega) g0
    obtain ⟨b, eb, hb⟩ := trod_n (by omega) g1
    simp at ea eb
    exact ⟨a, b, by rw [ea, eb], ha, hb⟩
theorem trod_un {c : List Value} (h : DataW.trod enc Try.prog w base spare held fuel 34 c = some x) : ∃ u : Un, c = unC u ∧ UnIn u := by
  obtain ⟨xs, n, _, _, hc, hl, hg⟩ := DataW.trod_struct Try.underlying34 h
  rw [show Try.prog.cellsOf 34 = 3 by kernel_rfl] at hc
  have g0 : DataW.trod enc Try.prog w base spare held n 3 ((c.drop 0).take (Try.prog.cellsOf 3)) = xs[0]? := hg 0 _ rfl
  have g1 : DataW.trod enc Try.prog w base spare held n 3 ((c.drop 1).take (Try.prog.cellsOf 3)) = xs[1]? := hg 1 _ rfl
  have g2 : DataW.trod enc Try.prog w base spare held n 3 ((c.drop 2).take (Try.prog.cellsOf 3)) = xs[2]? := hg 2 _ rfl
  have hl : xs.length = 3 := hl
  rw [show Try.prog.cellsOf 3 = 1 by kernel_rfl] at g0 g1 g2
  match c, hc with
  | [u0, u1, u2], _ =>
    obtain ⟨a, ea, ha⟩ := trod_n (by omega) g0
    obtain ⟨b, eb, hb⟩ := trod_n (by omega) g1
    obtain ⟨e, ee, he⟩ := trod_n (by omega) g2
    simp at ea eb ee
    exact ⟨⟨a, b, e⟩, by rw [ea, eb, ee]; rfl, ha, hb, he⟩
theorem trod_two {c : List Value} (h : DataW.trod enc Try.prog w base spare held fuel 37 c = some x) : ∃ a b e f, c = [.int .i64 a, .int .i64 b, .int .i64 e, .int .i64 f] ∧ I64 a ∧ I64 b ∧ I64 e ∧ I64 f := by
  obtain ⟨xs, n, _, _, hc, hl, hg⟩ := DataW.trod_array Try.underlying37 h
  rw [show Try.prog.cellsOf 37 = 4 by kernel_rfl] at hc
  have g0 := hg 0 (by omega)
  have g1 := hg 1 (by omega)
  rw [show Try.prog.cellsOf 36 = 2 by kernel_rfl] at g0 g1
  rw [List.getElem?_eq_getElem (by omega)] at g0 g1
  match c, hc with
  | [u0, u1, u2, u3], _ =>
    obtain ⟨a, b, ea, ha, hb⟩ := trod_vec g0
    obtain ⟨e, f, ee, he, hf⟩ := trod_vec g1
    simp at ea ee
    exact ⟨a, b, e, f, by rw [ea.1, ea.2, ee.1, ee.2], ha, hb, he, hf⟩
theorem trod_three {c : List Value} (h : DataW.trod enc Try.prog w base spare held fuel 38 c = some x) : ∃ a b e, c = [.int .i64 a, .int .i64 b, .int .i64 e] ∧ I64 a ∧ I64 b ∧ I64 e := by
  obtain ⟨xs, n, _, _, hc, hl, hg⟩ := DataW.trod_array Try.underlying38 h
  rw [show Try.prog.cellsOf 38 = 3 by kernel_rfl] at hc
  have g0 := hg 0 (by omega)
  have g1 := hg 1 (by omega)
  have g2 := hg 2 (by omega)
  rw [show Try.prog.cellsOf 3 = 1 by kernel_rfl] at g0 g1 g2
  match c, hc with
  | [u0, u1, u2], _ =>
    obtain ⟨a, ea, ha⟩ := trod_n (by omega) g0
    obtain ⟨b, eb, hb⟩ := trod_n (by omega) g1
    obtain ⟨e, ee, he⟩ := trod_n (by omega) g2
    simp at ea eb ee
    exact ⟨a, b, e, by rw [ea, eb, ee], ha, hb, he⟩
theorem trod_bk {c : List Value} (h : DataW.trod enc Try.prog w base spare held fuel 40 c = some x) : ∃ b : Bk, c = bkC b ∧ BkIn b := by
  obtain ⟨xs, n, _, _, hc, hl, hg⟩ := DataW.trod_struct Try.underlying40 h
  rw [show Try.prog.cellsOf 40 = 9 by kernel_rfl] at hc
  have g0 : DataW.trod enc Try.prog w base spare held n 3 ((c.drop 0).take (Try.prog.cellsOf 3)) = xs[0]? := hg 0 _ rfl
  have g1 : DataW.trod enc Try.prog w base spare held n 4 ((c.drop 1).take (Try.prog.cellsOf 4)) = xs[1]? := hg 1 _ rfl
  have g2 : DataW.trod enc Try.prog w base spare held n 37 ((c.drop 2).take (Try.prog.cellsOf 37)) = xs[2]? := hg 2 _ rfl
  have g3 : DataW.trod enc Try.prog w base spare held n 38 ((c.drop 6).take (Try.prog.cellsOf 38)) = xs[3]? := hg 3 _ rfl
  have hl : xs.length = 4 := hl
  rw [show Try.prog.cellsOf 3 = 1 by kernel_rfl] at g0
  rw [show Try.prog.cellsOf 4 = 1 by kernel_rfl, List.getElem?_eq_getElem (by omega)] at g1
  rw [show Try.prog.cellsOf 37 = 4 by kernel_rfl, List.getElem?_eq_getElem (by omega)] at g2
  rw [show Try.prog.cellsOf 38 = 3 by kernel_rfl, List.getElem?_eq_getElem (by omega)] at g3
  match c, hc with
  | [u0, u1, u2, u3, u4, u5, u6, u7, u8], _ =>
    obtain ⟨a, ea, ha⟩ := trod_n (by omega) g0
    obtain ⟨b, eb, _⟩ := DataW.trod_bool Try.underlying4 g1
    obtain ⟨p, q, r, s, ev, hp, hq, hr, hs⟩ := trod_two g2
    obtain ⟨i, j, k, ed, hi, hj, hk⟩ := trod_three g3
    simp at ea eb ev ed
    exact ⟨⟨a, b, p, q, r, s, i, j, k⟩, by rw [ea, eb, ev.1, ev.2.1, ev.2.2.1, ev.2.2.2, ed.1, ed.2.1, ed.2.2]; rfl, ha, hp, hq, hr, hs, hi, hj, hk⟩
def IsBk (v : Value) (b : Bk) : Prop := v = bkV b ∧ BkIn b
def IsUn (v : Value) (u : Un) : Prop := v = unV u ∧ UnIn u
theorem opens_bk (hv : Value.okWide Try.prog w r b0 40 v) (h : DataW.Trod enc Try.prog w base spare held 40 v d ps) : ∃ b, IsBk v b := by
  obtain ⟨cs, rfl, hs⟩ := okWide_struct Try.underlying40 hv
  obtain ⟨fuel, hf⟩ := h
  obtain ⟨b, e, hb⟩ := trod_bk hf
  refine ⟨b, ?_, hb⟩
  rw [show cs = (bkC b).toArray from by rw [← e]; rfl]
  rfl
theorem opens_un (hv : Value.okWide Try.prog w r b0 34 v) (h : DataW.Trod enc Try.prog w base spare held 34 v d ps) : ∃ u, IsUn v u := by
  obtain ⟨cs, rfl, hs⟩ := okWide_struct Try.underlying34 hv
  obtain ⟨fuel, hf⟩ := h
  obtain ⟨u, e, hu⟩ := trod_un hf
  refine ⟨u, ?_, hu⟩
  rw [show cs = (unC u).toArray from by rw [← e]; rfl]
  rfl
/-- A row of what E is the form of. -/
theorem trod_rowE {α : Type} (E : Enc α) (Q : α → Prop) {P : Program} (hE : ∀ fuel cs x, DataW.trod enc P w 0 (fun _ => true) true fuel E.t cs = some x → ∃ b, cs = E.c b ∧ Q b) (hC : P.cellsOf E.t = E.n) {t : TypeId} (ht : P.underlying t = some (.slice E.t))
    (hf : DataW.trod enc P w 0 (fun _ => true) true fuel t [v] = some x) : ∃ A c xs, v = .slice A xs.length c ∧ xs.length ≤ maxLen ∧ ReadsE E w A xs ∧ ∀ y ∈ xs, Q y := by
  rcases open_slice ht hf with ⟨hcs, hx⟩ | ⟨a, len, cap, m, n, D, Pl, hcs, _, hl, hm, hmm, hx, hi⟩
  · simp at hcs
    subst hcs
    exact ⟨none, 0, [], rfl, Nat.zero_le _, ReadsE.nil _, fun _ h => by cases h⟩
  · simp at hcs
    subst hcs
    have hex : ∀ i, i < len → ∃ b : α, (∀ j, j < E.n → w.cell? ((a.add (i * E.n)).add j) = (E.c b)[j]?) ∧ Q b := by
      intro i hil
      obtain ⟨cs', hc, ht'⟩ := hi i (by rw [hmm]; simp; omega)
      rw [hC] at hc
      obtain ⟨_, hcl, hat⟩ := World.cells?_some hc
      obtain ⟨b, rfl, hq⟩ := hE _ _ _ ht'
      exact ⟨b, hat, hq⟩
    obtain ⟨L, hL⟩ : ∃ L : List α, L = (List.range len).attach.map fun i => (hex i.1 (List.mem_range.1 i.2)).choose := ⟨_, rfl⟩
    have hlen : L.length = len := by rw [hL]; simp
    have hat : ∀ i (hil : i < len), L[i]? = some (hex i hil).choose := fun i hil => by
      rw [List.getElem?_eq_getElem (by rw [hlen]; exact hil)]
      simp [hL]
    refine ⟨some a, cap, L, by rw [hlen], by rw [hlen]; omega, ⟨flE_length _, fun h0 => ⟨a, rfl, ?_, ?_⟩⟩, ?_⟩
    · rw [hlen] at h0
      have h1 := (hex 0 h0).choose_spec.1 0 E.hn
      have h2 : (E.c (hex 0 h0).choose)[0]? = some ((E.c (hex 0 h0).choose)[0]'(by rw [E.hl]; exact E.hn)) := List.getElem?_eq_getElem _
      rw [h2] at h1
      have := cell_lt h1
      rw [block_of_add, block_of_add] at this
      exact this
    · intro j u hj
      have hn := E.hn
      have hjl : j < len * E.n := by
        have := (List.getElem?_eq_some_iff.1 hj).1
        rw [flE_length, hlen] at this
        exact this
      have hil : j / E.n < len := Nat.div_lt_of_lt_mul (by rw [Nat.mul_comm]; exact hjl)
      have hm' : j % E.n < E.n := Nat.mod_lt _ hn
      have h3 := flE_at (E := E) (L) (i := j / E.n) (j := j % E.n) (by rw [hlen]; exact hil) hm'
      rw [Nat.div_add_mod'] at h3
      rw [hj] at h3
      have h4 := hat _ hil
      rw [List.getElem?_eq_getElem (by rw [hlen]; exact hil)] at h4
      injection h4 with h4
      rw [h4] at h3
      have h5 := (hex _ hil).choose_spec.1 _ hm'
      rw [← h3, Go.Deep.add_add, Nat.div_add_mod'] at h5
      exact h5
    · intro y hy
      rw [hL] at hy
      obtain ⟨i, hi, e⟩ := List.mem_map.1 hy
      rw [← e]
      exact (hex i.1 (List.mem_range.1 i.2)).choose_spec.2
structure Flx where
  a : Int
  d : Int
  S : List Int
  K : List Bk
def IsFl (W : World) (v : Value) (f : Flx) : Prop := ∃ As cs Ak ck, v = flV f.a f.d (.slice As f.S.length cs) (.slice Ak f.K.length ck) ∧ ReadsI W As f.S ∧ ReadsE EK W Ak f.K ∧ f.S.length ≤ 9223372036854775807 ∧ f.K.length ≤ 9223372036854775807 ∧ I64 f.a ∧ I64 f.d ∧
  (∀ z ∈ f.S, I64 z) ∧ ∀ b ∈ f.K, BkIn b
theorem opens_fl (hv : Value.okWide Try.prog w r b0 25 v) (h : DataW.Trod enc Try.prog w 0 (fun _ => true) true 25 v d ps) : ∃ f, IsFl w v f := by
  obtain ⟨cs, rfl, hs⟩ := okWide_struct Try.underlying25 hv
  obtain ⟨fuel, hf⟩ := h
  obtain ⟨xs, n, _, _, hc, hl, hg⟩ := DataW.trod_struct Try.underlying25 hf
  rw [show Try.prog.cellsOf 25 = 4 by kernel_rfl] at hc
  obtain ⟨c⟩ := cs
  simp only [Value.cells] at hg hc
  have g0 : DataW.trod enc Try.prog w 0 (fun _ => true) true n 3 ((c.drop 0).take (Try.prog.cellsOf 3)) = xs[0]? := hg 0 _ rfl
  have g1 : DataW.trod enc Try.prog w 0 (fun _ => true) true n 3 ((c.drop 1).take (Try.prog.cellsOf 3)) = xs[1]? := hg 1 _ rfl
  have g2 : DataW.trod enc Try.prog w 0 (fun _ => true) true n 22 ((c.drop 2).take (Try.prog.cellsOf 22)) = xs[2]? := hg 2 _ rfl
  have g3 : DataW.trod enc Try.prog w 0 (fun _ => true) true n 23 ((c.drop 3).take (Try.prog.cellsOf 23)) = xs[3]? := hg 3 _ rfl
  have hl : xs.length = 4 := hl
  rw [show Try.prog.cellsOf 3 = 1 by kernel_rfl] at g0 g1
  rw [show Try.prog.cellsOf 22 = 1 by kernel_rfl, List.getElem?_eq_getElem (by omega)] at g2
  rw [show Try.prog.cellsOf 23 = 1 by kernel_rfl, List.getElem?_eq_getElem (by omega)] at g3
  match c, hc with
  | [u0, u1, u2, u3], _ =>
    obtain ⟨a, ea, ha⟩ := trod_n (by omega) g0
    obtain ⟨b, eb, hb⟩ := trod_n (by omega) g1
    obtain ⟨S, As, cs, es, hS, hSm, hSi⟩ := ints_trod Try.underlying22 Try.underlying3 (by kernel_rfl) g2
    obtain ⟨Ak, ck, K, ek, hKm, hK, hKi⟩ := trod_rowE EK BkIn (fun _ _ _ h => trod_bk h) (by kernel_rfl) Try.underlying23 g3
    simp at ea eb
    refine ⟨⟨a, b, S, K⟩, As, cs, Ak, ck, by rw [ea, eb, es, ek], hS, hK, ?_, ?_, ha, hb, hSi, hKi⟩
    · unfold maxLen at hSm; exact Nat.le_trans hSm (by omega)
    · unfold maxLen at hKm; exact Nat.le_trans hKm (by omega)
end

end Go.Proofs.Ytiedjeholmoccaa
