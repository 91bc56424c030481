/- Plain laws for UpStays: finer places lie between half ones; flat planes stay flat. -/
import Derived.Test.YtfknikgfilfcmaaUp5
namespace Go.Proofs.Ytfknikgfilfcmaa
open Go.RowKit
set_option linter.unusedVariables false
set_option linter.unusedSimpArgs false

theorem stays_in {a b : Nat} {V : List Int} {m X Y n M : Int} (hx : -200 ≤ X) (hx2 : X ≤ 200) (hy : -200 ≤ Y) (hy2 : Y ≤ 200)
    (h0 : n ≤ betI a b V m (plI (X / 4)) (plI (Y / 4)) ∧ betI a b V m (plI (X / 4)) (plI (Y / 4)) ≤ M) (h1 : n ≤ betI a b V m (plI (X / 4 + 1)) (plI (Y / 4)) ∧ betI a b V m (plI (X / 4 + 1)) (plI (Y / 4)) ≤ M)
    (h2 : n ≤ betI a b V m (plI (X / 4)) (plI (Y / 4 + 1)) ∧ betI a b V m (plI (X / 4)) (plI (Y / 4 + 1)) ≤ M) (h3 : n ≤ betI a b V m (plI (X / 4 + 1)) (plI (Y / 4 + 1)) ∧ betI a b V m (plI (X / 4 + 1)) (plI (Y / 4 + 1)) ≤ M) :
    n ≤ atI a b V m X Y 3 ∧ atI a b V m X Y 3 ≤ M := by
  have e : atI a b V m X Y 3 = fineI 4 (betI a b V m) (plI X) (plI Y) := by simp [atI]
  rw [plI_of (n := X / 4) (by omega) (by omega), plI_of (n := Y / 4) (by omega) (by omega)] at h0
  rw [plI_of (n := X / 4 + 1) (by omega) (by omega), plI_of (n := Y / 4) (by omega) (by omega)] at h1
  rw [plI_of (n := X / 4) (by omega) (by omega), plI_of (n := Y / 4 + 1) (by omega) (by omega)] at h2
  rw [plI_of (n := X / 4 + 1) (by omega) (by omega), plI_of (n := Y / 4 + 1) (by omega) (by omega)] at h3
  rw [e, plI_of (n := X) (by omega) (by omega), plI_of (n := Y) (by omega) (by omega)]
  exact fine4_in h0 h1 h2 h3
theorem stays_flat {a b : Nat} {V : List Int} {m f : Int} (h1 : 1 ≤ a) (h2 : a ≤ 1024) (h3 : 1 ≤ b) (h4 : b ≤ 1024) (hl : V.length = a * b) (hv : ∀ k, k < V.length → rdn V k = f) (f0 : 0 ≤ f) (fm : f ≤ m) (x y : Int) :
    atI a b (clipV V m) m x y 3 = f ∧ atI a b (clipV V m) m x y 2 = f ∧ betI a b (clipV V m) m (plI x) (plI y) = f := by
  have hs : ∀ x y, smp a b (clipV V m) x y = f := smp_flat h1 h2 h3 h4 (by rw [clipV_length]; exact hl) (fun k hk => by
    rw [clipV_length] at hk
    rw [rdn_clipV V m hk, hv k hk]
    omega)
  have hf := fine_flat (m := m) hs f0 fm (plI x) (plI y)
  exact ⟨by simp only [atI]; rw [if_neg (by omega), if_neg (by omega), if_neg (by omega), if_neg (by omega)]; exact hf.1, by simp only [atI]; rw [if_neg (by omega), if_neg (by omega), if_neg (by omega), if_pos trivial]; exact hf.2, bet_flat hs f0 fm _ _⟩
theorem stays_smp {a b : Nat} {V : List Int} (hok : okB a b V.length = true) (m : Int) {X Y : Int} (hx : -200 ≤ X) (hx2 : X ≤ 200) (hy : -200 ≤ Y) (hy2 : Y ≤ 200) :
    ∃ s, atI a b V m X Y 0 = s ∧ atP a b V X Y = s ∧ betI a b V m (plI (2 * X)) (plI (2 * Y)) = s := by
  have h := at0_smp a b V m X Y hx hx2 hy hy2
  exact ⟨_, h.1, at_smp hok X Y, h.2⟩
/-- The least and the greatest of four, as the walk spells them. -/
theorem four_min (a b c d : Int) : ∃ n1 n2 n, (if b < a then b else a) = n1 ∧ (if c < n1 then c else n1) = n2 ∧ (if d < n2 then d else n2) = n ∧ n ≤ a ∧ n ≤ b ∧ n ≤ c ∧ n ≤ d ∧ (n = a ∨ n = b ∨ n = c ∨ n = d) := by
  refine ⟨_, _, _, rfl, rfl, rfl, ?_⟩
  split <;> split <;> split <;> omega
theorem four_max (a b c d : Int) : ∃ n1 n2 n, (if a < b then b else a) = n1 ∧ (if n1 < c then c else n1) = n2 ∧ (if n2 < d then d else n2) = n ∧ a ≤ n ∧ b ≤ n ∧ c ≤ n ∧ d ≤ n ∧ (n = a ∨ n = b ∨ n = c ∨ n = d) := by
  refine ⟨_, _, _, rfl, rfl, rfl, ?_⟩
  split <;> split <;> split <;> omega
theorem run_min_four {P : Program} (ts : Array TypeId) (t : TypeId) (x y z u : Int) (w : World) : (Builtin.min_ ts t #[.int .i64 x, .int .i64 y, .int .i64 z, .int .i64 u]).run P w = .ok (.int .i64 (if u < (if z < (if y < x then y else x) then z else (if y < x then y else x)) then u else (if z < (if y < x then y else x) then z else (if y < x then y else x)))) w := by
  simp [Builtin.min_, Builtin.min2]
theorem run_max_four {P : Program} (ts : Array TypeId) (t : TypeId) (x y z u : Int) (w : World) : (Builtin.max_ ts t #[.int .i64 x, .int .i64 y, .int .i64 z, .int .i64 u]).run P w = .ok (.int .i64 (if (if (if x < y then y else x) < z then z else (if x < y then y else x)) < u then u else (if (if x < y then y else x) < z then z else (if x < y then y else x)))) w := by
  simp [Builtin.max_, Builtin.max2]
theorem Blk.two {w : World} {b : Nat} {t : TypeId} {x y : Value} (h : Blk w b t #[x, y]) : (w.cell? ⟨b, 0, none⟩ = some x ∧ w.cell? ⟨b, 1, none⟩ = some y) ∧ (w.frozen? ⟨b, 0, none⟩ = false ∧ w.frozen? ⟨b, 1, none⟩ = false) :=
  ⟨⟨h.cell 0, h.cell 1⟩, ⟨h.frozen 0, h.frozen 1⟩⟩
theorem ret_two {w : World} {b : Nat} {t : TypeId} {x y : Value} (h : Blk w b t #[x, y]) (x' y' : Value) :
    Blk ((w.setCell ⟨b, 0, none⟩ x').setCell ⟨b, 1, none⟩ y') b t #[x', y'] ∧ (∀ B a, Below B a w → B ≤ b → Below B a ((w.setCell ⟨b, 0, none⟩ x').setCell ⟨b, 1, none⟩ y')) :=
  ⟨(h.set_ 0 x').set_ 1 y', fun B a hb hB => (hb.setCell hB _).setCell hB _⟩
end Go.Proofs.Ytfknikgfilfcmaa
