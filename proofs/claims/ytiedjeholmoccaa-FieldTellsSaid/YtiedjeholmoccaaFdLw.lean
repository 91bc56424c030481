/- What the laws of layer 16 share. -/
import Derived.Test.YtiedjeholmoccaaFdF
namespace Go.Proofs.Ytiedjeholmoccaa
open Go.RowKit Go.Sort
set_option linter.unusedVariables false
set_option linter.unusedSimpArgs false

def bigB (n m : Nat) : Bool := decide (500 < m) || decide (100 < n)
theorem bigB_f {n m : Nat} (h : bigB n m = false) : m ≤ 500 ∧ n ≤ 100 := by simp [bigB] at h; omega
theorem ReadsE.un {w : World} {A : Option Addr} {us : List Un} (h : ReadsE EU w A us) {i : Nat} (hi : i < us.length) : ∃ ad, A = some ad ∧ ad.block < w.heap.size ∧ w.cell? (ad.add (i * 3)) = some (.int .i64 us[i].x) ∧ w.cell? ⟨(ad.add (i * 3)).block, (ad.add (i * 3)).off + 1, none⟩ = some (.int .i64 us[i].y) ∧
    w.cell? ⟨(ad.add (i * 3)).block, (ad.add (i * 3)).off + 2, none⟩ = some (.int .i64 us[i].s) := by
  obtain ⟨ad, e, hl, h0, h1⟩ := h.at_ hi
  exact ⟨ad, e, hl, h0 _ rfl, h1 0 _ rfl, h1 1 _ rfl⟩
theorem Blk.frozens9 {w : World} {g : Nat} {t : TypeId} {cs : Array Value} (h : Blk w g t cs) : w.frozen? ⟨g, 0, none⟩ = false ∧ w.frozen? ⟨g, 1, none⟩ = false ∧ w.frozen? ⟨g, 2, none⟩ = false ∧ w.frozen? ⟨g, 3, none⟩ = false ∧ w.frozen? ⟨g, 4, none⟩ = false ∧ w.frozen? ⟨g, 5, none⟩ = false ∧ w.frozen? ⟨g, 6, none⟩ = false ∧ w.frozen? ⟨g, 7, none⟩ = false ∧ w.frozen? ⟨g, 8, none⟩ = false := ⟨h.frozen 0, h.frozen 1, h.frozen 2, h.frozen 3, h.frozen 4, h.frozen 5, h.frozen 6, h.frozen 7, h.frozen 8⟩
theorem OwnE.belowB {α : Type} {E : Enc α} {w w' W : World} {B : Nat} {v : Value} {xs : List α} (h : OwnE E w B v xs) (hb : Below W.heap.size W w) (hB : W.heap.size ≤ B) (hg : w.grownBy w' v.ownBlock) : Below W.heap.size W w' := (h.lower hB).below hb hb.size hg
set_option maxRecDepth 100000 in
set_option maxHeartbeats 6400000 in
theorem big_c (a d : Int) (S : List Int) (As : Option Addr) (cs : Nat) (K : List Bk) (Ak : Option Addr) (ck : Nat) (w : World) (hS : ReadsI w As S) (hK : ReadsE EK w Ak K) (hn : S.length ≤ 9223372036854775807) (hm : K.length ≤ 9223372036854775807) :
    Calls Try.prog 9 #[flV a d (.slice As S.length cs) (.slice Ak K.length ck)] w fun e w' => e = .returned (.bool (bigB S.length K.length)) ∧ Below w.heap.size w w' := by
  have RS := Lib.hid hS
  have RK := Lib.hid hK
  have HB := Lib.hid (Below.refl w.heap.size w)
  unfold bigB
  clear hS hK
  by_cases h1 : 500 < K.length
  · skip
    rw [show decide (500 < K.length) = true by simpa using h1, Bool.true_or]
    have e1 : (500 : Int) < (K.length : Int) := by omega
    clear h1
    go_enter Try.func9, Try.ntmps9
    go_wp2_with fail
    have HB := Lib.hid (below_alloc_ (HB.out) (.cells #[.int .i64 a, .int .i64 d, .slice As S.length cs, .slice Ak K.length ck] 25))
    have hzw : (w.alloc (.cells #[.int .i64 a, .int .i64 d, .slice As S.length cs, .slice Ak K.length ck] 25)).heap.size = w.heap.size + 1 := by simp only [World.size_alloc]
    have B1 := Blk.new (w) 25 #[.int .i64 a, .int .i64 d, .slice As S.length cs, .slice Ak K.length ck]
    skip
    have B1 := Lib.hid B1
    generalize w.alloc (.cells #[.int .i64 a, .int .i64 d, .slice As S.length cs, .slice Ak K.length ck] 25) = w1 at *
    clear hzw
    obtain ⟨zB10, zB11, zB12, zB13⟩ := (B1.out).cells4
    go_wp2_with fail
    go_ret
    exact ⟨rfl, HB.out⟩
  · skip
    rw [show decide (500 < K.length) = false by simpa using h1, Bool.false_or]
    have e1 : (K.length : Int) ≤ 500 := by omega
    have e4 : decide ((500 : Int) < (K.length : Int)) = false := by simp; omega
    clear h1
    by_cases h2 : 100 < S.length
    · skip
      rw [show decide (100 < S.length) = true by simpa using h2]
      have e2 : (100 : Int) < (S.length : Int) := by omega
      clear h2
      go_enter Try.func9, Try.ntmps9
      go_wp2_with fail
      have HB := Lib.hid (below_alloc_ (HB.out) (.cells #[.int .i64 a, .int .i64 d, .slice As S.length cs, .slice Ak K.length ck] 25))
      have hzw : (w.alloc (.cells #[.int .i64 a, .int .i64 d, .slice As S.length cs, .slice Ak K.length ck] 25)).heap.size = w.heap.size + 1 := by simp only [World.size_alloc]
      have B1 := Blk.new (w) 25 #[.int .i64 a, .int .i64 d, .slice As S.length cs, .slice Ak K.length ck]
      skip
      have B1 := Lib.hid B1
      generalize w.alloc (.cells #[.int .i64 a, .int .i64 d, .slice As S.length cs, .slice Ak K.length ck] 25) = w1 at *
      clear hzw
      obtain ⟨zB10, zB11, zB12, zB13⟩ := (B1.out).cells4
      go_wp2_with fail
      go_ret
      exact ⟨rfl, HB.out⟩
    · skip
      rw [show decide (100 < S.length) = false by simpa using h2]
      have e2 : (S.length : Int) ≤ 100 := by omega
      have e3 : decide ((100 : Int) < (S.length : Int)) = false := by simp; omega
      clear h2
      go_enter Try.func9, Try.ntmps9
      go_wp2_with fail
      have HB := Lib.hid (below_alloc_ (HB.out) (.cells #[.int .i64 a, .int .i64 d, .slice As S.length cs, .slice Ak K.length ck] 25))
      have hzw : (w.alloc (.cells #[.int .i64 a, .int .i64 d, .slice As S.length cs, .slice Ak K.length ck] 25)).heap.size = w.heap.size + 1 := by simp only [World.size_alloc]
      have B1 := Blk.new (w) 25 #[.int .i64 a, .int .i64 d, .slice As S.length cs, .slice Ak K.length ck]
      skip
      have B1 := Lib.hid B1
      generalize w.alloc (.cells #[.int .i64 a, .int .i64 d, .slice As S.length cs, .slice Ak K.length ck] 25) = w1 at *
      clear hzw
      obtain ⟨zB10, zB11, zB12, zB13⟩ := (B1.out).cells4
      go_wp2_with fail
      go_ret
      exact ⟨rfl, HB.out⟩

end Go.Proofs.Ytiedjeholmoccaa
