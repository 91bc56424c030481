/- Planes: which are right, new ones, the nearest place. -/
import Derived.Test.YtjlajggilcihoaaWords
import Derived.Deep.RegionHeld3
import Derived.StillTailTactics
import Derived.IntWalk
namespace Go.Proofs.Ytjlajggilcihoaa
open Go.RowKit
set_option linter.unusedVariables false
set_option linter.unusedSimpArgs false

theorem quiet_eq {P : Program} {f : FuncId} {args : Array Value} {w : World} {n : Nat} {v : Value}
    (h : Calls P f args (w.drewN n) fun e w' => e = .returned v ∧ w.drewN n = w') : Calls P f args (w.drewN n) fun e w'' => e = .returned v ∧ ∃ m, w'' = w.drewN m :=
  Calls.quiet_of_same (h.mono fun _ _ ⟨a, b⟩ => ⟨a, b.symm⟩)
theorem two_new (w : World) (o1 o2 : Obj) : ((w.alloc o1).alloc o2).heap[w.heap.size]? = some o1 ∧ ((w.alloc o1).alloc o2).heap[w.heap.size + 1]? = some o2 :=
  ⟨(Below.heap_alloc _ _ _ (by simp)).trans (heap_alloc_new _ _), by have := heap_alloc_new (w.alloc o1) o2; rwa [World.size_alloc] at this⟩

/-- A plane's numbers. -/
structure Pl where
  W : Int
  H : Int
  V : List Int
def Pl.none_ : Pl := ⟨0, 0, []⟩
/-- A plane as a value, its list being v. -/
abbrev plV (W H : Int) (v : Value) : Value := .agg #[.int .i64 W, .int .i64 H, v]
def sideB (n : Int) : Bool := decide (1 ≤ n ∧ n ≤ 1024)
theorem sideB_t {n : Int} (h : sideB n = true) : 1 ≤ n ∧ n ≤ 1024 := by simpa [sideB] using h
theorem sideB_f {n : Int} (h : sideB n = false) : n < 1 ∨ 1024 < n := by simp [sideB] at h; omega
theorem sideB_mk {n : Int} (h1 : 1 ≤ n) (h2 : n ≤ 1024) : sideB n = true := by simp [sideB, h1, h2]
def okB (W H : Int) (n : Nat) : Bool := sideB W && sideB H && ((n : Int) == W * H)
theorem area_bd {W H : Int} (h1 : 1 ≤ W) (h2 : W ≤ 1024) (h3 : 1 ≤ H) (h4 : H ≤ 1024) : 1 ≤ W * H ∧ W * H ≤ 1048576 := by
  have a : 1 * 1 ≤ W * H := Int.mul_le_mul h1 h3 (by omega) (by omega)
  have b : W * H ≤ 1024 * 1024 := Int.mul_le_mul h2 h4 (by omega) (by omega)
  omega
theorem okB_t {W H : Int} {n : Nat} (h : okB W H n = true) : 1 ≤ W ∧ W ≤ 1024 ∧ 1 ≤ H ∧ H ≤ 1024 ∧ (n : Int) = W * H := by
  simp only [okB, Bool.and_eq_true, beq_iff_eq] at h
  have a := sideB_t h.1.1
  have b := sideB_t h.1.2
  exact ⟨a.1, a.2, b.1, b.2, h.2⟩
theorem okB_nat {W H : Int} {n : Nat} (h : okB W H n = true) : ∃ a b : Nat, W = a ∧ H = b ∧ 1 ≤ a ∧ a ≤ 1024 ∧ 1 ≤ b ∧ b ≤ 1024 ∧ n = a * b := by
  obtain ⟨h1, h2, h3, h4, h5⟩ := okB_t h
  obtain ⟨a, rfl⟩ := Int.eq_ofNat_of_zero_le (a := W) (by omega)
  obtain ⟨b, rfl⟩ := Int.eq_ofNat_of_zero_le (a := H) (by omega)
  refine ⟨a, b, rfl, rfl, by omega, by omega, by omega, by omega, ?_⟩
  have : ((a * b : Nat) : Int) = (a : Int) * (b : Int) := Int.natCast_mul a b
  omega
theorem okB_mk {a b : Nat} (h1 : 1 ≤ a) (h2 : a ≤ 1024) (h3 : 1 ≤ b) (h4 : b ≤ 1024) : okB a b (a * b) = true := by
  unfold okB
  rw [sideB_mk (by omega) (by omega), sideB_mk (by omega) (by omega)]
  simp

theorem pside_c (n : Int) (w : World) : Calls Try.prog 37 #[.int .i64 n] w fun e w' => e = .returned (.bool (sideB n)) ∧ w = w' := by
  by_cases h1 : 1 ≤ n
  · by_cases h2 : n ≤ 1024
    all_goals
      go_enter Try.func37, Try.ntmps37
      go_wp2_with fail
      go_ret
      exact ⟨ret_bool (by simp [sideB]; omega), rfl⟩
  · go_enter Try.func37, Try.ntmps37
    go_wp2_with fail
    go_ret
    exact ⟨ret_bool (by simp [sideB]; omega), rfl⟩

set_option maxHeartbeats 1600000 in
theorem pright_c (W H : Int) (A : Option Addr) (n c : Nat) (w : World) (hn : n ≤ 9223372036854775807) :
    Calls Try.prog 31 #[plV W H (.slice A n c)] w fun e w' => e = .returned (.bool (okB W H n)) ∧ Below w.heap.size w w' := by
  cases h1 : sideB W with
  | false =>
    have H1 := Lib.hid h1
    clear h1
    go_enter Try.func31, Try.ntmps31
    go_wp2_with fail
    refine (pside_c _ _).mono ?_
    rintro e w1 ⟨rfl, rfl⟩
    rw [H1.out]
    go_wp2_with fail
    go_ret
    exact ⟨ret_bool (by simp [okB, H1.out]), (Below.refl _ _).alloc (Nat.le_refl _) _⟩
  | true =>
    cases h2 : sideB H with
    | false =>
      have H1 := Lib.hid h1
      have H2 := Lib.hid h2
      clear h1 h2
      go_enter Try.func31, Try.ntmps31
      go_wp2_with fail
      refine (pside_c _ _).mono ?_
      rintro e w1 ⟨rfl, rfl⟩
      rw [H1.out]
      go_wp2_with fail
      refine (pside_c _ _).mono ?_
      rintro e w1 ⟨rfl, rfl⟩
      rw [H2.out]
      go_wp2_with fail
      go_ret
      exact ⟨ret_bool (by simp [okB, H2.out]), (Below.refl _ _).alloc (Nat.le_refl _) _⟩
    | true =>
      have H1 := Lib.hid h1
      have H2 := Lib.hid h2
      obtain ⟨a1, a2⟩ := sideB_t h1
      obtain ⟨a3, a4⟩ := sideB_t h2
      obtain ⟨a5, a6⟩ := area_bd a1 a2 a3 a4
      clear h1 h2
      go_enter Try.func31, Try.ntmps31
      go_wp2_with fail
      refine (pside_c _ _).mono ?_
      rintro e w1 ⟨rfl, rfl⟩
      rw [H1.out]
      go_wp2_with fail
      refine (pside_c _ _).mono ?_
      rintro e w1 ⟨rfl, rfl⟩
      rw [H2.out]
      go_wp2_with fail
      go_ret
      exact ⟨ret_bool (by simp [okB, H1.out, H2.out]), (Below.refl _ _).alloc (Nat.le_refl _) _⟩

def nearI (a n : Int) : Int := min (max a 0) (n - 1)
theorem nearI_bd {a n : Int} (h : 1 ≤ n) : 0 ≤ nearI a n ∧ nearI a n ≤ n - 1 := by unfold nearI; omega

theorem row_rep (w : World) (n : Nat) : RowI (w.alloc (.cells (Array.replicate n (.int .i64 0)) 3)) w.heap.size (List.replicate n 0) := by
  have := RowI.new w (List.replicate n 0)
  simpa using this
theorem row_rep' (w : World) (o : Obj) (n : Nat) : RowI ((w.alloc o).alloc (.cells (Array.replicate n (.int .i64 0)) 3)) (w.heap.size + 1) (List.replicate n 0) := by
  have := row_rep (w.alloc o) n
  rwa [World.size_alloc] at this


end Go.Proofs.Ytjlajggilcihoaa
