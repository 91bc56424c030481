/- Fields: places, what is within, a block laid over a unit, what counts of a block: of the program. -/
import Derived.Test.YtiedjeholmoccaaFd5
import Derived.Test.YtiedjeholmoccaaBits
import Derived.Deep.DeepCutAuto
import Derived.Deep.CutBlock
namespace Go.Proofs.Ytiedjeholmoccaa
open Go.RowKit Go.Sort
set_option linter.unusedVariables false
set_option linter.unusedSimpArgs false

theorem put9 {w : World} {g p : Nat} (b : Bk) : w.setCells g (p * 9) (bkC b) = ((((((((w.setCell ⟨g, p * 9, none⟩ (.int .i64 b.m)).setCell ⟨g, p * 9 + 1, none⟩ (.bool b.g)).setCell ⟨g, p * 9 + 2, none⟩ (.int .i64 b.x0)).setCell ⟨g, p * 9 + 3, none⟩ (.int .i64 b.y0)).setCell ⟨g, p * 9 + 4, none⟩ (.int .i64 b.x1)).setCell ⟨g, p * 9 + 5, none⟩ (.int .i64 b.y1)).setCell ⟨g, p * 9 + 6, none⟩ (.int .i64 b.d0)).setCell ⟨g, p * 9 + 7, none⟩ (.int .i64 b.d1)).setCell ⟨g, p * 9 + 8, none⟩ (.int .i64 b.d2) := rfl
theorem OwnE.cells9 {w : World} {B g m c : Nat} {K : List Bk} (h : OwnE EK w B (.slice (some ⟨g, 0, none⟩) m c) K) {p : Nat} (hp : p < K.length) : (w.cell? ⟨g, p * 9, none⟩ = some (.int .i64 (kat K p).m) ∧ w.cell? ⟨g, p * 9 + 1, none⟩ = some (.bool (kat K p).g) ∧ w.cell? ⟨g, p * 9 + 2, none⟩ = some (.int .i64 (kat K p).x0) ∧ w.cell? ⟨g, p * 9 + 3, none⟩ = some (.int .i64 (kat K p).y0) ∧ w.cell? ⟨g, p * 9 + 4, none⟩ = some (.int .i64 (kat K p).x1) ∧ w.cell? ⟨g, p * 9 + 5, none⟩ = some (.int .i64 (kat K p).y1) ∧ w.cell? ⟨g, p * 9 + 6, none⟩ = some (.int .i64 (kat K p).d0) ∧ w.cell? ⟨g, p * 9 + 7, none⟩ = some (.int .i64 (kat K p).d1) ∧ w.cell? ⟨g, p * 9 + 8, none⟩ = some (.int .i64 (kat K p).d2)) ∧
    (w.frozen? ⟨g, p * 9, none⟩ = false ∧ w.frozen? ⟨g, p * 9 + 1, none⟩ = false ∧ w.frozen? ⟨g, p * 9 + 2, none⟩ = false ∧ w.frozen? ⟨g, p * 9 + 3, none⟩ = false ∧ w.frozen? ⟨g, p * 9 + 4, none⟩ = false ∧ w.frozen? ⟨g, p * 9 + 5, none⟩ = false ∧ w.frozen? ⟨g, p * 9 + 6, none⟩ = false ∧ w.frozen? ⟨g, p * 9 + 7, none⟩ = false ∧ w.frozen? ⟨g, p * 9 + 8, none⟩ = false) := by
  rw [kat_lt hp]
  exact ⟨⟨h.cell hp (j := 0) rfl, h.cell hp (j := 1) rfl, h.cell hp (j := 2) rfl, h.cell hp (j := 3) rfl, h.cell hp (j := 4) rfl, h.cell hp (j := 5) rfl, h.cell hp (j := 6) rfl, h.cell hp (j := 7) rfl, h.cell hp (j := 8) rfl⟩,
    h.frozen _, h.frozen _, h.frozen _, h.frozen _, h.frozen _, h.frozen _, h.frozen _, h.frozen _, h.frozen _⟩
theorem Blk.cells9 {w : World} {g : Nat} {t : TypeId} {a b c d e f h i j : Value} (H : Blk w g t #[a, b, c, d, e, f, h, i, j]) : w.cell? ⟨g, 0, none⟩ = some a ∧ w.cell? ⟨g, 1, none⟩ = some b ∧ w.cell? ⟨g, 2, none⟩ = some c ∧ w.cell? ⟨g, 3, none⟩ = some d ∧ w.cell? ⟨g, 4, none⟩ = some e ∧ w.cell? ⟨g, 5, none⟩ = some f ∧ w.cell? ⟨g, 6, none⟩ = some h ∧ w.cell? ⟨g, 7, none⟩ = some i ∧ w.cell? ⟨g, 8, none⟩ = some j :=
  ⟨H.cell 0, H.cell 1, H.cell 2, H.cell 3, H.cell 4, H.cell 5, H.cell 6, H.cell 7, H.cell 8⟩
theorem lay_lt {a d ux uy us y x n : Nat} (hn : n = 16 * (a * d)) (hx : ux + us ≤ 4 * a) (hy : uy + us ≤ 4 * d) (h1 : x < us) (h2 : y < us) : (uy + y) * (4 * a) + (ux + x) < n := by
  have h5 : (uy + y + 1) * (4 * a) ≤ 4 * d * (4 * a) := Nat.mul_le_mul_right _ (by omega)
  rw [Nat.add_mul (uy + y) 1, show 4 * d * (4 * a) = 16 * (a * d) by rw [Nat.mul_mul_mul_comm, Nat.mul_comm d a]] at h5
  omega
theorem fplace_c (a : Nat) (d : Int) (vs vk : Value) (x y : Nat) (w : World) (ha : a ≤ 64) (hx : x ≤ 1024) (hy : y ≤ 1024) :
    Calls Try.prog 38 #[flV a d vs vk, .int .i64 (x : Int), .int .i64 (y : Int)] w fun e w' => e = .returned (.int .i64 ((y * (4 * a) + x : Nat) : Int)) ∧ Below w.heap.size w w' := by
  have HB := Lib.hid (below_alloc_ (Below.refl w.heap.size w) (.cells #[.int .i64 (a : Int), .int .i64 d, vs, vk] 25))
  have k1 : (y : Int) * 4 * (a : Int) ≤ 4096 * 64 := Int.mul_le_mul (by omega) (by omega) (by omega) (by omega)
  have k2 : 0 ≤ (y : Int) * 4 * (a : Int) := Int.mul_nonneg (by omega) (by omega)
  have W1 : IntKind.i64.wrap ((y : Int) * 4) = (y : Int) * 4 := IntWalk.i64_in _ (by omega)
  have W2 : IntKind.i64.wrap ((y : Int) * 4 * (a : Int)) = (y : Int) * 4 * (a : Int) := IntWalk.i64_in _ (by omega)
  have W3 : IntKind.i64.wrap ((y : Int) * 4 * (a : Int) + (x : Int)) = (y : Int) * 4 * (a : Int) + (x : Int) := IntWalk.i64_in _ (by omega)
  go_enter Try.func38, Try.ntmps38
  go_wp2_with fail
  go_ret
  exact ⟨ret_int (by push_cast; rw [Int.mul_assoc]), HB.out⟩
def inFu (a d : Int) (u : Un) : Bool := decide (1 ≤ u.s ∧ 0 ≤ u.x ∧ 0 ≤ u.y ∧ u.s ≤ 4 * a ∧ u.x ≤ 4 * a - u.s ∧ u.s ≤ 4 * d ∧ u.y ≤ 4 * d - u.s)
theorem inFu_nat {a d : Nat} {u : Un} (h : inFu a d u = true) : ∃ x y s : Nat, u = ⟨x, y, s⟩ ∧ 1 ≤ s ∧ x + s ≤ 4 * a ∧ y + s ≤ 4 * d := by
  obtain ⟨x, y, s⟩ := u
  simp only [inFu, decide_eq_true_eq] at h
  obtain ⟨x, rfl⟩ := Int.eq_ofNat_of_zero_le (a := x) (by omega)
  obtain ⟨y, rfl⟩ := Int.eq_ofNat_of_zero_le (a := y) (by omega)
  obtain ⟨s, rfl⟩ := Int.eq_ofNat_of_zero_le (a := s) (by omega)
  exact ⟨x, y, s, rfl, by omega, by omega, by omega⟩
set_option maxRecDepth 100000 in
set_option maxHeartbeats 6400000 in
theorem fwithin_c (a d : Int) (vs vk : Value) (u : Un) (w : World) (a1 : 1 ≤ a) (a2 : a ≤ 64) (d1 : 1 ≤ d) (d2 : d ≤ 64) :
    Calls Try.prog 40 #[flV a d vs vk, unV u] w fun e w' => e = .returned (.bool (inFu a d u)) ∧ Below w.heap.size w w' := by
  have HB := Lib.hid (below_alloc_ (below_alloc_ (Below.refl w.heap.size w) (.cells #[.int .i64 a, .int .i64 d, vs, vk] 25)) (.cells #[.int .i64 u.x, .int .i64 u.y, .int .i64 u.s] 34))
  obtain ⟨x, y, s⟩ := u
  dsimp only at HB
  unfold inFu
  dsimp only
  by_cases c0 : 1 ≤ s
  rotate_left
  · skip
    rw [show decide (1 ≤ s ∧ 0 ≤ x ∧ 0 ≤ y ∧ s ≤ 4 * a ∧ x ≤ 4 * a - s ∧ s ≤ 4 * d ∧ y ≤ 4 * d - s) = false by simp; omega]
    go_enter Try.func40, Try.ntmps40
    go_wp2_with fail
    go_ret
    exact ⟨rfl, HB.out⟩
  by_cases c1 : 0 ≤ x
  rotate_left
  · skip
    rw [show decide (1 ≤ s ∧ 0 ≤ x ∧ 0 ≤ y ∧ s ≤ 4 * a ∧ x ≤ 4 * a - s ∧ s ≤ 4 * d ∧ y ≤ 4 * d - s) = false by simp; omega]
    go_enter Try.func40, Try.ntmps40
    go_wp2_with fail
    go_ret
    exact ⟨rfl, HB.out⟩
  by_cases c2 : 0 ≤ y
  rotate_left
  · skip
    rw [show decide (1 ≤ s ∧ 0 ≤ x ∧ 0 ≤ y ∧ s ≤ 4 * a ∧ x ≤ 4 * a - s ∧ s ≤ 4 * d ∧ y ≤ 4 * d - s) = false by simp; omega]
    go_enter Try.func40, Try.ntmps40
    go_wp2_with fail
    go_ret
    exact ⟨rfl, HB.out⟩
  by_cases c3 : s ≤ 4 * a
  rotate_left
  · skip
    rw [show decide (1 ≤ s ∧ 0 ≤ x ∧ 0 ≤ y ∧ s ≤ 4 * a ∧ x ≤ 4 * a - s ∧ s ≤ 4 * d ∧ y ≤ 4 * d - s) = false by simp; omega]
    go_enter Try.func40, Try.ntmps40
    go_wp2_with fail
    go_ret
    exact ⟨rfl, HB.out⟩
  by_cases c4 : x ≤ 4 * a - s
  rotate_left
  · skip
    rw [show decide (1 ≤ s ∧ 0 ≤ x ∧ 0 ≤ y ∧ s ≤ 4 * a ∧ x ≤ 4 * a - s ∧ s ≤ 4 * d ∧ y ≤ 4 * d - s) = false by simp; omega]
    go_enter Try.func40, Try.ntmps40
    go_wp2_with fail
    go_ret
    exact ⟨rfl, HB.out⟩
  by_cases c5 : s ≤ 4 * d
  rotate_left
  · skip
    rw [show decide (1 ≤ s ∧ 0 ≤ x ∧ 0 ≤ y ∧ s ≤ 4 * a ∧ x ≤ 4 * a - s ∧ s ≤ 4 * d ∧ y ≤ 4 * d - s) = false by simp; omega]
    go_enter Try.func40, Try.ntmps40
    go_wp2_with fail
    go_ret
    exact ⟨rfl, HB.out⟩
  by_cases c6 : y ≤ 4 * d - s
  rotate_left
  · skip
    rw [show decide (1 ≤ s ∧ 0 ≤ x ∧ 0 ≤ y ∧ s ≤ 4 * a ∧ x ≤ 4 * a - s ∧ s ≤ 4 * d ∧ y ≤ 4 * d - s) = false by simp; omega]
    go_enter Try.func40, Try.ntmps40
    go_wp2_with fail
    go_ret
    exact ⟨rfl, HB.out⟩
  rw [show decide (1 ≤ s ∧ 0 ≤ x ∧ 0 ≤ y ∧ s ≤ 4 * a ∧ x ≤ 4 * a - s ∧ s ≤ 4 * d ∧ y ≤ 4 * d - s) = true by simp; omega]
  go_enter Try.func40, Try.ntmps40
  go_wp2_with fail
  go_ret
  exact ⟨rfl, HB.out⟩
set_option maxRecDepth 100000 in
set_option maxHeartbeats 6400000 in
theorem flay_c (a d : Nat) (vs : Value) (gk mk ck B : Nat) (K : List Bk) (ux uy us : Nat) (m : Int) (g : Bool) (x0 y0 x1 y1 d0 d1 dd : Int) (w : World) (hO : OwnE EK w B (.slice (some ⟨gk, 0, none⟩) mk ck) K) (hgl : gk < w.heap.size) (a2 : a ≤ 64) (d2 : d ≤ 64) (hK : K.length = 16 * (a * d)) (hux : ux + us ≤ 4 * a) (huy : uy + us ≤ 4 * d) :
    Calls Try.prog 37 #[flV a d vs (.slice (some ⟨gk, 0, none⟩) mk ck), .agg #[.int .i64 ux, .int .i64 uy, .int .i64 us], .agg #[.int .i64 m, .bool g, .int .i64 x0, .int .i64 y0, .int .i64 x1, .int .i64 y1, .int .i64 d0, .int .i64 d1, .int .i64 dd]] w fun e w' => (∃ v, e = .returned v) ∧ OwnE EK w' B (.slice (some ⟨gk, 0, none⟩) mk ck) (layL (4 * a) K ⟨ux, uy, us⟩ ⟨m, g, x0, y0, x1, y1, d0, d1, dd⟩) ∧ w.grownBy w' (some gk) := by
  have OK_ := Lib.hid hO
  have HK := Lib.hid hK
  have hm := Lib.hid (show mk = K.length from hO.len.1)
  have n1 : K.length ≤ 65536 := by rw [hK]; have := Nat.mul_le_mul a2 d2; omega
  have HB := Lib.hid (Below.refl w.heap.size w)
  clear hO hK
  go_enter Try.func37, Try.ntmps37
  go_wp2_with fail
  have OK_ := Lib.hid ((((OK_.out).alloc (.cells #[.int .i64 a, .int .i64 d, vs, .slice (some ⟨gk, 0, none⟩) mk ck] 25)).alloc (.cells #[.int .i64 ux, .int .i64 uy, .int .i64 us] 34)).alloc (.cells #[.int .i64 m, .bool g, .int .i64 x0, .int .i64 y0, .int .i64 x1, .int .i64 y1, .int .i64 d0, .int .i64 d1, .int .i64 dd] 40))
  have HB := Lib.hid (below_alloc_ (below_alloc_ (below_alloc_ (HB.out) (.cells #[.int .i64 a, .int .i64 d, vs, .slice (some ⟨gk, 0, none⟩) mk ck] 25)) (.cells #[.int .i64 ux, .int .i64 uy, .int .i64 us] 34)) (.cells #[.int .i64 m, .bool g, .int .i64 x0, .int .i64 y0, .int .i64 x1, .int .i64 y1, .int .i64 d0, .int .i64 d1, .int .i64 dd] 40))
  have hzw : (((w.alloc (.cells #[.int .i64 a, .int .i64 d, vs, .slice (some ⟨gk, 0, none⟩) mk ck] 25)).alloc (.cells #[.int .i64 ux, .int .i64 uy, .int .i64 us] 34)).alloc (.cells #[.int .i64 m, .bool g, .int .i64 x0, .int .i64 y0, .int .i64 x1, .int .i64 y1, .int .i64 d0, .int .i64 d1, .int .i64 dd] 40)).heap.size = w.heap.size + 3 := by simp only [World.size_alloc]
  have B3 := ((Blk.new (w) 25 #[.int .i64 a, .int .i64 d, vs, .slice (some ⟨gk, 0, none⟩) mk ck]).alloc (.cells #[.int .i64 ux, .int .i64 uy, .int .i64 us] 34)).alloc (.cells #[.int .i64 m, .bool g, .int .i64 x0, .int .i64 y0, .int .i64 x1, .int .i64 y1, .int .i64 d0, .int .i64 d1, .int .i64 dd] 40)
  skip
  have B3 := Lib.hid B3
  have B4 := (Blk.new (w.alloc (.cells #[.int .i64 a, .int .i64 d, vs, .slice (some ⟨gk, 0, none⟩) mk ck] 25)) 34 #[.int .i64 ux, .int .i64 uy, .int .i64 us]).alloc (.cells #[.int .i64 m, .bool g, .int .i64 x0, .int .i64 y0, .int .i64 x1, .int .i64 y1, .int .i64 d0, .int .i64 d1, .int .i64 dd] 40)
  rw [show (w.alloc (.cells #[.int .i64 a, .int .i64 d, vs, .slice (some ⟨gk, 0, none⟩) mk ck] 25)).heap.size = w.heap.size + 1 by simp only [World.size_alloc]] at B4
  have B4 := Lib.hid B4
  have B5 := Blk.new ((w.alloc (.cells #[.int .i64 a, .int .i64 d, vs, .slice (some ⟨gk, 0, none⟩) mk ck] 25)).alloc (.cells #[.int .i64 ux, .int .i64 uy, .int .i64 us] 34)) 40 #[.int .i64 m, .bool g, .int .i64 x0, .int .i64 y0, .int .i64 x1, .int .i64 y1, .int .i64 d0, .int .i64 d1, .int .i64 dd]
  rw [show ((w.alloc (.cells #[.int .i64 a, .int .i64 d, vs, .slice (some ⟨gk, 0, none⟩) mk ck] 25)).alloc (.cells #[.int .i64 ux, .int .i64 uy, .int .i64 us] 34)).heap.size = w.heap.size + 1 + 1 by simp only [World.size_alloc]] at B5
  have B5 := Lib.hid B5
  generalize ((w.alloc (.cells #[.int .i64 a, .int .i64 d, vs, .slice (some ⟨gk, 0, none⟩) mk ck] 25)).alloc (.cells #[.int .i64 ux, .int .i64 uy, .int .i64 us] 34)).alloc (.cells #[.int .i64 m, .bool g, .int .i64 x0, .int .i64 y0, .int .i64 x1, .int .i64 y1, .int .i64 d0, .int .i64 d1, .int .i64 dd] 40) = w1 at *
  have hz3 := Lib.hid hzw
  clear hzw
  have hk3 : gk ≠ w.heap.size := by have := hgl; omega
  have hk4 : gk ≠ w.heap.size + 1 := by omega
  have hk5 : gk ≠ w.heap.size + 1 + 1 := by omega
  have l3 := B3.out.lt
  have l4 := B4.out.lt
  have l5 := B5.out.lt
  have L3 := Lib.hid l3
  have L4 := Lib.hid l4
  have L5 := Lib.hid l5
  clear l3 l4 l5
  rw [← midK_zero (4 * a) K ux uy us ⟨m, g, x0, y0, x1, y1, d0, d1, dd⟩] at OK_
  obtain ⟨zu0, zu1, zu2⟩ := B4.out.cells3
  go_wp2_with fail
  clear zu0 zu1 zu2
  go_loopw [10] (fun v wr => ∃ y : Nat, y ≤ us ∧ v = .int .i64 y ∧ w1.grownBy wr (some gk) ∧ OwnE EK wr B (.slice (some ⟨gk, 0, none⟩) mk ck) (midK (4 * a) K ux uy us ⟨m, g, x0, y0, x1, y1, d0, d1, dd⟩ y 0)) (fun v _ => us - (intOf v).toNat)
  case atStart => exact ⟨0, Nat.zero_le _, rfl, World.grownBy.refl _ _, OK_.out⟩
  case round =>
    obtain ⟨y, hy, rfl, hg, ho⟩ := hrel
    have HG := Lib.hid hg
    have OK_ := Lib.hid ho
    obtain ⟨wy, ewy⟩ : ∃ wy, wy = wr := ⟨_, rfl⟩
    subst ewy
    clear hg ho
    by_cases hyl : y < us
    · skip
      have B3x := B3.out.grown HG.out (by intro h; injection h with h; exact hk3 h.symm)
      obtain ⟨zB30, zB31, zB32, zB33⟩ := B3x.cells4
      clear B3x
      have B4x := B4.out.grown HG.out (by intro h; injection h with h; exact hk4 h.symm)
      obtain ⟨zB40, zB41, zB42⟩ := B4x.cells3
      clear B4x
      have B5x := B5.out.grown HG.out (by intro h; injection h with h; exact hk5 h.symm)
      obtain ⟨zB50, zB51, zB52, zB53, zB54, zB55, zB56, zB57, zB58⟩ := B5x.cells9
      clear B5x
      go_wp2_with fail
      clear zB30 zB31 zB32 zB33
      clear zB40 zB41 zB42
      clear zB50 zB51 zB52 zB53 zB54 zB55 zB56 zB57 zB58
      go_loopw [15] (fun v wr => ∃ x : Nat, x ≤ us ∧ v = .int .i64 x ∧ w1.grownBy wr (some gk) ∧ OwnE EK wr B (.slice (some ⟨gk, 0, none⟩) mk ck) (midK (4 * a) K ux uy us ⟨m, g, x0, y0, x1, y1, d0, d1, dd⟩ y x)) (fun v _ => us - (intOf v).toNat)
      case atStart => exact ⟨0, Nat.zero_le _, rfl, HG.out, OK_.out⟩
      case round =>
        obtain ⟨x, hx, rfl, hg, ho⟩ := hrel
        have HG := Lib.hid hg
        have OK_ := Lib.hid ho
        obtain ⟨wx, ewx⟩ : ∃ wx, wx = wr := ⟨_, rfl⟩
        subst ewx
        clear hg ho
        by_cases hxl : x < us
        · skip
          have hpl := lay_lt HK.out hux huy hxl hyl
          obtain ⟨pl, hpd⟩ : ∃ pl, pl = (uy + y) * (4 * a) + (ux + x) := ⟨_, rfl⟩
          rw [← hpd] at hpl
          have hset := midK_set (K := K) ⟨m, g, x0, y0, x1, y1, d0, d1, dd⟩ (W := 4 * a) (ux := ux) (uy := uy) (y := y) hxl hux
          rw [show (uy + y) * (4 * a) + ux + x = pl by omega] at hset
          have HS := Lib.hid hset
          have HP := Lib.hid hpd
          have s1 : (ux : Int) + (x : Int) = ((ux + x : Nat) : Int) := by omega
          have s2 : (uy : Int) + (y : Int) = ((uy + y : Nat) : Int) := by omega
          have W1 : IntKind.i64.wrap ((ux : Int) + (x : Int)) = ((ux + x : Nat) : Int) := by rw [s1]; exact IntWalk.i64_in _ (by omega)
          have W2 : IntKind.i64.wrap ((uy : Int) + (y : Int)) = ((uy + y : Nat) : Int) := by rw [s2]; exact IntWalk.i64_in _ (by omega)
          obtain ⟨sx, hsx⟩ : ∃ sx, sx = ux + x := ⟨_, rfl⟩
          obtain ⟨sy, hsy⟩ : ∃ sy, sy = uy + y := ⟨_, rfl⟩
          rw [← hsx] at W1
          rw [← hsy] at W2
          rw [← hsx, ← hsy] at HP
          have bx : sx ≤ 256 := by omega
          have by_ : sy ≤ 256 := by omega
          have p0 : (0 : Int) ≤ (pl : Int) := by omega
          have p1 : (pl : Int) < (mk : Int) := by have := hm.out; omega
          clear hset hpd s1 s2 hsx hsy
          have B3x := B3.out.grown HG.out (by intro h; injection h with h; exact hk3 h.symm)
          obtain ⟨zB30, zB31, zB32, zB33⟩ := B3x.cells4
          clear B3x
          have B4x := B4.out.grown HG.out (by intro h; injection h with h; exact hk4 h.symm)
          obtain ⟨zB40, zB41, zB42⟩ := B4x.cells3
          clear B4x
          have B5x := B5.out.grown HG.out (by intro h; injection h with h; exact hk5 h.symm)
          obtain ⟨zB50, zB51, zB52, zB53, zB54, zB55, zB56, zB57, zB58⟩ := B5x.cells9
          clear B5x
          go_upto_region 7 with fail
          have kq0 := cell_regrown zB30
          have kq1 := cell_regrown zB31
          have kq2 := cell_regrown zB32
          have kq3 := cell_regrown zB33
          have kq4 := cell_regrown zB40
          have kq5 := cell_regrown zB41
          have kq6 := cell_regrown zB42
          have kq7 := cell_regrown zB50
          have kq8 := cell_regrown zB51
          have kq9 := cell_regrown zB52
          have kq10 := cell_regrown zB53
          have kq11 := cell_regrown zB54
          have kq12 := cell_regrown zB55
          have kq13 := cell_regrown zB56
          have kq14 := cell_regrown zB57
          have kq15 := cell_regrown zB58
          clear zB30 zB31 zB32 zB33 zB40 zB41 zB42 zB50 zB51 zB52 zB53 zB54 zB55 zB56 zB57 zB58
          refine wp_mono_tail 13 [Brings.one ?b1_0, Brings.one ?b2_1, Brings.one ?b3_2, Brings.one ?b4_3, Brings.one ?b5_4, Brings.one ?b6_5, Brings.one ?b7_6, Brings.one ?b8_7, Brings.one ?b9_8, Brings.one ?b10_9, Brings.one ?b11_10, Brings.one ?b12_11, Brings.one ?b13_12] (by kernel_rfl) (by kernel_rfl) ?_
          rotate_left 13
          simp only [List.take_succ_cons, List.take_zero, List.drop_succ_cons, List.drop_zero]
          refine wpL_take (k' := 1) rfl (by kernel_rfl) (fun d os => ?t14) ?_
          case t14 => (unfold bringsAt; go_simp; first | with_reducible exact take_one | exact take_one)
          try simp only [Act.put, List.setIfInBounds_toArray, List.set_cons_zero, List.set_cons_succ]
          refine wpL_take (k' := 2) rfl (by kernel_rfl) (fun d os => ?t15) ?_
          case t15 => (unfold bringsAt; go_simp; first | with_reducible exact take_one | exact take_one)
          try simp only [Act.put, List.setIfInBounds_toArray, List.set_cons_zero, List.set_cons_succ]
          refine wpL_take (k' := 3) rfl (by kernel_rfl) (fun d os => ?t16) ?_
          case t16 => (unfold bringsAt; go_simp; first | with_reducible exact take_one | exact take_one)
          try simp only [Act.put, List.setIfInBounds_toArray, List.set_cons_zero, List.set_cons_succ]
          refine wpL_take (k' := 4) rfl (by kernel_rfl) (fun d os => ?t17) ?_
          case t17 => (unfold bringsAt; go_simp; first | with_reducible exact take_one | exact take_one)
          try simp only [Act.put, List.setIfInBounds_toArray, List.set_cons_zero, List.set_cons_succ]
          refine wpL_take (k' := 5) rfl (by kernel_rfl) (fun d os => ?t18) ?_
          case t18 => (unfold bringsAt; go_simp; first | with_reducible exact take_one | exact take_one)
          try simp only [Act.put, List.setIfInBounds_toArray, List.set_cons_zero, List.set_cons_succ]
          refine wpL_take (k' := 6) rfl (by kernel_rfl) (fun d os => ?t19) ?_
          case t19 => (unfold bringsAt; go_simp; first | with_reducible exact take_one | exact take_one)
          try simp only [Act.put, List.setIfInBounds_toArray, List.set_cons_zero, List.set_cons_succ]
          refine wpL_take (k' := 7) rfl (by kernel_rfl) (fun d os => ?t20) ?_
          case t20 => (unfold bringsAt; go_simp; first | with_reducible exact take_one | exact take_one)
          try simp only [Act.put, List.setIfInBounds_toArray, List.set_cons_zero, List.set_cons_succ]
          refine wpL_take (k' := 8) rfl (by kernel_rfl) (fun d os => ?t21) ?_
          case t21 => (unfold bringsAt; go_simp; first | with_reducible exact take_one | exact take_one)
          try simp only [Act.put, List.setIfInBounds_toArray, List.set_cons_zero, List.set_cons_succ]
          refine wpL_take (k' := 9) rfl (by kernel_rfl) (fun d os => ?t22) ?_
          case t22 => (unfold bringsAt; go_simp; first | with_reducible exact take_one | exact take_one)
          try simp only [Act.put, List.setIfInBounds_toArray, List.set_cons_zero, List.set_cons_succ]
          refine wpL_take (k' := 10) rfl (by kernel_rfl) (fun d os => ?t23) ?_
          case t23 => (unfold bringsAt; go_simp; first | with_reducible exact take_one | exact take_one)
          try simp only [Act.put, List.setIfInBounds_toArray, List.set_cons_zero, List.set_cons_succ]
          refine wpL_take (k' := 11) rfl (by kernel_rfl) (fun d os => ?t24) ?_
          case t24 => (unfold bringsAt; go_simp; first | with_reducible exact take_one | exact take_one)
          try simp only [Act.put, List.setIfInBounds_toArray, List.set_cons_zero, List.set_cons_succ]
          refine wpL_call (k' := 12) rfl (by kernel_rfl) (fun wz hz hd => ?t25) ?_
          case t25 =>
            unfold bringsAt
            go_simp
            have h9 := fplace_c a d vs (.slice (some ⟨gk, 0, none⟩) mk ck) sx sy wz a2 (by omega) (by omega)
            rw [← HP.out] at h9
            refine call_one_as h9 ?_
            rfl
          try simp only [Act.put, List.setIfInBounds_toArray, List.set_cons_zero, List.set_cons_succ]
          refine wpL_take (k' := 13) rfl (by kernel_rfl) (fun d os => ?t26) ?_
          case t26 => (unfold bringsAt; go_simp; first | with_reducible exact take_one | exact take_one)
          try simp only [Act.put, List.setIfInBounds_toArray, List.set_cons_zero, List.set_cons_succ]
          refine wpL_nil ?_
          intro w2 hH
          have hb' := hH.below
          have HGn := Lib.hid (only_of_below hb' (some gk))
          clear kq0 kq1 kq2 kq3 kq4 kq5 kq6 kq7 kq8 kq9 kq10 kq11 kq12 kq13 kq14 kq15
          have OK_ := Lib.hid ((OK_.out).kept hb')
          clear hH hb'
          obtain ⟨⟨c0, c1, c2, c3, c4, c5, c6, c7, c8⟩, f0, f1, f2, f3, f4, f5, f6, f7, f8⟩ := OwnE.cells9 OK_.out (p := pl) (by rw [midK_length]; exact hpl)
          go_wp2_with fail
          clear c0 c1 c2 c3 c4 c5 c6 c7 c8 f0 f1 f2 f3 f4 f5 f6 f7 f8
          have hput := OwnE.put OK_.out (i := pl) (by rw [midK_length]; exact hpl) ⟨m, g, x0, y0, x1, y1, d0, d1, dd⟩
          rw [HS.out] at hput
          go_roundw
          case rel => exact ⟨x + 1, by omega, by go_num, setCells_grown (vs := bkC ⟨m, g, x0, y0, x1, y1, d0, d1, dd⟩) (HG.out.trans HGn.out), hput⟩
          case measure => simp [intOf]; omega
        · skip
          obtain rfl : x = us := by omega
          have B3x := B3.out.grown HG.out (by intro h; injection h with h; exact hk3 h.symm)
          obtain ⟨zB30, zB31, zB32, zB33⟩ := B3x.cells4
          clear B3x
          have B4x := B4.out.grown HG.out (by intro h; injection h with h; exact hk4 h.symm)
          obtain ⟨zB40, zB41, zB42⟩ := B4x.cells3
          clear B4x
          have B5x := B5.out.grown HG.out (by intro h; injection h with h; exact hk5 h.symm)
          obtain ⟨zB50, zB51, zB52, zB53, zB54, zB55, zB56, zB57, zB58⟩ := B5x.cells9
          clear B5x
          go_wp2_with fail
          clear zB30 zB31 zB32 zB33
          clear zB40 zB41 zB42
          clear zB50 zB51 zB52 zB53 zB54 zB55 zB56 zB57 zB58
          rw [midK_row] at OK_
          go_roundw
          case rel => exact ⟨y + 1, by omega, by go_num, HG.out, OK_.out⟩
          case measure => simp [intOf]; omega
    · skip
      obtain rfl : y = us := by omega
      have B3x := B3.out.grown HG.out (by intro h; injection h with h; exact hk3 h.symm)
      obtain ⟨zB30, zB31, zB32, zB33⟩ := B3x.cells4
      clear B3x
      have B4x := B4.out.grown HG.out (by intro h; injection h with h; exact hk4 h.symm)
      obtain ⟨zB40, zB41, zB42⟩ := B4x.cells3
      clear B4x
      have B5x := B5.out.grown HG.out (by intro h; injection h with h; exact hk5 h.symm)
      obtain ⟨zB50, zB51, zB52, zB53, zB54, zB55, zB56, zB57, zB58⟩ := B5x.cells9
      clear B5x
      go_wp2_with fail
      clear zB30 zB31 zB32 zB33
      clear zB40 zB41 zB42
      clear zB50 zB51 zB52 zB53 zB54 zB55 zB56 zB57 zB58
      rw [midK_end] at OK_
      go_end0
      exact ⟨⟨_, rfl⟩, OK_.out, (only_of_below HB.out _).trans HG.out⟩


end Go.Proofs.Ytiedjeholmoccaa
