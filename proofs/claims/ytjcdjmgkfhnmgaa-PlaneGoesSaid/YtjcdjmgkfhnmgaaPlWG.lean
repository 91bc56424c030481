/- What the law PlaneGoes of layer 7 answers: true. -/
import Derived.Test.YtjcdjmgkfhnmgaaPlF
import Derived.Test.YtjcdjmgkfhnmgaaPlG1
import Derived.Test.YtjcdjmgkfhnmgaaOpenPlaneC
import Derived.Test.YtjcdjmgkfhnmgaaPl6
import Derived.Test.YtjcdjmgkfhnmgaaRef7b
import Derived.Test.YtjcdjmgkfhnmgaaWalk
namespace Go.Proofs.Ytjcdjmgkfhnmgaa
open Go.RowKit
set_option linter.unusedVariables false
set_option linter.unusedSimpArgs false

theorem pbig_c (W H : Int) (A : Option Addr) (n c : Nat) (w : World) (hn : n ≤ 9223372036854775807) :
    Calls Try.prog 7 #[plV W H (.slice A n c)] w fun e w' => e = .returned (.bool (decide (2000 < n))) ∧ Below w.heap.size w w' := by
  by_cases h : 2000 < n
  all_goals
    go_enter Try.func7, Try.ntmps7
    go_wp2_with fail
    go_ret
    exact ⟨ret_bool (by simp; omega), (Below.refl _ _).alloc (Nat.le_refl _) _⟩
set_option maxRecDepth 100000 in
set_option maxHeartbeats 16000000 in
theorem goes_1 (W H : Int) (V : List Int) (A : Option Addr) (c : Nat) (stop : Int) (w : World) (hp : ReadsI w A V) (hn : V.length ≤ 9223372036854775807) (h1 : 2000 < V.length) :
    Calls Try.prog 5 #[plV W H (.slice A V.length c), .int .i64 stop] w fun e w' => e = .returned (.bool true) ∧ Below w.heap.size w w' := by
  have RP := Lib.hid hp
  have R0 := Lib.hid hp
  have HB := Lib.hid (Below.refl w.heap.size w)
  have G1 := Lib.hid (decide_eq_true h1)
  clear h1
  clear hp
  go_enter Try.func5, Try.ntmps5
  go_wp2_with fail
  have RP := Lib.hid (((RP.out).alloc (.cells #[.int .i64 W, .int .i64 H, .slice A V.length c] 24)).alloc (.cells #[.int .i64 stop] 3))
  have HB := Lib.hid (below_alloc_ (below_alloc_ (HB.out) (.cells #[.int .i64 W, .int .i64 H, .slice A V.length c] 24)) (.cells #[.int .i64 stop] 3))
  have hzw : ((w.alloc (.cells #[.int .i64 W, .int .i64 H, .slice A V.length c] 24)).alloc (.cells #[.int .i64 stop] 3)).heap.size = w.heap.size + 2 := by simp only [World.size_alloc]
  have B3 := (Blk.new (w) 24 #[.int .i64 W, .int .i64 H, .slice A V.length c]).alloc (.cells #[.int .i64 stop] 3)
  skip
  have B3 := Lib.hid B3
  have B4 := Blk.new (w.alloc (.cells #[.int .i64 W, .int .i64 H, .slice A V.length c] 24)) 3 #[.int .i64 stop]
  rw [show (w.alloc (.cells #[.int .i64 W, .int .i64 H, .slice A V.length c] 24)).heap.size = w.heap.size + 1 by simp only [World.size_alloc]] at B4
  have B4 := Lib.hid B4
  generalize (w.alloc (.cells #[.int .i64 W, .int .i64 H, .slice A V.length c] 24)).alloc (.cells #[.int .i64 stop] 3) = w1 at *
  clear hzw
  refine (first_c _).mono ?_
  rintro e w2 ⟨rfl, hb'⟩
  have RP := Lib.hid ((RP.out).kept hb')
  have HB := Lib.hid ((HB.out).trans (hb'.mono (HB.out).size))
  have B3 := Lib.hid ((B3.out).below hb' (B3.out).lt)
  have B4 := Lib.hid ((B4.out).below hb' (B4.out).lt)
  clear hb'
  obtain ⟨zB30, zB31, zB32⟩ := (B3.out).cells3
  have zB40 := (B4.out).cells1
  go_wp2_with fail
  refine (pbig_c W H A V.length c _ hn).mono ?_
  rintro e w3 ⟨rfl, hb'⟩
  have RP := Lib.hid ((RP.out).kept hb')
  have HB := Lib.hid ((HB.out).trans (hb'.mono (HB.out).size))
  have B3 := Lib.hid ((B3.out).below hb' (B3.out).lt)
  have B4 := Lib.hid ((B4.out).below hb' (B4.out).lt)
  clear hb'
  clear zB30 zB31 zB32
  clear zB40
  rw [G1.out]
  go_wp2_with fail
  go_ret
  exact ⟨rfl, HB.out⟩

set_option maxRecDepth 100000 in
set_option maxHeartbeats 16000000 in
theorem goes_y (a b : Nat) (V : List Int) (ad : Addr) (c : Nat) (stop : Int) (w : World) (hp : ReadsI w (some ad) V) (h1 : 1 ≤ a) (h2 : a ≤ 1024) (h3 : 1 ≤ b) (h4 : b ≤ 1024) (hl : V.length = a * b) (hb : V.length ≤ 2000) (hc : V.length ≤ c) (hc2 : c ≤ 9223372036854775807) :
    Calls Try.prog 5 #[plV a b (.slice (some ad) V.length c), .int .i64 stop] w fun e w' => e = .returned (.bool true) ∧ Below w.heap.size w w' := by
  have RP := Lib.hid hp
  have R0 := Lib.hid hp
  have HB := Lib.hid (Below.refl w.heap.size w)
  have hn : V.length ≤ 9223372036854775807 := by omega
  have G1 := Lib.hid (show decide (2000 < V.length) = false from decide_eq_false (by omega))
  have G3 := Lib.hid (show okB a b V.length = true by rw [hl]; exact okB_mk h1 h2 h3 h4)
  have HL := Lib.hid hl
  clear hl
  clear hp
  go_enter Try.func5, Try.ntmps5
  go_wp2_with fail
  have RP := Lib.hid (((RP.out).alloc (.cells #[.int .i64 a, .int .i64 b, .slice (some ad) V.length c] 24)).alloc (.cells #[.int .i64 stop] 3))
  have HB := Lib.hid (below_alloc_ (below_alloc_ (HB.out) (.cells #[.int .i64 a, .int .i64 b, .slice (some ad) V.length c] 24)) (.cells #[.int .i64 stop] 3))
  have hzw : ((w.alloc (.cells #[.int .i64 a, .int .i64 b, .slice (some ad) V.length c] 24)).alloc (.cells #[.int .i64 stop] 3)).heap.size = w.heap.size + 2 := by simp only [World.size_alloc]
  have B3 := (Blk.new (w) 24 #[.int .i64 a, .int .i64 b, .slice (some ad) V.length c]).alloc (.cells #[.int .i64 stop] 3)
  skip
  have B3 := Lib.hid B3
  have B4 := Blk.new (w.alloc (.cells #[.int .i64 a, .int .i64 b, .slice (some ad) V.length c] 24)) 3 #[.int .i64 stop]
  rw [show (w.alloc (.cells #[.int .i64 a, .int .i64 b, .slice (some ad) V.length c] 24)).heap.size = w.heap.size + 1 by simp only [World.size_alloc]] at B4
  have B4 := Lib.hid B4
  generalize (w.alloc (.cells #[.int .i64 a, .int .i64 b, .slice (some ad) V.length c] 24)).alloc (.cells #[.int .i64 stop] 3) = w1 at *
  clear hzw
  refine (first_c _).mono ?_
  rintro e w2 ⟨rfl, hb'⟩
  have RP := Lib.hid ((RP.out).kept hb')
  have HB := Lib.hid ((HB.out).trans (hb'.mono (HB.out).size))
  have B3 := Lib.hid ((B3.out).below hb' (B3.out).lt)
  have B4 := Lib.hid ((B4.out).below hb' (B4.out).lt)
  clear hb'
  obtain ⟨zB30, zB31, zB32⟩ := (B3.out).cells3
  have zB40 := (B4.out).cells1
  go_wp2_with fail
  refine (pbig_c a b (some ad) V.length c _ hn).mono ?_
  rintro e w3 ⟨rfl, hb'⟩
  have RP := Lib.hid ((RP.out).kept hb')
  have HB := Lib.hid ((HB.out).trans (hb'.mono (HB.out).size))
  have B3 := Lib.hid ((B3.out).below hb' (B3.out).lt)
  have B4 := Lib.hid ((B4.out).below hb' (B4.out).lt)
  clear hb'
  clear zB30 zB31 zB32
  clear zB40
  rw [G1.out]
  obtain ⟨zB30, zB31, zB32⟩ := (B3.out).cells3
  have zB40 := (B4.out).cells1
  go_upto_region 6 with fail
  have b4lt := Lib.hid B4.out.lt
  clear zB30 zB31 zB32
  clear zB40
  have HB := Lib.hid (below_alloc_ (below_alloc_ (HB.out) (.cells #[.int .i64 0] 3)) (.cells #[.bool true] 4))
  have B3 := Lib.hid (((B3.out).alloc (.cells #[.int .i64 0] 3)).alloc (.cells #[.bool true] 4))
  have B4 := Lib.hid (((B4.out).alloc (.cells #[.int .i64 0] 3)).alloc (.cells #[.bool true] 4))
  have hzw : ((w3.alloc (.cells #[.int .i64 0] 3)).alloc (.cells #[.bool true] 4)).heap.size = w3.heap.size + 2 := by simp only [World.size_alloc]
  have BN := (Blk.new (w3) 3 #[.int .i64 0]).alloc (.cells #[.bool true] 4)
  skip
  have BN := Lib.hid BN
  have BO := Blk.new (w3.alloc (.cells #[.int .i64 0] 3)) 4 #[.bool true]
  rw [show (w3.alloc (.cells #[.int .i64 0] 3)).heap.size = w3.heap.size + 1 by simp only [World.size_alloc]] at BO
  have BO := Lib.hid BO
  generalize (w3.alloc (.cells #[.int .i64 0] 3)).alloc (.cells #[.bool true] 4) = w4 at *
  obtain ⟨bn, hbn⟩ : ∃ n, n = w3.heap.size := ⟨_, rfl⟩
  have h30 := B3.out.lt
  have h40 := B4.out.lt
  have hB := HB.out.size
  rw [← hbn] at BN BO hzw ⊢
  have hs3 : w.heap.size + 1 < bn := by rw [hbn]; exact b4lt.out
  clear hbn h30 h40 hB
  have b4lt := Lib.hid hs3
  clear hs3
  obtain ⟨ad', ead, hadb, _⟩ := R0.out.2 (by have := HL.out; have := Nat.mul_pos h1 h3; omega)
  injection ead with ead
  subst ead
  have AB := Lib.hid hadb
  clear hadb
  obtain ⟨zB30, zB31, zB32⟩ := (B3.out).cells3
  have zB40 := (B4.out).cells1
  go_wp2_with fail
  refine (ppoints_c a b _ _).mono ?_
  rintro e wq1 ⟨rfl, rfl⟩
  clear zB30 zB31 zB32
  clear zB40
  have HB := Lib.hid (below_alloc_ (HB.out) (.cells #[.int .i64 a, .int .i64 b, .slice (some ad) V.length c] 24))
  have B3 := Lib.hid ((B3.out).alloc (.cells #[.int .i64 a, .int .i64 b, .slice (some ad) V.length c] 24))
  have B4 := Lib.hid ((B4.out).alloc (.cells #[.int .i64 a, .int .i64 b, .slice (some ad) V.length c] 24))
  have BN := Lib.hid ((BN.out).alloc (.cells #[.int .i64 a, .int .i64 b, .slice (some ad) V.length c] 24))
  have BO := Lib.hid ((BO.out).alloc (.cells #[.int .i64 a, .int .i64 b, .slice (some ad) V.length c] 24))
  have hzw : (w4.alloc (.cells #[.int .i64 a, .int .i64 b, .slice (some ad) V.length c] 24)).heap.size = w4.heap.size + 1 := by simp only [World.size_alloc]
  have BQ := Blk.new (w4) 24 #[.int .i64 a, .int .i64 b, .slice (some ad) V.length c]
  skip
  have BQ := Lib.hid BQ
  generalize w4.alloc (.cells #[.int .i64 a, .int .i64 b, .slice (some ad) V.length c] 24) = w5 at *
  obtain ⟨bq, hbq⟩ : ∃ n, n = w4.heap.size := ⟨_, rfl⟩
  rw [← hbq] at BQ hzw ⊢
  have Q1 := Lib.hid hbq
  have Q2 := Lib.hid hzw
  clear hbq hzw
  obtain ⟨zB30, zB31, zB32⟩ := (B3.out).cells3
  have zB40 := (B4.out).cells1
  go_wp2_with fail
  clear zB30 zB31 zB32
  clear zB40
  have l3 := B3.out.lt
  have l4 := B4.out.lt
  have lo := BO.out.lt
  have ln := BN.out.lt
  have ls := b4lt.out
  have q1 := Q1.out
  have q2 := Q2.out
  skip
  refine ((ppointsF_yes a b (some ad) V.length c bq 22 (.pointer (some ⟨bn + 1, 0, none⟩)) (.pointer (some ⟨bn, 0, none⟩)) (.pointer (some ⟨w.heap.size, 0, none⟩)) (.pointer (some ⟨w.heap.size + 1, 0, none⟩)) (fun _ _ => rfl) w5 h1 h2 h3 h4 HL.out BQ.out) (fun (k : Nat) (W : World) => Blk W (bn + 1) 4 #[.bool true] ∧ Blk W bn 3 #[.int .i64 k] ∧ ButTwo w5.heap.size (bn + 1) bn w5 W) (fun W => ∃ k : Nat, 1 ≤ k ∧ k ≤ a * b ∧ (k : Int) = stop ∧ Blk W (bn + 1) 4 #[.bool true] ∧ Blk W bn 3 #[.int .i64 k] ∧ ButTwo w5.heap.size (bn + 1) bn w5 W) w5 (Below.refl _ _) ?hY ?hR ⟨BO.out, BN.out, ButTwo.refl _ _ _ _⟩).mono ?_
  case hY => exact fun k A B ⟨a1, a2, a3⟩ hb => ⟨a1.below hb a1.lt, a2.below hb a2.lt, a3.trans_ hb a3.size⟩
  case hR =>
    intro k args W1 hk hJ hK hz hE
    obtain ⟨j1, j2, j3⟩ := hJ
    obtain rfl : args = _ := hE
    refine (goes1_c (bn + 1) bn w.heap.size (w.heap.size + 1) k a b (.slice (some ad) V.length c) stop w5.heap.size W1 h1 h2 (by have := HL.out; omega) j1 j2 (j3.blk B3.out l3 (by omega) (by omega)) (j3.blk B4.out l4 (by omega) (by omega)) (by omega)).mono ?_
    rintro e W2 ⟨rfl, m1, m2, m3⟩
    have hKK : KeepB (fun i => i = bq) W1 W2 := ⟨m3.size, fun i hi => m3.block i (by have : i = bq := hi; omega) (by have : i = bq := hi; omega) (by have : i = bq := hi; omega)⟩
    by_cases hs : ((k : Int) + 1) = stop
    · exact .inr ⟨by simp [hs], k + 1, by omega, hk, by omega, m1, m2, j3.trans m3⟩
    · exact .inl ⟨by simp [hs], ⟨m1, m2, j3.trans m3⟩, hKK⟩
  rintro e w6 ⟨⟨v, rfl⟩, hj⟩
  obtain ⟨k, hk0, hk1, j1, j2, j3⟩ : ∃ k : Nat, k ≤ a * b ∧ (k = a * b ∨ (1 ≤ k ∧ (k : Int) = stop)) ∧ Blk w6 (bn + 1) 4 #[.bool true] ∧ Blk w6 bn 3 #[.int .i64 k] ∧ ButTwo w5.heap.size (bn + 1) bn w5 w6 := by
    rcases hj with hj | ⟨k, a1, a2, a3, a4⟩
    · exact ⟨_, Nat.le_refl _, .inl rfl, hj⟩
    · exact ⟨k, a2, .inr ⟨a1, a3⟩, a4⟩
  have B3 := Lib.hid (j3.blk B3.out l3 (by omega) (by omega))
  have B4 := Lib.hid (j3.blk B4.out l4 (by omega) (by omega))
  have BO := Lib.hid j1
  have BN := Lib.hid j2
  have HB := Lib.hid (HB.out.trans (j3.below (by omega) (by omega) (by omega)))
  have KA := Lib.hid hk0
  have KB := Lib.hid hk1
  clear hk0 hk1 hj j1 j2 j3 l3 l4 lo ln ls q1 q2 Q1 Q2 BQ
  obtain ⟨zB30, zB31, zB32⟩ := (B3.out).cells3
  have zB40 := (B4.out).cells1
  have zBO0 := (BO.out).cells1
  have zBN0 := (BN.out).cells1
  go_wp2_with fail
  refine (rright_c a b (some ad) V.length c _ hn).mono ?_
  rintro e w7 ⟨rfl, hb'⟩
  have B3 := Lib.hid ((B3.out).below hb' (B3.out).lt)
  have B4 := Lib.hid ((B4.out).below hb' (B4.out).lt)
  have BO := Lib.hid ((BO.out).below hb' (BO.out).lt)
  have BN := Lib.hid ((BN.out).below hb' (BN.out).lt)
  have HB := Lib.hid ((HB.out).trans (hb'.mono (HB.out).size))
  clear hb'
  clear zB30 zB31 zB32
  clear zB40
  clear zBO0
  clear zBN0
  rw [G3.out]
  obtain ⟨m, hm⟩ : ∃ m, m = a * b := ⟨_, rfl⟩
  rw [← hm] at KA KB
  have hm2 : m ≤ 2000 := by have := HL.out; omega
  have E1 : (a : Int) * (b : Int) = (m : Int) := by rw [hm]; exact (Int.natCast_mul a b).symm
  have HM := Lib.hid hm
  clear hm
  have hkm : k ≤ m := KA.out
  by_cases hkb : k = m
  · skip
    subst hkb
    have n2 : ¬ (k : Int) < (k : Int) := by omega
    have HK := Lib.hid hkm
    clear hkm KA KB
    obtain ⟨zB30, zB31, zB32⟩ := (B3.out).cells3
    have zB40 := (B4.out).cells1
    have zBO0 := (BO.out).cells1
    have zBN0 := (BN.out).cells1
    go_upto_region 13 with fail
    clear zB30 zB31 zB32
    clear zB40
    clear zBO0
    clear zBN0
    have hb0 := HB.out.size
    have ho0 := BO.out.lt
    have B3 := Lib.hid ((B3.out).alloc (.cells #[.int .i64 0] 3))
    have B4 := Lib.hid ((B4.out).alloc (.cells #[.int .i64 0] 3))
    have BO := Lib.hid ((BO.out).alloc (.cells #[.int .i64 0] 3))
    have HB := Lib.hid (below_alloc_ (HB.out) (.cells #[.int .i64 0] 3))
    have hzw : (w7.alloc (.cells #[.int .i64 0] 3)).heap.size = w7.heap.size + 1 := by simp only [World.size_alloc]
    have BK := Blk.new (w7) 3 #[.int .i64 0]
    skip
    have BK := Lib.hid BK
    generalize w7.alloc (.cells #[.int .i64 0] 3) = w8 at *
    have Q3 := Lib.hid hzw
    clear hzw
    obtain ⟨zB30, zB31, zB32⟩ := (B3.out).cells3
    have zB40 := (B4.out).cells1
    go_wp2_with fail
    refine (prows_c a b _ _).mono ?_
    rintro e wq2 ⟨rfl, rfl⟩
    clear zB30 zB31 zB32
    clear zB40
    have B3 := Lib.hid ((B3.out).alloc (.cells #[.int .i64 a, .int .i64 b, .slice (some ad) V.length c] 24))
    have B4 := Lib.hid ((B4.out).alloc (.cells #[.int .i64 a, .int .i64 b, .slice (some ad) V.length c] 24))
    have BO := Lib.hid ((BO.out).alloc (.cells #[.int .i64 a, .int .i64 b, .slice (some ad) V.length c] 24))
    have HB := Lib.hid (below_alloc_ (HB.out) (.cells #[.int .i64 a, .int .i64 b, .slice (some ad) V.length c] 24))
    have BK := Lib.hid ((BK.out).alloc (.cells #[.int .i64 a, .int .i64 b, .slice (some ad) V.length c] 24))
    have hzw : (w8.alloc (.cells #[.int .i64 a, .int .i64 b, .slice (some ad) V.length c] 24)).heap.size = w8.heap.size + 1 := by simp only [World.size_alloc]
    have BQ := Blk.new (w8) 24 #[.int .i64 a, .int .i64 b, .slice (some ad) V.length c]
    skip
    have BQ := Lib.hid BQ
    generalize w8.alloc (.cells #[.int .i64 a, .int .i64 b, .slice (some ad) V.length c] 24) = w9 at *
    obtain ⟨bq, hbq⟩ : ∃ n, n = w8.heap.size := ⟨_, rfl⟩
    rw [← hbq] at BQ hzw ⊢
    have Q1 := Lib.hid hbq
    have Q2 := Lib.hid hzw
    clear hbq hzw
    obtain ⟨zB30, zB31, zB32⟩ := (B3.out).cells3
    have zB40 := (B4.out).cells1
    go_wp2_with fail
    clear zB30 zB31 zB32
    clear zB40
    have l3 := B3.out.lt
    have l4 := B4.out.lt
    have lo := BO.out.lt
    have ln := BK.out.lt
    have ls := b4lt.out
    have q1 := Q1.out
    have q2 := Q2.out
    have q3 := Q3.out
    refine ((prowsF_yes a b ad V c bq 24 (.pointer (some ⟨bn + 1, 0, none⟩)) (.pointer (some ⟨w7.heap.size, 0, none⟩)) (.pointer (some ⟨w.heap.size, 0, none⟩)) (.pointer (some ⟨w.heap.size + 1, 0, none⟩)) (fun _ _ => rfl) w9 h1 h2 h3 h4 HL.out hc hc2 BQ.out (R0.out.kept HB.out)) (fun (k : Nat) (W : World) => Blk W (bn + 1) 4 #[.bool true] ∧ Blk W w7.heap.size 3 #[.int .i64 k] ∧ ButTwo w9.heap.size (bn + 1) w7.heap.size w9 W) (fun W => ∃ k : Nat, 1 ≤ k ∧ k ≤ b ∧ (k : Int) = stop ∧ Blk W (bn + 1) 4 #[.bool true] ∧ Blk W w7.heap.size 3 #[.int .i64 k] ∧ ButTwo w9.heap.size (bn + 1) w7.heap.size w9 W) w9 (Below.refl _ _) ?hY ?hR ⟨BO.out, BK.out, ButTwo.refl _ _ _ _⟩).mono ?_
    case hY => exact fun k A B ⟨a1, a2, a3⟩ hb => ⟨a1.below hb a1.lt, a2.below hb a2.lt, a3.trans_ hb a3.size⟩
    case hR =>
      intro k args W1 hk hJ hK hz hE
      obtain ⟨j1, j2, j3⟩ := hJ
      obtain ⟨vr, rfl, hrow⟩ := hE
      have hin := row_in hk HL.out
      refine (goes2_c (bn + 1) w7.heap.size w.heap.size (w.heap.size + 1) k a b ad V c vr stop w9.heap.size W1 h1 h2 (by omega) hin (by omega) j1 j2 (j3.blk B3.out l3 (by omega) (by omega)) (j3.blk B4.out l4 (by omega) (by omega)) (by omega) hrow (R0.out.kept (HB.out.trans (j3.below (by omega) (by omega) (by omega)))) (by omega) (by omega) (by omega) (by omega) (by have := AB.out; omega) (by have := AB.out; omega) (by have := AB.out; omega)).mono ?_
      rintro e W2 ⟨rfl, m1, m2, m3⟩
      have hKK : KeepB (fun i => i = bq ∨ i = ad.block) W1 W2 := ⟨m3.size, fun i hi => m3.block i (by have := AB.out; rcases hi with hi | hi <;> omega) (by have := AB.out; rcases hi with hi | hi <;> omega) (by have := AB.out; rcases hi with hi | hi <;> omega)⟩
      by_cases hs : ((k : Int) + 1) = stop
      · exact .inr ⟨by simp [hs], k + 1, by omega, hk, by omega, m1, m2, j3.trans m3⟩
      · exact .inl ⟨by simp [hs], ⟨m1, m2, j3.trans m3⟩, hKK⟩
    rintro e w10 ⟨⟨v, rfl⟩, hj⟩
    obtain ⟨k2, hk0, hk1, j1, j2, j3⟩ : ∃ k : Nat, k ≤ b ∧ (k = b ∨ (1 ≤ k ∧ (k : Int) = stop)) ∧ Blk w10 (bn + 1) 4 #[.bool true] ∧ Blk w10 w7.heap.size 3 #[.int .i64 k] ∧ ButTwo w9.heap.size (bn + 1) w7.heap.size w9 w10 := by
      rcases hj with hj | ⟨k, a1, a2, a3, a4⟩
      · exact ⟨_, Nat.le_refl _, .inl rfl, hj⟩
      · exact ⟨k, a2, .inr ⟨a1, a3⟩, a4⟩
    have B3 := Lib.hid (j3.blk B3.out l3 (by omega) (by omega))
    have B4 := Lib.hid (j3.blk B4.out l4 (by omega) (by omega))
    have BO := Lib.hid j1
    have BK := Lib.hid j2
    have HB := Lib.hid (HB.out.trans (j3.below (by omega) (by omega) (by omega)))
    have KA := Lib.hid hk0
    have KB := Lib.hid hk1
    clear hk0 hk1 hj j1 j2 j3 l3 l4 lo ln ls q1 q2 Q1 Q2 BQ
    obtain ⟨zB30, zB31, zB32⟩ := (B3.out).cells3
    have zB40 := (B4.out).cells1
    have zBO0 := (BO.out).cells1
    have zBK0 := (BK.out).cells1
    go_wp2_with fail
    refine (rright_c a b (some ad) V.length c _ hn).mono ?_
    rintro e w11 ⟨rfl, hb'⟩
    have B3 := Lib.hid ((B3.out).below hb' (B3.out).lt)
    have B4 := Lib.hid ((B4.out).below hb' (B4.out).lt)
    have BO := Lib.hid ((BO.out).below hb' (BO.out).lt)
    have BK := Lib.hid ((BK.out).below hb' (BK.out).lt)
    have HB := Lib.hid ((HB.out).trans (hb'.mono (HB.out).size))
    clear hb'
    clear zB30 zB31 zB32
    clear zB40
    clear zBO0
    clear zBK0
    rw [G3.out]
    by_cases hkb : k2 = b
    · skip
      subst hkb
      obtain ⟨zB30, zB31, zB32⟩ := (B3.out).cells3
      have zB40 := (B4.out).cells1
      have zBO0 := (BO.out).cells1
      have zBK0 := (BK.out).cells1
      go_wp2_with fail
      go_ret
      exact ⟨ret_bool (by simp; try omega), HB.out⟩
    · skip
      have hk3 : k2 < b := by have := KA.out; omega
      have hk4 : (k2 : Int) = stop := by rcases KB.out with h | h <;> omega
      subst hk4
      have n1 : ¬ (k2 : Int) = (b : Int) := by omega
      have n2 : (k2 : Int) < (b : Int) := by omega
      obtain ⟨zB30, zB31, zB32⟩ := (B3.out).cells3
      have zB40 := (B4.out).cells1
      have zBO0 := (BO.out).cells1
      have zBK0 := (BK.out).cells1
      go_wp2_with fail
      go_ret
      exact ⟨ret_bool (by simp; try omega), HB.out⟩
  · skip
    have hk3 : k < m := by omega
    have hk4 : (k : Int) = stop := by rcases KB.out with h | h <;> omega
    have n1 : ¬ (k : Int) = (m : Int) := by omega
    have n2 : ¬ (m : Int) < (k : Int) := by omega
    have HK := Lib.hid hkm
    clear hkm KA KB
    obtain ⟨zB30, zB31, zB32⟩ := (B3.out).cells3
    have zB40 := (B4.out).cells1
    have zBO0 := (BO.out).cells1
    have zBN0 := (BN.out).cells1
    go_upto_region 13 with fail
    clear zB30 zB31 zB32
    clear zB40
    clear zBO0
    clear zBN0
    have hb0 := HB.out.size
    have ho0 := BO.out.lt
    have B3 := Lib.hid ((B3.out).alloc (.cells #[.int .i64 0] 3))
    have B4 := Lib.hid ((B4.out).alloc (.cells #[.int .i64 0] 3))
    have BO := Lib.hid ((BO.out).alloc (.cells #[.int .i64 0] 3))
    have HB := Lib.hid (below_alloc_ (HB.out) (.cells #[.int .i64 0] 3))
    have hzw : (w7.alloc (.cells #[.int .i64 0] 3)).heap.size = w7.heap.size + 1 := by simp only [World.size_alloc]
    have BK := Blk.new (w7) 3 #[.int .i64 0]
    skip
    have BK := Lib.hid BK
    generalize w7.alloc (.cells #[.int .i64 0] 3) = w8 at *
    have Q3 := Lib.hid hzw
    clear hzw
    obtain ⟨zB30, zB31, zB32⟩ := (B3.out).cells3
    have zB40 := (B4.out).cells1
    go_wp2_with fail
    refine (prows_c a b _ _).mono ?_
    rintro e wq2 ⟨rfl, rfl⟩
    clear zB30 zB31 zB32
    clear zB40
    have B3 := Lib.hid ((B3.out).alloc (.cells #[.int .i64 a, .int .i64 b, .slice (some ad) V.length c] 24))
    have B4 := Lib.hid ((B4.out).alloc (.cells #[.int .i64 a, .int .i64 b, .slice (some ad) V.length c] 24))
    have BO := Lib.hid ((BO.out).alloc (.cells #[.int .i64 a, .int .i64 b, .slice (some ad) V.length c] 24))
    have HB := Lib.hid (below_alloc_ (HB.out) (.cells #[.int .i64 a, .int .i64 b, .slice (some ad) V.length c] 24))
    have BK := Lib.hid ((BK.out).alloc (.cells #[.int .i64 a, .int .i64 b, .slice (some ad) V.length c] 24))
    have hzw : (w8.alloc (.cells #[.int .i64 a, .int .i64 b, .slice (some ad) V.length c] 24)).heap.size = w8.heap.size + 1 := by simp only [World.size_alloc]
    have BQ := Blk.new (w8) 24 #[.int .i64 a, .int .i64 b, .slice (some ad) V.length c]
    skip
    have BQ := Lib.hid BQ
    generalize w8.alloc (.cells #[.int .i64 a, .int .i64 b, .slice (some ad) V.length c] 24) = w9 at *
    obtain ⟨bq, hbq⟩ : ∃ n, n = w8.heap.size := ⟨_, rfl⟩
    rw [← hbq] at BQ hzw ⊢
    have Q1 := Lib.hid hbq
    have Q2 := Lib.hid hzw
    clear hbq hzw
    obtain ⟨zB30, zB31, zB32⟩ := (B3.out).cells3
    have zB40 := (B4.out).cells1
    go_wp2_with fail
    clear zB30 zB31 zB32
    clear zB40
    have l3 := B3.out.lt
    have l4 := B4.out.lt
    have lo := BO.out.lt
    have ln := BK.out.lt
    have ls := b4lt.out
    have q1 := Q1.out
    have q2 := Q2.out
    have q3 := Q3.out
    refine ((prowsF_yes a b ad V c bq 24 (.pointer (some ⟨bn + 1, 0, none⟩)) (.pointer (some ⟨w7.heap.size, 0, none⟩)) (.pointer (some ⟨w.heap.size, 0, none⟩)) (.pointer (some ⟨w.heap.size + 1, 0, none⟩)) (fun _ _ => rfl) w9 h1 h2 h3 h4 HL.out hc hc2 BQ.out (R0.out.kept HB.out)) (fun (k : Nat) (W : World) => Blk W (bn + 1) 4 #[.bool true] ∧ Blk W w7.heap.size 3 #[.int .i64 k] ∧ ButTwo w9.heap.size (bn + 1) w7.heap.size w9 W) (fun W => ∃ k : Nat, 1 ≤ k ∧ k ≤ b ∧ (k : Int) = stop ∧ Blk W (bn + 1) 4 #[.bool true] ∧ Blk W w7.heap.size 3 #[.int .i64 k] ∧ ButTwo w9.heap.size (bn + 1) w7.heap.size w9 W) w9 (Below.refl _ _) ?hY ?hR ⟨BO.out, BK.out, ButTwo.refl _ _ _ _⟩).mono ?_
    case hY => exact fun k A B ⟨a1, a2, a3⟩ hb => ⟨a1.below hb a1.lt, a2.below hb a2.lt, a3.trans_ hb a3.size⟩
    case hR =>
      intro k args W1 hk hJ hK hz hE
      obtain ⟨j1, j2, j3⟩ := hJ
      obtain ⟨vr, rfl, hrow⟩ := hE
      have hin := row_in hk HL.out
      refine (goes2_c (bn + 1) w7.heap.size w.heap.size (w.heap.size + 1) k a b ad V c vr stop w9.heap.size W1 h1 h2 (by omega) hin (by omega) j1 j2 (j3.blk B3.out l3 (by omega) (by omega)) (j3.blk B4.out l4 (by omega) (by omega)) (by omega) hrow (R0.out.kept (HB.out.trans (j3.below (by omega) (by omega) (by omega)))) (by omega) (by omega) (by omega) (by omega) (by have := AB.out; omega) (by have := AB.out; omega) (by have := AB.out; omega)).mono ?_
      rintro e W2 ⟨rfl, m1, m2, m3⟩
      have hKK : KeepB (fun i => i = bq ∨ i = ad.block) W1 W2 := ⟨m3.size, fun i hi => m3.block i (by have := AB.out; rcases hi with hi | hi <;> omega) (by have := AB.out; rcases hi with hi | hi <;> omega) (by have := AB.out; rcases hi with hi | hi <;> omega)⟩
      by_cases hs : ((k : Int) + 1) = stop
      · exact .inr ⟨by simp [hs], k + 1, by omega, hk, by omega, m1, m2, j3.trans m3⟩
      · exact .inl ⟨by simp [hs], ⟨m1, m2, j3.trans m3⟩, hKK⟩
    rintro e w10 ⟨⟨v, rfl⟩, hj⟩
    obtain ⟨k2, hk0, hk1, j1, j2, j3⟩ : ∃ k : Nat, k ≤ b ∧ (k = b ∨ (1 ≤ k ∧ (k : Int) = stop)) ∧ Blk w10 (bn + 1) 4 #[.bool true] ∧ Blk w10 w7.heap.size 3 #[.int .i64 k] ∧ ButTwo w9.heap.size (bn + 1) w7.heap.size w9 w10 := by
      rcases hj with hj | ⟨k, a1, a2, a3, a4⟩
      · exact ⟨_, Nat.le_refl _, .inl rfl, hj⟩
      · exact ⟨k, a2, .inr ⟨a1, a3⟩, a4⟩
    have B3 := Lib.hid (j3.blk B3.out l3 (by omega) (by omega))
    have B4 := Lib.hid (j3.blk B4.out l4 (by omega) (by omega))
    have BO := Lib.hid j1
    have BK := Lib.hid j2
    have HB := Lib.hid (HB.out.trans (j3.below (by omega) (by omega) (by omega)))
    have KA := Lib.hid hk0
    have KB := Lib.hid hk1
    clear hk0 hk1 hj j1 j2 j3 l3 l4 lo ln ls q1 q2 Q1 Q2 BQ
    obtain ⟨zB30, zB31, zB32⟩ := (B3.out).cells3
    have zB40 := (B4.out).cells1
    have zBO0 := (BO.out).cells1
    have zBK0 := (BK.out).cells1
    go_wp2_with fail
    refine (rright_c a b (some ad) V.length c _ hn).mono ?_
    rintro e w11 ⟨rfl, hb'⟩
    have B3 := Lib.hid ((B3.out).below hb' (B3.out).lt)
    have B4 := Lib.hid ((B4.out).below hb' (B4.out).lt)
    have BO := Lib.hid ((BO.out).below hb' (BO.out).lt)
    have BK := Lib.hid ((BK.out).below hb' (BK.out).lt)
    have HB := Lib.hid ((HB.out).trans (hb'.mono (HB.out).size))
    clear hb'
    clear zB30 zB31 zB32
    clear zB40
    clear zBO0
    clear zBK0
    rw [G3.out]
    by_cases hkb : k2 = b
    · skip
      subst hkb
      obtain ⟨zB30, zB31, zB32⟩ := (B3.out).cells3
      have zB40 := (B4.out).cells1
      have zBO0 := (BO.out).cells1
      have zBK0 := (BK.out).cells1
      go_wp2_with fail
      go_ret
      exact ⟨ret_bool (by simp; try omega), HB.out⟩
    · skip
      have hk3 : k2 < b := by have := KA.out; omega
      have hk4 : (k2 : Int) = stop := by rcases KB.out with h | h <;> omega
      subst hk4
      have n1 : ¬ (k2 : Int) = (b : Int) := by omega
      have n2 : (k2 : Int) < (b : Int) := by omega
      obtain ⟨zB30, zB31, zB32⟩ := (B3.out).cells3
      have zB40 := (B4.out).cells1
      have zBO0 := (BO.out).cells1
      have zBK0 := (BK.out).cells1
      go_wp2_with fail
      go_ret
      exact ⟨ret_bool (by simp; try omega), HB.out⟩

set_option maxRecDepth 100000 in
set_option maxHeartbeats 16000000 in
theorem goes_n (W H : Int) (V : List Int) (A : Option Addr) (c : Nat) (stop : Int) (w : World) (hp : ReadsI w A V) (hb : V.length ≤ 2000) (hk : okB W H V.length = false) :
    Calls Try.prog 5 #[plV W H (.slice A V.length c), .int .i64 stop] w fun e w' => e = .returned (.bool true) ∧ Below w.heap.size w w' := by
  have RP := Lib.hid hp
  have R0 := Lib.hid hp
  have HB := Lib.hid (Below.refl w.heap.size w)
  have hn : V.length ≤ 9223372036854775807 := by omega
  have G1 := Lib.hid (show decide (2000 < V.length) = false from decide_eq_false (by omega))
  have G3 := Lib.hid hk
  clear hk
  clear hp
  go_enter Try.func5, Try.ntmps5
  go_wp2_with fail
  have RP := Lib.hid (((RP.out).alloc (.cells #[.int .i64 W, .int .i64 H, .slice A V.length c] 24)).alloc (.cells #[.int .i64 stop] 3))
  have HB := Lib.hid (below_alloc_ (below_alloc_ (HB.out) (.cells #[.int .i64 W, .int .i64 H, .slice A V.length c] 24)) (.cells #[.int .i64 stop] 3))
  have hzw : ((w.alloc (.cells #[.int .i64 W, .int .i64 H, .slice A V.length c] 24)).alloc (.cells #[.int .i64 stop] 3)).heap.size = w.heap.size + 2 := by simp only [World.size_alloc]
  have B3 := (Blk.new (w) 24 #[.int .i64 W, .int .i64 H, .slice A V.length c]).alloc (.cells #[.int .i64 stop] 3)
  skip
  have B3 := Lib.hid B3
  have B4 := Blk.new (w.alloc (.cells #[.int .i64 W, .int .i64 H, .slice A V.length c] 24)) 3 #[.int .i64 stop]
  rw [show (w.alloc (.cells #[.int .i64 W, .int .i64 H, .slice A V.length c] 24)).heap.size = w.heap.size + 1 by simp only [World.size_alloc]] at B4
  have B4 := Lib.hid B4
  generalize (w.alloc (.cells #[.int .i64 W, .int .i64 H, .slice A V.length c] 24)).alloc (.cells #[.int .i64 stop] 3) = w1 at *
  clear hzw
  refine (first_c _).mono ?_
  rintro e w2 ⟨rfl, hb'⟩
  have RP := Lib.hid ((RP.out).kept hb')
  have HB := Lib.hid ((HB.out).trans (hb'.mono (HB.out).size))
  have B3 := Lib.hid ((B3.out).below hb' (B3.out).lt)
  have B4 := Lib.hid ((B4.out).below hb' (B4.out).lt)
  clear hb'
  obtain ⟨zB30, zB31, zB32⟩ := (B3.out).cells3
  have zB40 := (B4.out).cells1
  go_wp2_with fail
  refine (pbig_c W H A V.length c _ hn).mono ?_
  rintro e w3 ⟨rfl, hb'⟩
  have RP := Lib.hid ((RP.out).kept hb')
  have HB := Lib.hid ((HB.out).trans (hb'.mono (HB.out).size))
  have B3 := Lib.hid ((B3.out).below hb' (B3.out).lt)
  have B4 := Lib.hid ((B4.out).below hb' (B4.out).lt)
  clear hb'
  clear zB30 zB31 zB32
  clear zB40
  rw [G1.out]
  obtain ⟨zB30, zB31, zB32⟩ := (B3.out).cells3
  have zB40 := (B4.out).cells1
  go_upto_region 6 with fail
  have b4lt := Lib.hid B4.out.lt
  clear zB30 zB31 zB32
  clear zB40
  have HB := Lib.hid (below_alloc_ (below_alloc_ (HB.out) (.cells #[.int .i64 0] 3)) (.cells #[.bool true] 4))
  have B3 := Lib.hid (((B3.out).alloc (.cells #[.int .i64 0] 3)).alloc (.cells #[.bool true] 4))
  have B4 := Lib.hid (((B4.out).alloc (.cells #[.int .i64 0] 3)).alloc (.cells #[.bool true] 4))
  have hzw : ((w3.alloc (.cells #[.int .i64 0] 3)).alloc (.cells #[.bool true] 4)).heap.size = w3.heap.size + 2 := by simp only [World.size_alloc]
  have BN := (Blk.new (w3) 3 #[.int .i64 0]).alloc (.cells #[.bool true] 4)
  skip
  have BN := Lib.hid BN
  have BO := Blk.new (w3.alloc (.cells #[.int .i64 0] 3)) 4 #[.bool true]
  rw [show (w3.alloc (.cells #[.int .i64 0] 3)).heap.size = w3.heap.size + 1 by simp only [World.size_alloc]] at BO
  have BO := Lib.hid BO
  generalize (w3.alloc (.cells #[.int .i64 0] 3)).alloc (.cells #[.bool true] 4) = w4 at *
  obtain ⟨bn, hbn⟩ : ∃ n, n = w3.heap.size := ⟨_, rfl⟩
  have h30 := B3.out.lt
  have h40 := B4.out.lt
  have hB := HB.out.size
  rw [← hbn] at BN BO hzw ⊢
  have hs3 : w.heap.size + 1 < bn := by rw [hbn]; exact b4lt.out
  clear hbn h30 h40 hB
  have b4lt := Lib.hid hs3
  clear hs3
  obtain ⟨zB30, zB31, zB32⟩ := (B3.out).cells3
  have zB40 := (B4.out).cells1
  go_wp2_with fail
  refine (ppoints_c W H _ _).mono ?_
  rintro e wq1 ⟨rfl, rfl⟩
  clear zB30 zB31 zB32
  clear zB40
  have HB := Lib.hid (below_alloc_ (HB.out) (.cells #[.int .i64 W, .int .i64 H, .slice A V.length c] 24))
  have B3 := Lib.hid ((B3.out).alloc (.cells #[.int .i64 W, .int .i64 H, .slice A V.length c] 24))
  have B4 := Lib.hid ((B4.out).alloc (.cells #[.int .i64 W, .int .i64 H, .slice A V.length c] 24))
  have BN := Lib.hid ((BN.out).alloc (.cells #[.int .i64 W, .int .i64 H, .slice A V.length c] 24))
  have BO := Lib.hid ((BO.out).alloc (.cells #[.int .i64 W, .int .i64 H, .slice A V.length c] 24))
  have hzw : (w4.alloc (.cells #[.int .i64 W, .int .i64 H, .slice A V.length c] 24)).heap.size = w4.heap.size + 1 := by simp only [World.size_alloc]
  have BQ := Blk.new (w4) 24 #[.int .i64 W, .int .i64 H, .slice A V.length c]
  skip
  have BQ := Lib.hid BQ
  generalize w4.alloc (.cells #[.int .i64 W, .int .i64 H, .slice A V.length c] 24) = w5 at *
  obtain ⟨bq, hbq⟩ : ∃ n, n = w4.heap.size := ⟨_, rfl⟩
  rw [← hbq] at BQ hzw ⊢
  have Q1 := Lib.hid hbq
  have Q2 := Lib.hid hzw
  clear hbq hzw
  obtain ⟨zB30, zB31, zB32⟩ := (B3.out).cells3
  have zB40 := (B4.out).cells1
  go_wp2_with fail
  clear zB30 zB31 zB32
  clear zB40
  have l3 := B3.out.lt
  have l4 := B4.out.lt
  have lo := BO.out.lt
  have ln := BN.out.lt
  have ls := b4lt.out
  have q1 := Q1.out
  have q2 := Q2.out
  skip
  refine ((ppointsF_no W H A V.length c bq 22 (.pointer (some ⟨bn + 1, 0, none⟩)) (.pointer (some ⟨bn, 0, none⟩)) (.pointer (some ⟨w.heap.size, 0, none⟩)) (.pointer (some ⟨w.heap.size + 1, 0, none⟩)) (fun _ _ => rfl) (fun _ _ _ => True) w5 hn G3.out BQ.out) (fun (k : Nat) (W : World) => Blk W (bn + 1) 4 #[.bool true] ∧ Blk W bn 3 #[.int .i64 k] ∧ ButTwo w5.heap.size (bn + 1) bn w5 W) (fun W => ∃ k : Nat, 1 ≤ k ∧ k ≤ 0 ∧ (k : Int) = stop ∧ Blk W (bn + 1) 4 #[.bool true] ∧ Blk W bn 3 #[.int .i64 k] ∧ ButTwo w5.heap.size (bn + 1) bn w5 W) w5 (Below.refl _ _) ?hY ?hR ⟨BO.out, BN.out, ButTwo.refl _ _ _ _⟩).mono ?_
  case hY => exact fun k A B ⟨a1, a2, a3⟩ hb => ⟨a1.below hb a1.lt, a2.below hb a2.lt, a3.trans_ hb a3.size⟩
  case hR =>
    intro k args W1 hk hJ hK hz hE
    obtain ⟨j1, j2, j3⟩ := hJ
    exact absurd hk (Nat.not_lt_zero _)
  rintro e w6 ⟨⟨v, rfl⟩, hj⟩
  obtain ⟨k, hk0, hk1, j1, j2, j3⟩ : ∃ k : Nat, k ≤ 0 ∧ (k = 0 ∨ (1 ≤ k ∧ (k : Int) = stop)) ∧ Blk w6 (bn + 1) 4 #[.bool true] ∧ Blk w6 bn 3 #[.int .i64 k] ∧ ButTwo w5.heap.size (bn + 1) bn w5 w6 := by
    rcases hj with hj | ⟨k, a1, a2, a3, a4⟩
    · exact ⟨_, Nat.le_refl _, .inl rfl, hj⟩
    · exact ⟨k, a2, .inr ⟨a1, a3⟩, a4⟩
  have B3 := Lib.hid (j3.blk B3.out l3 (by omega) (by omega))
  have B4 := Lib.hid (j3.blk B4.out l4 (by omega) (by omega))
  have BO := Lib.hid j1
  have BN := Lib.hid j2
  have HB := Lib.hid (HB.out.trans (j3.below (by omega) (by omega) (by omega)))
  have KA := Lib.hid hk0
  have KB := Lib.hid hk1
  clear hk0 hk1 hj j1 j2 j3 l3 l4 lo ln ls q1 q2 Q1 Q2 BQ
  obtain ⟨zB30, zB31, zB32⟩ := (B3.out).cells3
  have zB40 := (B4.out).cells1
  have zBO0 := (BO.out).cells1
  have zBN0 := (BN.out).cells1
  go_wp2_with fail
  refine (rright_c W H A V.length c _ hn).mono ?_
  rintro e w7 ⟨rfl, hb'⟩
  have B3 := Lib.hid ((B3.out).below hb' (B3.out).lt)
  have B4 := Lib.hid ((B4.out).below hb' (B4.out).lt)
  have BO := Lib.hid ((BO.out).below hb' (BO.out).lt)
  have BN := Lib.hid ((BN.out).below hb' (BN.out).lt)
  have HB := Lib.hid ((HB.out).trans (hb'.mono (HB.out).size))
  clear hb'
  clear zB30 zB31 zB32
  clear zB40
  clear zBO0
  clear zBN0
  rw [G3.out]
  have hkm : k ≤ 0 := KA.out
  obtain rfl : k = 0 := by omega
  clear hkm KA KB
  obtain ⟨zB30, zB31, zB32⟩ := (B3.out).cells3
  have zB40 := (B4.out).cells1
  have zBO0 := (BO.out).cells1
  have zBN0 := (BN.out).cells1
  go_upto_region 13 with fail
  clear zB30 zB31 zB32
  clear zB40
  clear zBO0
  clear zBN0
  have hb0 := HB.out.size
  have ho0 := BO.out.lt
  have B3 := Lib.hid ((B3.out).alloc (.cells #[.int .i64 0] 3))
  have B4 := Lib.hid ((B4.out).alloc (.cells #[.int .i64 0] 3))
  have BO := Lib.hid ((BO.out).alloc (.cells #[.int .i64 0] 3))
  have HB := Lib.hid (below_alloc_ (HB.out) (.cells #[.int .i64 0] 3))
  have hzw : (w7.alloc (.cells #[.int .i64 0] 3)).heap.size = w7.heap.size + 1 := by simp only [World.size_alloc]
  have BK := Blk.new (w7) 3 #[.int .i64 0]
  skip
  have BK := Lib.hid BK
  generalize w7.alloc (.cells #[.int .i64 0] 3) = w8 at *
  have Q3 := Lib.hid hzw
  clear hzw
  obtain ⟨zB30, zB31, zB32⟩ := (B3.out).cells3
  have zB40 := (B4.out).cells1
  go_wp2_with fail
  refine (prows_c W H _ _).mono ?_
  rintro e wq2 ⟨rfl, rfl⟩
  clear zB30 zB31 zB32
  clear zB40
  have B3 := Lib.hid ((B3.out).alloc (.cells #[.int .i64 W, .int .i64 H, .slice A V.length c] 24))
  have B4 := Lib.hid ((B4.out).alloc (.cells #[.int .i64 W, .int .i64 H, .slice A V.length c] 24))
  have BO := Lib.hid ((BO.out).alloc (.cells #[.int .i64 W, .int .i64 H, .slice A V.length c] 24))
  have HB := Lib.hid (below_alloc_ (HB.out) (.cells #[.int .i64 W, .int .i64 H, .slice A V.length c] 24))
  have BK := Lib.hid ((BK.out).alloc (.cells #[.int .i64 W, .int .i64 H, .slice A V.length c] 24))
  have hzw : (w8.alloc (.cells #[.int .i64 W, .int .i64 H, .slice A V.length c] 24)).heap.size = w8.heap.size + 1 := by simp only [World.size_alloc]
  have BQ := Blk.new (w8) 24 #[.int .i64 W, .int .i64 H, .slice A V.length c]
  skip
  have BQ := Lib.hid BQ
  generalize w8.alloc (.cells #[.int .i64 W, .int .i64 H, .slice A V.length c] 24) = w9 at *
  obtain ⟨bq, hbq⟩ : ∃ n, n = w8.heap.size := ⟨_, rfl⟩
  rw [← hbq] at BQ hzw ⊢
  have Q1 := Lib.hid hbq
  have Q2 := Lib.hid hzw
  clear hbq hzw
  obtain ⟨zB30, zB31, zB32⟩ := (B3.out).cells3
  have zB40 := (B4.out).cells1
  go_wp2_with fail
  clear zB30 zB31 zB32
  clear zB40
  have l3 := B3.out.lt
  have l4 := B4.out.lt
  have lo := BO.out.lt
  have ln := BK.out.lt
  have ls := b4lt.out
  have q1 := Q1.out
  have q2 := Q2.out
  have q3 := Q3.out
  refine ((prowsF_no W H A V.length c bq 24 (.pointer (some ⟨bn + 1, 0, none⟩)) (.pointer (some ⟨w7.heap.size, 0, none⟩)) (.pointer (some ⟨w.heap.size, 0, none⟩)) (.pointer (some ⟨w.heap.size + 1, 0, none⟩)) (fun _ _ => rfl) (fun _ => True) (fun _ _ _ => True) w9 hn G3.out BQ.out) (fun (k : Nat) (W : World) => Blk W (bn + 1) 4 #[.bool true] ∧ Blk W w7.heap.size 3 #[.int .i64 k] ∧ ButTwo w9.heap.size (bn + 1) w7.heap.size w9 W) (fun W => ∃ k : Nat, 1 ≤ k ∧ k ≤ 0 ∧ (k : Int) = stop ∧ Blk W (bn + 1) 4 #[.bool true] ∧ Blk W w7.heap.size 3 #[.int .i64 k] ∧ ButTwo w9.heap.size (bn + 1) w7.heap.size w9 W) w9 (Below.refl _ _) ?hY ?hR ⟨BO.out, BK.out, ButTwo.refl _ _ _ _⟩).mono ?_
  case hY => exact fun k A B ⟨a1, a2, a3⟩ hb => ⟨a1.below hb a1.lt, a2.below hb a2.lt, a3.trans_ hb a3.size⟩
  case hR =>
    intro k args W1 hk hJ hK hz hE
    obtain ⟨j1, j2, j3⟩ := hJ
    exact absurd hk (Nat.not_lt_zero _)
  rintro e w10 ⟨⟨v, rfl⟩, hj⟩
  obtain ⟨k2, hk0, hk1, j1, j2, j3⟩ : ∃ k : Nat, k ≤ 0 ∧ (k = 0 ∨ (1 ≤ k ∧ (k : Int) = stop)) ∧ Blk w10 (bn + 1) 4 #[.bool true] ∧ Blk w10 w7.heap.size 3 #[.int .i64 k] ∧ ButTwo w9.heap.size (bn + 1) w7.heap.size w9 w10 := by
    rcases hj with hj | ⟨k, a1, a2, a3, a4⟩
    · exact ⟨_, Nat.le_refl _, .inl rfl, hj⟩
    · exact ⟨k, a2, .inr ⟨a1, a3⟩, a4⟩
  have B3 := Lib.hid (j3.blk B3.out l3 (by omega) (by omega))
  have B4 := Lib.hid (j3.blk B4.out l4 (by omega) (by omega))
  have BO := Lib.hid j1
  have BK := Lib.hid j2
  have HB := Lib.hid (HB.out.trans (j3.below (by omega) (by omega) (by omega)))
  have KA := Lib.hid hk0
  have KB := Lib.hid hk1
  clear hk0 hk1 hj j1 j2 j3 l3 l4 lo ln ls q1 q2 Q1 Q2 BQ
  obtain ⟨zB30, zB31, zB32⟩ := (B3.out).cells3
  have zB40 := (B4.out).cells1
  have zBO0 := (BO.out).cells1
  have zBK0 := (BK.out).cells1
  go_wp2_with fail
  refine (rright_c W H A V.length c _ hn).mono ?_
  rintro e w11 ⟨rfl, hb'⟩
  have B3 := Lib.hid ((B3.out).below hb' (B3.out).lt)
  have B4 := Lib.hid ((B4.out).below hb' (B4.out).lt)
  have BO := Lib.hid ((BO.out).below hb' (BO.out).lt)
  have BK := Lib.hid ((BK.out).below hb' (BK.out).lt)
  have HB := Lib.hid ((HB.out).trans (hb'.mono (HB.out).size))
  clear hb'
  clear zB30 zB31 zB32
  clear zB40
  clear zBO0
  clear zBK0
  rw [G3.out]
  obtain rfl : k2 = 0 := by have := KA.out; omega
  obtain ⟨zB30, zB31, zB32⟩ := (B3.out).cells3
  have zB40 := (B4.out).cells1
  have zBO0 := (BO.out).cells1
  have zBK0 := (BK.out).cells1
  go_wp2_with fail
  go_ret
  exact ⟨ret_bool (by simp; try omega), HB.out⟩


theorem planeGoes_walk (x0 : Int × Int × List Int) (x1 : Int) (v0 v1 : Value) (w : World) (k0 : IsPlaneC w v0 x0) (k1 : IsInt .i64 v1 x1) :
    Calls Try.prog 5 #[v0, v1] w fun e w' => e = .returned (.bool true) ∧ Below w.heap.size w w' := by
  obtain ⟨W, H, V⟩ := x0
  obtain ⟨A, c, rfl, hp, hn, _, _, _, hc, hc2⟩ := k0.form
  obtain ⟨rfl, _⟩ := k1
  by_cases h1 : 2000 < V.length
  · exact goes_1 W H V A c x1 w hp hn h1
  cases h2 : okB W H V.length with
  | false => exact goes_n W H V A c x1 w hp (by omega) h2
  | true =>
    obtain ⟨a, b, rfl, rfl, a1, a2, b1, b2, hl⟩ := okB_nat h2
    have hl' : V.length = a * b := hl
    have hpos := Nat.mul_pos a1 b1
    obtain ⟨ad, rfl, _, _⟩ := hp.2 (show 0 < V.length by rw [hl']; exact hpos)
    exact goes_y a b V ad c x1 w hp a1 a2 b1 b2 hl' (by omega) hc hc2

end Go.Proofs.Ytjcdjmgkfhnmgaa
