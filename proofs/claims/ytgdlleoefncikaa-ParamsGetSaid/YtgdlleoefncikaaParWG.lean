/- Which video any bytes are: the law's walk. -/
import Derived.Test.YtgdlleoefncikaaPar13
import Derived.Test.YtgdlleoefncikaaOpenBytes
namespace Go.Proofs.Ytgdlleoefncikaa
open Go.RowKit Go.Sort
set_option linter.unusedVariables false
set_option linter.unusedSimpArgs false
set_option maxRecDepth 100000 in
set_option maxHeartbeats 6400000 in
theorem pgw_big (A : Option Addr) (c : Nat) (xs : List Int) (w : World) (hA : ReadsB w A xs) (h8 : Byte8 xs) (hl : 300 < xs.length) : Calls Try.prog 4 #[.slice A xs.length c] w fun e w' => e = .returned (.bool true) ∧ Below w.heap.size w w' := by
  have HB := Lib.hid (Below.refl w.heap.size w)
  have HA := Lib.hid hA
  have H8 := Lib.hid h8
  clear hA h8
  have t1 : (300 : Int) < (xs.length : Int) := by omega
  go_enter Try.func4, Try.ntmps4
  go_wp2_with fail
  refine (first_c _).mono ?_
  rintro e w1 ⟨rfl, hb'⟩
  have HB := Lib.hid ((HB.out).trans (hb'.mono (HB.out).size))
  clear hb'
  go_wp2_with fail
  go_ret
  exact ⟨rfl, HB.out⟩
set_option maxRecDepth 100000 in
set_option maxHeartbeats 6400000 in
theorem pgw_ok (A : Option Addr) (c : Nat) (xs : List Int) (w : World) (hA : ReadsB w A xs) (h8 : Byte8 xs) (hl : xs.length ≤ 300) : Calls Try.prog 4 #[.slice A xs.length c] w fun e w' => e = .returned (.bool true) ∧ Below w.heap.size w w' := by
  have HB := Lib.hid (Below.refl w.heap.size w)
  have HA := Lib.hid hA
  have H8 := Lib.hid h8
  clear hA h8
  have t1 : (xs.length : Int) ≤ 300 := by omega
  have t2 : decide ((300 : Int) < (xs.length : Int)) = false := by simp; omega
  rcases hgs : getS (unp xs) with ⟨v, e0⟩
  have HGS := Lib.hid hgs
  clear hgs
  go_enter Try.func4, Try.ntmps4
  go_wp2_with fail
  refine (first_c _).mono ?_
  rintro e w1 ⟨rfl, hb'⟩
  have HB := Lib.hid ((HB.out).trans (hb'.mono (HB.out).size))
  clear hb'
  go_wp2_with fail
  have h9 := pget_c A c xs w1 (HA.out.kept HB.out) H8.out (by omega)
  rw [HGS.out] at h9
  refine h9.mono ?_
  rintro e w2 ⟨rfl, hb'⟩
  clear h9
  have HB := Lib.hid ((HB.out).trans (hb'.mono (HB.out).size))
  clear hb'
  go_upto_region 6 with fail
  have HB := Lib.hid (below_alloc_ (HB.out) (.cells #[.int .i64 v.W, .int .i64 v.H, .int .i64 v.C, .int .i64 v.B] 23))
  have hzw : (w2.alloc (.cells #[.int .i64 v.W, .int .i64 v.H, .int .i64 v.C, .int .i64 v.B] 23)).heap.size = w2.heap.size + 1 := by simp only [World.size_alloc]
  have B3 := Blk.new (w2) 23 #[.int .i64 v.W, .int .i64 v.H, .int .i64 v.C, .int .i64 v.B]
  skip
  have B3 := Lib.hid B3
  generalize w2.alloc (.cells #[.int .i64 v.W, .int .i64 v.H, .int .i64 v.C, .int .i64 v.B] 23) = w3 at *
  clear hzw
  go_wp2_with fail
  have h9 := rget_c A c xs w3 (HA.out.kept HB.out) H8.out (by omega)
  rw [HGS.out] at h9
  refine h9.mono ?_
  rintro e w4 ⟨rfl, hb'⟩
  clear h9
  have HB := Lib.hid ((HB.out).trans (hb'.mono (HB.out).size))
  have B3 := Lib.hid ((B3.out).below hb' (B3.out).lt)
  clear hb'
  go_upto_region 7 with fail
  have HB := Lib.hid (below_alloc_ (HB.out) (.cells #[.int .i64 v.W, .int .i64 v.H, .int .i64 v.C, .int .i64 v.B] 23))
  have B3 := Lib.hid ((B3.out).alloc (.cells #[.int .i64 v.W, .int .i64 v.H, .int .i64 v.C, .int .i64 v.B] 23))
  have hzw : (w4.alloc (.cells #[.int .i64 v.W, .int .i64 v.H, .int .i64 v.C, .int .i64 v.B] 23)).heap.size = w4.heap.size + 1 := by simp only [World.size_alloc]
  have B5 := Blk.new (w4) 23 #[.int .i64 v.W, .int .i64 v.H, .int .i64 v.C, .int .i64 v.B]
  skip
  have B5 := Lib.hid B5
  generalize w4.alloc (.cells #[.int .i64 v.W, .int .i64 v.H, .int .i64 v.C, .int .i64 v.B] 23) = w5 at *
  clear hzw
  obtain ⟨zB30, zB31, zB32, zB33⟩ := (B3.out).cells4
  obtain ⟨zB50, zB51, zB52, zB53⟩ := (B5.out).cells4
  go_wp2_with fail
  clear zB30 zB31 zB32 zB33
  clear zB50 zB51 zB52 zB53
  go_ret
  exact ⟨rfl, HB.out⟩
theorem paramsGet_walk (xs : List Int) (v0 : Value) (w : World) (h0 : IsBytes w v0 xs) :
    Calls Try.prog 4 #[v0] w fun e w' => e = .returned (.bool true) ∧ Below w.heap.size w w' := by
  have h8 : Byte8 xs := fun j => h0.rd_bd j
  obtain ⟨A, c, rfl, hX, hm0, _⟩ := h0
  by_cases hl : 300 < xs.length
  · exact pgw_big A c xs w hX h8 hl
  · exact pgw_ok A c xs w hX h8 (by omega)

end Go.Proofs.Ytgdlleoefncikaa
