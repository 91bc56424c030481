/- Bands: the reference's lists compared; its parents. -/
import Derived.Test.YtjlajggilcihoaaBd8
namespace Go.Proofs.Ytjlajggilcihoaa
open Go.RowKit Go.Sort
set_option linter.unusedVariables false
set_option linter.unusedSimpArgs false

theorem upto_succ {p : Nat → Prop} {k : Nat} (h : ∀ j, j < k → p j) (hk : p k) : ∀ j, j < k + 1 → p j := fun j hj => by
  by_cases e : j = k
  · subst e; exact hk
  · exact h j (by omega)
/-- Is the k-th band the parent of the i-th? -/
def isPar (bs : List Bd) (i : Int) (k : Nat) : Bool := decide (0 ≤ i) && decide (i < bs.length) && decide (2 ≤ (bs.getD i.toNat ⟨0, 0, 0, 0, 0, 0⟩).l) && decide ((bs.getD k ⟨0, 0, 0, 0, 0, 0⟩).l = (bs.getD i.toNat ⟨0, 0, 0, 0, 0, 0⟩).l - 1) && decide ((bs.getD k ⟨0, 0, 0, 0, 0, 0⟩).o = (bs.getD i.toNat ⟨0, 0, 0, 0, 0, 0⟩).o)
def parL (bs : List Bd) (i : Int) : Int := match (List.range bs.length).find? (isPar bs i) with | some k => (k : Int) | none => -1
theorem parL_at {bs : List Bd} {i : Int} {k : Nat} (hk : k < bs.length) (h : isPar bs i k = true) (hn : ∀ j, j < k → isPar bs i j = false) : parL bs i = k := by
  unfold parL
  have : (List.range bs.length).find? (isPar bs i) = some k := by
    rw [List.find?_range_eq_some]
    exact ⟨h, List.mem_range.2 hk, fun j hj => by rw [hn j hj]; rfl⟩
  rw [this]
theorem parL_none {bs : List Bd} {i : Int} (hn : ∀ j, j < bs.length → isPar bs i j = false) : parL bs i = -1 := by
  unfold parL
  have : (List.range bs.length).find? (isPar bs i) = none := by
    rw [List.find?_eq_none]
    intro j hj
    rw [hn j (List.mem_range.1 hj)]
    decide
  rw [this]
set_option maxRecDepth 100000 in
set_option maxHeartbeats 6400000 in
theorem r10same_c (bs : List Bd) (A A' : Option Addr) (c c' : Nat) (w : World) (hA : ReadsB w A bs) (hB : ReadsB w A' bs) (hn : bs.length ≤ 1000000) :
    Calls Try.prog 9 #[.slice A bs.length c, .slice A' bs.length c'] w fun e w' => e = .returned (.bool true) ∧ Below w.heap.size w w' := by
  have RA := Lib.hid hA
  have RB := Lib.hid hB
  have HB := Lib.hid (Below.refl w.heap.size w)
  have HB1 := Lib.hid (Below.refl w.heap.size w)
  have e0 : ((bs.length : Int) != (bs.length : Int)) = false := by simp
  clear hA hB
  go_enter Try.func9, Try.ntmps9
  go_wp2_with fail
  go_loopw [13] (fun v wr => ∃ k : Nat, k ≤ bs.length ∧ v = .int .i64 k ∧ Below w.heap.size w wr) (fun v _ => bs.length - (intOf v).toNat)
  case atStart => exact ⟨0, Nat.zero_le _, rfl, HB1.out⟩
  case round =>
    obtain ⟨k, hk, rfl, hb⟩ := hrel
    have HB1 := Lib.hid hb
    obtain ⟨wo, ewo⟩ : ∃ wo, wo = wr := ⟨_, rfl⟩
    subst ewo
    clear hb
    by_cases hlt : k < bs.length
    · skip
      obtain ⟨ad, rfl, _, d0, d1, d2, d3, d4, d5⟩ := ReadsB.at_ (RA.out.kept HB1.out) hlt
      obtain ⟨ad', rfl, _, e0, e1, e2, e3, e4, e5⟩ := ReadsB.at_ (RB.out.kept HB1.out) hlt
      have i1 : (0 : Int) ≤ (k : Int) := by omega
      have i2 : (k : Int) < (bs.length : Int) := by omega
      obtain ⟨b, hb⟩ : ∃ b, b = bs[k] := ⟨_, rfl⟩
      rw [← hb] at d0 d1 d2 d3 d4 d5 e0 e1 e2 e3 e4 e5
      clear hb
      go_upto_region 6 with fail
      have kq0 := cell_regrown d0
      have kq1 := cell_regrown d1
      have kq2 := cell_regrown d2
      have kq3 := cell_regrown d3
      have kq4 := cell_regrown d4
      have kq5 := cell_regrown d5
      have kq6 := cell_regrown e0
      have kq7 := cell_regrown e1
      have kq8 := cell_regrown e2
      have kq9 := cell_regrown e3
      have kq10 := cell_regrown e4
      have kq11 := cell_regrown e5
      clear d0 d1 d2 d3 d4 d5 e0 e1 e2 e3 e4 e5
      refine wp_region_quiet_below (by kernel_rfl) (by kernel_rfl) ?_
      repeat (go_big_quiet_step (fail))
      refine wpQuiet_nil ?_
      intro _ hw'
      obtain ⟨⟨dq, osq⟩, hw''⟩ := hw'
      subst hw''
      have hb' := below_regrown wo dq osq
      clear kq0 kq1 kq2 kq3 kq4 kq5 kq6 kq7 kq8 kq9 kq10 kq11
      have HB1 := Lib.hid ((HB1.out).trans (hb'.mono (HB1.out).size))
      clear hb'
      generalize grow (redrawn wo dq) osq = w1 at *
      go_wp2_with fail
      go_roundw
      case rel => exact ⟨k + 1, by omega, by go_num, HB1.out⟩
      case measure => simp [intOf]; omega
    · skip
      obtain rfl : k = bs.length := by omega
      go_wp2_with fail
      go_ret
      exact ⟨rfl, HB1.out⟩

set_option maxRecDepth 100000 in
set_option maxHeartbeats 6400000 in
theorem r10par_a (bs : List Bd) (A : Option Addr) (c : Nat) (i : Int) (w : World) (hA : ReadsB w A bs) (hn : bs.length ≤ 1000000) (hi : i < 0) :
    Calls Try.prog 14 #[.slice A bs.length c, .int .i64 i] w fun e w' => e = .returned (.int .i64 (parL bs i)) ∧ Below w.heap.size w w' := by
  have RA := Lib.hid hA
  have HB1 := Lib.hid (Below.refl w.heap.size w)
  have HF := Lib.hid (show ∀ j, isPar bs i j = false from fun j => by simp [isPar]; omega)
  have k1 : decide (0 ≤ i) = false := decide_eq_false (by omega)
  clear hA
  go_enter Try.func14, Try.ntmps14
  go_wp2_with fail
  go_loopw [9] (fun v wr => ∃ k : Nat, k ≤ bs.length ∧ v = .int .i64 k ∧ (∀ j, j < k → isPar bs i j = false) ∧ Below w.heap.size w wr) (fun v _ => bs.length - (intOf v).toNat)
  case atStart => exact ⟨0, Nat.zero_le _, rfl, fun j hj => absurd hj (Nat.not_lt_zero _), HB1.out⟩
  case round =>
    obtain ⟨k, hk, rfl, hj, hb⟩ := hrel
    have HJ := Lib.hid hj
    have HB1 := Lib.hid hb
    obtain ⟨wo, ewo⟩ : ∃ wo, wo = wr := ⟨_, rfl⟩
    subst ewo
    clear hb hj
    by_cases hlt : k < bs.length
    · skip
      obtain ⟨ad, e7, _, d0, d1, d2, d3, d4, d5⟩ := ReadsB.at_ (RA.out.kept HB1.out) hlt
      subst e7
      have i1 : (0 : Int) ≤ (k : Int) := by omega
      have i2 : (k : Int) < (bs.length : Int) := by omega
      obtain ⟨b, hb⟩ : ∃ b, b = bs[k] := ⟨_, rfl⟩
      have hbg : bs.getD k ⟨0, 0, 0, 0, 0, 0⟩ = b := by rw [hb]; simp [List.getD_eq_getElem?_getD, List.getElem?_eq_getElem hlt]
      rw [← hb] at d0 d1 d2 d3 d4 d5
      have HBG := Lib.hid hbg
      clear hb hbg
      go_upto_region 4 with fail
      clear d0 d1 d2 d3 d4 d5
      have HB1 := Lib.hid (below_alloc_ (HB1.out) (.cells #[.int .i64 b.l, .int .i64 b.o, .int .i64 b.x, .int .i64 b.y, .int .i64 b.w, .int .i64 b.h] 31))
      have hzw : (wo.alloc (.cells #[.int .i64 b.l, .int .i64 b.o, .int .i64 b.x, .int .i64 b.y, .int .i64 b.w, .int .i64 b.h] 31)).heap.size = wo.heap.size + 1 := by simp only [World.size_alloc]
      have BA := Blk.new (wo) 31 #[.int .i64 b.l, .int .i64 b.o, .int .i64 b.x, .int .i64 b.y, .int .i64 b.w, .int .i64 b.h]
      skip
      have BA := Lib.hid BA
      generalize wo.alloc (.cells #[.int .i64 b.l, .int .i64 b.o, .int .i64 b.x, .int .i64 b.y, .int .i64 b.w, .int .i64 b.h] 31) = w1 at *
      clear hzw
      obtain ⟨zBA0, zBA1, zBA2, zBA3, zBA4, zBA5⟩ := (BA.out).cells6
      have kq0 := cell_regrown zBA0
      have kq1 := cell_regrown zBA1
      have kq2 := cell_regrown zBA2
      have kq3 := cell_regrown zBA3
      have kq4 := cell_regrown zBA4
      have kq5 := cell_regrown zBA5
      clear zBA0 zBA1 zBA2 zBA3 zBA4 zBA5
      refine wp_region_quiet_below (by kernel_rfl) (by kernel_rfl) ?_
      repeat (go_big_quiet_step (fail))
      refine wpQuiet_nil ?_
      intro _ hw'
      obtain ⟨⟨dq, osq⟩, hw''⟩ := hw'
      subst hw''
      have hb' := below_regrown w1 dq osq
      clear kq0 kq1 kq2 kq3 kq4 kq5
      have HB1 := Lib.hid ((HB1.out).trans (hb'.mono (HB1.out).size))
      have BA := Lib.hid ((BA.out).below hb' (BA.out).lt)
      clear hb'
      generalize grow (redrawn w1 dq) osq = w2 at *
      go_wp2_with fail
      go_roundw
      case rel => exact ⟨k + 1, by omega, by go_num, upto_succ HJ.out (HF.out k), HB1.out⟩
      case measure => simp [intOf]; omega
    · skip
      obtain rfl : k = bs.length := by omega
      have HP := Lib.hid (parL_none HJ.out)
      go_wp2_with fail
      go_ret
      exact ⟨by rw [HP.out]; rfl, HB1.out⟩

set_option maxRecDepth 100000 in
set_option maxHeartbeats 6400000 in
theorem r10par_b (bs : List Bd) (A : Option Addr) (c : Nat) (i : Int) (w : World) (hA : ReadsB w A bs) (hn : bs.length ≤ 1000000) (h0 : 0 ≤ i) (hi : (bs.length : Int) ≤ i) :
    Calls Try.prog 14 #[.slice A bs.length c, .int .i64 i] w fun e w' => e = .returned (.int .i64 (parL bs i)) ∧ Below w.heap.size w w' := by
  have RA := Lib.hid hA
  have HB1 := Lib.hid (Below.refl w.heap.size w)
  have HF := Lib.hid (show ∀ j, isPar bs i j = false from fun j => by simp [isPar]; omega)
  have k1 : decide (0 ≤ i) = true := decide_eq_true h0
  have k2 : decide (i < (bs.length : Int)) = false := decide_eq_false (by omega)
  clear hA
  go_enter Try.func14, Try.ntmps14
  go_wp2_with fail
  go_loopw [9] (fun v wr => ∃ k : Nat, k ≤ bs.length ∧ v = .int .i64 k ∧ (∀ j, j < k → isPar bs i j = false) ∧ Below w.heap.size w wr) (fun v _ => bs.length - (intOf v).toNat)
  case atStart => exact ⟨0, Nat.zero_le _, rfl, fun j hj => absurd hj (Nat.not_lt_zero _), HB1.out⟩
  case round =>
    obtain ⟨k, hk, rfl, hj, hb⟩ := hrel
    have HJ := Lib.hid hj
    have HB1 := Lib.hid hb
    obtain ⟨wo, ewo⟩ : ∃ wo, wo = wr := ⟨_, rfl⟩
    subst ewo
    clear hb hj
    by_cases hlt : k < bs.length
    · skip
      obtain ⟨ad, e7, _, d0, d1, d2, d3, d4, d5⟩ := ReadsB.at_ (RA.out.kept HB1.out) hlt
      subst e7
      have i1 : (0 : Int) ≤ (k : Int) := by omega
      have i2 : (k : Int) < (bs.length : Int) := by omega
      obtain ⟨b, hb⟩ : ∃ b, b = bs[k] := ⟨_, rfl⟩
      have hbg : bs.getD k ⟨0, 0, 0, 0, 0, 0⟩ = b := by rw [hb]; simp [List.getD_eq_getElem?_getD, List.getElem?_eq_getElem hlt]
      rw [← hb] at d0 d1 d2 d3 d4 d5
      have HBG := Lib.hid hbg
      clear hb hbg
      go_upto_region 4 with fail
      clear d0 d1 d2 d3 d4 d5
      have HB1 := Lib.hid (below_alloc_ (HB1.out) (.cells #[.int .i64 b.l, .int .i64 b.o, .int .i64 b.x, .int .i64 b.y, .int .i64 b.w, .int .i64 b.h] 31))
      have hzw : (wo.alloc (.cells #[.int .i64 b.l, .int .i64 b.o, .int .i64 b.x, .int .i64 b.y, .int .i64 b.w, .int .i64 b.h] 31)).heap.size = wo.heap.size + 1 := by simp only [World.size_alloc]
      have BA := Blk.new (wo) 31 #[.int .i64 b.l, .int .i64 b.o, .int .i64 b.x, .int .i64 b.y, .int .i64 b.w, .int .i64 b.h]
      skip
      have BA := Lib.hid BA
      generalize wo.alloc (.cells #[.int .i64 b.l, .int .i64 b.o, .int .i64 b.x, .int .i64 b.y, .int .i64 b.w, .int .i64 b.h] 31) = w1 at *
      clear hzw
      obtain ⟨zBA0, zBA1, zBA2, zBA3, zBA4, zBA5⟩ := (BA.out).cells6
      have kq0 := cell_regrown zBA0
      have kq1 := cell_regrown zBA1
      have kq2 := cell_regrown zBA2
      have kq3 := cell_regrown zBA3
      have kq4 := cell_regrown zBA4
      have kq5 := cell_regrown zBA5
      clear zBA0 zBA1 zBA2 zBA3 zBA4 zBA5
      refine wp_region_quiet_below (by kernel_rfl) (by kernel_rfl) ?_
      repeat (go_big_quiet_step (fail))
      refine wpQuiet_nil ?_
      intro _ hw'
      obtain ⟨⟨dq, osq⟩, hw''⟩ := hw'
      subst hw''
      have hb' := below_regrown w1 dq osq
      clear kq0 kq1 kq2 kq3 kq4 kq5
      have HB1 := Lib.hid ((HB1.out).trans (hb'.mono (HB1.out).size))
      have BA := Lib.hid ((BA.out).below hb' (BA.out).lt)
      clear hb'
      generalize grow (redrawn w1 dq) osq = w2 at *
      go_wp2_with fail
      go_roundw
      case rel => exact ⟨k + 1, by omega, by go_num, upto_succ HJ.out (HF.out k), HB1.out⟩
      case measure => simp [intOf]; omega
    · skip
      obtain rfl : k = bs.length := by omega
      have HP := Lib.hid (parL_none HJ.out)
      go_wp2_with fail
      go_ret
      exact ⟨by rw [HP.out]; rfl, HB1.out⟩

set_option maxRecDepth 100000 in
set_option maxHeartbeats 6400000 in
theorem r10par_c (bs : List Bd) (A : Option Addr) (c : Nat) (ii : Nat) (w : World) (hA : ReadsB w A bs) (hn : bs.length ≤ 1000000) (hi : ii < bs.length) (hl : (bs.getD ii ⟨0, 0, 0, 0, 0, 0⟩).l < 2) (hu : -1000 ≤ (bs.getD ii ⟨0, 0, 0, 0, 0, 0⟩).l) :
    Calls Try.prog 14 #[.slice A bs.length c, .int .i64 (ii : Int)] w fun e w' => e = .returned (.int .i64 (parL bs (ii : Int))) ∧ Below w.heap.size w w' := by
  have RA := Lib.hid hA
  have HB1 := Lib.hid (Below.refl w.heap.size w)
  obtain ⟨q, hq⟩ : ∃ q, q = bs[ii] := ⟨_, rfl⟩
  have hqg : bs.getD ii ⟨0, 0, 0, 0, 0, 0⟩ = q := by rw [hq]; simp [List.getD_eq_getElem?_getD, List.getElem?_eq_getElem hi]
  have HQ := Lib.hid hq
  have HQG := Lib.hid hqg
  rw [hqg] at hl hu
  have j1 : (0 : Int) ≤ (ii : Int) := by omega
  have j2 : (ii : Int) < (bs.length : Int) := by omega
  clear hq hqg
  have HF := Lib.hid (show ∀ j, isPar bs (ii : Int) j = (decide (2 ≤ q.l) && decide ((bs.getD j ⟨0, 0, 0, 0, 0, 0⟩).l = q.l - 1) && decide ((bs.getD j ⟨0, 0, 0, 0, 0, 0⟩).o = q.o)) from fun j => by unfold isPar; rw [Int.toNat_natCast, HQG.out, decide_eq_true j1, decide_eq_true j2]; rfl)
  have k1 : decide (0 ≤ (ii : Int)) = true := decide_eq_true j1
  have k2 : decide ((ii : Int) < (bs.length : Int)) = true := decide_eq_true j2
  have k3 : decide (2 ≤ q.l) = false := decide_eq_false (by omega)
  clear hA
  go_enter Try.func14, Try.ntmps14
  go_wp2_with fail
  go_loopw [9] (fun v wr => ∃ k : Nat, k ≤ bs.length ∧ v = .int .i64 k ∧ (∀ j, j < k → isPar bs (ii : Int) j = false) ∧ Below w.heap.size w wr) (fun v _ => bs.length - (intOf v).toNat)
  case atStart => exact ⟨0, Nat.zero_le _, rfl, fun j hj => absurd hj (Nat.not_lt_zero _), HB1.out⟩
  case round =>
    obtain ⟨k, hk, rfl, hj, hb⟩ := hrel
    have HJ := Lib.hid hj
    have HB1 := Lib.hid hb
    obtain ⟨wo, ewo⟩ : ∃ wo, wo = wr := ⟨_, rfl⟩
    subst ewo
    clear hb hj
    by_cases hlt : k < bs.length
    · skip
      obtain ⟨ad, e7, _, d0, d1, d2, d3, d4, d5⟩ := ReadsB.at_ (RA.out.kept HB1.out) hlt
      subst e7
      have i1 : (0 : Int) ≤ (k : Int) := by omega
      have i2 : (k : Int) < (bs.length : Int) := by omega
      obtain ⟨b, hb⟩ : ∃ b, b = bs[k] := ⟨_, rfl⟩
      have hbg : bs.getD k ⟨0, 0, 0, 0, 0, 0⟩ = b := by rw [hb]; simp [List.getD_eq_getElem?_getD, List.getElem?_eq_getElem hlt]
      rw [← hb] at d0 d1 d2 d3 d4 d5
      have HBG := Lib.hid hbg
      clear hb hbg
      go_upto_region 4 with fail
      clear d0 d1 d2 d3 d4 d5
      have HB1 := Lib.hid (below_alloc_ (HB1.out) (.cells #[.int .i64 b.l, .int .i64 b.o, .int .i64 b.x, .int .i64 b.y, .int .i64 b.w, .int .i64 b.h] 31))
      have hzw : (wo.alloc (.cells #[.int .i64 b.l, .int .i64 b.o, .int .i64 b.x, .int .i64 b.y, .int .i64 b.w, .int .i64 b.h] 31)).heap.size = wo.heap.size + 1 := by simp only [World.size_alloc]
      have BA := Blk.new (wo) 31 #[.int .i64 b.l, .int .i64 b.o, .int .i64 b.x, .int .i64 b.y, .int .i64 b.w, .int .i64 b.h]
      skip
      have BA := Lib.hid BA
      generalize wo.alloc (.cells #[.int .i64 b.l, .int .i64 b.o, .int .i64 b.x, .int .i64 b.y, .int .i64 b.w, .int .i64 b.h] 31) = w1 at *
      clear hzw
      obtain ⟨zBA0, zBA1, zBA2, zBA3, zBA4, zBA5⟩ := (BA.out).cells6
      obtain ⟨ad2, e7, _, g0, g1, _⟩ := ReadsB.at_ (RA.out.kept HB1.out) hi
      injection e7 with e7
      subst e7
      rw [← HQ.out] at g0 g1
      have kq0 := cell_regrown zBA0
      have kq1 := cell_regrown zBA1
      have kq2 := cell_regrown zBA2
      have kq3 := cell_regrown zBA3
      have kq4 := cell_regrown zBA4
      have kq5 := cell_regrown zBA5
      have kq6 := cell_regrown g0
      have kq7 := cell_regrown g1
      clear zBA0 zBA1 zBA2 zBA3 zBA4 zBA5 g0 g1
      refine wp_region_quiet_below (by kernel_rfl) (by kernel_rfl) ?_
      repeat (go_big_quiet_step (fail))
      refine wpQuiet_nil ?_
      intro _ hw'
      obtain ⟨⟨dq, osq⟩, hw''⟩ := hw'
      subst hw''
      have hb' := below_regrown w1 dq osq
      clear kq0 kq1 kq2 kq3 kq4 kq5 kq6 kq7
      have HB1 := Lib.hid ((HB1.out).trans (hb'.mono (HB1.out).size))
      have BA := Lib.hid ((BA.out).below hb' (BA.out).lt)
      clear hb'
      generalize grow (redrawn w1 dq) osq = w2 at *
      go_wp2_with fail
      go_roundw
      case rel => exact ⟨k + 1, by omega, by go_num, upto_succ HJ.out ((by rw [HF.out]; simp; omega)), HB1.out⟩
      case measure => simp [intOf]; omega
    · skip
      obtain rfl : k = bs.length := by omega
      have HP := Lib.hid (parL_none HJ.out)
      go_wp2_with fail
      go_ret
      exact ⟨by rw [HP.out]; rfl, HB1.out⟩

set_option maxRecDepth 100000 in
set_option maxHeartbeats 6400000 in
theorem r10par_d (bs : List Bd) (A : Option Addr) (c : Nat) (ii : Nat) (w : World) (hA : ReadsB w A bs) (hn : bs.length ≤ 1000000) (hi : ii < bs.length) (hl : 2 ≤ (bs.getD ii ⟨0, 0, 0, 0, 0, 0⟩).l) (hu : (bs.getD ii ⟨0, 0, 0, 0, 0, 0⟩).l ≤ 1000) :
    Calls Try.prog 14 #[.slice A bs.length c, .int .i64 (ii : Int)] w fun e w' => e = .returned (.int .i64 (parL bs (ii : Int))) ∧ Below w.heap.size w w' := by
  have RA := Lib.hid hA
  have HB1 := Lib.hid (Below.refl w.heap.size w)
  obtain ⟨q, hq⟩ : ∃ q, q = bs[ii] := ⟨_, rfl⟩
  have hqg : bs.getD ii ⟨0, 0, 0, 0, 0, 0⟩ = q := by rw [hq]; simp [List.getD_eq_getElem?_getD, List.getElem?_eq_getElem hi]
  have HQ := Lib.hid hq
  have HQG := Lib.hid hqg
  rw [hqg] at hl hu
  have j1 : (0 : Int) ≤ (ii : Int) := by omega
  have j2 : (ii : Int) < (bs.length : Int) := by omega
  clear hq hqg
  have HF := Lib.hid (show ∀ j, isPar bs (ii : Int) j = (decide (2 ≤ q.l) && decide ((bs.getD j ⟨0, 0, 0, 0, 0, 0⟩).l = q.l - 1) && decide ((bs.getD j ⟨0, 0, 0, 0, 0, 0⟩).o = q.o)) from fun j => by unfold isPar; rw [Int.toNat_natCast, HQG.out, decide_eq_true j1, decide_eq_true j2]; rfl)
  have k1 : decide (0 ≤ (ii : Int)) = true := decide_eq_true j1
  have k2 : decide ((ii : Int) < (bs.length : Int)) = true := decide_eq_true j2
  have k3 : decide (2 ≤ q.l) = true := decide_eq_true (by omega)
  clear hA
  go_enter Try.func14, Try.ntmps14
  go_wp2_with fail
  go_loopw [9] (fun v wr => ∃ k : Nat, k ≤ bs.length ∧ v = .int .i64 k ∧ (∀ j, j < k → isPar bs (ii : Int) j = false) ∧ Below w.heap.size w wr) (fun v _ => bs.length - (intOf v).toNat)
  case atStart => exact ⟨0, Nat.zero_le _, rfl, fun j hj => absurd hj (Nat.not_lt_zero _), HB1.out⟩
  case round =>
    obtain ⟨k, hk, rfl, hj, hb⟩ := hrel
    have HJ := Lib.hid hj
    have HB1 := Lib.hid hb
    obtain ⟨wo, ewo⟩ : ∃ wo, wo = wr := ⟨_, rfl⟩
    subst ewo
    clear hb hj
    by_cases hlt : k < bs.length
    · skip
      obtain ⟨ad, e7, _, d0, d1, d2, d3, d4, d5⟩ := ReadsB.at_ (RA.out.kept HB1.out) hlt
      subst e7
      have i1 : (0 : Int) ≤ (k : Int) := by omega
      have i2 : (k : Int) < (bs.length : Int) := by omega
      obtain ⟨b, hb⟩ : ∃ b, b = bs[k] := ⟨_, rfl⟩
      have hbg : bs.getD k ⟨0, 0, 0, 0, 0, 0⟩ = b := by rw [hb]; simp [List.getD_eq_getElem?_getD, List.getElem?_eq_getElem hlt]
      rw [← hb] at d0 d1 d2 d3 d4 d5
      have HBG := Lib.hid hbg
      clear hb hbg
      by_cases c1 : b.l = q.l - 1
      · skip
        by_cases c2 : b.o = q.o
        · skip
          have HT := Lib.hid (parL_at hlt (show isPar bs (ii : Int) k = true by rw [HF.out, HBG.out]; simp; omega) HJ.out)
          have c3 : (b.l == q.l - 1) = true := by simp [c1]
          have c4 : (b.o == q.o) = true := by simp [c2]
          clear c1 c2
          go_upto_region 4 with fail
          clear d0 d1 d2 d3 d4 d5
          have HB1 := Lib.hid (below_alloc_ (HB1.out) (.cells #[.int .i64 b.l, .int .i64 b.o, .int .i64 b.x, .int .i64 b.y, .int .i64 b.w, .int .i64 b.h] 31))
          have hzw : (wo.alloc (.cells #[.int .i64 b.l, .int .i64 b.o, .int .i64 b.x, .int .i64 b.y, .int .i64 b.w, .int .i64 b.h] 31)).heap.size = wo.heap.size + 1 := by simp only [World.size_alloc]
          have BA := Blk.new (wo) 31 #[.int .i64 b.l, .int .i64 b.o, .int .i64 b.x, .int .i64 b.y, .int .i64 b.w, .int .i64 b.h]
          skip
          have BA := Lib.hid BA
          generalize wo.alloc (.cells #[.int .i64 b.l, .int .i64 b.o, .int .i64 b.x, .int .i64 b.y, .int .i64 b.w, .int .i64 b.h] 31) = w1 at *
          clear hzw
          obtain ⟨zBA0, zBA1, zBA2, zBA3, zBA4, zBA5⟩ := (BA.out).cells6
          obtain ⟨ad2, e7, _, g0, g1, _⟩ := ReadsB.at_ (RA.out.kept HB1.out) hi
          injection e7 with e7
          subst e7
          rw [← HQ.out] at g0 g1
          have kq0 := cell_regrown zBA0
          have kq1 := cell_regrown zBA1
          have kq2 := cell_regrown zBA2
          have kq3 := cell_regrown zBA3
          have kq4 := cell_regrown zBA4
          have kq5 := cell_regrown zBA5
          have kq6 := cell_regrown g0
          have kq7 := cell_regrown g1
          clear zBA0 zBA1 zBA2 zBA3 zBA4 zBA5 g0 g1
          refine wp_region_quiet_below (by kernel_rfl) (by kernel_rfl) ?_
          repeat (go_big_quiet_step (fail))
          refine wpQuiet_nil ?_
          intro _ hw'
          obtain ⟨⟨dq, osq⟩, hw''⟩ := hw'
          subst hw''
          have hb' := below_regrown w1 dq osq
          clear kq0 kq1 kq2 kq3 kq4 kq5 kq6 kq7
          have HB1 := Lib.hid ((HB1.out).trans (hb'.mono (HB1.out).size))
          have BA := Lib.hid ((BA.out).below hb' (BA.out).lt)
          clear hb'
          generalize grow (redrawn w1 dq) osq = w2 at *
          go_wp2_with fail
          go_ret
          exact ⟨by rw [HT.out]; rfl, HB1.out⟩
        · skip
          have HT := Lib.hid (show isPar bs (ii : Int) k = false by rw [HF.out, HBG.out]; simp; omega)
          have c3 : (b.l == q.l - 1) = true := by simp [c1]
          have c4 : (b.o == q.o) = false := by simpa using c2
          clear c1 c2
          go_upto_region 4 with fail
          clear d0 d1 d2 d3 d4 d5
          have HB1 := Lib.hid (below_alloc_ (HB1.out) (.cells #[.int .i64 b.l, .int .i64 b.o, .int .i64 b.x, .int .i64 b.y, .int .i64 b.w, .int .i64 b.h] 31))
          have hzw : (wo.alloc (.cells #[.int .i64 b.l, .int .i64 b.o, .int .i64 b.x, .int .i64 b.y, .int .i64 b.w, .int .i64 b.h] 31)).heap.size = wo.heap.size + 1 := by simp only [World.size_alloc]
          have BA := Blk.new (wo) 31 #[.int .i64 b.l, .int .i64 b.o, .int .i64 b.x, .int .i64 b.y, .int .i64 b.w, .int .i64 b.h]
          skip
          have BA := Lib.hid BA
          generalize wo.alloc (.cells #[.int .i64 b.l, .int .i64 b.o, .int .i64 b.x, .int .i64 b.y, .int .i64 b.w, .int .i64 b.h] 31) = w1 at *
          clear hzw
          obtain ⟨zBA0, zBA1, zBA2, zBA3, zBA4, zBA5⟩ := (BA.out).cells6
          obtain ⟨ad2, e7, _, g0, g1, _⟩ := ReadsB.at_ (RA.out.kept HB1.out) hi
          injection e7 with e7
          subst e7
          rw [← HQ.out] at g0 g1
          have kq0 := cell_regrown zBA0
          have kq1 := cell_regrown zBA1
          have kq2 := cell_regrown zBA2
          have kq3 := cell_regrown zBA3
          have kq4 := cell_regrown zBA4
          have kq5 := cell_regrown zBA5
          have kq6 := cell_regrown g0
          have kq7 := cell_regrown g1
          clear zBA0 zBA1 zBA2 zBA3 zBA4 zBA5 g0 g1
          refine wp_region_quiet_below (by kernel_rfl) (by kernel_rfl) ?_
          repeat (go_big_quiet_step (fail))
          refine wpQuiet_nil ?_
          intro _ hw'
          obtain ⟨⟨dq, osq⟩, hw''⟩ := hw'
          subst hw''
          have hb' := below_regrown w1 dq osq
          clear kq0 kq1 kq2 kq3 kq4 kq5 kq6 kq7
          have HB1 := Lib.hid ((HB1.out).trans (hb'.mono (HB1.out).size))
          have BA := Lib.hid ((BA.out).below hb' (BA.out).lt)
          clear hb'
          generalize grow (redrawn w1 dq) osq = w2 at *
          go_wp2_with fail
          go_roundw
          case rel => exact ⟨k + 1, by omega, by go_num, upto_succ HJ.out (HT.out), HB1.out⟩
          case measure => simp [intOf]; omega
      · skip
        have HT := Lib.hid (show isPar bs (ii : Int) k = false by rw [HF.out, HBG.out]; simp; omega)
        have c3 : (b.l == q.l - 1) = false := by simpa using c1
        clear c1
        go_upto_region 4 with fail
        clear d0 d1 d2 d3 d4 d5
        have HB1 := Lib.hid (below_alloc_ (HB1.out) (.cells #[.int .i64 b.l, .int .i64 b.o, .int .i64 b.x, .int .i64 b.y, .int .i64 b.w, .int .i64 b.h] 31))
        have hzw : (wo.alloc (.cells #[.int .i64 b.l, .int .i64 b.o, .int .i64 b.x, .int .i64 b.y, .int .i64 b.w, .int .i64 b.h] 31)).heap.size = wo.heap.size + 1 := by simp only [World.size_alloc]
        have BA := Blk.new (wo) 31 #[.int .i64 b.l, .int .i64 b.o, .int .i64 b.x, .int .i64 b.y, .int .i64 b.w, .int .i64 b.h]
        skip
        have BA := Lib.hid BA
        generalize wo.alloc (.cells #[.int .i64 b.l, .int .i64 b.o, .int .i64 b.x, .int .i64 b.y, .int .i64 b.w, .int .i64 b.h] 31) = w1 at *
        clear hzw
        obtain ⟨zBA0, zBA1, zBA2, zBA3, zBA4, zBA5⟩ := (BA.out).cells6
        obtain ⟨ad2, e7, _, g0, g1, _⟩ := ReadsB.at_ (RA.out.kept HB1.out) hi
        injection e7 with e7
        subst e7
        rw [← HQ.out] at g0 g1
        have kq0 := cell_regrown zBA0
        have kq1 := cell_regrown zBA1
        have kq2 := cell_regrown zBA2
        have kq3 := cell_regrown zBA3
        have kq4 := cell_regrown zBA4
        have kq5 := cell_regrown zBA5
        have kq6 := cell_regrown g0
        have kq7 := cell_regrown g1
        clear zBA0 zBA1 zBA2 zBA3 zBA4 zBA5 g0 g1
        refine wp_region_quiet_below (by kernel_rfl) (by kernel_rfl) ?_
        repeat (go_big_quiet_step (fail))
        refine wpQuiet_nil ?_
        intro _ hw'
        obtain ⟨⟨dq, osq⟩, hw''⟩ := hw'
        subst hw''
        have hb' := below_regrown w1 dq osq
        clear kq0 kq1 kq2 kq3 kq4 kq5 kq6 kq7
        have HB1 := Lib.hid ((HB1.out).trans (hb'.mono (HB1.out).size))
        have BA := Lib.hid ((BA.out).below hb' (BA.out).lt)
        clear hb'
        generalize grow (redrawn w1 dq) osq = w2 at *
        go_wp2_with fail
        go_roundw
        case rel => exact ⟨k + 1, by omega, by go_num, upto_succ HJ.out (HT.out), HB1.out⟩
        case measure => simp [intOf]; omega
    · skip
      obtain rfl : k = bs.length := by omega
      have HP := Lib.hid (parL_none HJ.out)
      go_wp2_with fail
      go_ret
      exact ⟨by rw [HP.out]; rfl, HB1.out⟩

theorem r10parent_c (bs : List Bd) (A : Option Addr) (c : Nat) (i : Int) (w : World) (hA : ReadsB w A bs) (hn : bs.length ≤ 1000000) (hl : ∀ k, -1000 ≤ (bs.getD k ⟨0, 0, 0, 0, 0, 0⟩).l ∧ (bs.getD k ⟨0, 0, 0, 0, 0, 0⟩).l ≤ 1000) :
    Calls Try.prog 14 #[.slice A bs.length c, .int .i64 i] w fun e w' => e = .returned (.int .i64 (parL bs i)) ∧ Below w.heap.size w w' := by
  by_cases h0 : i < 0
  · exact r10par_a bs A c i w hA hn h0
  · by_cases h1 : (bs.length : Int) ≤ i
    · exact r10par_b bs A c i w hA hn (by omega) h1
    · obtain ⟨ii, rfl⟩ := Int.eq_ofNat_of_zero_le (a := i) (by omega)
      by_cases h2 : (bs.getD ii ⟨0, 0, 0, 0, 0, 0⟩).l < 2
      · exact r10par_c bs A c ii w hA hn (by omega) h2 (hl ii).1
      · exact r10par_d bs A c ii w hA hn (by omega) (by omega) (hl ii).2

end Go.Proofs.Ytjlajggilcihoaa
