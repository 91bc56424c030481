/- The walk of the law WindowSums: it answers true at every input. -/
import Derived.Test.YtdfmpcbpciepoaaWinN
import Derived.Test.YtdfmpcbpciepoaaWinQ
namespace Go.Proofs.Ytdfmpcbpciepoaa
open Go.RowKit
set_option linter.unusedVariables false
set_option linter.unusedSimpArgs false

theorem LineAt.grown {w w' : World} {B g c n g' : Nat} {s : Int} {f la : Bool} {v : Value} (h : LineAt w B g c n s f la v) (hb : w.grownBy w' (some g')) (hne : g ≠ g') : LineAt w' B g c n s f la v := by
  obtain ⟨rfl, h1, h2, h3⟩ := h
  refine ⟨rfl, h1.grown hb (.inr (by simp [Value.ownBlock]; exact hne)), Nat.lt_of_lt_of_le h2 hb.size, fun j hj => ?_⟩
  rw [← h3 j hj]
  exact World.cell?_of_block (hb.block g h2 (by simp; exact hne))
theorem mul_bd2 {n s : Int} (h0 : 1 ≤ n) (h1 : n ≤ 64) (h2 : 2 ≤ s) (h3 : s ≤ 10) : 0 ≤ n * s ∧ n * s ≤ 640 := by
  constructor
  · exact Int.mul_nonneg (by omega) (by omega)
  · have := Int.mul_le_mul h1 h3 (by omega) (by omega)
    omega

theorem cov_hit {l s : Int} {n b : Nat} {j : Nat} {fr a : Int} (hf : fr = (b : Int) * s - (l - s) / 2) (ha : a = fr + (j : Int)) : covJ l s n b j a = 0 ∧ covJ l s n b ((j : Int) + 1) a = wtF l s j (b == 0) ((b : Int) == (n : Int) - 1) := by
  unfold covJ
  rw [← hf]
  have e : a - fr = (j : Int) := by omega
  rw [e]
  exact ⟨if_neg (by omega), if_pos (by omega)⟩
theorem cov_miss {l s : Int} {n b : Nat} {j : Nat} {fr a : Int} (hf : fr = (b : Int) * s - (l - s) / 2) (ha : a ≠ fr + (j : Int)) : covJ l s n b ((j : Int) + 1) a = covJ l s n b j a := by
  unfold covJ
  rw [← hf]
  by_cases h : 0 ≤ a - fr ∧ a - fr < (j : Int)
  · rw [if_pos h, if_pos (by omega)]
  · rw [if_neg h, if_neg (by omega)]
theorem cov_none {l s : Int} {n b : Nat} {a : Int} : covJ l s n b 0 a = 0 := by
  unfold covJ
  exact if_neg (by omega)

/-- What the row holds when i blocks are done, and j weights of the next one. -/
def sumsL (N : Nat) (l s : Int) (m i : Nat) (j : Int) : List Int := tab N fun a => sumTo l s m (a : Int) i + covJ l s m i j (a : Int)

set_option maxRecDepth 100000 in
set_option maxHeartbeats 3200000 in
theorem sums_c (s o n : Int) (w : World) (s0 : 0 ≤ s) (s1 : s ≤ 255) (o0 : 0 ≤ o) (o1 : o ≤ 255) (n0 : 0 ≤ n) (n1 : n ≤ 255) :
    Calls Try.prog 5 #[.int .u8 s, .int .u8 o, .int .u8 n] w fun e w' => e = .returned (.bool true) ∧ Below w.heap.size w w' := by
  have ⟨q0, q1⟩ := sep_facts s0 o0
  have ⟨p0, p1⟩ := mul_bd2 (n := 1 + s % 64) (s := 2 + n % 9) (by omega) (by omega) (by omega) (by omega)
  have hmk : ∀ W, (Instr.makeSlice 24 (.int .i64 ((1 + s % 64) * (2 + n % 9))) (.int .i64 ((1 + s % 64) * (2 + n % 9)))).run Try.prog W = .ok (.slice (some ⟨W.heap.size, 0, none⟩) ((1 + s % 64) * (2 + n % 9)).toNat ((1 + s % 64) * (2 + n % 9)).toNat) (W.alloc (.cells ((tab ((1 + s % 64) * (2 + n % 9)).toNat (fun _ => 0)).map (Value.int .i64)).toArray 3)) := by
    intro W
    have h := make_int 24 Try.underlying24 ((1 + s % 64) * (2 + n % 9)).toNat (by omega) W
    rw [Int.toNat_of_nonneg p0] at h
    rw [tab_zero]
    exact h
  go_enter Try.func5, Try.ntmps5
  go_wp2_with fail
  refine (first_c _).mono ?_
  rintro e w1 ⟨rfl, hb1⟩
  have Hb1 := Lib.hid hb1
  clear hb1
  go_wp2_with fail
  clear hmk
  have hw : wayB (1 + s % 64 + 2 * (o % ((1 + s % 64) / 2 + 1))) (1 + s % 64) = true := by
    unfold wayB
    apply decide_eq_true
    omega
  have hk2 : 2 ≤ 2 + n % 9 ∧ 2 + n % 9 ≤ 10 := by omega
  generalize 1 + s % 64 + 2 * (o % ((1 + s % 64) / 2 + 1)) = l at *
  generalize 1 + s % 64 = sep at *
  generalize 2 + n % 9 = kk at *
  clear q0 q1 s0 s1 o0 o1 n0 n1
  have ⟨g1, g2, g3, g4, g5⟩ := wayB_t hw
  obtain ⟨L, rfl⟩ := Int.eq_ofNat_of_zero_le (a := l) (by omega)
  obtain ⟨m, rfl⟩ := Int.eq_ofNat_of_zero_le (a := kk) (by omega)
  have hL : 0 < L := by omega
  have Hw := Lib.hid hw
  clear hw
  obtain ⟨N, HN⟩ : ∃ N, Hid ((sep * (m : Int)).toNat = N) := ⟨_, rfl⟩
  rw [HN.out]
  have hNb : N ≤ 640 := by have := HN.out; omega
  have HN' : Hid ((N : Int) = sep * (m : Int)) := Lib.hid (by have := HN.out; omega)
  have hstart : tab N (fun _ => 0) = sumsL N L sep m 0 0 := tab_congr fun a _ => by rw [cov_none]; rfl
  rw [hstart]
  clear hstart HN p0 p1
  go_loopw [43] (fun v wr => ∃ i : Nat, i ≤ m ∧ v = .int .i64 i ∧ RowI wr w1.heap.size (sumsL N L sep m i 0) ∧ Below w1.heap.size w1 wr) (fun v _ => m - (intOf v).toNat)
  case atStart => exact ⟨0, by omega, rfl, RowI.new _ _, (Below.refl _ _).alloc (Nat.le_refl _) _⟩
  case round =>
    obtain ⟨i, hi, rfl, hr, hb⟩ := hrel
    have Hb := Lib.hid hb
    have Hr := Lib.hid hr
    have hlt1 := hr.lt
    clear hb hr
    by_cases hlt : i < m
    · go_wp2_with fail
      refine (span_c _ _ _ _).mono ?_
      rintro e w2 ⟨rfl, rfl⟩
      have hsp : spanOk sep L i = true := decide_eq_true ⟨Hw.out, by omega, by omega⟩
      have hfr : spanA sep L i = (i : Int) * sep - ((L : Int) - sep) / 2 := if_pos hsp
      have ⟨f1, f2⟩ := mul_bd (n := (i : Int)) (s := sep) (by omega) (by omega) g1 g2
      have Hfr := Lib.hid hfr
      have hf1 : -1000 ≤ spanA sep L i ∧ spanA sep L i ≤ 100000 := by rw [hfr]; omega
      clear hsp hfr f1 f2
      generalize spanA sep L i = fr at *
      generalize spanB sep L i = to_ at *
      obtain ⟨f1, f2⟩ := hf1
      go_wp2_with fail
      refine (line_c _ _ _ _ _).mono ?_
      rintro e w3 ⟨v, rfl, hown, hb3⟩
      have hz0 : ((i : Int) == 0) = (i == 0) := by rw [Bool.eq_iff_iff]; simp
      rw [hz0] at hown
      obtain ⟨gl, cl, hA⟩ := lineAt hown Hw.out hL
      obtain rfl := hA.1
      have hne : gl ≠ w1.heap.size := by
        have := hown
        rcases hown.2 with ⟨h, _⟩ | ⟨g, _, _, h, hg, _⟩
        · cases h
        · injection h with h
          injection h with h
          injection h with h
          omega
      have hA0 := Lib.hid hA
      have hr0 : Hid (RowI w3 w1.heap.size (sumsL N L sep m i 0)) := Lib.hid (Hr.out.kept hb3)
      have hb0 : Hid (Below w1.heap.size w1 w3) := Lib.hid (Hb.out.trans (hb3.mono (by omega)))
      clear hA hown hb3 Hr Hb hz0
      go_wp2_with fail
      go_loopw [63] (fun v wq => ∃ j : Nat, j ≤ L ∧ v = .int .i64 j ∧ RowI wq w1.heap.size (sumsL N L sep m i j) ∧ LineAt wq wr.heap.size gl cl L sep (i == 0) ((i : Int) == (m : Int) - 1) (.slice (some ⟨gl, 0, none⟩) L cl) ∧ Below w1.heap.size w1 wq) (fun v _ => L - (intOf v).toNat)
      case atStart => exact ⟨0, by omega, rfl, hr0.out, hA0.out, hb0.out⟩
      case round =>
        clear hr0 hA0 hb0
        obtain ⟨j, hj, rfl, hr, hA, hb⟩ := hrel
        by_cases hlt2 : j < L
        · have hc := hA.2.2.2 j hlt2
          have hwb := wt_bd (l := (L : Int)) (i := (j : Int)) (i == 0) ((i : Int) == (m : Int) - 1) Hw.out (by omega) (by omega)
          by_cases hin : 0 ≤ fr + (j : Int) ∧ fr + (j : Int) < (N : Int)
          · obtain ⟨i1, i2⟩ := hin
            have hs := hr.cell (i := (fr + (j : Int)).toNat) (by rw [sumsL, tab_length]; omega)
            rw [sumsL, tab_at _ _ (by omega), Int.toNat_of_nonneg i1] at hs
            have hit := cov_hit (n := m) (j := j) Hfr.out (rfl : fr + (j : Int) = fr + (j : Int))
            have hsb := sumTo_bd m (fr + (j : Int)) Hw.out i
            rw [hit.1, Int.add_zero] at hs
            have hnew : Hid ((sumsL N L sep m i j).set (fr + (j : Int)).toNat (sumTo L sep m (fr + (j : Int)) i + wtF L sep j (i == 0) ((i : Int) == (m : Int) - 1)) = sumsL N L sep m i ((j : Int) + 1)) := Lib.hid (by
              rw [sumsL, tab_set]
              refine tab_congr fun x hx => ?_
              by_cases hxe : x = (fr + (j : Int)).toNat
              · rw [if_pos hxe]
                have e : (x : Int) = fr + (j : Int) := by omega
                rw [e, hit.2]
              · rw [if_neg hxe, cov_miss (j := j) Hfr.out (by omega)])
            have hfz := hr.frozen (fr + (j : Int)).toNat
            have hR := Lib.hid hr
            have hAA := Lib.hid hA
            have Hb := Lib.hid hb
            clear hit hr hA hb
            generalize wtF L sep j (i == 0) ((i : Int) == (m : Int) - 1) = x at *
            generalize sumTo L sep m (fr + (j : Int)) i = y at *
            obtain ⟨x0, x1⟩ := hwb
            obtain ⟨y0, y1⟩ := hsb
            go_wp2_with fail
            go_roundw
            case rel =>
              have hset := hR.out.set_ (fr + (j : Int)).toNat (y + x)
              rw [hnew.out] at hset
              exact ⟨j + 1, by omega, by go_num, hset, hAA.out.grown (only_setCell (World.grownBy.refl _ _) (.inl rfl) _) hne, Hb.out.setCell (Nat.le_refl _) _⟩
            case measure => simp [intOf]; omega
          · have hnew : Hid (sumsL N L sep m i j = sumsL N L sep m i ((j : Int) + 1)) := Lib.hid (by
              refine tab_congr fun x hx => ?_
              rw [cov_miss (j := j) Hfr.out (by omega)])
            have hR := Lib.hid hr
            have hAA := Lib.hid hA
            have Hb := Lib.hid hb
            clear hr hA hb
            generalize wtF L sep j (i == 0) ((i : Int) == (m : Int) - 1) = x at *
            go_wp2_with fail
            all_goals first
              | (exfalso; omega)
              | (go_roundw
                 case rel =>
                   have hset := hR.out
                   rw [hnew.out] at hset
                   exact ⟨j + 1, by omega, by go_num, hset, hAA.out, Hb.out⟩
                 case measure => simp [intOf]; omega)
        · obtain rfl : j = L := by omega
          have hR := Lib.hid hr
          have Hb := Lib.hid hb
          clear hr hb hA
          go_wp2_with fail
          go_roundw
          case rel =>
            have hset := hR.out
            have hnew : sumsL N j sep m i j = sumsL N j sep m (i + 1) 0 := tab_congr fun x hx => by rw [cov_none, Int.add_zero]; rfl
            rw [hnew] at hset
            exact ⟨i + 1, by omega, by go_num, hset, Hb.out⟩
          case measure => simp [intOf]; omega
    · obtain rfl : i = m := by omega
      have h8 : Hid (∀ a : Nat, a < N → (sumsL N L sep i i 0).getD a 0 = 8) := Lib.hid (by
        intro a ha
        rw [sumsL, tab_at _ _ ha, cov_none, Int.add_zero]
        have := HN'.out
        exact sum8_at Hw.out (by omega) (by omega) (by omega))
      have hlen : Hid ((sumsL N L sep i i 0).length = N) := Lib.hid (tab_length _ _)
      go_wp2_with fail
      go_loopw [90] (fun v wq => ∃ k : Nat, k ≤ N ∧ v = .int .i64 k ∧ wr = wq) (fun v _ => N - (intOf v).toNat)
      case atStart => exact ⟨0, by omega, rfl, rfl⟩
      case round =>
        obtain ⟨k, hk, rfl, rfl⟩ := hrel
        by_cases hlt2 : k < N
        · have hc := Hr.out.cell (i := k) (by rw [hlen.out]; exact hlt2)
          rw [h8.out k hlt2] at hc
          go_wp2_with fail
          go_roundw
          case rel => exact ⟨k + 1, by omega, by go_num, trivial⟩
          case measure => simp [intOf]; omega
        · obtain rfl : k = N := by omega
          go_wp2_with fail
          go_ret
          exact ⟨rfl, Hb1.out.trans (Hb.out.mono Hb1.out.size)⟩

theorem windowSums.windowSums_walk (s o n : Int) (v0 v1 v2 : Value) (W : World) (h0 : IsInt .u8 v0 s) (h1 : IsInt .u8 v1 o) (h2 : IsInt .u8 v2 n) :
    Calls Try.prog 5 #[v0, v1, v2] W fun e W' => e = .returned (.bool true) ∧ Below W.heap.size W W' := by
  have b0 := h0.bd8
  have b1 := h1.bd8
  have b2 := h2.bd8
  obtain ⟨rfl, _⟩ := h0
  obtain ⟨rfl, _⟩ := h1
  obtain ⟨rfl, _⟩ := h2
  exact sums_c _ _ _ _ b0.1 b0.2 b1.1 b1.2 b2.1 b2.2

end Go.Proofs.Ytdfmpcbpciepoaa
