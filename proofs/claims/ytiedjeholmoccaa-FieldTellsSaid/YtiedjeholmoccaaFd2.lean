/- Fields: which are right, of the program and of the document. -/
import Derived.Test.YtiedjeholmoccaaFd1
namespace Go.Proofs.Ytiedjeholmoccaa
open Go.RowKit Go.Sort
set_option linter.unusedVariables false
set_option linter.unusedSimpArgs false

set_option maxRecDepth 100000 in
set_option maxHeartbeats 6400000 in
theorem rblock_c (b : Bk) (w : World) : Calls Try.prog 25 #[bkV b] w fun e w' => e = .returned (.bool (okBk b)) ∧ Below w.heap.size w w' := by
  obtain ⟨m, g, x0, y0, x1, y1, d0, d1, d2⟩ := b
  unfold okBk
  dsimp only
  by_cases hm0 : 0 ≤ m
  · by_cases hm3 : m ≤ 3
    · have hm : modeB m = true := by simp [modeB]; omega
      rw [hm]
      clear hm
      cases e0 : smallB x0 with
      | false =>
        simp only [Bool.and_false, Bool.false_and, Bool.true_and, Bool.and_true]
        have E := Lib.hid e0
        clear e0
        go_enter Try.func25, Try.ntmps25
        go_wp2_with fail
        refine wp_loop_rounds 3 ?_
        rw [rounds_succ]
        go_wp2_with fail
        refine (rnear_c x0 _).mono ?_
        rintro e w1 ⟨rfl, rfl⟩
        rw [E.out]
        go_wp2_with fail
        rw [rounds_succ]
        go_wp2_with fail
        rw [rounds_succ]
        go_wp2_with fail
        refine wp_loop_rounds 4 ?_
        rw [rounds_succ]
        go_wp2_with fail
        rw [rounds_succ]
        go_wp2_with fail
        rw [rounds_succ]
        go_wp2_with fail
        rw [rounds_succ]
        go_wp2_with fail
        go_ret
        exact ⟨rfl, (Below.refl _ _).alloc (Nat.le_refl _) _⟩
      | true =>
        cases e1 : smallB y0 with
        | false =>
          simp only [Bool.and_false, Bool.false_and, Bool.true_and, Bool.and_true]
          have E := Lib.hid e1
          have E0 := Lib.hid e0
          clear e0 e1
          go_enter Try.func25, Try.ntmps25
          go_wp2_with fail
          refine wp_loop_rounds 3 ?_
          rw [rounds_succ]
          go_wp2_with fail
          refine (rnear_c x0 _).mono ?_
          rintro e w1 ⟨rfl, rfl⟩
          rw [E0.out]
          go_wp2_with fail
          refine (rnear_c y0 _).mono ?_
          rintro e w1 ⟨rfl, rfl⟩
          rw [E.out]
          go_wp2_with fail
          rw [rounds_succ]
          go_wp2_with fail
          rw [rounds_succ]
          go_wp2_with fail
          refine wp_loop_rounds 4 ?_
          rw [rounds_succ]
          go_wp2_with fail
          rw [rounds_succ]
          go_wp2_with fail
          rw [rounds_succ]
          go_wp2_with fail
          rw [rounds_succ]
          go_wp2_with fail
          go_ret
          exact ⟨rfl, (Below.refl _ _).alloc (Nat.le_refl _) _⟩
        | true =>
          cases e2 : smallB x1 with
          | false =>
            simp only [Bool.and_false, Bool.false_and, Bool.true_and, Bool.and_true]
            have E := Lib.hid e2
            have E0 := Lib.hid e0
            have E1 := Lib.hid e1
            clear e0 e1 e2
            go_enter Try.func25, Try.ntmps25
            go_wp2_with fail
            refine wp_loop_rounds 3 ?_
            rw [rounds_succ]
            go_wp2_with fail
            refine (rnear_c x0 _).mono ?_
            rintro e w1 ⟨rfl, rfl⟩
            rw [E0.out]
            go_wp2_with fail
            refine (rnear_c y0 _).mono ?_
            rintro e w1 ⟨rfl, rfl⟩
            rw [E1.out]
            go_wp2_with fail
            rw [rounds_succ]
            go_wp2_with fail
            refine (rnear_c x1 _).mono ?_
            rintro e w1 ⟨rfl, rfl⟩
            rw [E.out]
            go_wp2_with fail
            rw [rounds_succ]
            go_wp2_with fail
            refine wp_loop_rounds 4 ?_
            rw [rounds_succ]
            go_wp2_with fail
            rw [rounds_succ]
            go_wp2_with fail
            rw [rounds_succ]
            go_wp2_with fail
            rw [rounds_succ]
            go_wp2_with fail
            go_ret
            exact ⟨rfl, (Below.refl _ _).alloc (Nat.le_refl _) _⟩
          | true =>
            cases e3 : smallB y1 with
            | false =>
              simp only [Bool.and_false, Bool.false_and, Bool.true_and, Bool.and_true]
              have E := Lib.hid e3
              have E0 := Lib.hid e0
              have E1 := Lib.hid e1
              have E2 := Lib.hid e2
              clear e0 e1 e2 e3
              go_enter Try.func25, Try.ntmps25
              go_wp2_with fail
              refine wp_loop_rounds 3 ?_
              rw [rounds_succ]
              go_wp2_with fail
              refine (rnear_c x0 _).mono ?_
              rintro e w1 ⟨rfl, rfl⟩
              rw [E0.out]
              go_wp2_with fail
              refine (rnear_c y0 _).mono ?_
              rintro e w1 ⟨rfl, rfl⟩
              rw [E1.out]
              go_wp2_with fail
              rw [rounds_succ]
              go_wp2_with fail
              refine (rnear_c x1 _).mono ?_
              rintro e w1 ⟨rfl, rfl⟩
              rw [E2.out]
              go_wp2_with fail
              refine (rnear_c y1 _).mono ?_
              rintro e w1 ⟨rfl, rfl⟩
              rw [E.out]
              go_wp2_with fail
              rw [rounds_succ]
              go_wp2_with fail
              refine wp_loop_rounds 4 ?_
              rw [rounds_succ]
              go_wp2_with fail
              rw [rounds_succ]
              go_wp2_with fail
              rw [rounds_succ]
              go_wp2_with fail
              rw [rounds_succ]
              go_wp2_with fail
              go_ret
              exact ⟨rfl, (Below.refl _ _).alloc (Nat.le_refl _) _⟩
            | true =>
              cases e4 : smallB d0 with
              | false =>
                simp only [Bool.and_false, Bool.false_and, Bool.true_and, Bool.and_true]
                have E := Lib.hid e4
                have E0 := Lib.hid e0
                have E1 := Lib.hid e1
                have E2 := Lib.hid e2
                have E3 := Lib.hid e3
                clear e0 e1 e2 e3 e4
                go_enter Try.func25, Try.ntmps25
                go_wp2_with fail
                refine wp_loop_rounds 3 ?_
                rw [rounds_succ]
                go_wp2_with fail
                refine (rnear_c x0 _).mono ?_
                rintro e w1 ⟨rfl, rfl⟩
                rw [E0.out]
                go_wp2_with fail
                refine (rnear_c y0 _).mono ?_
                rintro e w1 ⟨rfl, rfl⟩
                rw [E1.out]
                go_wp2_with fail
                rw [rounds_succ]
                go_wp2_with fail
                refine (rnear_c x1 _).mono ?_
                rintro e w1 ⟨rfl, rfl⟩
                rw [E2.out]
                go_wp2_with fail
                refine (rnear_c y1 _).mono ?_
                rintro e w1 ⟨rfl, rfl⟩
                rw [E3.out]
                go_wp2_with fail
                rw [rounds_succ]
                go_wp2_with fail
                refine wp_loop_rounds 4 ?_
                rw [rounds_succ]
                go_wp2_with fail
                refine (rnear_c d0 _).mono ?_
                rintro e w1 ⟨rfl, rfl⟩
                rw [E.out]
                go_wp2_with fail
                rw [rounds_succ]
                go_wp2_with fail
                rw [rounds_succ]
                go_wp2_with fail
                rw [rounds_succ]
                go_wp2_with fail
                go_ret
                exact ⟨rfl, (Below.refl _ _).alloc (Nat.le_refl _) _⟩
              | true =>
                cases e5 : smallB d1 with
                | false =>
                  simp only [Bool.and_false, Bool.false_and, Bool.true_and, Bool.and_true]
                  have E := Lib.hid e5
                  have E0 := Lib.hid e0
                  have E1 := Lib.hid e1
                  have E2 := Lib.hid e2
                  have E3 := Lib.hid e3
                  have E4 := Lib.hid e4
                  clear e0 e1 e2 e3 e4 e5
                  go_enter Try.func25, Try.ntmps25
                  go_wp2_with fail
                  refine wp_loop_rounds 3 ?_
                  rw [rounds_succ]
                  go_wp2_with fail
                  refine (rnear_c x0 _).mono ?_
                  rintro e w1 ⟨rfl, rfl⟩
                  rw [E0.out]
                  go_wp2_with fail
                  refine (rnear_c y0 _).mono ?_
                  rintro e w1 ⟨rfl, rfl⟩
                  rw [E1.out]
                  go_wp2_with fail
                  rw [rounds_succ]
                  go_wp2_with fail
                  refine (rnear_c x1 _).mono ?_
                  rintro e w1 ⟨rfl, rfl⟩
                  rw [E2.out]
                  go_wp2_with fail
                  refine (rnear_c y1 _).mono ?_
                  rintro e w1 ⟨rfl, rfl⟩
                  rw [E3.out]
                  go_wp2_with fail
                  rw [rounds_succ]
                  go_wp2_with fail
                  refine wp_loop_rounds 4 ?_
                  rw [rounds_succ]
                  go_wp2_with fail
                  refine (rnear_c d0 _).mono ?_
                  rintro e w1 ⟨rfl, rfl⟩
                  rw [E4.out]
                  go_wp2_with fail
                  rw [rounds_succ]
                  go_wp2_with fail
                  refine (rnear_c d1 _).mono ?_
                  rintro e w1 ⟨rfl, rfl⟩
                  rw [E.out]
                  go_wp2_with fail
                  rw [rounds_succ]
                  go_wp2_with fail
                  rw [rounds_succ]
                  go_wp2_with fail
                  go_ret
                  exact ⟨rfl, (Below.refl _ _).alloc (Nat.le_refl _) _⟩
                | true =>
                  cases e6 : smallB d2 with
                  | false =>
                    simp only [Bool.and_false, Bool.false_and, Bool.true_and, Bool.and_true]
                    have E := Lib.hid e6
                    have E0 := Lib.hid e0
                    have E1 := Lib.hid e1
                    have E2 := Lib.hid e2
                    have E3 := Lib.hid e3
                    have E4 := Lib.hid e4
                    have E5 := Lib.hid e5
                    clear e0 e1 e2 e3 e4 e5 e6
                    go_enter Try.func25, Try.ntmps25
                    go_wp2_with fail
                    refine wp_loop_rounds 3 ?_
                    rw [rounds_succ]
                    go_wp2_with fail
                    refine (rnear_c x0 _).mono ?_
                    rintro e w1 ⟨rfl, rfl⟩
                    rw [E0.out]
                    go_wp2_with fail
                    refine (rnear_c y0 _).mono ?_
                    rintro e w1 ⟨rfl, rfl⟩
                    rw [E1.out]
                    go_wp2_with fail
                    rw [rounds_succ]
                    go_wp2_with fail
                    refine (rnear_c x1 _).mono ?_
                    rintro e w1 ⟨rfl, rfl⟩
                    rw [E2.out]
                    go_wp2_with fail
                    refine (rnear_c y1 _).mono ?_
                    rintro e w1 ⟨rfl, rfl⟩
                    rw [E3.out]
                    go_wp2_with fail
                    rw [rounds_succ]
                    go_wp2_with fail
                    refine wp_loop_rounds 4 ?_
                    rw [rounds_succ]
                    go_wp2_with fail
                    refine (rnear_c d0 _).mono ?_
                    rintro e w1 ⟨rfl, rfl⟩
                    rw [E4.out]
                    go_wp2_with fail
                    rw [rounds_succ]
                    go_wp2_with fail
                    refine (rnear_c d1 _).mono ?_
                    rintro e w1 ⟨rfl, rfl⟩
                    rw [E5.out]
                    go_wp2_with fail
                    rw [rounds_succ]
                    go_wp2_with fail
                    refine (rnear_c d2 _).mono ?_
                    rintro e w1 ⟨rfl, rfl⟩
                    rw [E.out]
                    go_wp2_with fail
                    rw [rounds_succ]
                    go_wp2_with fail
                    go_ret
                    exact ⟨rfl, (Below.refl _ _).alloc (Nat.le_refl _) _⟩
                  | true =>
                    simp only [Bool.and_true, Bool.and_self]
                    have E0 := Lib.hid e0
                    have E1 := Lib.hid e1
                    have E2 := Lib.hid e2
                    have E3 := Lib.hid e3
                    have E4 := Lib.hid e4
                    have E5 := Lib.hid e5
                    have E6 := Lib.hid e6
                    clear e0 e1 e2 e3 e4 e5 e6
                    go_enter Try.func25, Try.ntmps25
                    go_wp2_with fail
                    refine wp_loop_rounds 3 ?_
                    rw [rounds_succ]
                    go_wp2_with fail
                    refine (rnear_c x0 _).mono ?_
                    rintro e w1 ⟨rfl, rfl⟩
                    rw [E0.out]
                    go_wp2_with fail
                    refine (rnear_c y0 _).mono ?_
                    rintro e w1 ⟨rfl, rfl⟩
                    rw [E1.out]
                    go_wp2_with fail
                    rw [rounds_succ]
                    go_wp2_with fail
                    refine (rnear_c x1 _).mono ?_
                    rintro e w1 ⟨rfl, rfl⟩
                    rw [E2.out]
                    go_wp2_with fail
                    refine (rnear_c y1 _).mono ?_
                    rintro e w1 ⟨rfl, rfl⟩
                    rw [E3.out]
                    go_wp2_with fail
                    rw [rounds_succ]
                    go_wp2_with fail
                    refine wp_loop_rounds 4 ?_
                    rw [rounds_succ]
                    go_wp2_with fail
                    refine (rnear_c d0 _).mono ?_
                    rintro e w1 ⟨rfl, rfl⟩
                    rw [E4.out]
                    go_wp2_with fail
                    rw [rounds_succ]
                    go_wp2_with fail
                    refine (rnear_c d1 _).mono ?_
                    rintro e w1 ⟨rfl, rfl⟩
                    rw [E5.out]
                    go_wp2_with fail
                    rw [rounds_succ]
                    go_wp2_with fail
                    refine (rnear_c d2 _).mono ?_
                    rintro e w1 ⟨rfl, rfl⟩
                    rw [E6.out]
                    go_wp2_with fail
                    rw [rounds_succ]
                    go_wp2_with fail
                    go_ret
                    exact ⟨rfl, (Below.refl _ _).alloc (Nat.le_refl _) _⟩
    · have hm : modeB m = false := by simp [modeB]; omega
      rw [hm]
      simp only [Bool.false_and]
      clear hm
      go_enter Try.func25, Try.ntmps25
      go_wp2_with fail
      refine wp_loop_rounds 3 ?_
      rw [rounds_succ]
      go_wp2_with fail
      rw [rounds_succ]
      go_wp2_with fail
      rw [rounds_succ]
      go_wp2_with fail
      refine wp_loop_rounds 4 ?_
      rw [rounds_succ]
      go_wp2_with fail
      rw [rounds_succ]
      go_wp2_with fail
      rw [rounds_succ]
      go_wp2_with fail
      rw [rounds_succ]
      go_wp2_with fail
      go_ret
      exact ⟨rfl, (Below.refl _ _).alloc (Nat.le_refl _) _⟩
  · have hm : modeB m = false := by simp [modeB]; omega
    rw [hm]
    simp only [Bool.false_and]
    clear hm
    go_enter Try.func25, Try.ntmps25
    go_wp2_with fail
    refine wp_loop_rounds 3 ?_
    rw [rounds_succ]
    go_wp2_with fail
    rw [rounds_succ]
    go_wp2_with fail
    rw [rounds_succ]
    go_wp2_with fail
    refine wp_loop_rounds 4 ?_
    rw [rounds_succ]
    go_wp2_with fail
    rw [rounds_succ]
    go_wp2_with fail
    rw [rounds_succ]
    go_wp2_with fail
    rw [rounds_succ]
    go_wp2_with fail
    go_ret
    exact ⟨rfl, (Below.refl _ _).alloc (Nat.le_refl _) _⟩

theorem rdn_lt {xs : List Int} {k : Nat} (hk : k < xs.length) : rdn xs k = xs[k] := by simp [rdn, List.getD_eq_getElem?_getD, hk]
theorem okS_t {S : List Int} (h : okS S = true) {k : Nat} (hk : k < S.length) : 0 ≤ rdn S k ∧ rdn S k ≤ 2 := by
  have := (List.all_eq_true.1 h) S[k] (List.getElem_mem hk)
  rw [rdn_lt hk]
  simpa using this
theorem okS_f {S : List Int} (h : okS S = false) : ∃ i, i < S.length ∧ ¬ (0 ≤ rdn S i ∧ rdn S i ≤ 2) ∧ ∀ j, j < i → 0 ≤ rdn S j ∧ rdn S j ≤ 2 := by
  induction S with
  | nil => simp [okS] at h
  | cons s S ih =>
    by_cases hs : 0 ≤ s ∧ s ≤ 2
    · have h2 : okS S = false := by
        unfold okS at h ⊢
        rw [List.all_cons] at h
        simpa [hs] using h
      obtain ⟨i, hi, h3, h4⟩ := ih h2
      refine ⟨i + 1, by simpa using hi, h3, fun j hj => ?_⟩
      cases j with
      | zero => exact hs
      | succ j => exact h4 j (by omega)
    · exact ⟨0, by simp, hs, fun j hj => absurd hj (by omega)⟩
theorem okK_t {K : List Bk} (h : okK K = true) {k : Nat} (hk : k < K.length) : okBk K[k] = true := (List.all_eq_true.1 h) K[k] (List.getElem_mem hk)
theorem okK_f {K : List Bk} (h : okK K = false) : ∃ i, ∃ hi : i < K.length, okBk K[i] = false ∧ ∀ j (hj : j < K.length), j < i → okBk K[j] = true := by
  induction K with
  | nil => simp [okK] at h
  | cons s K ih =>
    cases hs : okBk s with
    | true =>
      have h2 : okK K = false := by
        unfold okK at h ⊢
        rw [List.all_cons, hs] at h
        simpa using h
      obtain ⟨i, hi, h3, h4⟩ := ih h2
      refine ⟨i + 1, by simpa using hi, h3, fun j hj hji => ?_⟩
      cases j with
      | zero => exact hs
      | succ j => exact h4 j (by simpa using hj) (by omega)
    | false => exact ⟨0, by simp, hs, fun j _ hj => absurd hj (by omega)⟩
theorem ReadsE.bk {w : World} {A : Option Addr} {K : List Bk} (h : ReadsE EK w A K) {i : Nat} (hi : i < K.length) : ∃ ad, A = some ad ∧ ad.block < w.heap.size ∧ w.cell? (ad.add (i * 9)) = some (.int .i64 K[i].m) ∧ w.cell? ⟨(ad.add (i * 9)).block, (ad.add (i * 9)).off + 1, none⟩ = some (.bool K[i].g) ∧
    w.cell? ⟨(ad.add (i * 9)).block, (ad.add (i * 9)).off + 2, none⟩ = some (.int .i64 K[i].x0) ∧ w.cell? ⟨(ad.add (i * 9)).block, (ad.add (i * 9)).off + 3, none⟩ = some (.int .i64 K[i].y0) ∧
    w.cell? ⟨(ad.add (i * 9)).block, (ad.add (i * 9)).off + 4, none⟩ = some (.int .i64 K[i].x1) ∧ w.cell? ⟨(ad.add (i * 9)).block, (ad.add (i * 9)).off + 5, none⟩ = some (.int .i64 K[i].y1) ∧
    w.cell? ⟨(ad.add (i * 9)).block, (ad.add (i * 9)).off + 6, none⟩ = some (.int .i64 K[i].d0) ∧ w.cell? ⟨(ad.add (i * 9)).block, (ad.add (i * 9)).off + 7, none⟩ = some (.int .i64 K[i].d1) ∧ w.cell? ⟨(ad.add (i * 9)).block, (ad.add (i * 9)).off + 8, none⟩ = some (.int .i64 K[i].d2) := by
  obtain ⟨ad, e, hb, h0, hc⟩ := h.at_ hi
  exact ⟨ad, e, hb, h0 _ rfl, hc 0 _ rfl, hc 1 _ rfl, hc 2 _ rfl, hc 3 _ rfl, hc 4 _ rfl, hc 5 _ rfl, hc 6 _ rfl, hc 7 _ rfl⟩
theorem fright1_c (b : Bk) (w : World) : Calls Try.prog 33 #[bkV b] w fun e w' => e = .returned (.bool (!okBk b)) ∧ Below w.heap.size w w' := by
  have HB := Lib.hid (below_alloc_ (Below.refl w.heap.size w) (.cells #[.int .i64 b.m, .bool b.g, .int .i64 b.x0, .int .i64 b.y0, .int .i64 b.x1, .int .i64 b.y1, .int .i64 b.d0, .int .i64 b.d1, .int .i64 b.d2] 40))
  cases hk : okBk b
  all_goals
    have HK := Lib.hid hk
    clear hk
    go_enter Try.func33, Try.ntmps33
    go_wp2_with fail
    refine (fblock_c b _).mono ?_
    rintro e w1 ⟨rfl, hb⟩
    have HB2 := Lib.hid (HB.out.trans (hb.mono HB.out.size))
    clear hb
    rw [HK.out]
    go_wp2_with fail
    go_ret
    exact ⟨rfl, HB2.out⟩
set_option maxRecDepth 100000 in
set_option maxHeartbeats 6400000 in
theorem findex_y (K : List Bk) (A : Option Addr) (c : Nat) (w : World) (hR : ReadsE EK w A K) (hn : K.length ≤ 9223372036854775807) (hk : okK K = true) :
    Calls Try.prog 44 #[.slice A K.length c, .func (.func 33) #[] #[]] w fun e w' => ∃ i : Int, e = .returned (.int .i64 i) ∧ i = -1 ∧ Below w.heap.size w w' := by
  have HB := Lib.hid (Below.refl w.heap.size w)
  have RK := Lib.hid hR
  have HK := Lib.hid (fun k (hk' : k < K.length) => okK_t hk hk')
  clear hk hR
  go_enter Try.func44, Try.ntmps44
  go_wp2_with fail
  go_loopw [8] (fun v wr => ∃ k : Nat, k ≤ K.length ∧ v = .int .i64 k ∧ Below w.heap.size w wr) (fun v _ => K.length - (intOf v).toNat)
  case atStart => exact ⟨0, Nat.zero_le _, rfl, HB.out⟩
  case round =>
    obtain ⟨k, hk, rfl, hb⟩ := hrel
    have HB1 := Lib.hid hb
    clear hb
    by_cases hlt : k < K.length
    · have hE := Lib.hid (show okBk K[k] = true from HK.out k hlt)
      obtain ⟨ad, rfl, l1, z0, z1, z2, z3, z4, z5, z6, z7, z8⟩ := ReadsE.bk (RK.out.kept HB1.out) (i := k) (by omega)
      have i1 : (0 : Int) ≤ (k : Int) := by omega
      have i2 : (k : Int) < (K.length : Int) := by omega
      clear l1
      go_wp2_with fail
      refine (fright1_c K[k] _).mono ?_
      rintro e w1 ⟨rfl, hb⟩
      have HB2 := Lib.hid (HB1.out.trans (hb.mono HB1.out.size))
      rw [hE.out]
      clear hb z0 z1 z2 z3 z4 z5 z6 z7 z8
      go_wp2_with fail
      go_roundw
      case rel => exact ⟨k + 1, by omega, by go_num, HB2.out⟩
      case measure => simp [intOf]; omega
    · obtain rfl : k = K.length := by omega
      go_wp2_with fail
      go_ret
      exact ⟨_, rfl, rfl, HB1.out⟩
set_option maxRecDepth 100000 in
set_option maxHeartbeats 6400000 in
theorem findex_n (K : List Bk) (A : Option Addr) (c : Nat) (w : World) (hR : ReadsE EK w A K) (hn : K.length ≤ 9223372036854775807) (hk : okK K = false) :
    Calls Try.prog 44 #[.slice A K.length c, .func (.func 33) #[] #[]] w fun e w' => ∃ i : Int, e = .returned (.int .i64 i) ∧ 0 ≤ i ∧ Below w.heap.size w w' := by
  have HB := Lib.hid (Below.refl w.heap.size w)
  have RK := Lib.hid hR
  obtain ⟨i0, hi0, hx, hj⟩ := okK_f hk
  have HX := Lib.hid hx
  have HK := Lib.hid hj
  clear hk hR hx hj
  go_enter Try.func44, Try.ntmps44
  go_wp2_with fail
  go_loopw [8] (fun v wr => ∃ k : Nat, k ≤ i0 ∧ v = .int .i64 k ∧ Below w.heap.size w wr) (fun v _ => K.length - (intOf v).toNat)
  case atStart => exact ⟨0, Nat.zero_le _, rfl, HB.out⟩
  case round =>
    obtain ⟨k, hk, rfl, hb⟩ := hrel
    have HB1 := Lib.hid hb
    clear hb
    by_cases hlt : k < i0
    · have hE := Lib.hid (show okBk K[k] = true from HK.out k (by omega) hlt)
      obtain ⟨ad, rfl, l1, z0, z1, z2, z3, z4, z5, z6, z7, z8⟩ := ReadsE.bk (RK.out.kept HB1.out) (i := k) (by omega)
      have i1 : (0 : Int) ≤ (k : Int) := by omega
      have i2 : (k : Int) < (K.length : Int) := by omega
      clear l1
      go_wp2_with fail
      refine (fright1_c K[k] _).mono ?_
      rintro e w1 ⟨rfl, hb⟩
      have HB2 := Lib.hid (HB1.out.trans (hb.mono HB1.out.size))
      rw [hE.out]
      clear hb z0 z1 z2 z3 z4 z5 z6 z7 z8
      go_wp2_with fail
      go_roundw
      case rel => exact ⟨k + 1, by omega, by go_num, HB2.out⟩
      case measure => simp [intOf]; omega
    · obtain rfl : k = i0 := by omega
      obtain ⟨ad, rfl, l1, z0, z1, z2, z3, z4, z5, z6, z7, z8⟩ := ReadsE.bk (RK.out.kept HB1.out) (i := k) (by omega)
      have i1 : (0 : Int) ≤ (k : Int) := by omega
      have i2 : (k : Int) < (K.length : Int) := by omega
      clear l1
      go_wp2_with fail
      refine (fright1_c K[k] _).mono ?_
      rintro e w1 ⟨rfl, hb⟩
      have HB2 := Lib.hid (HB1.out.trans (hb.mono HB1.out.size))
      rw [HX.out]
      clear hb z0 z1 z2 z3 z4 z5 z6 z7 z8
      go_wp2_with fail
      go_ret
      exact ⟨_, rfl, by omega, HB2.out⟩
theorem fcontains_c (K : List Bk) (A : Option Addr) (c : Nat) (w : World) (hR : ReadsE EK w A K) (hn : K.length ≤ 9223372036854775807) :
    Calls Try.prog 32 #[.slice A K.length c, .func (.func 33) #[] #[]] w fun e w' => e = .returned (.bool (!okK K)) ∧ Below w.heap.size w w' := by
  cases hk : okK K with
  | true =>
    have Hk := Lib.hid hk
    clear hk
    go_enter Try.func32, Try.ntmps32
    go_wp2_with fail
    refine (findex_y K A c w hR hn Hk.out).mono ?_
    rintro e w1 ⟨i, rfl, rfl, hb⟩
    have HB := Lib.hid hb
    clear hb
    go_wp2_with fail
    go_ret
    exact ⟨rfl, HB.out⟩
  | false =>
    have Hk := Lib.hid hk
    clear hk
    go_enter Try.func32, Try.ntmps32
    go_wp2_with fail
    refine (findex_n K A c w hR hn Hk.out).mono ?_
    rintro e w1 ⟨i, rfl, hi, hb⟩
    have HB := Lib.hid hb
    clear hb
    go_wp2_with fail
    go_ret
    exact ⟨rfl, HB.out⟩

end Go.Proofs.Ytiedjeholmoccaa
