/- Fields: which are right. -/
import Derived.Test.YtiedjeholmoccaaFd2
namespace Go.Proofs.Ytiedjeholmoccaa
open Go.RowKit Go.Sort
set_option linter.unusedVariables false
set_option linter.unusedSimpArgs false

theorem mul64 {a d : Int} (ha : countB a = true) (hd : countB d = true) : 1 ≤ a * d ∧ a * d ≤ 4096 := by
  obtain ⟨a1, a2⟩ := countB_t ha
  obtain ⟨d1, d2⟩ := countB_t hd
  have h1 : 1 * 1 ≤ a * d := Int.mul_le_mul a1 d1 (by omega) (by omega)
  have h2 : a * d ≤ 64 * 64 := Int.mul_le_mul a2 d2 (by omega) (by omega)
  omega
theorem okFl_t {a d : Int} {S : List Int} {K : List Bk} (h : okFl a d S K = true) : countB a = true ∧ countB d = true ∧ (S.length : Int) = a * d ∧ (K.length : Int) = 16 * (S.length : Int) ∧ okS S = true ∧ okK K = true := by
  simp only [okFl, Bool.and_eq_true, beq_iff_eq] at h
  exact ⟨h.1.1.1.1.1, h.1.1.1.1.2, h.1.1.1.2, h.1.1.2, h.1.2, h.2⟩
set_option maxRecDepth 100000 in
set_option maxHeartbeats 6400000 in
theorem fright_c (a d : Int) (S : List Int) (As : Option Addr) (cs : Nat) (K : List Bk) (Ak : Option Addr) (ck : Nat) (w : World) (hS : ReadsI w As S) (hK : ReadsE EK w Ak K) (hn : S.length ≤ 9223372036854775807) (hm : K.length ≤ 9223372036854775807) :
    Calls Try.prog 12 #[flV a d (.slice As S.length cs) (.slice Ak K.length ck)] w fun e w' => e = .returned (.bool (okFl a d S K)) ∧ Below w.heap.size w w' := by
  have HB := Lib.hid (below_alloc_ (Below.refl w.heap.size w) (.cells #[.int .i64 a, .int .i64 d, .slice As S.length cs, .slice Ak K.length ck] 25))
  have RS := Lib.hid (hS.alloc (.cells #[.int .i64 a, .int .i64 d, .slice As S.length cs, .slice Ak K.length ck] 25))
  have RK := Lib.hid (hK.alloc (.cells #[.int .i64 a, .int .i64 d, .slice As S.length cs, .slice Ak K.length ck] 25))
  clear hS hK
  cases ea : countB a with
  | false =>
    rw [show okFl a d S K = false by simp [okFl, ea]]
    have EA := Lib.hid ea
    clear ea
    go_enter Try.func12, Try.ntmps12
    go_wp2_with fail
    refine (fcount_c a _).mono ?_
    rintro e w1 ⟨rfl, rfl⟩
    rw [EA.out]
    go_wp2_with fail
    go_ret
    exact ⟨rfl, HB.out⟩
  | true =>
    cases ed : countB d with
    | false =>
      rw [show okFl a d S K = false by simp [okFl, ed]]
      have EA := Lib.hid ea
      have ED := Lib.hid ed
      clear ea ed
      go_enter Try.func12, Try.ntmps12
      go_wp2_with fail
      refine (fcount_c a _).mono ?_
      rintro e w1 ⟨rfl, rfl⟩
      rw [EA.out]
      go_wp2_with fail
      refine (fcount_c d _).mono ?_
      rintro e w1 ⟨rfl, rfl⟩
      rw [ED.out]
      go_wp2_with fail
      go_ret
      exact ⟨rfl, HB.out⟩
    | true =>
      have hp := mul64 ea ed
      have W1 : IntKind.i64.wrap (a * d) = a * d := IntWalk.i64_in _ (by omega)
      by_cases h1 : (S.length : Int) = a * d
      · skip
        have n1 : ((S.length : Int) != a * d) = false := by simp [h1]
        have H1 := Lib.hid h1
        have hs : S.length ≤ 4096 := by omega
        have W2 : IntKind.i64.wrap ((S.length : Int) * 4) = (S.length : Int) * 4 := IntWalk.i64_in _ (by omega)
        have W3 : IntKind.i64.wrap ((S.length : Int) * 4 * 4) = (S.length : Int) * 4 * 4 := IntWalk.i64_in _ (by omega)
        clear h1
        by_cases h2 : (K.length : Int) = (S.length : Int) * 4 * 4
        · skip
          have n2 : ((K.length : Int) != (S.length : Int) * 4 * 4) = false := by simp [h2]
          have H2 := Lib.hid h2
          clear h2
          have HV := Lib.hid (show okFl a d S K = (okS S && okK K) by unfold okFl; rw [ea, ed, show ((S.length : Int) == a * d) = true by simpa using H1.out, show ((K.length : Int) == 16 * (S.length : Int)) = true by have := H2.out; simp; omega]; simp)
          cases es : okS S with
          | true =>
            cases ek : okK K
            all_goals
              have ES := Lib.hid (fun k (hk : k < S.length) => okS_t es hk)
              have EKK := Lib.hid ek
              rw [HV.out, es, ek]
              simp only [Bool.true_and]
              clear es ek
              have EA := Lib.hid ea
              have ED := Lib.hid ed
              clear ea ed
              go_enter Try.func12, Try.ntmps12
              go_wp2_with fail
              refine (fcount_c a _).mono ?_
              rintro e w1 ⟨rfl, rfl⟩
              rw [EA.out]
              go_wp2_with fail
              refine (fcount_c d _).mono ?_
              rintro e w1 ⟨rfl, rfl⟩
              rw [ED.out]
              go_wp2_with fail
              clear n1 n2 W2 W3
              go_loop [40] (fun v => ∃ k : Nat, k ≤ S.length ∧ v = .int .i64 k) (fun v => S.length - (intOf v).toNat)
              case atStart => exact ⟨0, Nat.zero_le _, rfl⟩
              case round =>
                obtain ⟨k, hk, rfl⟩ := hrel
                by_cases hlt : k < S.length
                · obtain ⟨ad, rfl, l1, z0⟩ := RS.out.rd_ hlt
                  have i1 : (0 : Int) ≤ (k : Int) := by omega
                  have i2 : (k : Int) < (S.length : Int) := by omega
                  have es := ES.out k hlt
                  obtain ⟨s, hsd⟩ : ∃ s, s = rdn S k := ⟨_, rfl⟩
                  rw [← hsd] at z0 es
                  obtain ⟨s0, s1⟩ := es
                  clear l1 hsd
                  go_wp2_with fail
                  go_round
                  case rel => exact ⟨k + 1, by omega, by go_num⟩
                  case measure => simp [intOf]; omega
                · skip
                  obtain rfl : k = S.length := by omega
                  go_wp2_with fail
                  refine (fcontains_c K Ak ck _ RK.out hm).mono ?_
                  rintro e w2 ⟨rfl, hb⟩
                  have HB2 := Lib.hid (HB.out.trans (hb.mono HB.out.size))
                  clear hb
                  rw [EKK.out]
                  go_wp2_with fail
                  go_ret
                  exact ⟨rfl, HB2.out⟩
          | false =>
            obtain ⟨i0, hi0, hx, hj⟩ := okS_f es
            have HX := Lib.hid hx
            have HJ := Lib.hid hj
            rw [HV.out, es, Bool.false_and]
            clear es hx hj
            have EA := Lib.hid ea
            have ED := Lib.hid ed
            clear ea ed
            go_enter Try.func12, Try.ntmps12
            go_wp2_with fail
            refine (fcount_c a _).mono ?_
            rintro e w1 ⟨rfl, rfl⟩
            rw [EA.out]
            go_wp2_with fail
            refine (fcount_c d _).mono ?_
            rintro e w1 ⟨rfl, rfl⟩
            rw [ED.out]
            go_wp2_with fail
            clear n1 n2 W2 W3
            go_loop [40] (fun v => ∃ k : Nat, k ≤ i0 ∧ v = .int .i64 k) (fun v => S.length - (intOf v).toNat)
            case atStart => exact ⟨0, Nat.zero_le _, rfl⟩
            case round =>
              obtain ⟨k, hk, rfl⟩ := hrel
              obtain ⟨ad, rfl, l1, z0⟩ := RS.out.rd_ (i := k) (by omega)
              have i1 : (0 : Int) ≤ (k : Int) := by omega
              have i2 : (k : Int) < (S.length : Int) := by omega
              by_cases hlt : k < i0
              · have es := HJ.out k hlt
                obtain ⟨s, hsd⟩ : ∃ s, s = rdn S k := ⟨_, rfl⟩
                rw [← hsd] at z0 es
                obtain ⟨s0, s1⟩ := es
                clear l1 hsd
                go_wp2_with fail
                go_round
                case rel => exact ⟨k + 1, by omega, by go_num⟩
                case measure => simp [intOf]; omega
              · obtain rfl : k = i0 := by omega
                have es := HX.out
                obtain ⟨s, hsd⟩ : ∃ s, s = rdn S k := ⟨_, rfl⟩
                rw [← hsd] at z0 es
                clear l1 hsd
                have es2 : s < 0 ∨ 2 < s := by omega
                clear es
                rcases es2 with es2 | es2
                all_goals
                  go_wp2_with fail
                  go_ret
                  exact ⟨rfl, HB.out⟩
        · skip
          have n2 : ((K.length : Int) != (S.length : Int) * 4 * 4) = true := by simp [h2]
          rw [show okFl a d S K = false by simp [okFl]; intros; omega]
          clear h2
          have EA := Lib.hid ea
          have ED := Lib.hid ed
          clear ea ed
          go_enter Try.func12, Try.ntmps12
          go_wp2_with fail
          refine (fcount_c a _).mono ?_
          rintro e w1 ⟨rfl, rfl⟩
          rw [EA.out]
          go_wp2_with fail
          refine (fcount_c d _).mono ?_
          rintro e w1 ⟨rfl, rfl⟩
          rw [ED.out]
          go_wp2_with fail
          go_ret
          exact ⟨rfl, HB.out⟩
      · skip
        have n1 : ((S.length : Int) != a * d) = true := by simp [h1]
        rw [show okFl a d S K = false by simp [okFl]; intros; omega]
        clear h1
        have EA := Lib.hid ea
        have ED := Lib.hid ed
        clear ea ed
        go_enter Try.func12, Try.ntmps12
        go_wp2_with fail
        refine (fcount_c a _).mono ?_
        rintro e w1 ⟨rfl, rfl⟩
        rw [EA.out]
        go_wp2_with fail
        refine (fcount_c d _).mono ?_
        rintro e w1 ⟨rfl, rfl⟩
        rw [ED.out]
        go_wp2_with fail
        go_ret
        exact ⟨rfl, HB.out⟩
set_option maxRecDepth 100000 in
set_option maxHeartbeats 6400000 in
theorem r16right_c (a d : Int) (S : List Int) (As : Option Addr) (cs : Nat) (K : List Bk) (Ak : Option Addr) (ck : Nat) (w : World) (hS : ReadsI w As S) (hK : ReadsE EK w Ak K) (hn : S.length ≤ 9223372036854775807) (hm : K.length ≤ 9223372036854775807) :
    Calls Try.prog 13 #[flV a d (.slice As S.length cs) (.slice Ak K.length ck)] w fun e w' => e = .returned (.bool (okFl a d S K)) ∧ Below w.heap.size w w' := by
  have HB := Lib.hid (below_alloc_ (Below.refl w.heap.size w) (.cells #[.int .i64 a, .int .i64 d, .slice As S.length cs, .slice Ak K.length ck] 25))
  have RS := Lib.hid (hS.alloc (.cells #[.int .i64 a, .int .i64 d, .slice As S.length cs, .slice Ak K.length ck] 25))
  have RK := Lib.hid (hK.alloc (.cells #[.int .i64 a, .int .i64 d, .slice As S.length cs, .slice Ak K.length ck] 25))
  clear hS hK
  cases ea : countB a with
  | false =>
    rw [show okFl a d S K = false by simp [okFl, ea]]
    have ha := countB_f ea
    clear ea
    rcases ha with ha | ha
    all_goals
      go_enter Try.func13, Try.ntmps13
      go_wp2_with fail
      go_ret
      exact ⟨rfl, HB.out⟩
  | true =>
    cases ed : countB d with
    | false =>
      rw [show okFl a d S K = false by simp [okFl, ed]]
      have ha := countB_t ea
      obtain ⟨ha1, ha2⟩ := ha
      have hd := countB_f ed
      clear ea ed
      rcases hd with hd | hd
      all_goals
        go_enter Try.func13, Try.ntmps13
        go_wp2_with fail
        go_ret
        exact ⟨rfl, HB.out⟩
    | true =>
      have hp := mul64 ea ed
      obtain ⟨ha1, ha2⟩ := countB_t ea
      obtain ⟨hd1, hd2⟩ := countB_t ed
      have W1 : IntKind.i64.wrap (a * d) = a * d := IntWalk.i64_in _ (by omega)
      have W2 : IntKind.i64.wrap (16 * a) = 16 * a := IntWalk.i64_in _ (by omega)
      have hq : 16 * a * d = 16 * (a * d) := Int.mul_assoc _ _ _
      have W3 : IntKind.i64.wrap (16 * a * d) = 16 * a * d := IntWalk.i64_in _ (by omega)
      have HQ := Lib.hid hq
      clear hq
      by_cases h1 : (S.length : Int) = a * d
      · skip
        have n1 : ((S.length : Int) != a * d) = false := by simp [h1]
        have H1 := Lib.hid h1
        have hs : S.length ≤ 4096 := by omega
        clear h1
        by_cases h2 : (K.length : Int) = 16 * a * d
        · skip
          have n2 : ((K.length : Int) != 16 * a * d) = false := by simp [h2]
          have H2 := Lib.hid h2
          clear h2
          have hkb : K.length ≤ 70000 := by have := H2.out; have := HQ.out; omega
          have HV := Lib.hid (show okFl a d S K = (okS S && okK K) by unfold okFl; rw [ea, ed, show ((S.length : Int) == a * d) = true by simpa using H1.out, show ((K.length : Int) == 16 * (S.length : Int)) = true by have := H2.out; have := HQ.out; have := H1.out; simp; omega]; simp)
          cases es : okS S with
          | true =>
            cases ek : okK K with
            | true =>
              have ES := Lib.hid (fun k (hk : k < S.length) => okS_t es hk)
              rw [HV.out, es, ek]
              simp only [Bool.true_and, Bool.and_true]
              clear es
              clear ea ed
              go_enter Try.func13, Try.ntmps13
              go_wp2_with fail
              clear n1 n2 W1 W2 W3
              go_loop [51] (fun v => ∃ k : Nat, k ≤ S.length ∧ v = .int .i64 k) (fun v => S.length - (intOf v).toNat)
              case atStart => exact ⟨0, Nat.zero_le _, rfl⟩
              case round =>
                obtain ⟨k, hk, rfl⟩ := hrel
                by_cases hlt : k < S.length
                · obtain ⟨ad, rfl, l1, z0⟩ := RS.out.rd_ hlt
                  have i1 : (0 : Int) ≤ (k : Int) := by omega
                  have i2 : (k : Int) < (S.length : Int) := by omega
                  have es := ES.out k hlt
                  obtain ⟨s, hsd⟩ : ∃ s, s = rdn S k := ⟨_, rfl⟩
                  rw [← hsd] at z0 es
                  have e3 : s = 0 ∨ s = 1 ∨ s = 2 := by omega
                  clear l1 hsd es
                  rcases e3 with rfl | rfl | rfl
                  all_goals
                    go_wp2_with fail
                    go_round
                    case rel => exact ⟨k + 1, by omega, by go_num⟩
                    case measure => simp [intOf]; omega
                · skip
                  obtain rfl : k = S.length := by omega
                  have RKH := RK
                  go_wp2_with fail
                  clear RKH
                  have EK_ := Lib.hid (fun k (hk : k < K.length) => okK_t ek hk)
                  clear ek
                  go_loopw [69] (fun v wr => ∃ k : Nat, k ≤ K.length ∧ v = .int .i64 k ∧ Below (w.alloc (.cells #[.int .i64 a, .int .i64 d, .slice As S.length cs, .slice Ak K.length ck] 25)).heap.size (w.alloc (.cells #[.int .i64 a, .int .i64 d, .slice As S.length cs, .slice Ak K.length ck] 25)) wr) (fun v _ => K.length - (intOf v).toNat)
                  case atStart => exact ⟨0, Nat.zero_le _, rfl, Below.refl _ _⟩
                  case round =>
                    obtain ⟨kk, hkk, rfl, hb⟩ := hrel
                    have HB1 := Lib.hid hb
                    obtain ⟨wo, ewo⟩ : ∃ wo, wo = wr := ⟨_, rfl⟩
                    subst ewo
                    clear hb
                    by_cases hlt2 : kk < K.length
                    · skip
                      have hE := Lib.hid (show okBk K[kk] = true from EK_.out kk hlt2)
                      obtain ⟨ad, rfl, l1, z0, z1, z2, z3, z4, z5, z6, z7, z8⟩ := ReadsE.bk (RK.out.kept HB1.out) (i := kk) (by omega)
                      have i1 : (0 : Int) ≤ (kk : Int) := by omega
                      have i2 : (kk : Int) < (K.length : Int) := by omega
                      clear l1
                      go_wp2_with fail
                      clear z0 z1 z2 z3 z4 z5 z6 z7 z8
                      refine (rblock_c K[kk] _).mono ?_
                      rintro e w1 ⟨rfl, hb⟩
                      have HB2 := Lib.hid ((below_alloc_ HB1.out _).trans (hb.mono (below_alloc_ HB1.out _).size))
                      clear hb
                      rw [hE.out]
                      go_wp2_with fail
                      go_roundw
                      case rel => exact ⟨kk + 1, by omega, by go_num, HB2.out⟩
                      case measure => simp [intOf]; omega
                    · skip
                      obtain rfl : kk = K.length := by omega
                      go_wp2_with fail
                      go_ret
                      exact ⟨rfl, HB.out.trans (HB1.out.mono HB.out.size)⟩
            | false =>
              have ES := Lib.hid (fun k (hk : k < S.length) => okS_t es hk)
              rw [HV.out, es, ek]
              simp only [Bool.true_and, Bool.and_true]
              clear es
              clear ea ed
              go_enter Try.func13, Try.ntmps13
              go_wp2_with fail
              clear n1 n2 W1 W2 W3
              go_loop [51] (fun v => ∃ k : Nat, k ≤ S.length ∧ v = .int .i64 k) (fun v => S.length - (intOf v).toNat)
              case atStart => exact ⟨0, Nat.zero_le _, rfl⟩
              case round =>
                obtain ⟨k, hk, rfl⟩ := hrel
                by_cases hlt : k < S.length
                · obtain ⟨ad, rfl, l1, z0⟩ := RS.out.rd_ hlt
                  have i1 : (0 : Int) ≤ (k : Int) := by omega
                  have i2 : (k : Int) < (S.length : Int) := by omega
                  have es := ES.out k hlt
                  obtain ⟨s, hsd⟩ : ∃ s, s = rdn S k := ⟨_, rfl⟩
                  rw [← hsd] at z0 es
                  have e3 : s = 0 ∨ s = 1 ∨ s = 2 := by omega
                  clear l1 hsd es
                  rcases e3 with rfl | rfl | rfl
                  all_goals
                    go_wp2_with fail
                    go_round
                    case rel => exact ⟨k + 1, by omega, by go_num⟩
                    case measure => simp [intOf]; omega
                · skip
                  obtain rfl : k = S.length := by omega
                  have RKH := RK
                  go_wp2_with fail
                  clear RKH
                  obtain ⟨i0, hi0, hx, hj⟩ := okK_f ek
                  have HX := Lib.hid hx
                  have EK_ := Lib.hid hj
                  clear ek hx hj
                  go_loopw [69] (fun v wr => ∃ k : Nat, k ≤ i0 ∧ v = .int .i64 k ∧ Below (w.alloc (.cells #[.int .i64 a, .int .i64 d, .slice As S.length cs, .slice Ak K.length ck] 25)).heap.size (w.alloc (.cells #[.int .i64 a, .int .i64 d, .slice As S.length cs, .slice Ak K.length ck] 25)) wr) (fun v _ => K.length - (intOf v).toNat)
                  case atStart => exact ⟨0, Nat.zero_le _, rfl, Below.refl _ _⟩
                  case round =>
                    obtain ⟨kk, hkk, rfl, hb⟩ := hrel
                    have HB1 := Lib.hid hb
                    obtain ⟨wo, ewo⟩ : ∃ wo, wo = wr := ⟨_, rfl⟩
                    subst ewo
                    clear hb
                    by_cases hlt2 : kk < i0
                    · skip
                      have hE := Lib.hid (show okBk K[kk] = true from EK_.out kk (by omega) hlt2)
                      obtain ⟨ad, rfl, l1, z0, z1, z2, z3, z4, z5, z6, z7, z8⟩ := ReadsE.bk (RK.out.kept HB1.out) (i := kk) (by omega)
                      have i1 : (0 : Int) ≤ (kk : Int) := by omega
                      have i2 : (kk : Int) < (K.length : Int) := by omega
                      clear l1
                      go_wp2_with fail
                      clear z0 z1 z2 z3 z4 z5 z6 z7 z8
                      refine (rblock_c K[kk] _).mono ?_
                      rintro e w1 ⟨rfl, hb⟩
                      have HB2 := Lib.hid ((below_alloc_ HB1.out _).trans (hb.mono (below_alloc_ HB1.out _).size))
                      clear hb
                      rw [hE.out]
                      go_wp2_with fail
                      go_roundw
                      case rel => exact ⟨kk + 1, by omega, by go_num, HB2.out⟩
                      case measure => simp [intOf]; omega
                    · skip
                      obtain rfl : kk = i0 := by omega
                      obtain ⟨ad, rfl, l1, z0, z1, z2, z3, z4, z5, z6, z7, z8⟩ := ReadsE.bk (RK.out.kept HB1.out) (i := kk) (by omega)
                      have i1 : (0 : Int) ≤ (kk : Int) := by omega
                      have i2 : (kk : Int) < (K.length : Int) := by omega
                      clear l1
                      go_wp2_with fail
                      clear z0 z1 z2 z3 z4 z5 z6 z7 z8
                      refine (rblock_c K[kk] _).mono ?_
                      rintro e w1 ⟨rfl, hb⟩
                      have HB2 := Lib.hid ((below_alloc_ HB1.out _).trans (hb.mono (below_alloc_ HB1.out _).size))
                      clear hb
                      rw [HX.out]
                      go_wp2_with fail
                      go_ret
                      exact ⟨rfl, HB.out.trans (HB2.out.mono HB.out.size)⟩
          | false =>
            obtain ⟨i0, hi0, hx, hj⟩ := okS_f es
            have HX := Lib.hid hx
            have HJ := Lib.hid hj
            rw [HV.out, es, Bool.false_and]
            clear es hx hj
            clear ea ed
            go_enter Try.func13, Try.ntmps13
            go_wp2_with fail
            clear n1 n2 W1 W2 W3
            go_loop [51] (fun v => ∃ k : Nat, k ≤ i0 ∧ v = .int .i64 k) (fun v => S.length - (intOf v).toNat)
            case atStart => exact ⟨0, Nat.zero_le _, rfl⟩
            case round =>
              obtain ⟨k, hk, rfl⟩ := hrel
              obtain ⟨ad, rfl, l1, z0⟩ := RS.out.rd_ (i := k) (by omega)
              have i1 : (0 : Int) ≤ (k : Int) := by omega
              have i2 : (k : Int) < (S.length : Int) := by omega
              by_cases hlt : k < i0
              · have es := HJ.out k hlt
                obtain ⟨s, hsd⟩ : ∃ s, s = rdn S k := ⟨_, rfl⟩
                rw [← hsd] at z0 es
                have e3 : s = 0 ∨ s = 1 ∨ s = 2 := by omega
                clear l1 hsd es
                rcases e3 with rfl | rfl | rfl
                all_goals
                  go_wp2_with fail
                  go_round
                  case rel => exact ⟨k + 1, by omega, by go_num⟩
                  case measure => simp [intOf]; omega
              · obtain rfl : k = i0 := by omega
                have es := HX.out
                obtain ⟨s, hsd⟩ : ∃ s, s = rdn S k := ⟨_, rfl⟩
                rw [← hsd] at z0 es
                have m0 : (s != 0) = true := by simp; omega
                have m1 : (s != 1) = true := by simp; omega
                have m2 : (s != 2) = true := by simp; omega
                clear l1 hsd es
                go_wp2_with fail
                go_ret
                exact ⟨rfl, HB.out⟩
        · skip
          have n2 : ((K.length : Int) != 16 * a * d) = true := by simp [h2]
          rw [show okFl a d S K = false by simp [okFl]; intros; have := H1.out; have := HQ.out; omega]
          clear h2
          clear ea ed
          go_enter Try.func13, Try.ntmps13
          go_wp2_with fail
          go_ret
          exact ⟨rfl, HB.out⟩
      · skip
        have n1 : ((S.length : Int) != a * d) = true := by simp [h1]
        rw [show okFl a d S K = false by simp [okFl]; intros; omega]
        clear h1
        clear ea ed
        go_enter Try.func13, Try.ntmps13
        go_wp2_with fail
        go_ret
        exact ⟨rfl, HB.out⟩

end Go.Proofs.Ytiedjeholmoccaa
