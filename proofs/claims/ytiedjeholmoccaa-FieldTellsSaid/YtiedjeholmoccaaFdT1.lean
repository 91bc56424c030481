/- Fields: the units, by the reference. -/
import Derived.Test.YtiedjeholmoccaaFdLw
namespace Go.Proofs.Ytiedjeholmoccaa
open Go.RowKit Go.Sort
set_option linter.unusedVariables false
set_option linter.unusedSimpArgs false
/-- The unit that comes next. -/
theorem un_next {a d : Nat} {S : List Int} {j i q r n z : Nat} (hl : S.length = a * d) (hj : j < d) (hi : i < a) (hs : sqN (rdn S (j * a + i)) = n) (hz : 4 / n = z) (hq : q < n) (hr : r < n) :
    (unsL a S).take (cntU S (j * a + i) + n * q + r + 1) = (unsL a S).take (cntU S (j * a + i) + n * q + r) ++ [⟨((4 * i + z * r : Nat) : Int), ((4 * j + z * q : Nat) : Int), (z : Int)⟩] := by
  have hlt : j * a + i < S.length := by
    have h1 : (j + 1) * a ≤ d * a := Nat.mul_le_mul_right _ (by omega)
    rw [Nat.add_mul, Nat.one_mul] at h1
    rw [hl, Nat.mul_comm a d]
    omega
  have hk : n * q + r < sqN (rdn S (j * a + i)) * sqN (rdn S (j * a + i)) := by
    rw [hs]
    have h1 : n * (q + 1) ≤ n * n := Nat.mul_le_mul_left _ (by omega)
    rw [Nat.mul_add] at h1
    omega
  have h := unsL_get (unsP_get (a := a) hlt hk)
  have e := take_next h
  have m1 : (j * a + i) % a = i := by rw [Nat.add_comm, Nat.add_mul_mod_self_right, Nat.mod_eq_of_lt hi]
  have m2 : (j * a + i) / a = j := by rw [Nat.add_comm, Nat.add_mul_div_right _ _ (by omega), Nat.div_eq_of_lt hi, Nat.zero_add]
  have m3 : (n * q + r) % n = r := by rw [Nat.mul_add_mod, Nat.mod_eq_of_lt hr]
  have m4 : (n * q + r) / n = q := by rw [Nat.mul_add_div (by omega), Nat.div_eq_of_lt hr, Nat.add_zero]
  have hu : unAt a (rdn S (j * a + i)) (j * a + i) (n * q + r) = ⟨((4 * i + z * r : Nat) : Int), ((4 * j + z * q : Nat) : Int), (z : Int)⟩ := by
    unfold unAt
    rw [hs, m1, m2, m3, m4, hz]
    congr 2
    · rw [Nat.mul_comm i 4, Nat.mul_comm r z]
    · rw [Nat.mul_comm j 4, Nat.mul_comm q z]
  simp only [← Nat.add_assoc] at e
  rw [e]
  simp only [hu]
theorem uns_len {a d : Nat} {S : List Int} (a2 : a ≤ 64) (d2 : d ≤ 64) (hl : S.length = a * d) (hS : ∀ k, k < S.length → 0 ≤ rdn S k ∧ rdn S k ≤ 2) : (unsL a S).length ≤ 65536 := by
  rw [unsL_length]
  have h1 := cntU_le hS (Nat.le_refl _)
  have h2 := Nat.mul_le_mul a2 d2
  omega
theorem cnt_sq {S : List Int} {m n : Nat} (hs : sqN (rdn S m) = n) : cntU S m + n * n = cntU S (m + 1) := by rw [cntU, hs]
set_option maxRecDepth 100000 in
set_option maxHeartbeats 6400000 in
theorem r16units_n (a d : Int) (S : List Int) (As : Option Addr) (cs : Nat) (K : List Bk) (Ak : Option Addr) (ck : Nat) (w : World) (hS : ReadsI w As S) (hK : ReadsE EK w Ak K) (hn : S.length ≤ 9223372036854775807) (hm : K.length ≤ 9223372036854775807) (ho : okFl a d S K = false) :
    Calls Try.prog 11 #[flV a d (.slice As S.length cs) (.slice Ak K.length ck)] w fun e w' => ∃ v, e = .returned v ∧ OwnE EU w' w.heap.size v (([] : List Un)) ∧ Below w.heap.size w w' := by
  have RS := Lib.hid hS
  have RK := Lib.hid hK
  have HO := Lib.hid ho
  have HB := Lib.hid (Below.refl w.heap.size w)
  clear hS hK ho
  have HB1 := Lib.hid (Below.refl w.heap.size w)
  go_enter Try.func11, Try.ntmps11
  go_wp2_with fail
  have HB1 := Lib.hid (below_alloc_ (HB1.out) (.cells #[.int .i64 a, .int .i64 d, .slice As S.length cs, .slice Ak K.length ck] 25))
  have hzw : (w.alloc (.cells #[.int .i64 a, .int .i64 d, .slice As S.length cs, .slice Ak K.length ck] 25)).heap.size = w.heap.size + 1 := by simp only [World.size_alloc]
  have B1 := Blk.new (w) 25 #[.int .i64 a, .int .i64 d, .slice As S.length cs, .slice Ak K.length ck]
  skip
  have B1 := Lib.hid B1
  generalize w.alloc (.cells #[.int .i64 a, .int .i64 d, .slice As S.length cs, .slice Ak K.length ck] 25) = w1 at *
  clear hzw
  obtain ⟨zB10, zB11, zB12, zB13⟩ := (B1.out).cells4
  go_wp2_with fail
  clear zB10 zB11 zB12 zB13
  refine (r16right_c a d S As cs K Ak ck _ (RS.out.kept HB1.out) (RK.out.kept HB1.out) hn hm).mono ?_
  rintro e w2 ⟨rfl, hb'⟩
  have HB1 := Lib.hid ((HB1.out).trans (hb'.mono (HB1.out).size))
  have B1 := Lib.hid ((B1.out).below hb' (B1.out).lt)
  clear hb'
  rw [HO.out]
  obtain ⟨zB10, zB11, zB12, zB13⟩ := (B1.out).cells4
  go_wp2_with fail
  clear zB10 zB11 zB12 zB13
  go_ret
  exact ⟨_, rfl, OwnE.nil _ _, HB.out.trans (HB1.out.mono HB.out.size)⟩
set_option maxRecDepth 100000 in
set_option maxHeartbeats 6400000 in
theorem r16units_y (a d : Nat) (S : List Int) (As : Option Addr) (cs : Nat) (K : List Bk) (Ak : Option Addr) (ck : Nat) (w : World) (hS : ReadsI w As S) (hK : ReadsE EK w Ak K) (hn : S.length ≤ 9223372036854775807) (hm : K.length ≤ 9223372036854775807) (ho : okFl a d S K = true) :
    Calls Try.prog 11 #[flV a d (.slice As S.length cs) (.slice Ak K.length ck)] w fun e w' => ∃ v, e = .returned v ∧ OwnE EU w' w.heap.size v (unsL a S) ∧ Below w.heap.size w w' := by
  obtain ⟨A_, D_, ea, ed, a1, a2, d1, d2, hl, hkl, hS1, hK1⟩ := okFl_nat ho
  have ea := Int.ofNat.inj ea
  have ed := Int.ofNat.inj ed
  subst ea
  subst ed
  have RS := Lib.hid hS
  have RK := Lib.hid hK
  have HO := Lib.hid ho
  have HL := Lib.hid hl
  have HS1 := Lib.hid hS1
  have HU := Lib.hid (uns_len a2 d2 hl hS1)
  have HB := Lib.hid (Below.refl w.heap.size w)
  have hnb : S.length ≤ 4096 := by rw [hl]; exact Nat.le_trans (Nat.mul_le_mul a2 d2) (by decide)
  clear hS hK ho hl hS1 hkl hK1
  have HB1 := Lib.hid (Below.refl w.heap.size w)
  go_enter Try.func11, Try.ntmps11
  go_wp2_with fail
  have HB1 := Lib.hid (below_alloc_ (HB1.out) (.cells #[.int .i64 a, .int .i64 d, .slice As S.length cs, .slice Ak K.length ck] 25))
  have hzw : (w.alloc (.cells #[.int .i64 a, .int .i64 d, .slice As S.length cs, .slice Ak K.length ck] 25)).heap.size = w.heap.size + 1 := by simp only [World.size_alloc]
  have B1 := Blk.new (w) 25 #[.int .i64 a, .int .i64 d, .slice As S.length cs, .slice Ak K.length ck]
  skip
  have B1 := Lib.hid B1
  generalize w.alloc (.cells #[.int .i64 a, .int .i64 d, .slice As S.length cs, .slice Ak K.length ck] 25) = w1 at *
  clear hzw
  obtain ⟨zB10, zB11, zB12, zB13⟩ := (B1.out).cells4
  go_wp2_with fail
  clear zB10 zB11 zB12 zB13
  refine (r16right_c a d S As cs K Ak ck _ (RS.out.kept HB1.out) (RK.out.kept HB1.out) hn hm).mono ?_
  rintro e w2 ⟨rfl, hb'⟩
  have HB1 := Lib.hid ((HB1.out).trans (hb'.mono (HB1.out).size))
  have B1 := Lib.hid ((B1.out).below hb' (B1.out).lt)
  clear hb'
  rw [HO.out]
  have RK := Lib.hid (RK.out.kept HB1.out)
  have RS := Lib.hid (RS.out.kept HB1.out)
  have HB := Lib.hid (HB.out.trans (HB1.out.mono HB.out.size))
  have HB1 := Lib.hid (Below.refl w2.heap.size w2)
  obtain ⟨zB10, zB11, zB12, zB13⟩ := (B1.out.below HB1.out B1.out.lt).cells4
  go_wp2_with fail
  clear zB10 zB11 zB12 zB13
  have OU := Lib.hid (OwnE.nil (E := EU) w2 w2.heap.size)
  go_loopw [3, 4] (fun v jv wr => ∃ j : Nat, j ≤ d ∧ jv = .int .i64 j ∧ OwnE EU wr w2.heap.size v ((unsL a S).take (cntU S (j * a))) ∧ Below w2.heap.size w2 wr) (fun _ jv _ => d - (intOf jv).toNat)
  case atStart => exact ⟨0, Nat.zero_le _, rfl, by rw [Nat.zero_mul]; exact OU.out, HB1.out⟩
  case round =>
    clear HB1 OU
    obtain ⟨j, hj, rfl, ho, hb⟩ := hrel
    have OU := Lib.hid ho
    have HB1 := Lib.hid hb
    obtain ⟨w5, ew5⟩ : ∃ q, q = wr := ⟨_, rfl⟩
    subst ew5
    clear ho hb
    by_cases hjl : j < d
    · skip
      have c1 : (j : Int) < (d : Int) := by omega
      obtain ⟨zB10, zB11, zB12, zB13⟩ := (B1.out.below HB1.out B1.out.lt).cells4
      go_wp2_with fail
      clear zB10 zB11 zB12 zB13
      clear c1
      go_loopw [3, 5] (fun v iv wr => ∃ i : Nat, i ≤ a ∧ iv = .int .i64 i ∧ OwnE EU wr w2.heap.size v ((unsL a S).take (cntU S (j * a + i))) ∧ Below w2.heap.size w2 wr) (fun _ iv _ => a - (intOf iv).toNat)
      case atStart => exact ⟨0, Nat.zero_le _, rfl, OU.out, HB1.out⟩
      case round =>
        clear HB1 OU
        obtain ⟨i, hi, rfl, ho, hb⟩ := hrel
        have OU := Lib.hid ho
        have HB1 := Lib.hid hb
        obtain ⟨w6, ew6⟩ : ∃ q, q = wr := ⟨_, rfl⟩
        subst ew6
        clear ho hb
        by_cases hil : i < a
        · skip
          have c1 : (i : Int) < (a : Int) := by omega
          obtain ⟨m, hm1⟩ : ∃ m, m = j * a + i := ⟨_, rfl⟩
          have hms : m < S.length := by rw [hm1, HL.out, Nat.mul_comm a d]; have h1 : (j + 1) * a ≤ d * a := Nat.mul_le_mul_right _ (by omega); rw [Nat.add_mul, Nat.one_mul] at h1; omega
          have hja : j * a ≤ m := by omega
          have M0 := Int.natCast_mul j a
          have W1 : IntKind.i64.wrap ((j : Int) * (a : Int)) = (j : Int) * (a : Int) := IntWalk.i64_in _ (by omega)
          have W2_ : IntKind.i64.wrap ((j : Int) * (a : Int) + (i : Int)) = (m : Int) := by rw [← M0, ← Int.natCast_add, ← hm1]; exact IntWalk.i64_in _ (by omega)
          have p0 : (0 : Int) ≤ (m : Int) := by omega
          have p1 : (m : Int) < (S.length : Int) := by omega
          obtain ⟨ad, hA, l1, z0⟩ := ((RS.out.kept HB1.out).alloc (.cells #[.int .i64 4, .int .i64 2, .int .i64 1] 3)).rd_ hms
          subst hA
          have es := HS1.out m hms
          have hc := cntU_le HS1.out (Nat.le_of_lt hms)
          have HM := Lib.hid hm1
          rw [← hm1] at OU
          clear l1 M0 hja hm1
          obtain ⟨s, hs⟩ : ∃ s, s = rdn S m := ⟨_, rfl⟩
          rw [← hs] at z0 es
          have hsn := sqN_in es.1 es.2
          have HSD := Lib.hid hs
          clear hs es
          rcases hsn with ⟨e1, rfl⟩ | ⟨e1, rfl⟩ | ⟨e1, rfl⟩
          · have HSQ := Lib.hid (show sqN (rdn S m) = 1 by rw [← HSD.out]; exact e1)
            clear e1 HSD
            obtain ⟨zB10, zB11, zB12, zB13⟩ := (B1.out.below HB1.out B1.out.lt).cells4
            obtain ⟨y0, y1, y2, y3⟩ := ((B1.out.below HB1.out B1.out.lt).alloc (.cells #[.int .i64 4, .int .i64 2, .int .i64 1] 3)).cells4
            go_wp2_with fail
            clear zB10 zB11 zB12 zB13
            clear z0 y0 y1 y2 y3 W1 W2_ p0 p1 c1
            have HB1 := Lib.hid (below_alloc_ (HB1.out) (.cells #[.int .i64 4, .int .i64 2, .int .i64 1] 3))
            have OU := Lib.hid ((OU.out).alloc (.cells #[.int .i64 4, .int .i64 2, .int .i64 1] 3))
            have hzw : (w6.alloc (.cells #[.int .i64 4, .int .i64 2, .int .i64 1] 3)).heap.size = w6.heap.size + 1 := by simp only [World.size_alloc]
            generalize w6.alloc (.cells #[.int .i64 4, .int .i64 2, .int .i64 1] 3) = w3 at *
            clear hzw
            go_loopw [3, 7] (fun v yv wr => ∃ q y : Nat, q ≤ 1 ∧ y = 4 * q ∧ yv = .int .i64 y ∧ OwnE EU wr w2.heap.size v ((unsL a S).take (cntU S m + 1 * q)) ∧ Below w2.heap.size w2 wr) (fun _ yv _ => 4 - (intOf yv).toNat)
            case atStart => exact ⟨0, 0, Nat.zero_le _, rfl, rfl, OU.out, HB1.out⟩
            case round =>
              clear HB1 OU
              obtain ⟨q, y, hq, hy, rfl, ho, hb⟩ := hrel
              have OU := Lib.hid ho
              have HB1 := Lib.hid hb
              obtain ⟨w7, ew7⟩ : ∃ q, q = wr := ⟨_, rfl⟩
              subst ew7
              clear ho hb
              have HY := Lib.hid hy
              by_cases hql : q < 1
              · skip
                have c1 : (y : Int) < 4 := by omega
                clear hy
                obtain ⟨zB10, zB11, zB12, zB13⟩ := (B1.out.below HB1.out B1.out.lt).cells4
                go_wp2_with fail
                clear zB10 zB11 zB12 zB13
                clear c1
                go_loopw [3, 8] (fun v xv wr => ∃ r x : Nat, r ≤ 1 ∧ x = 4 * r ∧ xv = .int .i64 x ∧ OwnE EU wr w2.heap.size v ((unsL a S).take (cntU S m + 1 * q + r)) ∧ Below w2.heap.size w2 wr) (fun _ xv _ => 4 - (intOf xv).toNat)
                case atStart => exact ⟨0, 0, Nat.zero_le _, rfl, rfl, OU.out, HB1.out⟩
                case round =>
                  clear HB1 OU
                  obtain ⟨r, x, hr, hx, rfl, ho, hb⟩ := hrel
                  have OU := Lib.hid ho
                  have HB1 := Lib.hid hb
                  obtain ⟨w8, ew8⟩ : ∃ q, q = wr := ⟨_, rfl⟩
                  subst ew8
                  clear ho hb
                  have HX := Lib.hid hx
                  by_cases hrl : r < 1
                  · skip
                    have c1 : (x : Int) < 4 := by omega
                    have x4 : x ≤ 4 := by omega
                    have y4 : y ≤ 4 := by have := HY.out; omega
                    obtain ⟨X, hX⟩ : ∃ X, X = 4 * i + x := ⟨_, rfl⟩
                    obtain ⟨Y, hY⟩ : ∃ Y, Y = 4 * j + y := ⟨_, rfl⟩
                    have hnx : (unsL a S).take (cntU S m + 1 * q + r + 1) = (unsL a S).take (cntU S m + 1 * q + r) ++ [⟨(X : Int), (Y : Int), 4⟩] := by have h := un_next (z := 4) HL.out hjl hil (by rw [← HM.out]; exact HSQ.out) rfl hql hrl; rw [← HM.out] at h; rw [hX, hY, hx, HY.out]; exact h
                    have HNX := Lib.hid hnx
                    have W1 : IntKind.i64.wrap (4 * (i : Int)) = 4 * (i : Int) := IntWalk.i64_in _ (by omega)
                    have W3 : IntKind.i64.wrap (4 * (i : Int) + (x : Int)) = (X : Int) := by rw [hX]; push_cast; exact IntWalk.i64_in _ (by omega)
                    have W4 : IntKind.i64.wrap (4 * (j : Int)) = 4 * (j : Int) := IntWalk.i64_in _ (by omega)
                    have W5 : IntKind.i64.wrap (4 * (j : Int) + (y : Int)) = (Y : Int) := by rw [hY]; push_cast; exact IntWalk.i64_in _ (by omega)
                    obtain ⟨A1, c1_, rfl, _⟩ := OU.out.slice
                    obtain ⟨n5, hn5⟩ : ∃ n, n = ((unsL a S).take (cntU S m + 1 * q + r)).length := ⟨_, rfl⟩
                    rw [← hn5] at OU ⊢
                    have HLT := Lib.hid (show ((unsL a S).take (cntU S m + 1 * q + r)).length + 1 ≤ 10000000 by rw [List.length_take]; have := HU.out; omega)
                    clear hnx hX hY hn5 hx
                    have hb := below_alloc_ (Below.refl w8.heap.size w8) (.cells (unC ⟨(X : Int), (Y : Int), 4⟩).toArray 34)
                    have OUb := Lib.hid (OU.out.kept hb)
                    have HBb := Lib.hid (HB1.out.trans (hb.mono HB1.out.size))
                    have hsz := Lib.hid hb.size
                    have HSZ := Lib.hid HB1.out.size
                    clear hb
                    go_wp2_with (
                      at_builtin
                      refine wpList_appE (E := EU) (by rfl) (.tmp 47) (.tmp 58) 29 (by rfl) Try.underlying29 (.slice A1 n5 c1_) ((unsL a S).take (cntU S m + 1 * q + r)) (by rfl) w2.heap.size OUb.out (some ⟨w8.heap.size, 0, none⟩) (w8.heap.size + 1) 1 1 [⟨(X : Int), (Y : Int), 4⟩] (by rfl) (by rfl) (by rw [flE_one]; exact Blk.readsN (Blk.new w8 34 (unC ⟨(X : Int), (Y : Int), 4⟩).toArray) rfl) HLT.out (Nat.le_trans HSZ.out hsz.out) ?_
                      intro v2 w9 ho2 hg2 hat
                      rw [← HNX.out] at ho2
                      have HB9 := Lib.hid (OwnE.below OUb.out HBb.out (Nat.le_trans HSZ.out hsz.out) hg2)
                      have O9 := Lib.hid ho2
                      clear ho2 hg2 hat)
                    have W10 : IntKind.i64.wrap ((x : Int) + 4) = ((x + 4 : Nat) : Int) := by push_cast; exact IntWalk.i64_in _ (by omega)
                    skip
                    go_roundw
                    case rel => exact ⟨r + 1, x + 4, by omega, by have := HX.out; omega, by go_num, O9.out, HB9.out⟩
                    case measure => simp [intOf]; omega
                  · skip
                    obtain rfl : r = 1 := by omega
                    have c1 : ¬ ((x : Int) < 4) := by omega
                    have y4 : y ≤ 4 := by have := HY.out; omega
                    have W10 : IntKind.i64.wrap ((y : Int) + 4) = ((y + 4 : Nat) : Int) := by push_cast; exact IntWalk.i64_in _ (by omega)
                    clear hx
                    have OU := Lib.hid (show OwnE EU w8 w2.heap.size u3 ((unsL a S).take (cntU S m + 1 * (q + 1))) from by rw [Nat.mul_add, Nat.mul_one, ← Nat.add_assoc]; exact OU.out)
                    go_wp2_with fail
                    go_roundw
                    case rel => exact ⟨q + 1, y + 4, by omega, by have := HY.out; omega, by go_num, OU.out, HB1.out⟩
                    case measure => have := HY.out; simp [intOf]; omega
              · skip
                obtain rfl : q = 1 := by omega
                have c1 : ¬ ((y : Int) < 4) := by omega
                clear hy
                have HCN := cnt_sq HSQ.out
                have OU := Lib.hid (show OwnE EU w7 w2.heap.size u3 ((unsL a S).take (cntU S (j * a + (i + 1)))) from by rw [← Nat.add_assoc, ← HM.out, ← HCN]; exact OU.out)
                clear HCN
                go_wp2_with fail
                go_roundw
                case rel => exact ⟨i + 1, by omega, by go_num, OU.out, HB1.out⟩
                case measure => simp [intOf]; omega
          · have HSQ := Lib.hid (show sqN (rdn S m) = 2 by rw [← HSD.out]; exact e1)
            clear e1 HSD
            obtain ⟨zB10, zB11, zB12, zB13⟩ := (B1.out.below HB1.out B1.out.lt).cells4
            obtain ⟨y0, y1, y2, y3⟩ := ((B1.out.below HB1.out B1.out.lt).alloc (.cells #[.int .i64 4, .int .i64 2, .int .i64 1] 3)).cells4
            go_wp2_with fail
            clear zB10 zB11 zB12 zB13
            clear z0 y0 y1 y2 y3 W1 W2_ p0 p1 c1
            have HB1 := Lib.hid (below_alloc_ (HB1.out) (.cells #[.int .i64 4, .int .i64 2, .int .i64 1] 3))
            have OU := Lib.hid ((OU.out).alloc (.cells #[.int .i64 4, .int .i64 2, .int .i64 1] 3))
            have hzw : (w6.alloc (.cells #[.int .i64 4, .int .i64 2, .int .i64 1] 3)).heap.size = w6.heap.size + 1 := by simp only [World.size_alloc]
            generalize w6.alloc (.cells #[.int .i64 4, .int .i64 2, .int .i64 1] 3) = w4 at *
            clear hzw
            go_loopw [3, 7] (fun v yv wr => ∃ q y : Nat, q ≤ 2 ∧ y = 2 * q ∧ yv = .int .i64 y ∧ OwnE EU wr w2.heap.size v ((unsL a S).take (cntU S m + 2 * q)) ∧ Below w2.heap.size w2 wr) (fun _ yv _ => 4 - (intOf yv).toNat)
            case atStart => exact ⟨0, 0, Nat.zero_le _, rfl, rfl, OU.out, HB1.out⟩
            case round =>
              clear HB1 OU
              obtain ⟨q, y, hq, hy, rfl, ho, hb⟩ := hrel
              have OU := Lib.hid ho
              have HB1 := Lib.hid hb
              obtain ⟨w7, ew7⟩ : ∃ q, q = wr := ⟨_, rfl⟩
              subst ew7
              clear ho hb
              have HY := Lib.hid hy
              by_cases hql : q < 2
              · skip
                have c1 : (y : Int) < 4 := by omega
                clear hy
                obtain ⟨zB10, zB11, zB12, zB13⟩ := (B1.out.below HB1.out B1.out.lt).cells4
                go_wp2_with fail
                clear zB10 zB11 zB12 zB13
                clear c1
                go_loopw [3, 8] (fun v xv wr => ∃ r x : Nat, r ≤ 2 ∧ x = 2 * r ∧ xv = .int .i64 x ∧ OwnE EU wr w2.heap.size v ((unsL a S).take (cntU S m + 2 * q + r)) ∧ Below w2.heap.size w2 wr) (fun _ xv _ => 4 - (intOf xv).toNat)
                case atStart => exact ⟨0, 0, Nat.zero_le _, rfl, rfl, OU.out, HB1.out⟩
                case round =>
                  clear HB1 OU
                  obtain ⟨r, x, hr, hx, rfl, ho, hb⟩ := hrel
                  have OU := Lib.hid ho
                  have HB1 := Lib.hid hb
                  obtain ⟨w8, ew8⟩ : ∃ q, q = wr := ⟨_, rfl⟩
                  subst ew8
                  clear ho hb
                  have HX := Lib.hid hx
                  by_cases hrl : r < 2
                  · skip
                    have c1 : (x : Int) < 4 := by omega
                    have x4 : x ≤ 4 := by omega
                    have y4 : y ≤ 4 := by have := HY.out; omega
                    obtain ⟨X, hX⟩ : ∃ X, X = 4 * i + x := ⟨_, rfl⟩
                    obtain ⟨Y, hY⟩ : ∃ Y, Y = 4 * j + y := ⟨_, rfl⟩
                    have hnx : (unsL a S).take (cntU S m + 2 * q + r + 1) = (unsL a S).take (cntU S m + 2 * q + r) ++ [⟨(X : Int), (Y : Int), 2⟩] := by have h := un_next (z := 2) HL.out hjl hil (by rw [← HM.out]; exact HSQ.out) rfl hql hrl; rw [← HM.out] at h; rw [hX, hY, hx, HY.out]; exact h
                    have HNX := Lib.hid hnx
                    have W1 : IntKind.i64.wrap (4 * (i : Int)) = 4 * (i : Int) := IntWalk.i64_in _ (by omega)
                    have W3 : IntKind.i64.wrap (4 * (i : Int) + (x : Int)) = (X : Int) := by rw [hX]; push_cast; exact IntWalk.i64_in _ (by omega)
                    have W4 : IntKind.i64.wrap (4 * (j : Int)) = 4 * (j : Int) := IntWalk.i64_in _ (by omega)
                    have W5 : IntKind.i64.wrap (4 * (j : Int) + (y : Int)) = (Y : Int) := by rw [hY]; push_cast; exact IntWalk.i64_in _ (by omega)
                    obtain ⟨A1, c1_, rfl, _⟩ := OU.out.slice
                    obtain ⟨n5, hn5⟩ : ∃ n, n = ((unsL a S).take (cntU S m + 2 * q + r)).length := ⟨_, rfl⟩
                    rw [← hn5] at OU ⊢
                    have HLT := Lib.hid (show ((unsL a S).take (cntU S m + 2 * q + r)).length + 1 ≤ 10000000 by rw [List.length_take]; have := HU.out; omega)
                    clear hnx hX hY hn5 hx
                    have hb := below_alloc_ (Below.refl w8.heap.size w8) (.cells (unC ⟨(X : Int), (Y : Int), 2⟩).toArray 34)
                    have OUb := Lib.hid (OU.out.kept hb)
                    have HBb := Lib.hid (HB1.out.trans (hb.mono HB1.out.size))
                    have hsz := Lib.hid hb.size
                    have HSZ := Lib.hid HB1.out.size
                    clear hb
                    go_wp2_with (
                      at_builtin
                      refine wpList_appE (E := EU) (by rfl) (.tmp 47) (.tmp 58) 29 (by rfl) Try.underlying29 (.slice A1 n5 c1_) ((unsL a S).take (cntU S m + 2 * q + r)) (by rfl) w2.heap.size OUb.out (some ⟨w8.heap.size, 0, none⟩) (w8.heap.size + 1) 1 1 [⟨(X : Int), (Y : Int), 2⟩] (by rfl) (by rfl) (by rw [flE_one]; exact Blk.readsN (Blk.new w8 34 (unC ⟨(X : Int), (Y : Int), 2⟩).toArray) rfl) HLT.out (Nat.le_trans HSZ.out hsz.out) ?_
                      intro v2 w9 ho2 hg2 hat
                      rw [← HNX.out] at ho2
                      have HB9 := Lib.hid (OwnE.below OUb.out HBb.out (Nat.le_trans HSZ.out hsz.out) hg2)
                      have O9 := Lib.hid ho2
                      clear ho2 hg2 hat)
                    have W10 : IntKind.i64.wrap ((x : Int) + 2) = ((x + 2 : Nat) : Int) := by push_cast; exact IntWalk.i64_in _ (by omega)
                    skip
                    go_roundw
                    case rel => exact ⟨r + 1, x + 2, by omega, by have := HX.out; omega, by go_num, O9.out, HB9.out⟩
                    case measure => simp [intOf]; omega
                  · skip
                    obtain rfl : r = 2 := by omega
                    have c1 : ¬ ((x : Int) < 4) := by omega
                    have y4 : y ≤ 4 := by have := HY.out; omega
                    have W10 : IntKind.i64.wrap ((y : Int) + 2) = ((y + 2 : Nat) : Int) := by push_cast; exact IntWalk.i64_in _ (by omega)
                    clear hx
                    have OU := Lib.hid (show OwnE EU w8 w2.heap.size u3 ((unsL a S).take (cntU S m + 2 * (q + 1))) from by rw [Nat.mul_add, Nat.mul_one, ← Nat.add_assoc]; exact OU.out)
                    go_wp2_with fail
                    go_roundw
                    case rel => exact ⟨q + 1, y + 2, by omega, by have := HY.out; omega, by go_num, OU.out, HB1.out⟩
                    case measure => have := HY.out; simp [intOf]; omega
              · skip
                obtain rfl : q = 2 := by omega
                have c1 : ¬ ((y : Int) < 4) := by omega
                clear hy
                have HCN := cnt_sq HSQ.out
                have OU := Lib.hid (show OwnE EU w7 w2.heap.size u3 ((unsL a S).take (cntU S (j * a + (i + 1)))) from by rw [← Nat.add_assoc, ← HM.out, ← HCN]; exact OU.out)
                clear HCN
                go_wp2_with fail
                go_roundw
                case rel => exact ⟨i + 1, by omega, by go_num, OU.out, HB1.out⟩
                case measure => simp [intOf]; omega
          · have HSQ := Lib.hid (show sqN (rdn S m) = 4 by rw [← HSD.out]; exact e1)
            clear e1 HSD
            obtain ⟨zB10, zB11, zB12, zB13⟩ := (B1.out.below HB1.out B1.out.lt).cells4
            obtain ⟨y0, y1, y2, y3⟩ := ((B1.out.below HB1.out B1.out.lt).alloc (.cells #[.int .i64 4, .int .i64 2, .int .i64 1] 3)).cells4
            go_wp2_with fail
            clear zB10 zB11 zB12 zB13
            clear z0 y0 y1 y2 y3 W1 W2_ p0 p1 c1
            have HB1 := Lib.hid (below_alloc_ (HB1.out) (.cells #[.int .i64 4, .int .i64 2, .int .i64 1] 3))
            have OU := Lib.hid ((OU.out).alloc (.cells #[.int .i64 4, .int .i64 2, .int .i64 1] 3))
            have hzw : (w6.alloc (.cells #[.int .i64 4, .int .i64 2, .int .i64 1] 3)).heap.size = w6.heap.size + 1 := by simp only [World.size_alloc]
            generalize w6.alloc (.cells #[.int .i64 4, .int .i64 2, .int .i64 1] 3) = w5 at *
            clear hzw
            go_loopw [3, 7] (fun v yv wr => ∃ q y : Nat, q ≤ 4 ∧ y = 1 * q ∧ yv = .int .i64 y ∧ OwnE EU wr w2.heap.size v ((unsL a S).take (cntU S m + 4 * q)) ∧ Below w2.heap.size w2 wr) (fun _ yv _ => 4 - (intOf yv).toNat)
            case atStart => exact ⟨0, 0, Nat.zero_le _, rfl, rfl, OU.out, HB1.out⟩
            case round =>
              clear HB1 OU
              obtain ⟨q, y, hq, hy, rfl, ho, hb⟩ := hrel
              have OU := Lib.hid ho
              have HB1 := Lib.hid hb
              obtain ⟨w7, ew7⟩ : ∃ q, q = wr := ⟨_, rfl⟩
              subst ew7
              clear ho hb
              have HY := Lib.hid hy
              by_cases hql : q < 4
              · skip
                have c1 : (y : Int) < 4 := by omega
                clear hy
                obtain ⟨zB10, zB11, zB12, zB13⟩ := (B1.out.below HB1.out B1.out.lt).cells4
                go_wp2_with fail
                clear zB10 zB11 zB12 zB13
                clear c1
                go_loopw [3, 8] (fun v xv wr => ∃ r x : Nat, r ≤ 4 ∧ x = 1 * r ∧ xv = .int .i64 x ∧ OwnE EU wr w2.heap.size v ((unsL a S).take (cntU S m + 4 * q + r)) ∧ Below w2.heap.size w2 wr) (fun _ xv _ => 4 - (intOf xv).toNat)
                case atStart => exact ⟨0, 0, Nat.zero_le _, rfl, rfl, OU.out, HB1.out⟩
                case round =>
                  clear HB1 OU
                  obtain ⟨r, x, hr, hx, rfl, ho, hb⟩ := hrel
                  have OU := Lib.hid ho
                  have HB1 := Lib.hid hb
                  obtain ⟨w8, ew8⟩ : ∃ q, q = wr := ⟨_, rfl⟩
                  subst ew8
                  clear ho hb
                  have HX := Lib.hid hx
                  by_cases hrl : r < 4
                  · skip
                    have c1 : (x : Int) < 4 := by omega
                    have x4 : x ≤ 4 := by omega
                    have y4 : y ≤ 4 := by have := HY.out; omega
                    obtain ⟨X, hX⟩ : ∃ X, X = 4 * i + x := ⟨_, rfl⟩
                    obtain ⟨Y, hY⟩ : ∃ Y, Y = 4 * j + y := ⟨_, rfl⟩
                    have hnx : (unsL a S).take (cntU S m + 4 * q + r + 1) = (unsL a S).take (cntU S m + 4 * q + r) ++ [⟨(X : Int), (Y : Int), 1⟩] := by have h := un_next (z := 1) HL.out hjl hil (by rw [← HM.out]; exact HSQ.out) rfl hql hrl; rw [← HM.out] at h; rw [hX, hY, hx, HY.out]; exact h
                    have HNX := Lib.hid hnx
                    have W1 : IntKind.i64.wrap (4 * (i : Int)) = 4 * (i : Int) := IntWalk.i64_in _ (by omega)
                    have W3 : IntKind.i64.wrap (4 * (i : Int) + (x : Int)) = (X : Int) := by rw [hX]; push_cast; exact IntWalk.i64_in _ (by omega)
                    have W4 : IntKind.i64.wrap (4 * (j : Int)) = 4 * (j : Int) := IntWalk.i64_in _ (by omega)
                    have W5 : IntKind.i64.wrap (4 * (j : Int) + (y : Int)) = (Y : Int) := by rw [hY]; push_cast; exact IntWalk.i64_in _ (by omega)
                    obtain ⟨A1, c1_, rfl, _⟩ := OU.out.slice
                    obtain ⟨n5, hn5⟩ : ∃ n, n = ((unsL a S).take (cntU S m + 4 * q + r)).length := ⟨_, rfl⟩
                    rw [← hn5] at OU ⊢
                    have HLT := Lib.hid (show ((unsL a S).take (cntU S m + 4 * q + r)).length + 1 ≤ 10000000 by rw [List.length_take]; have := HU.out; omega)
                    clear hnx hX hY hn5 hx
                    have hb := below_alloc_ (Below.refl w8.heap.size w8) (.cells (unC ⟨(X : Int), (Y : Int), 1⟩).toArray 34)
                    have OUb := Lib.hid (OU.out.kept hb)
                    have HBb := Lib.hid (HB1.out.trans (hb.mono HB1.out.size))
                    have hsz := Lib.hid hb.size
                    have HSZ := Lib.hid HB1.out.size
                    clear hb
                    go_wp2_with (
                      at_builtin
                      refine wpList_appE (E := EU) (by rfl) (.tmp 47) (.tmp 58) 29 (by rfl) Try.underlying29 (.slice A1 n5 c1_) ((unsL a S).take (cntU S m + 4 * q + r)) (by rfl) w2.heap.size OUb.out (some ⟨w8.heap.size, 0, none⟩) (w8.heap.size + 1) 1 1 [⟨(X : Int), (Y : Int), 1⟩] (by rfl) (by rfl) (by rw [flE_one]; exact Blk.readsN (Blk.new w8 34 (unC ⟨(X : Int), (Y : Int), 1⟩).toArray) rfl) HLT.out (Nat.le_trans HSZ.out hsz.out) ?_
                      intro v2 w9 ho2 hg2 hat
                      rw [← HNX.out] at ho2
                      have HB9 := Lib.hid (OwnE.below OUb.out HBb.out (Nat.le_trans HSZ.out hsz.out) hg2)
                      have O9 := Lib.hid ho2
                      clear ho2 hg2 hat)
                    have W10 : IntKind.i64.wrap ((x : Int) + 1) = ((x + 1 : Nat) : Int) := by push_cast; exact IntWalk.i64_in _ (by omega)
                    skip
                    go_roundw
                    case rel => exact ⟨r + 1, x + 1, by omega, by have := HX.out; omega, by go_num, O9.out, HB9.out⟩
                    case measure => simp [intOf]; omega
                  · skip
                    obtain rfl : r = 4 := by omega
                    have c1 : ¬ ((x : Int) < 4) := by omega
                    have y4 : y ≤ 4 := by have := HY.out; omega
                    have W10 : IntKind.i64.wrap ((y : Int) + 1) = ((y + 1 : Nat) : Int) := by push_cast; exact IntWalk.i64_in _ (by omega)
                    clear hx
                    have OU := Lib.hid (show OwnE EU w8 w2.heap.size u3 ((unsL a S).take (cntU S m + 4 * (q + 1))) from by rw [Nat.mul_add, Nat.mul_one, ← Nat.add_assoc]; exact OU.out)
                    go_wp2_with fail
                    go_roundw
                    case rel => exact ⟨q + 1, y + 1, by omega, by have := HY.out; omega, by go_num, OU.out, HB1.out⟩
                    case measure => have := HY.out; simp [intOf]; omega
              · skip
                obtain rfl : q = 4 := by omega
                have c1 : ¬ ((y : Int) < 4) := by omega
                clear hy
                have HCN := cnt_sq HSQ.out
                have OU := Lib.hid (show OwnE EU w7 w2.heap.size u3 ((unsL a S).take (cntU S (j * a + (i + 1)))) from by rw [← Nat.add_assoc, ← HM.out, ← HCN]; exact OU.out)
                clear HCN
                go_wp2_with fail
                go_roundw
                case rel => exact ⟨i + 1, by omega, by go_num, OU.out, HB1.out⟩
                case measure => simp [intOf]; omega
        · skip
          obtain rfl : i = a := by omega
          have c1 : ¬ ((i : Int) < (i : Int)) := by omega
          have OU := Lib.hid (show OwnE EU w6 w2.heap.size u3 ((unsL i S).take (cntU S ((j + 1) * i))) from by rw [Nat.add_mul, Nat.one_mul]; exact OU.out)
          obtain ⟨zB10, zB11, zB12, zB13⟩ := (B1.out.below HB1.out B1.out.lt).cells4
          go_wp2_with fail
          clear zB10 zB11 zB12 zB13
          go_roundw
          case rel => exact ⟨j + 1, by omega, by go_num, OU.out, HB1.out⟩
          case measure => simp [intOf]; omega
    · skip
      obtain rfl : j = d := by omega
      have c1 : ¬ ((j : Int) < (j : Int)) := by omega
      have HE := Lib.hid (show (unsL a S).take (cntU S (j * a)) = unsL a S by rw [Nat.mul_comm j a, ← HL.out, ← unsL_length a S, List.take_length])
      rw [HE.out] at OU
      obtain ⟨zB10, zB11, zB12, zB13⟩ := (B1.out.below HB1.out B1.out.lt).cells4
      go_wp2_with fail
      clear zB10 zB11 zB12 zB13
      go_ret
      exact ⟨_, rfl, OU.out.lower HB.out.size, HB.out.trans (HB1.out.mono HB.out.size)⟩
theorem r16units_c (a d : Int) (S : List Int) (As : Option Addr) (cs : Nat) (K : List Bk) (Ak : Option Addr) (ck : Nat) (w : World) (hS : ReadsI w As S) (hK : ReadsE EK w Ak K) (hn : S.length ≤ 9223372036854775807) (hm : K.length ≤ 9223372036854775807) : Calls Try.prog 11 #[flV a d (.slice As S.length cs) (.slice Ak K.length ck)] w fun e w' => ∃ v, e = .returned v ∧ OwnE EU w' w.heap.size v (unsF a d S K) ∧ Below w.heap.size w w' := by
  cases ho : okFl a d S K with
  | false => rw [show unsF a d S K = [] by unfold unsF; rw [if_neg (by rw [ho]; decide)]]; exact r16units_n a d S As cs K Ak ck w hS hK hn hm ho
  | true =>
    obtain ⟨A, D, rfl, rfl, _⟩ := okFl_nat ho
    rw [show unsF (A : Int) (D : Int) S K = unsL A S by unfold unsF; rw [if_pos ho]; rfl]
    exact r16units_y A D S As cs K Ak ck w hS hK hn hm ho

end Go.Proofs.Ytiedjeholmoccaa
