/- Fields: the units of a field, told one by one. -/
import Derived.Test.YtiedjeholmoccaaFd10
import Derived.Test.YtiedjeholmoccaaRng3
import Derived.Test.YtiedjeholmoccaaSqF
import Derived.Deep.DeepCutAuto
import Derived.Deep.CutBlock
namespace Go.Proofs.Ytiedjeholmoccaa
open Go.RowKit Go.Shelf
set_option linter.unusedVariables false
set_option linter.unusedSimpArgs false
attribute [local go_sem] Oper.semAt_some

/-- The k-th unit that is told, with its square's number. -/
def UnEl (a : Nat) (S : List Int) (k : Nat) (args : Array Value) (_ : World) : Prop := ∃ p, (unsP a S S.length)[k]? = some p ∧ args = #[.int .i64 (p.1 : Int), unV p.2]
theorem funits_c (a d : Int) (vs vk : Value) (w : World) :
    Calls Try.prog 20 #[flV a d vs vk] w fun e w' => e = .returned (.func (.func 41) #[] #[.pointer (some ⟨w.heap.size, 0, none⟩)]) ∧ w' = w.alloc (.cells #[.int .i64 a, .int .i64 d, vs, vk] 25) := by
  go_enter Try.func20, Try.ntmps20
  go_wp2_with fail
  go_ret
  exact ⟨rfl, rfl⟩
theorem un_fits {q r k n a : Nat} (hn : n = 1 ∨ n = 2 ∨ n = 4) (hk : k < n * n) (hq : q < 64) (hr : r < 64) :
    (((k : Int) % (n : Int)) = ((k % n : Nat) : Int)) ∧ ((k : Int) / (n : Int) = ((k / n : Nat) : Int)) ∧ ((4 : Int) / (n : Int) = ((4 / n : Nat) : Int)) := by
  refine ⟨by norm_cast, by norm_cast, by norm_cast⟩
set_option maxRecDepth 100000 in
set_option maxHeartbeats 6400000 in
theorem funits_yes (a d : Nat) (S : List Int) (sa : Addr) (cs : Nat) (K : List Bk) (Ak : Option Addr) (ck B : Nat) (w0 : World) (hok : okFl a d S K = true) (hb : Blk w0 B 25 #[.int .i64 a, .int .i64 d, .slice (some sa) S.length cs, .slice Ak K.length ck]) (hS : ReadsI w0 (some sa) S) (hK : ReadsE EK w0 Ak K) :
    Sq Try.prog 41 #[.pointer (some ⟨B, 0, none⟩)] (fun k => k = B ∨ k = sa.block) (cntU S S.length) (UnEl a S) w0 := by
  intro n' l J Jx W hW hJ hY h0
  obtain ⟨A_, D_, ea, ed, a1, a2, d1, d2, hl, hkl, hS1, hK1⟩ := okFl_nat hok
  have ea := Int.ofNat.inj ea
  have ed := Int.ofNat.inj ed
  subst ea
  subst ed
  have Hok := Lib.hid hok
  have hbW := hb.below hW hb.lt
  have BW := Lib.hid hbW
  have RSW := Lib.hid (hS.kept hW)
  have RKW := Lib.hid (hK.kept hW)
  have HY := Lib.hid hY
  have HJ := Lib.hid hJ
  have H0 := Lib.hid h0
  have HL := Lib.hid hl
  have HS1 := Lib.hid hS1
  have sn := S.length
  have s4 : S.length ≤ 4096 := by rw [hl]; exact Nat.le_trans (Nat.mul_le_mul a2 d2) (by omega)
  have LB := hbW.lt
  have LS : sa.block < W.heap.size := by obtain ⟨ad', e, h, _⟩ := RSW.out.2 (by rw [hl]; exact Nat.mul_pos a1 d1); injection e with e; rw [e]; exact h
  have hm : K.length ≤ 9223372036854775807 := by rw [hkl]; have := Nat.mul_le_mul a2 d2; omega
  have hn : S.length ≤ 9223372036854775807 := by omega
  obtain ⟨c0, c1, c2, c3⟩ := hbW.cells4
  clear hok hl hkl hS1 hK1 hb hS hK hW hY h0 hJ hbW sn
  show Calls Try.prog _ #[.func (.yield l) #[] #[], .pointer (some ⟨B, 0, none⟩)] W _
  go_enter Try.func41, Try.ntmps41
  go_wp2_with fail
  try go_step3
  go_wp2_with fail
  refine (fright_c a d S (some sa) cs K Ak ck _ RSW.out RKW.out hn hm).mono ?_
  rintro e w1 ⟨rfl, hb1⟩
  rw [Hok.out]
  have hWW := Lib.hid hb1
  have hw1 := hb1.size
  have b1 := BW.out.below hb1 BW.out.lt
  obtain ⟨e0, e1, e2, e3⟩ := b1.cells4
  have J0 := Lib.hid (HJ.out 0 _ _ H0.out hb1)
  clear c0 c1 c2 c3 hb1 b1
  go_wp2_with fail
  go_step3
  go_wp2_with fail
  go_loopw [16] (fun v wr => ∃ i : Nat, i ≤ S.length ∧ v = .int .i64 i ∧ J (cntU S i) wr ∧ KeepB (fun k => k = B ∨ k = sa.block) W wr ∧ W.heap.size ≤ wr.heap.size) (fun v _ => S.length - (intOf v).toNat)
  case atStart => exact ⟨0, Nat.zero_le _, rfl, J0.out, KeepB.of_below hWW.out (fun k hk => by rcases hk with hk | hk <;> omega), hw1⟩
  case round =>
    obtain ⟨i, hi, rfl, hj, hb, hs⟩ := hrel
    have HJ1 := Lib.hid hj
    have HB := Lib.hid hb
    clear hj hb e0 e1 e2 e3 J0 hWW hw1
    obtain ⟨wo, ewo⟩ : ∃ wo, wo = wr := ⟨_, rfl⟩
    subst ewo
    by_cases hlt : i < S.length
    · have f0 : wo.cell? ⟨B, 0, none⟩ = some (.int .i64 a) := (HB.out.cell (.inl rfl)).trans (BW.out.cell 0)
      obtain ⟨ad', e_, _, zs⟩ := RSW.out.rd_ hlt
      injection e_ with e_
      subst e_
      have zs2 : wo.cell? (sa.add i) = some (.int .i64 (rdn S i)) := (HB.out.cell (.inr (block_of_add _ _))).trans zs
      have hs02 := HS1.out i hlt
      have hc3 := sqN_in hs02.1 hs02.2
      have HC := Lib.hid (fun (k : Nat) (hk : k < sqN (rdn S i) * sqN (rdn S i)) => And.intro (unsP_get (a := a) hlt hk) (cntU_lt (S := S) hlt hk))
      have HCS := Lib.hid (show cntU S (i + 1) = cntU S i + sqN (rdn S i) * sqN (rdn S i) from rfl)
      obtain ⟨sq, hsq⟩ : ∃ s, s = rdn S i := ⟨_, rfl⟩
      rw [← hsq] at zs2 hs02 hc3 HC HCS
      clear zs hsq
      have i1 : (0 : Int) ≤ (i : Int) := by omega
      have i2 : (i : Int) < (S.length : Int) := by omega
      have ha0 : ¬ (a : Int) = 0 := by omega
      have m1 : (i : Int) % (a : Int) = ((i % a : Nat) : Int) := by norm_cast
      have m2 : (i : Int) / (a : Int) = ((i / a : Nat) : Int) := by norm_cast
      have hq := Nat.mod_lt i (show 0 < a by omega)
      have hr : i / a < d := Nat.div_lt_of_lt_mul (by have := HL.out; omega)
      obtain ⟨qq, hqq⟩ : ∃ q, q = i % a := ⟨_, rfl⟩
      obtain ⟨rr, hrr⟩ : ∃ r, r = i / a := ⟨_, rfl⟩
      rw [← hqq] at m1 hq
      rw [← hrr] at m2 hr
      have HQQ := Lib.hid hqq
      have HRR := Lib.hid hrr
      clear hqq hrr
      have t1 : (i : Int).tmod (a : Int) = (qq : Int) := by rw [Int.tmod_eq_emod_of_nonneg i1]; exact m1
      have t2 : (i : Int).tdiv (a : Int) = (rr : Int) := by rw [Int.tdiv_eq_ediv_of_nonneg i1]; exact m2
      have W1 : IntKind.i64.wrap ((qq : Int) * 4) = (qq : Int) * 4 := IntWalk.i64_in _ (by omega)
      have W2 : IntKind.i64.wrap ((rr : Int) * 4) = (rr : Int) * 4 := IntWalk.i64_in _ (by omega)
      have W0 : IntKind.i64.wrap (qq : Int) = qq := IntWalk.i64_in _ (by omega)
      have W00 : IntKind.i64.wrap (rr : Int) = rr := IntWalk.i64_in _ (by omega)
      clear m1 m2
      rcases hc3 with ⟨hn_, rfl⟩ | ⟨hn_, rfl⟩ | ⟨hn_, rfl⟩
      · rw [hn_] at HC HCS
        have HN := Lib.hid hn_
        clear hn_ hs02
        go_upto_region 6 with fail
        go_quiet (fail)
        go_wp2_with fail
        have HB1 := Lib.hid (show KeepB (fun k => k = B ∨ k = sa.block) W (wo.drewN nq) from ⟨HB.out.size, HB.out.block⟩)
        have HJ2 := Lib.hid (HJ.out _ _ _ HJ1.out (show Below wo.heap.size wo (wo.drewN nq) from ⟨rfl, rfl, rfl, Nat.le_refl _, fun _ _ => rfl⟩))
        have hs1 : W.heap.size ≤ (wo.drewN nq).heap.size := hs
        generalize wo.drewN nq = wq at *
        clear f0 zs2
        go_loopw [38] (fun v wr => ∃ k : Nat, k ≤ 1 ∧ v = .int .i64 k ∧ J (cntU S i + k) wr ∧ KeepB (fun k => k = B ∨ k = sa.block) W wr ∧ W.heap.size ≤ wr.heap.size) (fun v _ => 1 - (intOf v).toNat)
        case atStart => exact ⟨0, by omega, rfl, HJ2.out, HB1.out, hs1⟩
        case round =>
          obtain ⟨k, hk, rfl, hj2, hb2, hs2⟩ := hrel
          have HJ3 := Lib.hid hj2
          have HB2 := Lib.hid hb2
          obtain ⟨wi, ewi⟩ : ∃ wi, wi = wr := ⟨_, rfl⟩
          subst ewi
          clear hj2 hb2
          by_cases hkl : k < 1
          · have k1 : (0 : Int) ≤ (k : Int) := by omega
            have k2 : (k : Int) < 1 := by omega
            have g := HC.out k (by omega)
            obtain ⟨ko, hko⟩ : ∃ m : Nat, m = k % 1 := ⟨_, rfl⟩
            obtain ⟨kd, hkd⟩ : ∃ m : Nat, m = k / 1 := ⟨_, rfl⟩
            have u1 : (k : Int).tmod 1 = (ko : Int) := by rw [Int.tmod_eq_emod_of_nonneg k1]; omega
            have u2 : (k : Int).tdiv 1 = (kd : Int) := by rw [Int.tdiv_eq_ediv_of_nonneg k1]; omega
            have b1 : ko ≤ 3 := by omega
            have b2 : kd ≤ 3 := by omega
            have V1 : IntKind.i64.wrap ((ko : Int) * 4) = (ko : Int) * 4 := IntWalk.i64_in _ (by omega)
            have V2 : IntKind.i64.wrap ((kd : Int) * 4) = (kd : Int) * 4 := IntWalk.i64_in _ (by omega)
            have V3 : IntKind.i64.wrap ((qq : Int) * 4 + (ko : Int) * 4) = (qq : Int) * 4 + (ko : Int) * 4 := IntWalk.i64_in _ (by omega)
            have V4 : IntKind.i64.wrap ((rr : Int) * 4 + (kd : Int) * 4) = (rr : Int) * 4 + (kd : Int) * 4 := IntWalk.i64_in _ (by omega)
            have V5 : IntKind.i64.wrap (ko : Int) = ko := IntWalk.i64_in _ (by omega)
            have V6 : IntKind.i64.wrap (kd : Int) = kd := IntWalk.i64_in _ (by omega)
            have hel : UnEl a S (cntU S i + k) #[.int .i64 (i : Int), unV ⟨(qq : Int) * 4 + (ko : Int) * 4, (rr : Int) * 4 + (kd : Int) * 4, 4⟩] wi.drew := ⟨_, g.1, by simp [unAt, HN.out, ← HQQ.out, ← HRR.out, ← hko, ← hkd]⟩
            obtain ⟨fn, tmps, assign, body, hyy, hR⟩ := HY.out _ _ wi.drew g.2 (HJ.out _ _ _ HJ3.out ⟨rfl, rfl, rfl, Nat.le_refl _, fun _ _ => rfl⟩) (show KeepB _ W wi.drew from ⟨HB2.out.size, HB2.out.block⟩) hs2 hel
            clear hel g hko hkd
            go_upto_region 10 with fail
            refine (wpIn_wide (n := n' + 1)).1 ?_
            refine wpIn_region_still_tail 18 (by kernel_rfl) (by kernel_rfl) ?_
            repeat still_step
            change wpListIn _ _ _ _ _ _ _ wi.drew
            gi_wp2_with fail
            refine hR.mono ?_
            clear hR hyy
            rintro e W3 (⟨rfl, hJ4, hk4⟩ | ⟨rfl, hJx4⟩)
            · have HJ4 := Lib.hid hJ4
              have HK4 := Lib.hid hk4
              clear hJ4 hk4
              gi_wp2_with fail
              go_wp2_with fail
              go_roundw
              case rel => exact ⟨k + 1, by omega, by go_num, by rw [← Nat.add_assoc]; exact HJ4.out, HB2.out.trans (KeepB.trans (show KeepB _ wi wi.drew from ⟨Nat.le_refl _, fun _ _ => rfl⟩) HK4.out), Nat.le_trans hs2 HK4.out.size⟩
              case measure => simp [intOf]; omega
            · have HX4 := Lib.hid hJx4
              clear hJx4
              gi_wp2_with fail
              go_wp2_with fail
              try rw [Exit.noGoto_normal]
              go_end0
              exact ⟨⟨_, rfl⟩, .inr HX4.out⟩
          · obtain rfl : k = 1 := by omega
            go_wp2_with fail
            go_roundw
            case rel => exact ⟨i + 1, by omega, by go_num, by rw [HCS.out]; exact HJ3.out, HB2.out, hs2⟩
            case measure => simp [intOf]; omega
      · rw [hn_] at HC HCS
        have HN := Lib.hid hn_
        clear hn_ hs02
        go_upto_region 6 with fail
        go_quiet (fail)
        go_wp2_with fail
        have HB1 := Lib.hid (show KeepB (fun k => k = B ∨ k = sa.block) W (wo.drewN nq) from ⟨HB.out.size, HB.out.block⟩)
        have HJ2 := Lib.hid (HJ.out _ _ _ HJ1.out (show Below wo.heap.size wo (wo.drewN nq) from ⟨rfl, rfl, rfl, Nat.le_refl _, fun _ _ => rfl⟩))
        have hs1 : W.heap.size ≤ (wo.drewN nq).heap.size := hs
        generalize wo.drewN nq = wq at *
        clear f0 zs2
        go_loopw [38] (fun v wr => ∃ k : Nat, k ≤ 4 ∧ v = .int .i64 k ∧ J (cntU S i + k) wr ∧ KeepB (fun k => k = B ∨ k = sa.block) W wr ∧ W.heap.size ≤ wr.heap.size) (fun v _ => 4 - (intOf v).toNat)
        case atStart => exact ⟨0, by omega, rfl, HJ2.out, HB1.out, hs1⟩
        case round =>
          obtain ⟨k, hk, rfl, hj2, hb2, hs2⟩ := hrel
          have HJ3 := Lib.hid hj2
          have HB2 := Lib.hid hb2
          obtain ⟨wi, ewi⟩ : ∃ wi, wi = wr := ⟨_, rfl⟩
          subst ewi
          clear hj2 hb2
          by_cases hkl : k < 4
          · have k1 : (0 : Int) ≤ (k : Int) := by omega
            have k2 : (k : Int) < 4 := by omega
            have g := HC.out k (by omega)
            obtain ⟨ko, hko⟩ : ∃ m : Nat, m = k % 2 := ⟨_, rfl⟩
            obtain ⟨kd, hkd⟩ : ∃ m : Nat, m = k / 2 := ⟨_, rfl⟩
            have u1 : (k : Int).tmod 2 = (ko : Int) := by rw [Int.tmod_eq_emod_of_nonneg k1]; omega
            have u2 : (k : Int).tdiv 2 = (kd : Int) := by rw [Int.tdiv_eq_ediv_of_nonneg k1]; omega
            have b1 : ko ≤ 3 := by omega
            have b2 : kd ≤ 3 := by omega
            have V1 : IntKind.i64.wrap ((ko : Int) * 2) = (ko : Int) * 2 := IntWalk.i64_in _ (by omega)
            have V2 : IntKind.i64.wrap ((kd : Int) * 2) = (kd : Int) * 2 := IntWalk.i64_in _ (by omega)
            have V3 : IntKind.i64.wrap ((qq : Int) * 4 + (ko : Int) * 2) = (qq : Int) * 4 + (ko : Int) * 2 := IntWalk.i64_in _ (by omega)
            have V4 : IntKind.i64.wrap ((rr : Int) * 4 + (kd : Int) * 2) = (rr : Int) * 4 + (kd : Int) * 2 := IntWalk.i64_in _ (by omega)
            have V5 : IntKind.i64.wrap (ko : Int) = ko := IntWalk.i64_in _ (by omega)
            have V6 : IntKind.i64.wrap (kd : Int) = kd := IntWalk.i64_in _ (by omega)
            have hel : UnEl a S (cntU S i + k) #[.int .i64 (i : Int), unV ⟨(qq : Int) * 4 + (ko : Int) * 2, (rr : Int) * 4 + (kd : Int) * 2, 2⟩] wi.drew := ⟨_, g.1, by simp [unAt, HN.out, ← HQQ.out, ← HRR.out, ← hko, ← hkd]⟩
            obtain ⟨fn, tmps, assign, body, hyy, hR⟩ := HY.out _ _ wi.drew g.2 (HJ.out _ _ _ HJ3.out ⟨rfl, rfl, rfl, Nat.le_refl _, fun _ _ => rfl⟩) (show KeepB _ W wi.drew from ⟨HB2.out.size, HB2.out.block⟩) hs2 hel
            clear hel g hko hkd
            go_upto_region 10 with fail
            refine (wpIn_wide (n := n' + 1)).1 ?_
            refine wpIn_region_still_tail 18 (by kernel_rfl) (by kernel_rfl) ?_
            repeat still_step
            change wpListIn _ _ _ _ _ _ _ wi.drew
            gi_wp2_with fail
            refine hR.mono ?_
            clear hR hyy
            rintro e W3 (⟨rfl, hJ4, hk4⟩ | ⟨rfl, hJx4⟩)
            · have HJ4 := Lib.hid hJ4
              have HK4 := Lib.hid hk4
              clear hJ4 hk4
              gi_wp2_with fail
              go_wp2_with fail
              go_roundw
              case rel => exact ⟨k + 1, by omega, by go_num, by rw [← Nat.add_assoc]; exact HJ4.out, HB2.out.trans (KeepB.trans (show KeepB _ wi wi.drew from ⟨Nat.le_refl _, fun _ _ => rfl⟩) HK4.out), Nat.le_trans hs2 HK4.out.size⟩
              case measure => simp [intOf]; omega
            · have HX4 := Lib.hid hJx4
              clear hJx4
              gi_wp2_with fail
              go_wp2_with fail
              try rw [Exit.noGoto_normal]
              go_end0
              exact ⟨⟨_, rfl⟩, .inr HX4.out⟩
          · obtain rfl : k = 4 := by omega
            go_wp2_with fail
            go_roundw
            case rel => exact ⟨i + 1, by omega, by go_num, by rw [HCS.out]; exact HJ3.out, HB2.out, hs2⟩
            case measure => simp [intOf]; omega
      · rw [hn_] at HC HCS
        have HN := Lib.hid hn_
        clear hn_ hs02
        go_upto_region 6 with fail
        go_quiet (fail)
        go_wp2_with fail
        have HB1 := Lib.hid (show KeepB (fun k => k = B ∨ k = sa.block) W (wo.drewN nq) from ⟨HB.out.size, HB.out.block⟩)
        have HJ2 := Lib.hid (HJ.out _ _ _ HJ1.out (show Below wo.heap.size wo (wo.drewN nq) from ⟨rfl, rfl, rfl, Nat.le_refl _, fun _ _ => rfl⟩))
        have hs1 : W.heap.size ≤ (wo.drewN nq).heap.size := hs
        generalize wo.drewN nq = wq at *
        clear f0 zs2
        go_loopw [38] (fun v wr => ∃ k : Nat, k ≤ 16 ∧ v = .int .i64 k ∧ J (cntU S i + k) wr ∧ KeepB (fun k => k = B ∨ k = sa.block) W wr ∧ W.heap.size ≤ wr.heap.size) (fun v _ => 16 - (intOf v).toNat)
        case atStart => exact ⟨0, by omega, rfl, HJ2.out, HB1.out, hs1⟩
        case round =>
          obtain ⟨k, hk, rfl, hj2, hb2, hs2⟩ := hrel
          have HJ3 := Lib.hid hj2
          have HB2 := Lib.hid hb2
          obtain ⟨wi, ewi⟩ : ∃ wi, wi = wr := ⟨_, rfl⟩
          subst ewi
          clear hj2 hb2
          by_cases hkl : k < 16
          · have k1 : (0 : Int) ≤ (k : Int) := by omega
            have k2 : (k : Int) < 16 := by omega
            have g := HC.out k (by omega)
            obtain ⟨ko, hko⟩ : ∃ m : Nat, m = k % 4 := ⟨_, rfl⟩
            obtain ⟨kd, hkd⟩ : ∃ m : Nat, m = k / 4 := ⟨_, rfl⟩
            have u1 : (k : Int).tmod 4 = (ko : Int) := by rw [Int.tmod_eq_emod_of_nonneg k1]; omega
            have u2 : (k : Int).tdiv 4 = (kd : Int) := by rw [Int.tdiv_eq_ediv_of_nonneg k1]; omega
            have b1 : ko ≤ 3 := by omega
            have b2 : kd ≤ 3 := by omega
            have V1 : IntKind.i64.wrap ((ko : Int)) = (ko : Int) := IntWalk.i64_in _ (by omega)
            have V2 : IntKind.i64.wrap ((kd : Int)) = (kd : Int) := IntWalk.i64_in _ (by omega)
            have V3 : IntKind.i64.wrap ((qq : Int) * 4 + (ko : Int)) = (qq : Int) * 4 + (ko : Int) := IntWalk.i64_in _ (by omega)
            have V4 : IntKind.i64.wrap ((rr : Int) * 4 + (kd : Int)) = (rr : Int) * 4 + (kd : Int) := IntWalk.i64_in _ (by omega)
            have V5 : IntKind.i64.wrap (ko : Int) = ko := IntWalk.i64_in _ (by omega)
            have V6 : IntKind.i64.wrap (kd : Int) = kd := IntWalk.i64_in _ (by omega)
            have hel : UnEl a S (cntU S i + k) #[.int .i64 (i : Int), unV ⟨(qq : Int) * 4 + (ko : Int), (rr : Int) * 4 + (kd : Int), 1⟩] wi.drew := ⟨_, g.1, by simp [unAt, HN.out, ← HQQ.out, ← HRR.out, ← hko, ← hkd]⟩
            obtain ⟨fn, tmps, assign, body, hyy, hR⟩ := HY.out _ _ wi.drew g.2 (HJ.out _ _ _ HJ3.out ⟨rfl, rfl, rfl, Nat.le_refl _, fun _ _ => rfl⟩) (show KeepB _ W wi.drew from ⟨HB2.out.size, HB2.out.block⟩) hs2 hel
            clear hel g hko hkd
            go_upto_region 10 with fail
            refine (wpIn_wide (n := n' + 1)).1 ?_
            refine wpIn_region_still_tail 18 (by kernel_rfl) (by kernel_rfl) ?_
            repeat still_step
            change wpListIn _ _ _ _ _ _ _ wi.drew
            gi_wp2_with fail
            refine hR.mono ?_
            clear hR hyy
            rintro e W3 (⟨rfl, hJ4, hk4⟩ | ⟨rfl, hJx4⟩)
            · have HJ4 := Lib.hid hJ4
              have HK4 := Lib.hid hk4
              clear hJ4 hk4
              gi_wp2_with fail
              go_wp2_with fail
              go_roundw
              case rel => exact ⟨k + 1, by omega, by go_num, by rw [← Nat.add_assoc]; exact HJ4.out, HB2.out.trans (KeepB.trans (show KeepB _ wi wi.drew from ⟨Nat.le_refl _, fun _ _ => rfl⟩) HK4.out), Nat.le_trans hs2 HK4.out.size⟩
              case measure => simp [intOf]; omega
            · have HX4 := Lib.hid hJx4
              clear hJx4
              gi_wp2_with fail
              go_wp2_with fail
              try rw [Exit.noGoto_normal]
              go_end0
              exact ⟨⟨_, rfl⟩, .inr HX4.out⟩
          · obtain rfl : k = 16 := by omega
            go_wp2_with fail
            go_roundw
            case rel => exact ⟨i + 1, by omega, by go_num, by rw [HCS.out]; exact HJ3.out, HB2.out, hs2⟩
            case measure => simp [intOf]; omega
    · obtain rfl : i = S.length := by omega
      go_wp2_with fail
      try rw [Exit.noGoto_normal]
      go_end0
      exact ⟨⟨_, rfl⟩, .inl HJ1.out⟩
set_option maxRecDepth 100000 in
set_option maxHeartbeats 6400000 in
theorem funits_no (a d : Int) (S : List Int) (As : Option Addr) (cs : Nat) (K : List Bk) (Ak : Option Addr) (ck B : Nat) (El : Nat → Array Value → World → Prop) (w0 : World) (hok : okFl a d S K = false) (hn : S.length ≤ 9223372036854775807) (hm : K.length ≤ 9223372036854775807) (hb : Blk w0 B 25 #[.int .i64 a, .int .i64 d, .slice As S.length cs, .slice Ak K.length ck]) (hS : ReadsI w0 As S) (hK : ReadsE EK w0 Ak K) :
    Sq Try.prog 41 #[.pointer (some ⟨B, 0, none⟩)] (fun k => k = B) 0 El w0 := by
  intro n' l J Jx W hW hJ hY h0
  have Hok := Lib.hid hok
  have RSW := Lib.hid (hS.kept hW)
  have RKW := Lib.hid (hK.kept hW)
  obtain ⟨c0, c1, c2, c3⟩ := (hb.below hW hb.lt).cells4
  have H0 := Lib.hid h0
  have HJ := Lib.hid hJ
  clear hok hW hY h0 hJ hb hS hK
  show Calls Try.prog _ #[.func (.yield l) #[] #[], .pointer (some ⟨B, 0, none⟩)] W _
  go_enter Try.func41, Try.ntmps41
  go_wp2_with fail
  try go_step3
  go_wp2_with fail
  refine (fright_c a d S As cs K Ak ck _ RSW.out RKW.out hn hm).mono ?_
  rintro e w1 ⟨rfl, hb1⟩
  rw [Hok.out]
  have J0 := Lib.hid (HJ.out 0 _ _ H0.out hb1)
  clear hb1 c0 c1 c2 c3
  go_wp2_with fail
  rw [Exit.noGoto_ret]
  refine bodyPost_ret (results_none rfl _ _ _) rfl ?_
  exact ⟨⟨_, rfl⟩, .inl J0.out⟩
set_option maxRecDepth 100000 in
set_option maxHeartbeats 6400000 in
theorem funitsF_yes (a d : Nat) (S : List Int) (sa : Addr) (cs : Nat) (K : List Bk) (Ak : Option Addr) (ck B : Nat) (kf : Nat) (caps : Array Value) (hcf : ∀ (args : Array Value) (W : World), (callFunc kf args).run Try.prog W = .ok (.enter kf args) W) (w0 : World) (hok : okFl a d S K = true) (hb : Blk w0 B 25 #[.int .i64 a, .int .i64 d, .slice (some sa) S.length cs, .slice Ak K.length ck]) (hS : ReadsI w0 (some sa) S) (hK : ReadsE EK w0 Ak K) :
    SqF Try.prog 41 #[.pointer (some ⟨B, 0, none⟩)] kf caps (fun k => k = B ∨ k = sa.block) (cntU S S.length) (UnEl a S) w0 := by
  intro J Jx W hW hJ hY h0
  obtain ⟨A_, D_, ea, ed, a1, a2, d1, d2, hl, hkl, hS1, hK1⟩ := okFl_nat hok
  have ea := Int.ofNat.inj ea
  have ed := Int.ofNat.inj ed
  subst ea
  subst ed
  have Hok := Lib.hid hok
  have hbW := hb.below hW hb.lt
  have BW := Lib.hid hbW
  have RSW := Lib.hid (hS.kept hW)
  have RKW := Lib.hid (hK.kept hW)
  have HY := Lib.hid hY
  have HJ := Lib.hid hJ
  have H0 := Lib.hid h0
  have HL := Lib.hid hl
  have HS1 := Lib.hid hS1
  have sn := S.length
  have s4 : S.length ≤ 4096 := by rw [hl]; exact Nat.le_trans (Nat.mul_le_mul a2 d2) (by omega)
  have LB := hbW.lt
  have LS : sa.block < W.heap.size := by obtain ⟨ad', e, h, _⟩ := RSW.out.2 (by rw [hl]; exact Nat.mul_pos a1 d1); injection e with e; rw [e]; exact h
  have hm : K.length ≤ 9223372036854775807 := by rw [hkl]; have := Nat.mul_le_mul a2 d2; omega
  have hn : S.length ≤ 9223372036854775807 := by omega
  obtain ⟨c0, c1, c2, c3⟩ := hbW.cells4
  clear hok hl hkl hS1 hK1 hb hS hK hW hY h0 hJ hbW sn
  show Calls Try.prog _ #[.func (.func kf) #[] caps, .pointer (some ⟨B, 0, none⟩)] W _
  go_enter Try.func41, Try.ntmps41
  go_wp2_with fail
  try go_step3
  go_wp2_with fail
  refine (fright_c a d S (some sa) cs K Ak ck _ RSW.out RKW.out hn hm).mono ?_
  rintro e w1 ⟨rfl, hb1⟩
  rw [Hok.out]
  have hWW := Lib.hid hb1
  have hw1 := hb1.size
  have b1 := BW.out.below hb1 BW.out.lt
  obtain ⟨e0, e1, e2, e3⟩ := b1.cells4
  have J0 := Lib.hid (HJ.out 0 _ _ H0.out hb1)
  clear c0 c1 c2 c3 hb1 b1
  go_wp2_with fail
  go_step3
  go_wp2_with fail
  go_loopw [16] (fun v wr => ∃ i : Nat, i ≤ S.length ∧ v = .int .i64 i ∧ J (cntU S i) wr ∧ KeepB (fun k => k = B ∨ k = sa.block) W wr ∧ W.heap.size ≤ wr.heap.size) (fun v _ => S.length - (intOf v).toNat)
  case atStart => exact ⟨0, Nat.zero_le _, rfl, J0.out, KeepB.of_below hWW.out (fun k hk => by rcases hk with hk | hk <;> omega), hw1⟩
  case round =>
    obtain ⟨i, hi, rfl, hj, hb, hs⟩ := hrel
    have HJ1 := Lib.hid hj
    have HB := Lib.hid hb
    clear hj hb e0 e1 e2 e3 J0 hWW hw1
    obtain ⟨wo, ewo⟩ : ∃ wo, wo = wr := ⟨_, rfl⟩
    subst ewo
    by_cases hlt : i < S.length
    · have f0 : wo.cell? ⟨B, 0, none⟩ = some (.int .i64 a) := (HB.out.cell (.inl rfl)).trans (BW.out.cell 0)
      obtain ⟨ad', e_, _, zs⟩ := RSW.out.rd_ hlt
      injection e_ with e_
      subst e_
      have zs2 : wo.cell? (sa.add i) = some (.int .i64 (rdn S i)) := (HB.out.cell (.inr (block_of_add _ _))).trans zs
      have hs02 := HS1.out i hlt
      have hc3 := sqN_in hs02.1 hs02.2
      have HC := Lib.hid (fun (k : Nat) (hk : k < sqN (rdn S i) * sqN (rdn S i)) => And.intro (unsP_get (a := a) hlt hk) (cntU_lt (S := S) hlt hk))
      have HCS := Lib.hid (show cntU S (i + 1) = cntU S i + sqN (rdn S i) * sqN (rdn S i) from rfl)
      obtain ⟨sq, hsq⟩ : ∃ s, s = rdn S i := ⟨_, rfl⟩
      rw [← hsq] at zs2 hs02 hc3 HC HCS
      clear zs hsq
      have i1 : (0 : Int) ≤ (i : Int) := by omega
      have i2 : (i : Int) < (S.length : Int) := by omega
      have ha0 : ¬ (a : Int) = 0 := by omega
      have m1 : (i : Int) % (a : Int) = ((i % a : Nat) : Int) := by norm_cast
      have m2 : (i : Int) / (a : Int) = ((i / a : Nat) : Int) := by norm_cast
      have hq := Nat.mod_lt i (show 0 < a by omega)
      have hr : i / a < d := Nat.div_lt_of_lt_mul (by have := HL.out; omega)
      obtain ⟨qq, hqq⟩ : ∃ q, q = i % a := ⟨_, rfl⟩
      obtain ⟨rr, hrr⟩ : ∃ r, r = i / a := ⟨_, rfl⟩
      rw [← hqq] at m1 hq
      rw [← hrr] at m2 hr
      have HQQ := Lib.hid hqq
      have HRR := Lib.hid hrr
      clear hqq hrr
      have t1 : (i : Int).tmod (a : Int) = (qq : Int) := by rw [Int.tmod_eq_emod_of_nonneg i1]; exact m1
      have t2 : (i : Int).tdiv (a : Int) = (rr : Int) := by rw [Int.tdiv_eq_ediv_of_nonneg i1]; exact m2
      have W1 : IntKind.i64.wrap ((qq : Int) * 4) = (qq : Int) * 4 := IntWalk.i64_in _ (by omega)
      have W2 : IntKind.i64.wrap ((rr : Int) * 4) = (rr : Int) * 4 := IntWalk.i64_in _ (by omega)
      have W0 : IntKind.i64.wrap (qq : Int) = qq := IntWalk.i64_in _ (by omega)
      have W00 : IntKind.i64.wrap (rr : Int) = rr := IntWalk.i64_in _ (by omega)
      clear m1 m2
      rcases hc3 with ⟨hn_, rfl⟩ | ⟨hn_, rfl⟩ | ⟨hn_, rfl⟩
      · rw [hn_] at HC HCS
        have HN := Lib.hid hn_
        clear hn_ hs02
        go_upto_region 6 with fail
        go_quiet (fail)
        go_wp2_with fail
        have HB1 := Lib.hid (show KeepB (fun k => k = B ∨ k = sa.block) W (wo.drewN nq) from ⟨HB.out.size, HB.out.block⟩)
        have HJ2 := Lib.hid (HJ.out _ _ _ HJ1.out (show Below wo.heap.size wo (wo.drewN nq) from ⟨rfl, rfl, rfl, Nat.le_refl _, fun _ _ => rfl⟩))
        have hs1 : W.heap.size ≤ (wo.drewN nq).heap.size := hs
        generalize wo.drewN nq = wq at *
        clear f0 zs2
        go_loopw [38] (fun v wr => ∃ k : Nat, k ≤ 1 ∧ v = .int .i64 k ∧ J (cntU S i + k) wr ∧ KeepB (fun k => k = B ∨ k = sa.block) W wr ∧ W.heap.size ≤ wr.heap.size) (fun v _ => 1 - (intOf v).toNat)
        case atStart => exact ⟨0, by omega, rfl, HJ2.out, HB1.out, hs1⟩
        case round =>
          obtain ⟨k, hk, rfl, hj2, hb2, hs2⟩ := hrel
          have HJ3 := Lib.hid hj2
          have HB2 := Lib.hid hb2
          obtain ⟨wi, ewi⟩ : ∃ wi, wi = wr := ⟨_, rfl⟩
          subst ewi
          clear hj2 hb2
          by_cases hkl : k < 1
          · have k1 : (0 : Int) ≤ (k : Int) := by omega
            have k2 : (k : Int) < 1 := by omega
            have g := HC.out k (by omega)
            obtain ⟨ko, hko⟩ : ∃ m : Nat, m = k % 1 := ⟨_, rfl⟩
            obtain ⟨kd, hkd⟩ : ∃ m : Nat, m = k / 1 := ⟨_, rfl⟩
            have u1 : (k : Int).tmod 1 = (ko : Int) := by rw [Int.tmod_eq_emod_of_nonneg k1]; omega
            have u2 : (k : Int).tdiv 1 = (kd : Int) := by rw [Int.tdiv_eq_ediv_of_nonneg k1]; omega
            have b1 : ko ≤ 3 := by omega
            have b2 : kd ≤ 3 := by omega
            have V1 : IntKind.i64.wrap ((ko : Int) * 4) = (ko : Int) * 4 := IntWalk.i64_in _ (by omega)
            have V2 : IntKind.i64.wrap ((kd : Int) * 4) = (kd : Int) * 4 := IntWalk.i64_in _ (by omega)
            have V3 : IntKind.i64.wrap ((qq : Int) * 4 + (ko : Int) * 4) = (qq : Int) * 4 + (ko : Int) * 4 := IntWalk.i64_in _ (by omega)
            have V4 : IntKind.i64.wrap ((rr : Int) * 4 + (kd : Int) * 4) = (rr : Int) * 4 + (kd : Int) * 4 := IntWalk.i64_in _ (by omega)
            have V5 : IntKind.i64.wrap (ko : Int) = ko := IntWalk.i64_in _ (by omega)
            have V6 : IntKind.i64.wrap (kd : Int) = kd := IntWalk.i64_in _ (by omega)
            have hel : UnEl a S (cntU S i + k) #[.int .i64 (i : Int), unV ⟨(qq : Int) * 4 + (ko : Int) * 4, (rr : Int) * 4 + (kd : Int) * 4, 4⟩] wi.drew := ⟨_, g.1, by simp [unAt, HN.out, ← HQQ.out, ← HRR.out, ← hko, ← hkd]⟩
            have hRR := HY.out _ _ wi.drew g.2 (HJ.out _ _ _ HJ3.out ⟨rfl, rfl, rfl, Nat.le_refl _, fun _ _ => rfl⟩) (show KeepB _ W wi.drew from ⟨HB2.out.size, HB2.out.block⟩) hs2 hel
            have HR := Lib.hid hRR
            clear hRR hel g hko hkd
            go_upto_region 10 with fail
            refine wp_region_still_tail 18 (by kernel_rfl) (by kernel_rfl) ?_
            repeat still_step
            change wpList _ _ _ _ _ wi.drew
            go_wp2_with fail
            refine HR.out.mono ?_
            clear HR
            rintro e W3 (⟨rfl, hJ4, hk4⟩ | ⟨rfl, hJx4⟩)
            · have HJ4 := Lib.hid hJ4
              have HK4 := Lib.hid hk4
              clear hJ4 hk4
              go_wp2_with fail
              go_roundw
              case rel => exact ⟨k + 1, by omega, by go_num, by rw [← Nat.add_assoc]; exact HJ4.out, HB2.out.trans (KeepB.trans (show KeepB _ wi wi.drew from ⟨Nat.le_refl _, fun _ _ => rfl⟩) HK4.out), Nat.le_trans hs2 HK4.out.size⟩
              case measure => simp [intOf]; omega
            · have HX4 := Lib.hid hJx4
              clear hJx4
              go_wp2_with fail
              try rw [Exit.noGoto_normal]
              go_end0
              exact ⟨⟨_, rfl⟩, .inr HX4.out⟩
          · obtain rfl : k = 1 := by omega
            go_wp2_with fail
            go_roundw
            case rel => exact ⟨i + 1, by omega, by go_num, by rw [HCS.out]; exact HJ3.out, HB2.out, hs2⟩
            case measure => simp [intOf]; omega
      · rw [hn_] at HC HCS
        have HN := Lib.hid hn_
        clear hn_ hs02
        go_upto_region 6 with fail
        go_quiet (fail)
        go_wp2_with fail
        have HB1 := Lib.hid (show KeepB (fun k => k = B ∨ k = sa.block) W (wo.drewN nq) from ⟨HB.out.size, HB.out.block⟩)
        have HJ2 := Lib.hid (HJ.out _ _ _ HJ1.out (show Below wo.heap.size wo (wo.drewN nq) from ⟨rfl, rfl, rfl, Nat.le_refl _, fun _ _ => rfl⟩))
        have hs1 : W.heap.size ≤ (wo.drewN nq).heap.size := hs
        generalize wo.drewN nq = wq at *
        clear f0 zs2
        go_loopw [38] (fun v wr => ∃ k : Nat, k ≤ 4 ∧ v = .int .i64 k ∧ J (cntU S i + k) wr ∧ KeepB (fun k => k = B ∨ k = sa.block) W wr ∧ W.heap.size ≤ wr.heap.size) (fun v _ => 4 - (intOf v).toNat)
        case atStart => exact ⟨0, by omega, rfl, HJ2.out, HB1.out, hs1⟩
        case round =>
          obtain ⟨k, hk, rfl, hj2, hb2, hs2⟩ := hrel
          have HJ3 := Lib.hid hj2
          have HB2 := Lib.hid hb2
          obtain ⟨wi, ewi⟩ : ∃ wi, wi = wr := ⟨_, rfl⟩
          subst ewi
          clear hj2 hb2
          by_cases hkl : k < 4
          · have k1 : (0 : Int) ≤ (k : Int) := by omega
            have k2 : (k : Int) < 4 := by omega
            have g := HC.out k (by omega)
            obtain ⟨ko, hko⟩ : ∃ m : Nat, m = k % 2 := ⟨_, rfl⟩
            obtain ⟨kd, hkd⟩ : ∃ m : Nat, m = k / 2 := ⟨_, rfl⟩
            have u1 : (k : Int).tmod 2 = (ko : Int) := by rw [Int.tmod_eq_emod_of_nonneg k1]; omega
            have u2 : (k : Int).tdiv 2 = (kd : Int) := by rw [Int.tdiv_eq_ediv_of_nonneg k1]; omega
            have b1 : ko ≤ 3 := by omega
            have b2 : kd ≤ 3 := by omega
            have V1 : IntKind.i64.wrap ((ko : Int) * 2) = (ko : Int) * 2 := IntWalk.i64_in _ (by omega)
            have V2 : IntKind.i64.wrap ((kd : Int) * 2) = (kd : Int) * 2 := IntWalk.i64_in _ (by omega)
            have V3 : IntKind.i64.wrap ((qq : Int) * 4 + (ko : Int) * 2) = (qq : Int) * 4 + (ko : Int) * 2 := IntWalk.i64_in _ (by omega)
            have V4 : IntKind.i64.wrap ((rr : Int) * 4 + (kd : Int) * 2) = (rr : Int) * 4 + (kd : Int) * 2 := IntWalk.i64_in _ (by omega)
            have V5 : IntKind.i64.wrap (ko : Int) = ko := IntWalk.i64_in _ (by omega)
            have V6 : IntKind.i64.wrap (kd : Int) = kd := IntWalk.i64_in _ (by omega)
            have hel : UnEl a S (cntU S i + k) #[.int .i64 (i : Int), unV ⟨(qq : Int) * 4 + (ko : Int) * 2, (rr : Int) * 4 + (kd : Int) * 2, 2⟩] wi.drew := ⟨_, g.1, by simp [unAt, HN.out, ← HQQ.out, ← HRR.out, ← hko, ← hkd]⟩
            have hRR := HY.out _ _ wi.drew g.2 (HJ.out _ _ _ HJ3.out ⟨rfl, rfl, rfl, Nat.le_refl _, fun _ _ => rfl⟩) (show KeepB _ W wi.drew from ⟨HB2.out.size, HB2.out.block⟩) hs2 hel
            have HR := Lib.hid hRR
            clear hRR hel g hko hkd
            go_upto_region 10 with fail
            refine wp_region_still_tail 18 (by kernel_rfl) (by kernel_rfl) ?_
            repeat still_step
            change wpList _ _ _ _ _ wi.drew
            go_wp2_with fail
            refine HR.out.mono ?_
            clear HR
            rintro e W3 (⟨rfl, hJ4, hk4⟩ | ⟨rfl, hJx4⟩)
            · have HJ4 := Lib.hid hJ4
              have HK4 := Lib.hid hk4
              clear hJ4 hk4
              go_wp2_with fail
              go_roundw
              case rel => exact ⟨k + 1, by omega, by go_num, by rw [← Nat.add_assoc]; exact HJ4.out, HB2.out.trans (KeepB.trans (show KeepB _ wi wi.drew from ⟨Nat.le_refl _, fun _ _ => rfl⟩) HK4.out), Nat.le_trans hs2 HK4.out.size⟩
              case measure => simp [intOf]; omega
            · have HX4 := Lib.hid hJx4
              clear hJx4
              go_wp2_with fail
              try rw [Exit.noGoto_normal]
              go_end0
              exact ⟨⟨_, rfl⟩, .inr HX4.out⟩
          · obtain rfl : k = 4 := by omega
            go_wp2_with fail
            go_roundw
            case rel => exact ⟨i + 1, by omega, by go_num, by rw [HCS.out]; exact HJ3.out, HB2.out, hs2⟩
            case measure => simp [intOf]; omega
      · rw [hn_] at HC HCS
        have HN := Lib.hid hn_
        clear hn_ hs02
        go_upto_region 6 with fail
        go_quiet (fail)
        go_wp2_with fail
        have HB1 := Lib.hid (show KeepB (fun k => k = B ∨ k = sa.block) W (wo.drewN nq) from ⟨HB.out.size, HB.out.block⟩)
        have HJ2 := Lib.hid (HJ.out _ _ _ HJ1.out (show Below wo.heap.size wo (wo.drewN nq) from ⟨rfl, rfl, rfl, Nat.le_refl _, fun _ _ => rfl⟩))
        have hs1 : W.heap.size ≤ (wo.drewN nq).heap.size := hs
        generalize wo.drewN nq = wq at *
        clear f0 zs2
        go_loopw [38] (fun v wr => ∃ k : Nat, k ≤ 16 ∧ v = .int .i64 k ∧ J (cntU S i + k) wr ∧ KeepB (fun k => k = B ∨ k = sa.block) W wr ∧ W.heap.size ≤ wr.heap.size) (fun v _ => 16 - (intOf v).toNat)
        case atStart => exact ⟨0, by omega, rfl, HJ2.out, HB1.out, hs1⟩
        case round =>
          obtain ⟨k, hk, rfl, hj2, hb2, hs2⟩ := hrel
          have HJ3 := Lib.hid hj2
          have HB2 := Lib.hid hb2
          obtain ⟨wi, ewi⟩ : ∃ wi, wi = wr := ⟨_, rfl⟩
          subst ewi
          clear hj2 hb2
          by_cases hkl : k < 16
          · have k1 : (0 : Int) ≤ (k : Int) := by omega
            have k2 : (k : Int) < 16 := by omega
            have g := HC.out k (by omega)
            obtain ⟨ko, hko⟩ : ∃ m : Nat, m = k % 4 := ⟨_, rfl⟩
            obtain ⟨kd, hkd⟩ : ∃ m : Nat, m = k / 4 := ⟨_, rfl⟩
            have u1 : (k : Int).tmod 4 = (ko : Int) := by rw [Int.tmod_eq_emod_of_nonneg k1]; omega
            have u2 : (k : Int).tdiv 4 = (kd : Int) := by rw [Int.tdiv_eq_ediv_of_nonneg k1]; omega
            have b1 : ko ≤ 3 := by omega
            have b2 : kd ≤ 3 := by omega
            have V1 : IntKind.i64.wrap ((ko : Int)) = (ko : Int) := IntWalk.i64_in _ (by omega)
            have V2 : IntKind.i64.wrap ((kd : Int)) = (kd : Int) := IntWalk.i64_in _ (by omega)
            have V3 : IntKind.i64.wrap ((qq : Int) * 4 + (ko : Int)) = (qq : Int) * 4 + (ko : Int) := IntWalk.i64_in _ (by omega)
            have V4 : IntKind.i64.wrap ((rr : Int) * 4 + (kd : Int)) = (rr : Int) * 4 + (kd : Int) := IntWalk.i64_in _ (by omega)
            have V5 : IntKind.i64.wrap (ko : Int) = ko := IntWalk.i64_in _ (by omega)
            have V6 : IntKind.i64.wrap (kd : Int) = kd := IntWalk.i64_in _ (by omega)
            have hel : UnEl a S (cntU S i + k) #[.int .i64 (i : Int), unV ⟨(qq : Int) * 4 + (ko : Int), (rr : Int) * 4 + (kd : Int), 1⟩] wi.drew := ⟨_, g.1, by simp [unAt, HN.out, ← HQQ.out, ← HRR.out, ← hko, ← hkd]⟩
            have hRR := HY.out _ _ wi.drew g.2 (HJ.out _ _ _ HJ3.out ⟨rfl, rfl, rfl, Nat.le_refl _, fun _ _ => rfl⟩) (show KeepB _ W wi.drew from ⟨HB2.out.size, HB2.out.block⟩) hs2 hel
            have HR := Lib.hid hRR
            clear hRR hel g hko hkd
            go_upto_region 10 with fail
            refine wp_region_still_tail 18 (by kernel_rfl) (by kernel_rfl) ?_
            repeat still_step
            change wpList _ _ _ _ _ wi.drew
            go_wp2_with fail
            refine HR.out.mono ?_
            clear HR
            rintro e W3 (⟨rfl, hJ4, hk4⟩ | ⟨rfl, hJx4⟩)
            · have HJ4 := Lib.hid hJ4
              have HK4 := Lib.hid hk4
              clear hJ4 hk4
              go_wp2_with fail
              go_roundw
              case rel => exact ⟨k + 1, by omega, by go_num, by rw [← Nat.add_assoc]; exact HJ4.out, HB2.out.trans (KeepB.trans (show KeepB _ wi wi.drew from ⟨Nat.le_refl _, fun _ _ => rfl⟩) HK4.out), Nat.le_trans hs2 HK4.out.size⟩
              case measure => simp [intOf]; omega
            · have HX4 := Lib.hid hJx4
              clear hJx4
              go_wp2_with fail
              try rw [Exit.noGoto_normal]
              go_end0
              exact ⟨⟨_, rfl⟩, .inr HX4.out⟩
          · obtain rfl : k = 16 := by omega
            go_wp2_with fail
            go_roundw
            case rel => exact ⟨i + 1, by omega, by go_num, by rw [HCS.out]; exact HJ3.out, HB2.out, hs2⟩
            case measure => simp [intOf]; omega
    · obtain rfl : i = S.length := by omega
      go_wp2_with fail
      try rw [Exit.noGoto_normal]
      go_end0
      exact ⟨⟨_, rfl⟩, .inl HJ1.out⟩
set_option maxRecDepth 100000 in
set_option maxHeartbeats 6400000 in
theorem funitsF_no (a d : Int) (S : List Int) (As : Option Addr) (cs : Nat) (K : List Bk) (Ak : Option Addr) (ck B : Nat) (kf : Nat) (caps : Array Value) (El : Nat → Array Value → World → Prop) (w0 : World) (hok : okFl a d S K = false) (hn : S.length ≤ 9223372036854775807) (hm : K.length ≤ 9223372036854775807) (hb : Blk w0 B 25 #[.int .i64 a, .int .i64 d, .slice As S.length cs, .slice Ak K.length ck]) (hS : ReadsI w0 As S) (hK : ReadsE EK w0 Ak K) :
    SqF Try.prog 41 #[.pointer (some ⟨B, 0, none⟩)] kf caps (fun k => k = B) 0 El w0 := by
  intro J Jx W hW hJ hY h0
  have Hok := Lib.hid hok
  have RSW := Lib.hid (hS.kept hW)
  have RKW := Lib.hid (hK.kept hW)
  obtain ⟨c0, c1, c2, c3⟩ := (hb.below hW hb.lt).cells4
  have H0 := Lib.hid h0
  have HJ := Lib.hid hJ
  clear hok hW hY h0 hJ hb hS hK
  show Calls Try.prog _ #[.func (.func kf) #[] caps, .pointer (some ⟨B, 0, none⟩)] W _
  go_enter Try.func41, Try.ntmps41
  go_wp2_with fail
  try go_step3
  go_wp2_with fail
  refine (fright_c a d S As cs K Ak ck _ RSW.out RKW.out hn hm).mono ?_
  rintro e w1 ⟨rfl, hb1⟩
  rw [Hok.out]
  have J0 := Lib.hid (HJ.out 0 _ _ H0.out hb1)
  clear hb1 c0 c1 c2 c3
  go_wp2_with fail
  rw [Exit.noGoto_ret]
  refine bodyPost_ret (results_none rfl _ _ _) rfl ?_
  exact ⟨⟨_, rfl⟩, .inl J0.out⟩

end Go.Proofs.Ytiedjeholmoccaa
