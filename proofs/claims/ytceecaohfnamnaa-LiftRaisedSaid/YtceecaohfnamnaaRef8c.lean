/- What the reference's step of layer 8 answers. -/
import Derived.Test.YtceecaohfnamnaaRef8b
import Derived.Test.YtceecaohfnamnaaLift2
import Derived.StillTailTactics
namespace Go.Proofs.Ytceecaohfnamnaa
open Go.RowKit
set_option linter.unusedVariables false
set_option linter.unusedSimpArgs false

def tap (L : List (Int × Int)) (k : Nat) : Int × Int := L.getD k (0, 0)
theorem tapCells_at (L : List (Int × Int)) (k : Nat) (h : k < L.length) : (tapCells L)[k * 2]? = some (.int .i64 (tap L k).1) ∧ (tapCells L)[k * 2 + 1]? = some (.int .i64 (tap L k).2) := by
  unfold tapCells tap
  simp only [List.getElem?_toArray]
  induction L generalizing k with
  | nil => simp at h
  | cons p L ih =>
    cases k with
    | zero => simp
    | succ k =>
      have := ih k (by simpa using h)
      rw [show (k + 1) * 2 = k * 2 + 1 + 1 by omega]
      simpa using this
def sumT (L : List (Int × Int)) (xs : List Int) (i : Int) : Nat → Int
  | 0 => 0
  | k + 1 => sumT L xs i k + (tap L k).2 * atZ xs (i + (tap L k).1)
theorem tap_bd (f : Int) (odd : Bool) (k : Nat) : -3 ≤ (tap (tapsL f odd) k).1 ∧ (tap (tapsL f odd) k).1 ≤ 3 := by
  unfold tapsL
  cases odd <;> simp only [Bool.false_eq_true, if_false, if_true] <;> (repeat' split) <;> (rcases k with _ | _ | _ | _ | k <;> simp [tap])
/-- A line's numbers are of 64 bits. -/
def In64 (xs : List Int) : Prop := ∀ j, wrap64 (rdn xs j) = rdn xs j
theorem atZ_in {xs : List Int} (h : In64 xs) (i : Int) : wrap64 (atZ xs i) = atZ xs i := by
  unfold atZ
  split
  · exact h _
  · split
    · exact h _
    · exact h _
theorem taps_step (f : Int) (odd : Bool) (xs : List Int) (i : Int) (h : In64 xs) : wrap64 (tapsA f odd + sumT (tapsL f odd) xs i (tapsL f odd).length) / tapsO f odd = stepZ f odd xs i := by
  have e1 : i + (-3) = i - 3 := by omega
  have e2 : i + (-1) = i - 1 := by omega
  have h1 := atZ_in h (i - 1)
  have four : ∀ a : Int, a + sumT [(-3, -1), (-1, 9), (1, 9), (3, -1)] xs i 4 = fourZ xs i + a := by
    intro a
    simp only [sumT, tap, List.getD_cons_zero, List.getD_cons_succ, e1, e2, fourZ, twoZ]
    omega
  have two : ∀ a : Int, a + sumT [(-1, 1), (1, 1)] xs i 2 = twoZ xs i + a := by
    intro a
    simp only [sumT, tap, List.getD_cons_zero, List.getD_cons_succ, e2, twoZ]
    omega
  have one : sumT [(-1, 1)] xs i 1 = atZ xs (i - 1) := by
    simp only [sumT, tap, List.getD_cons_zero, e2]
    omega
  have one2 : ∀ a : Int, a + sumT [(1, 1)] xs i 1 = atZ xs (i + 1) + a := by
    intro a
    simp only [sumT, tap, List.getD_cons_zero]
    omega
  unfold tapsL tapsA tapsO stepZ
  cases odd
  · simp only [Bool.false_eq_true, if_false]
    by_cases h0 : f = 0 ∨ f = 1
    · rw [if_pos h0, if_pos h0, if_pos h0, if_pos h0]
      show wrap64 (2 + sumT [(-1, 1), (1, 1)] xs i 2) / 4 = _
      rw [two]
    · rw [if_neg h0, if_neg h0, if_neg h0, if_neg h0]
      by_cases h2 : f = 2
      · rw [if_pos h2, if_pos h2, if_pos h2, if_pos h2]
        show wrap64 (16 + sumT [(-3, -1), (-1, 9), (1, 9), (3, -1)] xs i 4) / 32 = _
        rw [four]
      · rw [if_neg h2, if_neg h2, if_neg h2, if_neg h2]
        show wrap64 (1 + sumT [(1, 1)] xs i 1) / 2 = _
        rw [one2]
  · simp only [if_true]
    by_cases h0 : f = 0 ∨ f = 2
    · rw [if_pos h0, if_pos h0, if_pos h0, if_pos h0, if_neg (by omega)]
      show wrap64 (8 + sumT [(-3, -1), (-1, 9), (1, 9), (3, -1)] xs i 4) / 16 = _
      rw [four]
    · rw [if_neg h0, if_neg h0, if_neg h0, if_neg h0]
      by_cases h2 : f = 1
      · rw [if_pos h2, if_pos h2, if_pos h2, if_pos h2]
        show wrap64 (1 + sumT [(-1, 1), (1, 1)] xs i 2) / 2 = _
        rw [two]
      · rw [if_neg h2, if_neg h2, if_neg h2, if_neg h2]
        show wrap64 (0 + sumT [(-1, 1)] xs i 1) / 1 = _
        rw [one, Int.zero_add, h1, Int.ediv_one]

theorem OwnI.empty (w : World) {B : Nat} (hB : B ≤ w.heap.size) : OwnI (w.alloc (.cells #[] 3)) B (.slice (some ⟨w.heap.size, 0, none⟩) 0 0) [] :=
  World.ownsRow_lit w #[] 0 hB (by unfold maxLen; omega) rfl
theorem wrapk (n : Int) : IntKind.i64.wrap n = wrap64 n := by rw [IntKind.wrap_i64, wrap64_def]

theorem ret_val {k : IntKind} {a b : Int} (h : a = b) : Value.int k a = .int k b := by rw [h]
theorem stepsZ_set (first : Nat) (hf : first < 2) (sign : Int) (S : List Int → Int → Int) (xs : List Int) (k : Nat) (hk : first + 2 * k < xs.length) :
    (stepsZ first sign S xs k).set (first + 2 * k) (wrap64 (rdn xs (first + 2 * k) + wrap64 (sign * S xs ((first + 2 * k : Nat) : Int)))) = stepsZ first sign S xs (k + 1) := by
  conv => lhs; unfold stepsZ
  rw [tab_set]
  unfold stepsZ
  refine tab_congr fun x hx => ?_
  by_cases e : x = first + 2 * k
  · subst e
    rw [if_pos rfl, if_pos (by omega)]
  · rw [if_neg e]
    by_cases h : x % 2 = first ∧ x < first + 2 * k
    · rw [if_pos h, if_pos (by omega)]
    · rw [if_neg h, if_neg (by omega)]
theorem taps_facts (f : Int) (odd : Bool) : (tapsL f odd).length ≤ 4 ∧ 1 ≤ tapsO f odd ∧ tapsO f odd ≤ 32 ∧ 0 ≤ tapsA f odd ∧ tapsA f odd ≤ 16 := by
  unfold tapsL tapsO tapsA
  cases odd <;> simp only [Bool.false_eq_true, if_false, if_true] <;> (repeat' split) <;> simp

set_option maxRecDepth 100000 in
set_option maxHeartbeats 3200000 in
theorem rstep_p (A : Option Addr) (c : Nat) (xs : List Int) (f : Int) (odd : Bool) (p : Nat) (hp : p = if odd then 1 else 0) (sign : Int) (w : World) (hR : ReadsI w A xs) (h2 : 2 ≤ xs.length) (he : xs.length % 2 = 0) (hm : xs.length ≤ 10000) (hin : In64 xs) :
    Calls Try.prog 25 #[.int .i64 f, .slice A xs.length c, .bool odd, .int .i64 sign] w fun e w' => ∃ v, e = .returned v ∧
      OwnI w' w.heap.size v (stepsZ p sign (stepZ f odd) xs ((xs.length + 1 - p) / 2)) ∧ Below w.heap.size w w' := by
  obtain ⟨i0, hi, hz0, hz1, hz2⟩ := info_parts info_int
  have HR := Lib.hid hR
  have He := Lib.hid he
  have Hstep : Hid (∀ i, wrap64 (tapsA f odd + sumT (tapsL f odd) xs i (tapsL f odd).length) / tapsO f odd = stepZ f odd xs i) := Lib.hid (fun i => taps_step f odd xs i hin)
  have Htap : Hid (∀ k, -3 ≤ (tap (tapsL f odd) k).1 ∧ (tap (tapsL f odd) k).1 ≤ 3) := Lib.hid (tap_bd f odd)
  have ⟨f1, f2, f3, f4, f5⟩ := taps_facts f odd
  have hp2 : p < 2 := by rw [hp]; cases odd <;> simp
  have Hp := Lib.hid hp
  have HR0 := Lib.hid hR
  clear hR he hin hp
  generalize stepZ f odd = S at *
  cases odd
  all_goals
    go_enter Try.func25, Try.ntmps25
    go_wp2_with fail
    refine (rtaps_c _ _ _).mono ?_
    rintro e w1 ⟨g, rfl, hblk, hg, hb1⟩
    generalize tapsL f _ = L at *
    generalize tapsA f _ = a at *
    generalize tapsO f _ = o at *
    have Hblk := Lib.hid hblk
    have Hb1 := Lib.hid hb1
    have HR1 := Lib.hid (HR.out.kept hb1)
    have hgl := hblk.lt
    have hs1 := hb1.size
    clear hblk hb1 HR
    go_wp2_with (
      at_builtin
      refine wpList_append_any _ rfl (.tmp 24) (.tmp 25) _ rfl w1.heap.size 3 i0 (.int .i64 0) 1 8 Try.underlying23 hi hz0 hz1 hz2 rfl (by omega) (.slice (some ⟨w1.heap.size, 0, none⟩) 0 0) 0 [] rfl
        (OwnI.empty w1 (Nat.le_refl _)) _ A xs.length c _ rfl (HR1.out.kept ((Below.refl _ _).alloc (Nat.le_refl _) (.cells #[] 3))) (map_int_one xs) (by simp only [maxLen]; omega) (by omega) (by simp) ?_
      intro v2 w2 hown2 hg2 hat2
      have hb2 : Below w1.heap.size w1 w2 := ((Below.refl _ _).alloc (Nat.le_refl _) _).grown hg2 (by simp) (by intro k hk; simp [Value.ownBlock] at hk; omega)
      have ho2 : OwnI w2 w1.heap.size v2 xs := by unfold OwnI; simpa using hown2
      obtain ⟨go, c2, rfl, hgo, hgo2, _, _⟩ := ho2.form (by omega)
      have Ho2 := Lib.hid ho2
      have HR2 := Lib.hid (HR1.out.kept hb2)
      have Hblk2 := Lib.hid (Hblk.out.below hb2 hgl)
      have Hb2 := Lib.hid (Hb1.out.trans (hb2.mono hs1))
      have hs2 := hb2.size
      clear hown2 hg2 hat2 hb2 ho2 HR1 Hblk Hb1)
    all_goals
      clear hi hz0 hz1 hz2
      go_loopw [13] (fun v wr => ∃ k : Nat, p + 2 * k ≤ xs.length + 1 ∧ v = .int .i64 ((p + 2 * k : Nat) : Int) ∧ OwnI wr w1.heap.size (.slice (some ⟨go, 0, none⟩) xs.length c2) (stepsZ p sign S xs k) ∧
        ReadsI wr A xs ∧ Blk wr g 47 (tapCells L) ∧ Below w.heap.size w wr ∧ w2.heap.size ≤ wr.heap.size) (fun v _ => xs.length + 2 - (intOf v).toNat)
      case atStart => exact ⟨0, by omega, by rw [Hp.out]; simp [*], by rw [stepsZ_zero]; exact Ho2.out, HR2.out, Hblk2.out, Hb2.out, Nat.le_refl _⟩
      case round =>
        clear Ho2 HR2 Hblk2 Hb2
        obtain ⟨wo, rfl⟩ : ∃ wo : World, wo = wr := ⟨_, rfl⟩
        obtain ⟨k, hk, rfl, ho, hr, hbl, hb, hsz⟩ := hrel
        have Ho := Lib.hid ho
        have Hr := Lib.hid hr
        have Hbl := Lib.hid hbl
        have Hb := Lib.hid hb
        have hsb := hb.size
        clear ho hr hbl hb
        obtain ⟨j, Hj⟩ : ∃ j, Hid (p + 2 * k = j) := ⟨_, rfl⟩
        rw [Hj.out]
        by_cases hlt : j < xs.length
        · have e0 : wrap64 (a + sumT L xs j 0) = a := by
            show wrap64 (a + 0) = a
            rw [Int.add_zero]
            exact wrap64_id (by omega) (by omega)
          have E0 := Lib.hid e0
          clear e0
          go_wp2_with fail
          go_loopw [14, 37] (fun s v wr => ∃ q : Nat, q ≤ L.length ∧ v = .int .i64 q ∧ s = .int .i64 (wrap64 (a + sumT L xs j q)) ∧ Below wo.heap.size wo wr) (fun s v _ => L.length - (intOf v).toNat)
          case atStart => exact ⟨0, by omega, rfl, by rw [E0.out], Below.refl _ _⟩
          case round =>
            obtain ⟨q, hq, rfl, rfl, hbq⟩ := hrel
            have Hbq := Lib.hid hbq
            have hsq := hbq.size
            clear hbq
            by_cases hlq : q < L.length
            · have ⟨t1, t2⟩ := tapCells_at L q hlq
              have hblq := Hbl.out.below Hbq.out (by omega)
              have k1 : wr.cell? ⟨g, q * 2, none⟩ = some (.int .i64 (tap L q).1) := (hblq.cell (q * 2)).trans t1
              have k2 : wr.cell? ⟨g, q * 2 + 1, none⟩ = some (.int .i64 (tap L q).2) := (hblq.cell (q * 2 + 1)).trans t2
              have ⟨b1, b2⟩ := Htap.out q
              have Hnew : Hid (sumT L xs j (q + 1) = sumT L xs j q + (tap L q).2 * atZ xs ((j : Int) + (tap L q).1)) := Lib.hid rfl
              have HRq := Lib.hid (Hr.out.kept Hbq.out)
              clear t1 t2 hblq
              generalize (tap L q).1 = ta at *
              generalize (tap L q).2 = tb at *
              go_wp2_with fail
              have e1 : IntKind.i64.wrap ((j : Int) + ta) = (j : Int) + ta := IntWalk.i64_in _ (by omega)
              have hrat : ∀ n, Calls Try.prog 33 #[.slice A xs.length c, .int .i64 ((j : Int) + ta)] ((wr.alloc (.cells #[.int .i64 ta, .int .i64 tb] 47)).drewN n) fun e w' => e = .returned (.int .i64 (atZ xs ((j : Int) + ta))) ∧ w' = (wr.alloc (.cells #[.int .i64 ta, .int .i64 tb] 47)).drewN n := fun n =>
                (rat_c A c xs _ _ ((HRq.out.kept ((Below.refl _ _).alloc (Nat.le_refl _) _)).kept (below_drewN (Below.refl _ _) n)) h2 He.out (by omega) (by omega) (by omega)).mono fun e w' h => ⟨h.1, h.2.symm⟩
              have Hrat := Lib.hid hrat
              clear hrat
              go_quiet ((go_at_call 33; exact Calls.quiet_of_same (Hrat.out _)))
              clear e1
              go_wp2_with fail
              go_roundw
              case rel =>
                refine ⟨q + 1, by omega, by go_num, ret_val ?_, Hbq.out.trans ((below_drewN ((Below.refl _ _).alloc (Nat.le_refl _) _) _).mono hsq)⟩
                try simp only [wrapk]
                rw [Hnew.out, wrap64_add_r, wrap64_add_l, Int.add_assoc]
              case measure => simp [intOf]; omega
            · obtain rfl : q = L.length := by omega
              have hoq := Ho.out.kept Hbq.out
              have hl : (stepsZ p sign S xs k).length = xs.length := tab_length _ _
              have st2 : rdn (stepsZ p sign S xs k) (p + 2 * k) = rdn xs (p + 2 * k) := by
                unfold stepsZ
                rw [rdn_tab _ _ (by have := Hj.out; omega), if_neg (by omega)]
              have st3 : (stepsZ p sign S xs k).set (p + 2 * k) (wrap64 (rdn xs (p + 2 * k) + wrap64 (sign * S xs ((p + 2 * k : Nat) : Int)))) = stepsZ p sign S xs (k + 1) := stepsZ_set p hp2 sign _ xs k (by have := Hj.out; omega)
              rw [Hj.out] at st2 st3
              have hc := hoq.cellr (i := j) (by rw [hl]; exact hlt)
              have hfz := hoq.frozenr j
              rw [st2] at hc
              have ⟨s1, s2⟩ := wrap64_bd (a + sumT L xs j L.length)
              have Hsv := Lib.hid (Hstep.out j)
              have St3 := Lib.hid st3
              have Hoq := Lib.hid hoq
              have x1 : (0 : Int) ≤ (j : Int) := by omega
              have x2 : (j : Int) < (xs.length : Int) := by omega
              clear hoq hl st2 st3
              generalize wrap64 (a + sumT L xs j L.length) = sv at *
              generalize rdn xs j = y at *
              rw [← Hsv.out] at St3
              clear Hsv
              have Hq := Lib.hid ((rdown_c sv o wr.drew f2 (by omega) s1 s2).mono (R' := fun e w'' => e = .returned (.int .i64 (sv / o)) ∧ w'' = wr.drew) fun e w' h => ⟨h.1, h.2.symm⟩)
              generalize sv / o = z at *
              go_wp2_with fail
              go_still_tail 11, (by kernel_rfl)
              still_call Hq.out
              repeat still_step
              refine wpStill_nil ?_
              change wpList _ _ _ _ _ wr.drew
              go_wp2_with fail
              go_roundw
              case rel =>
                have hp := (Hoq.out.put j (wrap64 (y + wrap64 (sign * z)))).drew
                rw [St3.out] at hp
                have hgne : g ≠ go := by omega
                refine ⟨k + 1, by have := Hj.out; omega, ?_, ?_, ?_, ?_, ?_, ?_⟩
                · have := Hj.out
                  go_num
                · simpa [wrapk] using hp
                · exact HR0.out.kept (((Hb.out.trans (Hbq.out.mono hsb)).setCell (p := ⟨go, j, none⟩) (by dsimp only; omega) _).drew)
                · exact ((Hbl.out.below Hbq.out (by omega)).far (p := ⟨go, j, none⟩) hgne _).drew
                · exact ((Hb.out.trans (Hbq.out.mono hsb)).setCell (p := ⟨go, j, none⟩) (by dsimp only; omega) _).drew
                · simp; omega
              case measure => simp [intOf]; omega
        · have Hk : Hid ((xs.length + 1 - p) / 2 = k) := Lib.hid (by have := Hj.out; omega)
          go_wp2_with fail
          go_ret
          rw [Hk.out]
          exact ⟨_, rfl, OwnI.lower Ho.out hs1, Hb.out⟩

theorem rstep_c (A : Option Addr) (c : Nat) (xs : List Int) (f : Int) (odd : Bool) (sign : Int) (w : World) (hR : ReadsI w A xs) (h2 : 2 ≤ xs.length) (he : xs.length % 2 = 0) (hm : xs.length ≤ 10000) (hin : In64 xs) :
    Calls Try.prog 25 #[.int .i64 f, .slice A xs.length c, .bool odd, .int .i64 sign] w fun e w' => ∃ v, e = .returned v ∧
      OwnI w' w.heap.size v (stepsZ (if odd then 1 else 0) sign (stepZ f odd) xs ((xs.length + 1 - (if odd then 1 else 0)) / 2)) ∧ Below w.heap.size w w' := rstep_p A c xs f odd _ rfl sign w hR h2 he hm hin

end Go.Proofs.Ytceecaohfnamnaa
