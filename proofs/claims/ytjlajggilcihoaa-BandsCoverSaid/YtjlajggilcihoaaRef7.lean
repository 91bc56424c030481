/- The document's planes: right ones, new ones, compared, summed, clipped. -/
import Derived.Test.YtjlajggilcihoaaPl4
namespace Go.Proofs.Ytjlajggilcihoaa
open Go.RowKit
set_option linter.unusedVariables false
set_option linter.unusedSimpArgs false

set_option maxHeartbeats 1600000 in
theorem rright_c (W H : Int) (A : Option Addr) (n c : Nat) (w : World) (hn : n ≤ 9223372036854775807) :
    Calls Try.prog 21 #[plV W H (.slice A n c)] w fun e w' => e = .returned (.bool (okB W H n)) ∧ Below w.heap.size w w' := by
  by_cases h1 : 1 ≤ W
  · by_cases h2 : W ≤ 1024
    · by_cases h3 : 1 ≤ H
      · by_cases h4 : H ≤ 1024
        · have ⟨a5, a6⟩ := area_bd h1 h2 h3 h4
          go_enter Try.func21, Try.ntmps21
          go_wp2_with fail
          go_ret
          exact ⟨ret_bool (by simp [okB, sideB_mk h1 h2, sideB_mk h3 h4]), (Below.refl _ _).alloc (Nat.le_refl _) _⟩
        · have hf : sideB H = false := by simp [sideB]; omega
          have HF := Lib.hid hf
          clear hf
          go_enter Try.func21, Try.ntmps21
          go_wp2_with fail
          go_ret
          exact ⟨ret_bool (by simp [okB, HF.out]), (Below.refl _ _).alloc (Nat.le_refl _) _⟩
      · have hf : sideB H = false := by simp [sideB]; omega
        have HF := Lib.hid hf
        clear hf
        go_enter Try.func21, Try.ntmps21
        go_wp2_with fail
        go_ret
        exact ⟨ret_bool (by simp [okB, HF.out]), (Below.refl _ _).alloc (Nat.le_refl _) _⟩
    · have hf : sideB W = false := by simp [sideB]; omega
      have HF := Lib.hid hf
      clear hf
      go_enter Try.func21, Try.ntmps21
      go_wp2_with fail
      go_ret
      exact ⟨ret_bool (by simp [okB, HF.out]), (Below.refl _ _).alloc (Nat.le_refl _) _⟩
  · have hf : sideB W = false := by simp [sideB]; omega
    have HF := Lib.hid hf
    clear hf
    go_enter Try.func21, Try.ntmps21
    go_wp2_with fail
    go_ret
    exact ⟨ret_bool (by simp [okB, HF.out]), (Below.refl _ _).alloc (Nat.le_refl _) _⟩

set_option maxHeartbeats 1600000 in
theorem rnew_yes (a b : Nat) (w : World) (h1 : 1 ≤ a) (h2 : a ≤ 1024) (h3 : 1 ≤ b) (h4 : b ≤ 1024) :
    Calls Try.prog 22 #[.int .i64 a, .int .i64 b] w fun e w' => ∃ g, e = .returned (plV a b (.slice (some ⟨g, 0, none⟩) (a * b) (a * b))) ∧ w.heap.size ≤ g ∧ RowI w' g (List.replicate (a * b) 0) ∧ Below w.heap.size w w' := by
  have ha := area_bd (W := a) (H := b) (by omega) (by omega) (by omega) (by omega)
  have hN : ((a * b : Nat) : Int) = (a : Int) * (b : Int) := Int.natCast_mul a b
  have hmk := make_int 37 Try.underlying37 (a * b) (by omega)
  rw [hN] at hmk
  clear hN
  obtain ⟨a5, a6⟩ := ha
  have k1 : (1 : Int) ≤ (a : Int) := by omega
  have k2 : (a : Int) ≤ 1024 := by omega
  have k3 : (1 : Int) ≤ (b : Int) := by omega
  have k4 : (b : Int) ≤ 1024 := by omega
  go_enter Try.func22, Try.ntmps22
  go_wp2_with fail
  clear hmk
  refine bodyPost_ret (results_cell_row rfl _ _ w.heap.size 39 #[.int .i64 a, .int .i64 b, .slice (some ⟨w.heap.size + 1, 0, none⟩) (a * b) (a * b)] (0, 0) _ rfl ?_ Try.underlying39 rfl (by kernel_rfl)) rfl ?_
  · exact (Below.heap_alloc _ _ _ (by simp)).trans (heap_alloc_new _ _)
  refine ⟨_, rfl, ?_, ?_, ?_⟩
  · omega
  · exact row_rep' _ _ _
  · exact ((Below.refl _ _).alloc (Nat.le_refl _) _).alloc (by simp) _
theorem rnew_no (x y : Int) (w : World) (h : ¬ (sideB x = true ∧ sideB y = true)) :
    Calls Try.prog 22 #[.int .i64 x, .int .i64 y] w fun e w' => e = .returned (plV 0 0 (.slice none 0 0)) ∧ Below w.heap.size w w' := by
  have hx : x < 1 ∨ 1024 < x ∨ (1 ≤ x ∧ x ≤ 1024 ∧ y < 1) ∨ (1 ≤ x ∧ x ≤ 1024 ∧ 1024 < y) := by
    by_cases h1 : 1 ≤ x
    · by_cases h2 : x ≤ 1024
      · by_cases h3 : 1 ≤ y
        · by_cases h4 : y ≤ 1024
          · exact absurd ⟨sideB_mk h1 h2, sideB_mk h3 h4⟩ h
          · omega
        · omega
      · omega
    · omega
  clear h
  rcases hx with h1 | h1 | ⟨h1, h2, h3⟩ | ⟨h1, h2, h3⟩
  · skip
    go_enter Try.func22, Try.ntmps22
    go_wp2_with fail
    exact bodyPost_ret (results_cell_row rfl _ _ w.heap.size 39 _ (0, 0) _ rfl (heap_alloc_new _ _) Try.underlying39 rfl (by kernel_rfl)) rfl ⟨rfl, (Below.refl _ _).alloc (Nat.le_refl _) _⟩
  · have h0 : 1 ≤ x := by omega
    go_enter Try.func22, Try.ntmps22
    go_wp2_with fail
    exact bodyPost_ret (results_cell_row rfl _ _ w.heap.size 39 _ (0, 0) _ rfl (heap_alloc_new _ _) Try.underlying39 rfl (by kernel_rfl)) rfl ⟨rfl, (Below.refl _ _).alloc (Nat.le_refl _) _⟩
  · skip
    go_enter Try.func22, Try.ntmps22
    go_wp2_with fail
    exact bodyPost_ret (results_cell_row rfl _ _ w.heap.size 39 _ (0, 0) _ rfl (heap_alloc_new _ _) Try.underlying39 rfl (by kernel_rfl)) rfl ⟨rfl, (Below.refl _ _).alloc (Nat.le_refl _) _⟩
  · have h0 : 1 ≤ y := by omega
    go_enter Try.func22, Try.ntmps22
    go_wp2_with fail
    exact bodyPost_ret (results_cell_row rfl _ _ w.heap.size 39 _ (0, 0) _ rfl (heap_alloc_new _ _) Try.underlying39 rfl (by kernel_rfl)) rfl ⟨rfl, (Below.refl _ _).alloc (Nat.le_refl _) _⟩
def newP (x y : Int) : Pl := if sideB x = true ∧ sideB y = true then ⟨x, y, List.replicate (x.toNat * y.toNat) 0⟩ else Pl.none_
theorem rnew_c (x y : Int) (w : World) : Calls Try.prog 22 #[.int .i64 x, .int .i64 y] w (PlRes (newP x y) w) := by
  by_cases h : sideB x = true ∧ sideB y = true
  · have h1 := sideB_t h.1
    have h2 := sideB_t h.2
    obtain ⟨a, rfl⟩ := Int.eq_ofNat_of_zero_le (a := x) (by omega)
    obtain ⟨b, rfl⟩ := Int.eq_ofNat_of_zero_le (a := y) (by omega)
    refine (rnew_yes a b w (by omega) (by omega) (by omega) (by omega)).mono ?_
    rintro e w' ⟨g, rfl, hg, hr, hb⟩
    unfold newP
    rw [if_pos h]
    simp only [Int.toNat_natCast]
    have ho := RowI.own hr hg (by rw [List.length_replicate]; have := area_bd (W := a) (H := b) (by omega) (by omega) (by omega) (by omega); unfold maxLen; have : ((a * b : Nat) : Int) = (a : Int) * (b : Int) := Int.natCast_mul a b; omega)
    rw [List.length_replicate] at ho
    exact ⟨_, rfl, ho, hb⟩
  · refine (rnew_no x y w h).mono ?_
    rintro e w' ⟨rfl, hb⟩
    unfold newP
    rw [if_neg h]
    exact ⟨_, rfl, OwnI.nil _ _, hb⟩



def eqB (W H : Int) (V : List Int) (W' H' : Int) (V' : List Int) : Bool := decide (W = W' ∧ H = H' ∧ V = V')
theorem eqB_iff {W H : Int} {V : List Int} {W' H' : Int} {V' : List Int} : eqB W H V W' H' V' = true ↔ W = W' ∧ H = H' ∧ V = V' := by simp [eqB]
set_option maxHeartbeats 3200000 in
theorem rsame_c (W H : Int) (V : List Int) (W' H' : Int) (V' : List Int) (A A' : Option Addr) (c c' : Nat) (w : World) (hR : ReadsI w A V) (hR' : ReadsI w A' V') (hn : V.length ≤ 9223372036854775806) (hn' : V'.length ≤ 9223372036854775806) :
    Calls Try.prog 17 #[plV W H (.slice A V.length c), plV W' H' (.slice A' V'.length c')] w fun e w' => e = .returned (.bool (eqB W H V W' H' V')) ∧ Below w.heap.size w w' := by
  have hb0 := (((Below.refl w.heap.size w).alloc (Nat.le_refl _) (.cells #[.int .i64 W, .int .i64 H, .slice A V.length c] 39)).alloc (by simp) (.cells #[.int .i64 W', .int .i64 H', .slice A' V'.length c'] 39))
  have ⟨hp, hq⟩ := two_new w (.cells #[.int .i64 W, .int .i64 H, .slice A V.length c] 39) (.cells #[.int .i64 W', .int .i64 H', .slice A' V'.length c'] 39)
  have HB0 := Lib.hid hb0
  have HP := Lib.hid (show Blk _ _ 39 _ from hp)
  have HQ := Lib.hid (show Blk _ _ 39 _ from hq)
  clear hb0 hp hq
  cases e1 : (W == W') with
  | false =>
    have n1 : (W != W') = true := by simp [bne, e1]
    have E1 := Lib.hid e1
    go_enter Try.func17, Try.ntmps17
    go_wp2_with fail
    go_ret
    refine ⟨ret_bool ?_, HB0.out⟩
    have : W ≠ W' := by simpa using E1.out
    simp [eqB, this]
  | true =>
    obtain rfl : W = W' := by simpa using e1
    cases e2 : (H == H') with
    | false =>
      have n1 : (H != H') = true := by simp [bne, e2]
      have E1 := Lib.hid e2
      go_enter Try.func17, Try.ntmps17
      go_wp2_with fail
      go_ret
      refine ⟨ret_bool ?_, HB0.out⟩
      have : H ≠ H' := by simpa using E1.out
      simp [eqB, this]
    | true =>
      obtain rfl : H = H' := by simpa using e2
      clear e1 e2
      by_cases hl : V.length = V'.length
      · have HL := Lib.hid hl
        have hls : ((V.length : Int) != (V'.length : Int)) = false := by rw [hl]; simp
        have hld : ((V.length : Int) == (V'.length : Int)) = true := by rw [hl]; simp
        clear hl
        go_enter Try.func17, Try.ntmps17
        go_wp2_with fail
        clear hls hld
        go_loopw [30] (fun v wr => ∃ k : Nat, k ≤ V.length ∧ v = .int .i64 k ∧ (∀ j, j < k → rdn V j = rdn V' j) ∧ Blk wr w.heap.size 39 #[.int .i64 W, .int .i64 H, .slice A V.length c] ∧ Blk wr (w.heap.size + 1) 39 #[.int .i64 W, .int .i64 H, .slice A' V'.length c'] ∧ Below w.heap.size w wr) (fun v _ => V.length - (intOf v).toNat)
        case atStart => exact ⟨0, Nat.zero_le _, rfl, fun j hj => absurd hj (by omega), HP.out, HQ.out, HB0.out⟩
        case round =>
          obtain ⟨k, hk, rfl, hj, hp, hq, hb⟩ := hrel
          have HJ := Lib.hid hj
          have HB := Lib.hid hb
          have HP1 := Lib.hid hp
          have HQ1 := Lib.hid hq
          have z1 := hp.cell 2
          have z2 := hq.cell 2
          clear hj hp hq HP HQ HB0
          simp at z1 z2
          by_cases hlt : k < V.length
          · obtain ⟨ad, rfl, l1, k1⟩ := hR.rd_ hlt
            obtain ⟨ad', rfl, l2, k2⟩ := hR'.rd_ (i := k) (by have := HL.out; omega)
            have d1 : wr.cell? (ad.add k) = some (.int .i64 (rdn V k)) := (hb.cell (by rw [block_of_add]; exact l1)).trans k1
            have d2 : wr.cell? (ad'.add k) = some (.int .i64 (rdn V' k)) := (hb.cell (by rw [block_of_add]; exact l2)).trans k2
            clear hb k1 k2
            have i1 : (0 : Int) ≤ (k : Int) := by omega
            have i2 : (k : Int) < (V.length : Int) := by omega
            have i3 : (k : Int) < (V'.length : Int) := by have := HL.out; omega
            by_cases he : rdn V k = rdn V' k
            · have hne : (rdn V k != rdn V' k) = false := by simp [he]
              have HE := Lib.hid he
              clear he
              go_wp2_with fail
              go_quiet (fail)
              go_wp2_with fail
              go_roundw
              case rel => exact ⟨k + 1, by omega, by go_num, fun j hj => by
                by_cases e : j = k
                · subst e; exact HE.out
                · exact HJ.out j (by omega), HP1.out.drewN _, HQ1.out.drewN _, below_drewN HB.out _⟩
              case measure => simp [intOf]; omega
            · have hne : (rdn V k != rdn V' k) = true := by simpa using he
              have HE := Lib.hid he
              clear he
              go_wp2_with fail
              go_quiet (fail)
              go_wp2_with fail
              go_ret
              refine ⟨ret_bool ?_, below_drewN HB.out _⟩
              symm
              apply decide_eq_false
              rintro ⟨_, _, rfl⟩
              exact HE.out rfl
          · obtain rfl : k = V.length := by omega
            clear hb
            go_wp2_with fail
            go_ret
            refine ⟨ret_bool ?_, HB.out⟩
            symm
            exact decide_eq_true ⟨rfl, rfl, ext_rdn HL.out (fun i hi => HJ.out i hi)⟩
      · have hne : V ≠ V' := fun e => hl (by rw [e])
        have hd : ((V.length : Int) != (V'.length : Int)) = true := by simp; omega
        clear hl
        have HN := Lib.hid hne
        clear hne
        go_enter Try.func17, Try.ntmps17
        go_wp2_with fail
        go_ret
        exact ⟨ret_bool (by simp [eqB, HN.out]), HB0.out⟩

end Go.Proofs.Ytjlajggilcihoaa
