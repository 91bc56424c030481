/- Fields: lists of blocks cloned and compared. -/
import Derived.Test.YtiedjeholmoccaaFdE
namespace Go.Proofs.Ytiedjeholmoccaa
open Go.RowKit Go.Sort
set_option linter.unusedVariables false
set_option linter.unusedSimpArgs false

theorem ne_first {K L : List Bk} (hl : K.length = L.length) (h : K ≠ L) : ∃ i, i < K.length ∧ kat K i ≠ kat L i ∧ ∀ j, j < i → kat K j = kat L j := by
  rcases Classical.em (∃ i, i < K.length ∧ kat K i ≠ kat L i) with h1 | h1
  · have key : ∀ n, (∃ i, i < n ∧ i < K.length ∧ kat K i ≠ kat L i) → ∃ i, i < K.length ∧ kat K i ≠ kat L i ∧ ∀ j, j < i → kat K j = kat L j := by
      intro n
      induction n with
      | zero => rintro ⟨i, hi, _⟩; omega
      | succ n ih =>
        rintro ⟨i, hi, h2, h3⟩
        by_cases h4 : ∃ j, j < n ∧ j < K.length ∧ kat K j ≠ kat L j
        · exact ih h4
        · refine ⟨i, h2, h3, fun j hj => ?_⟩
          by_cases h5 : kat K j = kat L j
          · exact h5
          · exact absurd ⟨j, by omega, by omega, h5⟩ h4
    obtain ⟨i, h2, h3⟩ := h1
    exact key (i + 1) ⟨i, by omega, h2, h3⟩
  · exact absurd (ext_kat hl (fun p hp => by
      by_cases h2 : kat K p = kat L p
      · exact h2
      · exact absurd ⟨p, hp, h2⟩ h1)) h
theorem ReadsE.bkk {w : World} {A : Option Addr} {K : List Bk} (h : ReadsE EK w A K) {i : Nat} (hi : i < K.length) : ∃ ad, A = some ad ∧ ad.block < w.heap.size ∧ w.cell? (ad.add (i * 9)) = some (.int .i64 (kat K i).m) ∧ w.cell? ⟨(ad.add (i * 9)).block, (ad.add (i * 9)).off + 1, none⟩ = some (.bool (kat K i).g) ∧
    w.cell? ⟨(ad.add (i * 9)).block, (ad.add (i * 9)).off + 2, none⟩ = some (.int .i64 (kat K i).x0) ∧ w.cell? ⟨(ad.add (i * 9)).block, (ad.add (i * 9)).off + 3, none⟩ = some (.int .i64 (kat K i).y0) ∧
    w.cell? ⟨(ad.add (i * 9)).block, (ad.add (i * 9)).off + 4, none⟩ = some (.int .i64 (kat K i).x1) ∧ w.cell? ⟨(ad.add (i * 9)).block, (ad.add (i * 9)).off + 5, none⟩ = some (.int .i64 (kat K i).y1) ∧
    w.cell? ⟨(ad.add (i * 9)).block, (ad.add (i * 9)).off + 6, none⟩ = some (.int .i64 (kat K i).d0) ∧ w.cell? ⟨(ad.add (i * 9)).block, (ad.add (i * 9)).off + 7, none⟩ = some (.int .i64 (kat K i).d1) ∧ w.cell? ⟨(ad.add (i * 9)).block, (ad.add (i * 9)).off + 8, none⟩ = some (.int .i64 (kat K i).d2) := by
  rw [kat_lt hi]
  exact h.bk hi
set_option maxRecDepth 100000 in
set_option maxHeartbeats 6400000 in
theorem seq_y (K L : List Bk) (A A' : Option Addr) (c c' : Nat) (w : World) (hK : ReadsE EK w A K) (hL : ReadsE EK w A' L) (hn : K.length ≤ 9223372036854775807) (hm : L.length ≤ 9223372036854775807) (he : K = L) :
    Calls Try.prog 39 #[.slice A K.length c, .slice A' L.length c'] w fun e w' => e = .returned (.bool true) ∧ Below w.heap.size w w' := by
  have RK := Lib.hid hK
  have RL := Lib.hid hL
  have HE := Lib.hid he
  have hlen : L.length = K.length := by rw [he]
  have hl1 : ((K.length : Int) != (L.length : Int)) = false := by rw [hlen]; simp
  have HLN := Lib.hid hlen
  clear hK hL he hlen
  have HB := Lib.hid (Below.refl w.heap.size w)
  go_enter Try.func39, Try.ntmps39
  go_wp2_with fail
  clear hl1
  go_loopw [13] (fun v wr => ∃ k : Nat, k ≤ K.length ∧ v = .int .i64 k ∧ Below w.heap.size w wr) (fun v _ => K.length - (intOf v).toNat)
  case atStart => exact ⟨0, Nat.zero_le _, rfl, HB.out⟩
  case round =>
    obtain ⟨k, hk, rfl, hb⟩ := hrel
    have HB1 := Lib.hid hb
    obtain ⟨wo, ewo⟩ : ∃ wo, wo = wr := ⟨_, rfl⟩
    subst ewo
    clear hb
    by_cases hlt : k < K.length
    · skip
      obtain ⟨ad, rfl, l1, z0, z1, z2, z3, z4, z5, z6, z7, z8⟩ := ReadsE.bkk (RK.out.kept HB1.out) (i := k) (by omega)
      obtain ⟨ad', rfl, l2, y0, y1, y2, y3, y4, y5, y6, y7, y8⟩ := ReadsE.bkk (RL.out.kept HB1.out) (i := k) (by have := HLN.out; omega)
      have i1 : (0 : Int) ≤ (k : Int) := by omega
      have i2 : (k : Int) < (K.length : Int) := by omega
      have i3 : (k : Int) < (L.length : Int) := by have := HLN.out; omega
      clear l1 l2
      obtain ⟨q, hq⟩ : ∃ q, q = kat K k := ⟨_, rfl⟩
      have hq2 : q = kat L k := by rw [hq]; rw [HE.out]
      rw [← hq] at z0 z1 z2 z3 z4 z5 z6 z7 z8
      rw [← hq2] at y0 y1 y2 y3 y4 y5 y6 y7 y8
      have hne := fun w => ne_bk q q w
      rw [show decide (q = q) = true by simp] at hne
      simp only [Bool.not_true] at hne
      clear hq hq2
      go_wp2_with fail
      have kq0 := cell_regrown z0
      have kq1 := cell_regrown z1
      have kq2 := cell_regrown z2
      have kq3 := cell_regrown z3
      have kq4 := cell_regrown z4
      have kq5 := cell_regrown z5
      have kq6 := cell_regrown z6
      have kq7 := cell_regrown z7
      have kq8 := cell_regrown z8
      have kq9 := cell_regrown y0
      have kq10 := cell_regrown y1
      have kq11 := cell_regrown y2
      have kq12 := cell_regrown y3
      have kq13 := cell_regrown y4
      have kq14 := cell_regrown y5
      have kq15 := cell_regrown y6
      have kq16 := cell_regrown y7
      have kq17 := cell_regrown y8
      clear z0 z1 z2 z3 z4 z5 z6 z7 z8 y0 y1 y2 y3 y4 y5 y6 y7 y8
      refine wp_region_quiet_below (by kernel_rfl) (by kernel_rfl) ?_
      repeat (go_big_quiet_step (fail))
      refine wpQuiet_nil ?_
      intro _ hw'
      obtain ⟨⟨dq, osq⟩, hw''⟩ := hw'
      subst hw''
      have hb' := below_regrown wo dq osq
      clear kq0 kq1 kq2 kq3 kq4 kq5 kq6 kq7 kq8 kq9 kq10 kq11 kq12 kq13 kq14 kq15 kq16 kq17
      have HB1 := Lib.hid ((HB1.out).trans (hb'.mono (HB1.out).size))
      clear hb'
      generalize grow (redrawn wo dq) osq = w1 at *
      clear hne
      go_wp2_with fail
      go_roundw
      case rel => exact ⟨k + 1, by omega, by go_num, HB1.out⟩
      case measure => simp [intOf]; omega
    · skip
      obtain rfl : k = K.length := by omega
      go_wp2_with fail
      go_ret
      exact ⟨rfl, HB1.out⟩
set_option maxRecDepth 100000 in
set_option maxHeartbeats 6400000 in
theorem seq_n (K L : List Bk) (A A' : Option Addr) (c c' : Nat) (w : World) (hK : ReadsE EK w A K) (hL : ReadsE EK w A' L) (hn : K.length ≤ 9223372036854775807) (hm : L.length ≤ 9223372036854775807) (hl : K.length = L.length) (he : K ≠ L) :
    Calls Try.prog 39 #[.slice A K.length c, .slice A' L.length c'] w fun e w' => e = .returned (.bool false) ∧ Below w.heap.size w w' := by
  have RK := Lib.hid hK
  have RL := Lib.hid hL
  obtain ⟨i0, hi0, hx, hj⟩ := ne_first hl he
  have HX := Lib.hid hx
  have HJ := Lib.hid hj
  have hl1 : ((K.length : Int) != (L.length : Int)) = false := by rw [hl]; simp
  have HLN := Lib.hid hl
  clear hK hL he hx hj hl
  have HB := Lib.hid (Below.refl w.heap.size w)
  go_enter Try.func39, Try.ntmps39
  go_wp2_with fail
  clear hl1
  go_loopw [13] (fun v wr => ∃ k : Nat, k ≤ i0 ∧ v = .int .i64 k ∧ Below w.heap.size w wr) (fun v _ => K.length - (intOf v).toNat)
  case atStart => exact ⟨0, Nat.zero_le _, rfl, HB.out⟩
  case round =>
    obtain ⟨k, hk, rfl, hb⟩ := hrel
    have HB1 := Lib.hid hb
    obtain ⟨wo, ewo⟩ : ∃ wo, wo = wr := ⟨_, rfl⟩
    subst ewo
    clear hb
    by_cases hlt : k < i0
    · skip
      obtain ⟨ad, rfl, l1, z0, z1, z2, z3, z4, z5, z6, z7, z8⟩ := ReadsE.bkk (RK.out.kept HB1.out) (i := k) (by omega)
      obtain ⟨ad', rfl, l2, y0, y1, y2, y3, y4, y5, y6, y7, y8⟩ := ReadsE.bkk (RL.out.kept HB1.out) (i := k) (by have := HLN.out; omega)
      have i1 : (0 : Int) ≤ (k : Int) := by omega
      have i2 : (k : Int) < (K.length : Int) := by omega
      have i3 : (k : Int) < (L.length : Int) := by have := HLN.out; omega
      clear l1 l2
      obtain ⟨q, hq⟩ : ∃ q, q = kat K k := ⟨_, rfl⟩
      have hq2 : q = kat L k := by rw [hq]; exact HJ.out k hlt
      rw [← hq] at z0 z1 z2 z3 z4 z5 z6 z7 z8
      rw [← hq2] at y0 y1 y2 y3 y4 y5 y6 y7 y8
      have hne := fun w => ne_bk q q w
      rw [show decide (q = q) = true by simp] at hne
      simp only [Bool.not_true] at hne
      clear hq hq2
      go_wp2_with fail
      have kq0 := cell_regrown z0
      have kq1 := cell_regrown z1
      have kq2 := cell_regrown z2
      have kq3 := cell_regrown z3
      have kq4 := cell_regrown z4
      have kq5 := cell_regrown z5
      have kq6 := cell_regrown z6
      have kq7 := cell_regrown z7
      have kq8 := cell_regrown z8
      have kq9 := cell_regrown y0
      have kq10 := cell_regrown y1
      have kq11 := cell_regrown y2
      have kq12 := cell_regrown y3
      have kq13 := cell_regrown y4
      have kq14 := cell_regrown y5
      have kq15 := cell_regrown y6
      have kq16 := cell_regrown y7
      have kq17 := cell_regrown y8
      clear z0 z1 z2 z3 z4 z5 z6 z7 z8 y0 y1 y2 y3 y4 y5 y6 y7 y8
      refine wp_region_quiet_below (by kernel_rfl) (by kernel_rfl) ?_
      repeat (go_big_quiet_step (fail))
      refine wpQuiet_nil ?_
      intro _ hw'
      obtain ⟨⟨dq, osq⟩, hw''⟩ := hw'
      subst hw''
      have hb' := below_regrown wo dq osq
      clear kq0 kq1 kq2 kq3 kq4 kq5 kq6 kq7 kq8 kq9 kq10 kq11 kq12 kq13 kq14 kq15 kq16 kq17
      have HB1 := Lib.hid ((HB1.out).trans (hb'.mono (HB1.out).size))
      clear hb'
      generalize grow (redrawn wo dq) osq = w1 at *
      clear hne
      go_wp2_with fail
      go_roundw
      case rel => exact ⟨k + 1, by omega, by go_num, HB1.out⟩
      case measure => simp [intOf]; omega
    · skip
      obtain rfl : k = i0 := by omega
      obtain ⟨ad, rfl, l1, z0, z1, z2, z3, z4, z5, z6, z7, z8⟩ := ReadsE.bkk (RK.out.kept HB1.out) (i := k) (by omega)
      obtain ⟨ad', rfl, l2, y0, y1, y2, y3, y4, y5, y6, y7, y8⟩ := ReadsE.bkk (RL.out.kept HB1.out) (i := k) (by have := HLN.out; omega)
      have i1 : (0 : Int) ≤ (k : Int) := by omega
      have i2 : (k : Int) < (K.length : Int) := by omega
      have i3 : (k : Int) < (L.length : Int) := by have := HLN.out; omega
      clear l1 l2
      obtain ⟨q, hq⟩ : ∃ q, q = kat K k := ⟨_, rfl⟩
      obtain ⟨q', hq2⟩ : ∃ q, q = kat L k := ⟨_, rfl⟩
      have hne := fun w => ne_bk q q' w
      rw [show decide (q = q') = false by rw [hq, hq2]; exact decide_eq_false HX.out] at hne
      simp only [Bool.not_false] at hne
      rw [← hq] at z0 z1 z2 z3 z4 z5 z6 z7 z8
      rw [← hq2] at y0 y1 y2 y3 y4 y5 y6 y7 y8
      clear hq hq2
      go_wp2_with fail
      have kq0 := cell_regrown z0
      have kq1 := cell_regrown z1
      have kq2 := cell_regrown z2
      have kq3 := cell_regrown z3
      have kq4 := cell_regrown z4
      have kq5 := cell_regrown z5
      have kq6 := cell_regrown z6
      have kq7 := cell_regrown z7
      have kq8 := cell_regrown z8
      have kq9 := cell_regrown y0
      have kq10 := cell_regrown y1
      have kq11 := cell_regrown y2
      have kq12 := cell_regrown y3
      have kq13 := cell_regrown y4
      have kq14 := cell_regrown y5
      have kq15 := cell_regrown y6
      have kq16 := cell_regrown y7
      have kq17 := cell_regrown y8
      clear z0 z1 z2 z3 z4 z5 z6 z7 z8 y0 y1 y2 y3 y4 y5 y6 y7 y8
      refine wp_region_quiet_below (by kernel_rfl) (by kernel_rfl) ?_
      repeat (go_big_quiet_step (fail))
      refine wpQuiet_nil ?_
      intro _ hw'
      obtain ⟨⟨dq, osq⟩, hw''⟩ := hw'
      subst hw''
      have hb' := below_regrown wo dq osq
      clear kq0 kq1 kq2 kq3 kq4 kq5 kq6 kq7 kq8 kq9 kq10 kq11 kq12 kq13 kq14 kq15 kq16 kq17
      have HB1 := Lib.hid ((HB1.out).trans (hb'.mono (HB1.out).size))
      clear hb'
      generalize grow (redrawn wo dq) osq = w2 at *
      clear hne
      go_wp2_with fail
      go_ret
      exact ⟨rfl, HB1.out⟩
theorem sequal_c (K L : List Bk) (A A' : Option Addr) (c c' : Nat) (w : World) (hK : ReadsE EK w A K) (hL : ReadsE EK w A' L) (hn : K.length ≤ 9223372036854775807) (hm : L.length ≤ 9223372036854775807) :
    Calls Try.prog 39 #[.slice A K.length c, .slice A' L.length c'] w fun e w' => e = .returned (.bool (decide (K = L))) ∧ Below w.heap.size w w' := by
  by_cases hl : K.length = L.length
  · by_cases he : K = L
    · rw [show decide (K = L) = true from decide_eq_true he]
      exact seq_y K L A A' c c' w hK hL hn hm he
    · rw [show decide (K = L) = false from decide_eq_false he]
      exact seq_n K L A A' c c' w hK hL hn hm hl he
  · rw [show decide (K = L) = false from decide_eq_false (fun e => hl (by rw [e]))]
    have hl1 : ((K.length : Int) != (L.length : Int)) = true := by simp; omega
    clear hl
    go_enter Try.func39, Try.ntmps39
    go_wp2_with fail
    go_ret
    exact ⟨rfl, Below.refl _ _⟩
set_option maxRecDepth 100000 in
set_option maxHeartbeats 6400000 in
theorem sclonek_c (K : List Bk) (A : Option Addr) (c : Nat) (w : World) (hK : ReadsE EK w A K) (hn : K.length ≤ 1000000) :
    Calls Try.prog 36 #[.slice A K.length c] w fun e w' => ∃ v, e = .returned v ∧ OwnE EK w' w.heap.size v K ∧ Below w.heap.size w w' := by
  rcases A with _ | ad
  · have hx : K = [] := by
      cases K with
      | nil => rfl
      | cons x xs => obtain ⟨ad, h, _⟩ := hK.2 (by simp); cases h
    subst hx
    have hnil : ∀ w, (binOp .eql 23 (.slice none 0 c) (.slice none 0 0)).run Try.prog w = .ok (.bool true) w := fun _ => rfl
    simp only [List.length_nil]
    go_enter Try.func36, Try.ntmps36
    go_wp2_with fail
    go_ret
    exact ⟨_, rfl, OwnE.nil _ _, Below.refl _ _⟩
  · have hnil : ∀ w, (binOp .eql 23 (.slice (some ad) K.length c) (.slice none 0 0)).run Try.prog w = .ok (.bool false) w := fun _ => rfl
    have hs := World.size_alloc w (.cells #[] 40)
    have ho : OwnE EK (w.alloc (.cells #[] 40)) w.heap.size (.slice (some ⟨w.heap.size, 0, none⟩) 0 0) [] := RowE.own (E := EK) (B := w.heap.size) (RowE.new w []) (Nat.le_refl _) (by decide)
    have hr : Reads (w.alloc (.cells #[] 40)) (w.alloc (.cells #[] 40)).heap.size 9 (some ad) K.length (flE EK K) := hK.alloc (.cells #[] 40)
    have hb0 := below_alloc_ (Below.refl w.heap.size w) (.cells #[] 40)
    have HO := Lib.hid ho
    have HR := Lib.hid hr
    have HB0 := Lib.hid hb0
    have HS := Lib.hid hs
    clear hK hs ho hr hb0
    go_enter Try.func36, Try.ntmps36
    go_wp2_with (
      at_builtin
      refine wpList_appE (E := EK) (by rfl) (.tmp 5) (.tmp 6) 23 (by rfl) Try.underlying23 (.slice (some ⟨w.heap.size, 0, none⟩) 0 0) [] (by rfl) w.heap.size HO.out (some ad) _ K.length c K rfl (by rfl) HR.out (by simp; omega) (by have := HS.out; omega) ?_
      intro v2 w2 ho2 hg2 hat
      rw [List.nil_append] at ho2
      have O2 := Lib.hid ho2
      have HB := Lib.hid (Below.grown HB0.out hg2 (by have := HS.out; omega) (fun k hk => by simp [Value.ownBlock] at hk; omega))
      clear ho2 hg2 hat hnil)
    go_ret
    exact ⟨_, rfl, O2.out, HB.out⟩

end Go.Proofs.Ytiedjeholmoccaa
