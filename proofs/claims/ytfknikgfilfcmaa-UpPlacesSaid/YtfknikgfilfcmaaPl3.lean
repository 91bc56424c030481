/- Planes: two planes joined, number by number. -/
import Derived.Test.YtfknikgfilfcmaaPl2
namespace Go.Proofs.Ytfknikgfilfcmaa
open Go.RowKit
set_option linter.unusedVariables false
set_option linter.unusedSimpArgs false

set_option maxRecDepth 100000 in
set_option maxHeartbeats 6400000 in
theorem pjoined_yes0 (F : Nat) (f : Int → Int → Int) (a b : Nat) (V V' : List Int) (A A' : Option Addr) (c c' : Nat) (w : World) (hR : ReadsI w A V) (hR' : ReadsI w A' V') (h1 : 1 ≤ a) (h2 : a ≤ 1024) (h3 : 1 ≤ b) (h4 : b ≤ 1024)
    (hl : V.length = a * b) (hl' : V'.length = a * b) (hcf : ∀ (args : Array Value) (W : World), (callFunc F args).run Try.prog W = .ok (.enter F args) W)
    (hF : ∀ W x y, Below w.heap.size w W → Calls Try.prog F #[.int .i64 x, .int .i64 y] W fun e w' => e = .returned (.int .i64 (f x y)) ∧ W = w') :
    Calls Try.prog 31 #[plV a b (.slice A V.length c), plV a b (.slice A' V'.length c'), .func (.func F) #[] #[]] w fun e w' =>
      ∃ g, e = .returned (plV a b (.slice (some ⟨g, 0, none⟩) (a * b) (a * b))) ∧ w.heap.size ≤ g ∧ RowI w' g (fillL (a * b) (fun k => f (rdn V k) (rdn V' k)) (a * b)) ∧ Below w.heap.size w w' := by
  have HF := Lib.hid hF
  have hok : okB a b V.length = true := by rw [hl]; exact okB_mk h1 h2 h3 h4
  have hok' : okB a b V'.length = true := by rw [hl']; exact okB_mk h1 h2 h3 h4
  have Hbo := Lib.hid (show bothB a b V.length a b V'.length = true by simp [bothB, hok, hok'])
  have ha := area_bd (W := a) (H := b) (by omega) (by omega) (by omega) (by omega)
  have hN : ((a * b : Nat) : Int) = (a : Int) * (b : Int) := Int.natCast_mul a b
  have hnb : a * b ≤ 1048576 := by omega
  have HL := Lib.hid hl
  have HL' := Lib.hid hl'
  have hn : V.length ≤ 1048576 := by omega
  have hn' : V'.length ≤ 1048576 := by omega
  have e0 := (((Below.refl w.heap.size w).alloc (Nat.le_refl _) (.cells #[.int .i64 a, .int .i64 b, .slice A V.length c] 24)).alloc (by simp) (.cells #[.int .i64 a, .int .i64 b, .slice A' V'.length c'] 24)).alloc (by simp; omega) (.cells #[.int .i64 0, .int .i64 0, .slice none 0 0] 24)
  have ⟨e1, e2⟩ := two_new w (.cells #[.int .i64 a, .int .i64 b, .slice A V.length c] 24) (.cells #[.int .i64 a, .int .i64 b, .slice A' V'.length c'] 24)
  have E0 := Lib.hid e0
  have E1 := Lib.hid (Blk.alloc (t := 24) e1 (.cells #[.int .i64 0, .int .i64 0, .slice none 0 0] 24))
  have E2 := Lib.hid (Blk.alloc (t := 24) e2 (.cells #[.int .i64 0, .int .i64 0, .slice none 0 0] 24))
  have e3 := Blk.new ((w.alloc (.cells #[.int .i64 a, .int .i64 b, .slice A V.length c] 24)).alloc (.cells #[.int .i64 a, .int .i64 b, .slice A' V'.length c'] 24)) 24 #[.int .i64 0, .int .i64 0, .slice none 0 0]
  simp only [World.size_alloc] at e3
  have E3 := Lib.hid e3
  clear e0 e1 e2 e3 hok hok' hF hl hl' hN ha
  go_enter Try.func31, Try.ntmps31
  go_wp2_with fail
  refine (pboth_c a b A V.length c a b A' V'.length c' _ (by omega) (by omega)).mono ?_
  rintro e w1 ⟨rfl, hb1⟩
  rw [Hbo.out]
  have hz1 := hb1.size
  simp at hz1
  have P1 := Lib.hid (E1.out.below hb1 (by simp; omega))
  have P2 := Lib.hid (E2.out.below hb1 (by simp))
  have P3 := Lib.hid (E3.out.below hb1 (by simp))
  have PB := Lib.hid (E0.out.trans (hb1.mono (by simp; omega)))
  clear hb1 E0 E1 E2 E3
  have c0 := P1.out.cell 0
  have c1 := P1.out.cell 1
  simp at c0 c1
  go_wp2_with fail
  refine (pnew_yes a b _ h1 h2 h3 h4).mono ?_
  rintro e w2 ⟨g, rfl, hg, hrow, hb2⟩
  have hz2 := hb2.size
  have D1 := P1.out.below hb2 (by omega)
  have D2 := P2.out.below hb2 (by omega)
  have D3 := P3.out.below hb2 (by omega)
  have DB := PB.out.trans (hb2.mono (by omega))
  have hgl := hrow.lt
  have hz3 : w.heap.size < w2.heap.size := by omega
  have hz4 : w.heap.size + 1 < w2.heap.size := by omega
  have hz5 : w.heap.size + 1 + 1 < w2.heap.size := by omega
  clear P1 P2 P3 PB hb2 c0 c1
  have d2 := D1.cell 2
  simp at d2
  go_wp2_with fail
  have D4 := Blk.new w2 24 #[.int .i64 a, .int .i64 b, .slice (some ⟨g, 0, none⟩) (a * b) (a * b)]
  have D1 := Lib.hid (D1.alloc (.cells #[.int .i64 a, .int .i64 b, .slice (some ⟨g, 0, none⟩) (a * b) (a * b)] 24))
  have D2 := Lib.hid (D2.alloc (.cells #[.int .i64 a, .int .i64 b, .slice (some ⟨g, 0, none⟩) (a * b) (a * b)] 24))
  have D3 := Lib.hid (D3.alloc (.cells #[.int .i64 a, .int .i64 b, .slice (some ⟨g, 0, none⟩) (a * b) (a * b)] 24))
  have hrow := Blk.alloc hrow (.cells #[.int .i64 a, .int .i64 b, .slice (some ⟨g, 0, none⟩) (a * b) (a * b)] 24)
  have DB := Lib.hid (DB.alloc (by omega) (.cells #[.int .i64 a, .int .i64 b, .slice (some ⟨g, 0, none⟩) (a * b) (a * b)] 24))
  have D4 := Lib.hid D4
  rw [← fillL_zero (a * b) (fun k => f (rdn V k) (rdn V' k))] at hrow
  have D5 := Lib.hid hrow
  clear d2 hrow
  generalize w2.alloc (.cells #[.int .i64 a, .int .i64 b, .slice (some ⟨g, 0, none⟩) (a * b) (a * b)] 24) = w3 at *
  generalize hm : a * b = m at *
  go_loopw [23] (fun v wr => ∃ k : Nat, k ≤ m ∧ v = .int .i64 k ∧ RowI wr g (fillL m (fun k => f (rdn V k) (rdn V' k)) k) ∧ Blk wr (w.heap.size + 1) 24 #[.int .i64 a, .int .i64 b, .slice A' V'.length c'] ∧ Blk wr (w.heap.size + 1 + 1) 24 #[.int .i64 0, .int .i64 0, .slice none 0 0] ∧
    Blk wr w2.heap.size 24 #[.int .i64 a, .int .i64 b, .slice (some ⟨g, 0, none⟩) m m] ∧ Below w.heap.size w wr) (fun v _ => m - (intOf v).toNat)
  case atStart => exact ⟨0, Nat.zero_le _, rfl, D5.out, D2.out, D3.out, D4.out, DB.out⟩
  case round =>
    obtain ⟨k, hk, rfl, hr, hq, ho, hv, hb⟩ := hrel
    clear D1 D2 D3 D4 D5 DB
    have Hr := Lib.hid hr
    have Hq := Lib.hid hq
    have Ho := Lib.hid ho
    have Hv := Lib.hid hv
    have HB := Lib.hid hb
    by_cases hlt : k < m
    · obtain ⟨ad, rfl, l1, k1⟩ := hR.rd_ (i := k) (by have := HL.out; omega)
      obtain ⟨ad', rfl, l2, k2⟩ := hR'.rd_ (i := k) (by have := HL'.out; omega)
      have d1 : wr.cell? (ad.add k) = some (.int .i64 (rdn V k)) := (hb.cell (by rw [block_of_add]; exact l1)).trans k1
      have d2 : wr.cell? (ad'.add k) = some (.int .i64 (rdn V' k)) := (hb.cell (by rw [block_of_add]; exact l2)).trans k2
      have d3 := hv.cell 2
      have d4 := hq.cell 2
      have d5 := hr.cell (i := k) (by rw [fillL_length]; exact hlt)
      have d6 := hr.frozen k
      have Hc := Lib.hid (HF.out wr.drew (rdn V k) (rdn V' k) (hb.drew))
      clear hr hq ho hv hb k1 k2
      simp at d3 d4
      have i1 : (0 : Int) ≤ (k : Int) := by omega
      have i2 : (k : Int) < (V.length : Int) := by have := HL.out; omega
      have i3 : (k : Int) < (V'.length : Int) := by have := HL'.out; omega
      have i4 : (k : Int) < (m : Int) := by omega
      go_wp2_with fail
      have Hq : Calls Try.prog F #[.int .i64 (rdn V k), .int .i64 (rdn V' k)] wr.drew fun e w'' => e = .returned (.int .i64 (f (rdn V k) (rdn V' k))) ∧ w'' = wr.drew := Hc.out.mono fun e w' ⟨h1, h2⟩ => ⟨h1, h2.symm⟩
      have HQ := Lib.hid Hq
      clear Hq
      go_still_tail 12, (by kernel_rfl)
      repeat (first | still_step | still_call HQ.out)
      refine wpStill_nil ?_
      change wpList _ _ _ _ _ wr.drew
      go_wp2_with fail
      go_roundw
      case rel =>
        have hrb : Blk wr g 3 _ := Hr.out
        exact ⟨k + 1, by omega, by go_num, (by rw [← fillL_set _ _ _ hlt]; exact Hr.out.set_ _ _), Hq.out.far (Hq.out.ne_ hrb (by decide)) _, Ho.out.far (Ho.out.ne_ hrb (by decide)) _,
          Hv.out.far (Hv.out.ne_ hrb (by decide)) _, (HB.out.setCell (by simp; omega) _).drew⟩
      case measure => simp [intOf]; omega
    · obtain rfl : k = m := by omega
      have HM := Lib.hid hm
      clear hm
      have i2 : decide (k < V.length) = false := by have := HL.out; simp; omega
      have d0 := hv.cell 0
      have d1 := hv.cell 1
      have d2 := hv.cell 2
      have f0 := ho.frozen 0
      have f1 := ho.frozen 1
      have f2 := ho.frozen 2
      have g0 := ho.cell 0
      have g1 := ho.cell 1
      have g2 := ho.cell 2
      clear hr hq ho hv hb
      simp at d0 d1 d2 g0 g1 g2
      go_wp2_with fail
      have hm := HM.out
      subst hm
      have hrow := ((Ho.out.set_ 0 (.int .i64 a)).set_ 1 (.int .i64 b)).set_ 2 (.slice (some ⟨g, 0, none⟩) (a * b) (a * b))
      have hrb : Blk wr g 3 _ := Hr.out
      have hne := hrb.ne_ Ho.out (by decide)
      refine bodyPost_ret (results_cell_row rfl _ _ (w.heap.size + 1 + 1) 24 _ (0, 0) _ rfl hrow Try.underlying24 rfl (by kernel_rfl)) rfl ?_
      exact ⟨g, rfl, by omega, ((hrb.far hne _).far hne _).far hne _, ((HB.out.setCell (by simp; omega) _).setCell (by simp; omega) _).setCell (by simp; omega) _⟩

set_option maxRecDepth 100000 in
set_option maxHeartbeats 6400000 in
theorem pjoined_yes2 (F : Nat) (f : Int → Int → Int) (p1 p2 : Value) (a b : Nat) (V V' : List Int) (A A' : Option Addr) (c c' : Nat) (w : World) (hR : ReadsI w A V) (hR' : ReadsI w A' V') (h1 : 1 ≤ a) (h2 : a ≤ 1024) (h3 : 1 ≤ b) (h4 : b ≤ 1024)
    (hl : V.length = a * b) (hl' : V'.length = a * b) (hcf : ∀ (args : Array Value) (W : World), (callFunc F args).run Try.prog W = .ok (.enter F args) W)
    (hF : ∀ W x y, Below w.heap.size w W → Calls Try.prog F #[.int .i64 x, .int .i64 y, p1, p2] W fun e w' => e = .returned (.int .i64 (f x y)) ∧ W = w') :
    Calls Try.prog 31 #[plV a b (.slice A V.length c), plV a b (.slice A' V'.length c'), .func (.func F) #[] #[p1, p2]] w fun e w' =>
      ∃ g, e = .returned (plV a b (.slice (some ⟨g, 0, none⟩) (a * b) (a * b))) ∧ w.heap.size ≤ g ∧ RowI w' g (fillL (a * b) (fun k => f (rdn V k) (rdn V' k)) (a * b)) ∧ Below w.heap.size w w' := by
  have HF := Lib.hid hF
  have hok : okB a b V.length = true := by rw [hl]; exact okB_mk h1 h2 h3 h4
  have hok' : okB a b V'.length = true := by rw [hl']; exact okB_mk h1 h2 h3 h4
  have Hbo := Lib.hid (show bothB a b V.length a b V'.length = true by simp [bothB, hok, hok'])
  have ha := area_bd (W := a) (H := b) (by omega) (by omega) (by omega) (by omega)
  have hN : ((a * b : Nat) : Int) = (a : Int) * (b : Int) := Int.natCast_mul a b
  have hnb : a * b ≤ 1048576 := by omega
  have HL := Lib.hid hl
  have HL' := Lib.hid hl'
  have hn : V.length ≤ 1048576 := by omega
  have hn' : V'.length ≤ 1048576 := by omega
  have e0 := (((Below.refl w.heap.size w).alloc (Nat.le_refl _) (.cells #[.int .i64 a, .int .i64 b, .slice A V.length c] 24)).alloc (by simp) (.cells #[.int .i64 a, .int .i64 b, .slice A' V'.length c'] 24)).alloc (by simp; omega) (.cells #[.int .i64 0, .int .i64 0, .slice none 0 0] 24)
  have ⟨e1, e2⟩ := two_new w (.cells #[.int .i64 a, .int .i64 b, .slice A V.length c] 24) (.cells #[.int .i64 a, .int .i64 b, .slice A' V'.length c'] 24)
  have E0 := Lib.hid e0
  have E1 := Lib.hid (Blk.alloc (t := 24) e1 (.cells #[.int .i64 0, .int .i64 0, .slice none 0 0] 24))
  have E2 := Lib.hid (Blk.alloc (t := 24) e2 (.cells #[.int .i64 0, .int .i64 0, .slice none 0 0] 24))
  have e3 := Blk.new ((w.alloc (.cells #[.int .i64 a, .int .i64 b, .slice A V.length c] 24)).alloc (.cells #[.int .i64 a, .int .i64 b, .slice A' V'.length c'] 24)) 24 #[.int .i64 0, .int .i64 0, .slice none 0 0]
  simp only [World.size_alloc] at e3
  have E3 := Lib.hid e3
  clear e0 e1 e2 e3 hok hok' hF hl hl' hN ha
  go_enter Try.func31, Try.ntmps31
  go_wp2_with fail
  refine (pboth_c a b A V.length c a b A' V'.length c' _ (by omega) (by omega)).mono ?_
  rintro e w1 ⟨rfl, hb1⟩
  rw [Hbo.out]
  have hz1 := hb1.size
  simp at hz1
  have P1 := Lib.hid (E1.out.below hb1 (by simp; omega))
  have P2 := Lib.hid (E2.out.below hb1 (by simp))
  have P3 := Lib.hid (E3.out.below hb1 (by simp))
  have PB := Lib.hid (E0.out.trans (hb1.mono (by simp; omega)))
  clear hb1 E0 E1 E2 E3
  have c0 := P1.out.cell 0
  have c1 := P1.out.cell 1
  simp at c0 c1
  go_wp2_with fail
  refine (pnew_yes a b _ h1 h2 h3 h4).mono ?_
  rintro e w2 ⟨g, rfl, hg, hrow, hb2⟩
  have hz2 := hb2.size
  have D1 := P1.out.below hb2 (by omega)
  have D2 := P2.out.below hb2 (by omega)
  have D3 := P3.out.below hb2 (by omega)
  have DB := PB.out.trans (hb2.mono (by omega))
  have hgl := hrow.lt
  have hz3 : w.heap.size < w2.heap.size := by omega
  have hz4 : w.heap.size + 1 < w2.heap.size := by omega
  have hz5 : w.heap.size + 1 + 1 < w2.heap.size := by omega
  clear P1 P2 P3 PB hb2 c0 c1
  have d2 := D1.cell 2
  simp at d2
  go_wp2_with fail
  have D4 := Blk.new w2 24 #[.int .i64 a, .int .i64 b, .slice (some ⟨g, 0, none⟩) (a * b) (a * b)]
  have D1 := Lib.hid (D1.alloc (.cells #[.int .i64 a, .int .i64 b, .slice (some ⟨g, 0, none⟩) (a * b) (a * b)] 24))
  have D2 := Lib.hid (D2.alloc (.cells #[.int .i64 a, .int .i64 b, .slice (some ⟨g, 0, none⟩) (a * b) (a * b)] 24))
  have D3 := Lib.hid (D3.alloc (.cells #[.int .i64 a, .int .i64 b, .slice (some ⟨g, 0, none⟩) (a * b) (a * b)] 24))
  have hrow := Blk.alloc hrow (.cells #[.int .i64 a, .int .i64 b, .slice (some ⟨g, 0, none⟩) (a * b) (a * b)] 24)
  have DB := Lib.hid (DB.alloc (by omega) (.cells #[.int .i64 a, .int .i64 b, .slice (some ⟨g, 0, none⟩) (a * b) (a * b)] 24))
  have D4 := Lib.hid D4
  rw [← fillL_zero (a * b) (fun k => f (rdn V k) (rdn V' k))] at hrow
  have D5 := Lib.hid hrow
  clear d2 hrow
  generalize w2.alloc (.cells #[.int .i64 a, .int .i64 b, .slice (some ⟨g, 0, none⟩) (a * b) (a * b)] 24) = w3 at *
  generalize hm : a * b = m at *
  go_loopw [23] (fun v wr => ∃ k : Nat, k ≤ m ∧ v = .int .i64 k ∧ RowI wr g (fillL m (fun k => f (rdn V k) (rdn V' k)) k) ∧ Blk wr (w.heap.size + 1) 24 #[.int .i64 a, .int .i64 b, .slice A' V'.length c'] ∧ Blk wr (w.heap.size + 1 + 1) 24 #[.int .i64 0, .int .i64 0, .slice none 0 0] ∧
    Blk wr w2.heap.size 24 #[.int .i64 a, .int .i64 b, .slice (some ⟨g, 0, none⟩) m m] ∧ Below w.heap.size w wr) (fun v _ => m - (intOf v).toNat)
  case atStart => exact ⟨0, Nat.zero_le _, rfl, D5.out, D2.out, D3.out, D4.out, DB.out⟩
  case round =>
    obtain ⟨k, hk, rfl, hr, hq, ho, hv, hb⟩ := hrel
    clear D1 D2 D3 D4 D5 DB
    have Hr := Lib.hid hr
    have Hq := Lib.hid hq
    have Ho := Lib.hid ho
    have Hv := Lib.hid hv
    have HB := Lib.hid hb
    by_cases hlt : k < m
    · obtain ⟨ad, rfl, l1, k1⟩ := hR.rd_ (i := k) (by have := HL.out; omega)
      obtain ⟨ad', rfl, l2, k2⟩ := hR'.rd_ (i := k) (by have := HL'.out; omega)
      have d1 : wr.cell? (ad.add k) = some (.int .i64 (rdn V k)) := (hb.cell (by rw [block_of_add]; exact l1)).trans k1
      have d2 : wr.cell? (ad'.add k) = some (.int .i64 (rdn V' k)) := (hb.cell (by rw [block_of_add]; exact l2)).trans k2
      have d3 := hv.cell 2
      have d4 := hq.cell 2
      have d5 := hr.cell (i := k) (by rw [fillL_length]; exact hlt)
      have d6 := hr.frozen k
      have Hc := Lib.hid (HF.out wr.drew (rdn V k) (rdn V' k) (hb.drew))
      clear hr hq ho hv hb k1 k2
      simp at d3 d4
      have i1 : (0 : Int) ≤ (k : Int) := by omega
      have i2 : (k : Int) < (V.length : Int) := by have := HL.out; omega
      have i3 : (k : Int) < (V'.length : Int) := by have := HL'.out; omega
      have i4 : (k : Int) < (m : Int) := by omega
      go_wp2_with fail
      have Hq : Calls Try.prog F #[.int .i64 (rdn V k), .int .i64 (rdn V' k), p1, p2] wr.drew fun e w'' => e = .returned (.int .i64 (f (rdn V k) (rdn V' k))) ∧ w'' = wr.drew := Hc.out.mono fun e w' ⟨h1, h2⟩ => ⟨h1, h2.symm⟩
      have HQ := Lib.hid Hq
      clear Hq
      go_still_tail 12, (by kernel_rfl)
      repeat (first | still_step | still_call HQ.out)
      refine wpStill_nil ?_
      change wpList _ _ _ _ _ wr.drew
      go_wp2_with fail
      go_roundw
      case rel =>
        have hrb : Blk wr g 3 _ := Hr.out
        exact ⟨k + 1, by omega, by go_num, (by rw [← fillL_set _ _ _ hlt]; exact Hr.out.set_ _ _), Hq.out.far (Hq.out.ne_ hrb (by decide)) _, Ho.out.far (Ho.out.ne_ hrb (by decide)) _,
          Hv.out.far (Hv.out.ne_ hrb (by decide)) _, (HB.out.setCell (by simp; omega) _).drew⟩
      case measure => simp [intOf]; omega
    · obtain rfl : k = m := by omega
      have HM := Lib.hid hm
      clear hm
      have i2 : decide (k < V.length) = false := by have := HL.out; simp; omega
      have d0 := hv.cell 0
      have d1 := hv.cell 1
      have d2 := hv.cell 2
      have f0 := ho.frozen 0
      have f1 := ho.frozen 1
      have f2 := ho.frozen 2
      have g0 := ho.cell 0
      have g1 := ho.cell 1
      have g2 := ho.cell 2
      clear hr hq ho hv hb
      simp at d0 d1 d2 g0 g1 g2
      go_wp2_with fail
      have hm := HM.out
      subst hm
      have hrow := ((Ho.out.set_ 0 (.int .i64 a)).set_ 1 (.int .i64 b)).set_ 2 (.slice (some ⟨g, 0, none⟩) (a * b) (a * b))
      have hrb : Blk wr g 3 _ := Hr.out
      have hne := hrb.ne_ Ho.out (by decide)
      refine bodyPost_ret (results_cell_row rfl _ _ (w.heap.size + 1 + 1) 24 _ (0, 0) _ rfl hrow Try.underlying24 rfl (by kernel_rfl)) rfl ?_
      exact ⟨g, rfl, by omega, ((hrb.far hne _).far hne _).far hne _, ((HB.out.setCell (by simp; omega) _).setCell (by simp; omega) _).setCell (by simp; omega) _⟩

set_option maxRecDepth 100000 in
set_option maxHeartbeats 3200000 in
theorem pjoined_no (F : Nat) (caps : Array Value) (W H : Int) (n : Nat) (W' H' : Int) (n' : Nat) (A A' : Option Addr) (c c' : Nat) (w : World) (hn : n ≤ 9223372036854775807) (hn' : n' ≤ 9223372036854775807)
    (hbo : bothB W H n W' H' n' = false) :
    Calls Try.prog 31 #[plV W H (.slice A n c), plV W' H' (.slice A' n' c'), .func (.func F) #[] caps] w fun e w' =>
      e = .returned (plV 0 0 (.slice none 0 0)) ∧ Below w.heap.size w w' := by
  have Hbo := Lib.hid hbo
  clear hbo
  have e0 := (((Below.refl w.heap.size w).alloc (Nat.le_refl _) (.cells #[.int .i64 W, .int .i64 H, .slice A n c] 24)).alloc (by simp) (.cells #[.int .i64 W', .int .i64 H', .slice A' n' c'] 24)).alloc (by simp; omega) (.cells #[.int .i64 0, .int .i64 0, .slice none 0 0] 24)
  have e3 := Blk.new ((w.alloc (.cells #[.int .i64 W, .int .i64 H, .slice A n c] 24)).alloc (.cells #[.int .i64 W', .int .i64 H', .slice A' n' c'] 24)) 24 #[.int .i64 0, .int .i64 0, .slice none 0 0]
  simp only [World.size_alloc] at e3
  have E0 := Lib.hid e0
  have E3 := Lib.hid e3
  clear e0 e3
  go_enter Try.func31, Try.ntmps31
  go_wp2_with fail
  refine (pboth_c W H A n c W' H' A' n' c' _ (by omega) (by omega)).mono ?_
  rintro e w1 ⟨rfl, hb1⟩
  rw [Hbo.out]
  have hz1 := hb1.size
  simp at hz1
  have p3 := E3.out.below hb1 (by simp)
  have P3 := Lib.hid p3
  have PB := Lib.hid (E0.out.trans (hb1.mono (by simp; omega)))
  have f0 := p3.frozen 0
  have f1 := p3.frozen 1
  have f2 := p3.frozen 2
  have g0 := p3.cell 0
  have g1 := p3.cell 1
  have g2 := p3.cell 2
  clear hb1 E0 E3 p3
  simp at g0 g1 g2
  go_wp2_with fail
  have hrow := ((P3.out.set_ 0 (.int .i64 0)).set_ 1 (.int .i64 0)).set_ 2 (.slice none 0 0)
  refine bodyPost_ret (results_cell_row rfl _ _ (w.heap.size + 1 + 1) 24 _ (0, 0) _ rfl hrow Try.underlying24 rfl (by kernel_rfl)) rfl ?_
  exact ⟨rfl, ((PB.out.setCell (by simp; omega) _).setCell (by simp; omega) _).setCell (by simp; omega) _⟩

end Go.Proofs.Ytfknikgfilfcmaa
