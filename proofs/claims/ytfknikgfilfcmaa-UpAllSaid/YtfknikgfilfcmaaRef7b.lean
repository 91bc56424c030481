/- The document's planes: their sums, and clipped ones. -/
import Derived.Test.YtfknikgfilfcmaaRef7
namespace Go.Proofs.Ytfknikgfilfcmaa
open Go.RowKit
set_option linter.unusedVariables false
set_option linter.unusedSimpArgs false




set_option maxRecDepth 100000 in
set_option maxHeartbeats 6400000 in
theorem rclip_yes (lo hi : Int) (a b : Nat) (V : List Int) (A : Option Addr) (c : Nat) (w : World) (hR : ReadsI w A V) (h1 : 1 ≤ a) (h2 : a ≤ 1024) (h3 : 1 ≤ b) (h4 : b ≤ 1024) (hl : V.length = a * b) :
    Calls Try.prog 24 #[plV a b (.slice A V.length c), .int .i64 lo, .int .i64 hi] w fun e w' =>
      ∃ g, e = .returned (plV a b (.slice (some ⟨g, 0, none⟩) (a * b) (a * b))) ∧ w.heap.size ≤ g ∧ RowI w' g (fillL (a * b) (fun k => min (max (rdn V k) lo) hi) (a * b)) ∧ Below w.heap.size w w' := by
  have hok : okB a b V.length = true := by rw [hl]; exact okB_mk h1 h2 h3 h4
  have Hbo := Lib.hid hok
  have ha := area_bd (W := a) (H := b) (by omega) (by omega) (by omega) (by omega)
  have hN : ((a * b : Nat) : Int) = (a : Int) * (b : Int) := Int.natCast_mul a b
  have hnb : a * b ≤ 1048576 := by omega
  have HL := Lib.hid hl
  have hn : V.length ≤ 1048576 := by omega
  have e0 := ((Below.refl w.heap.size w).alloc (Nat.le_refl _) (.cells #[.int .i64 a, .int .i64 b, .slice A V.length c] 24)).alloc (by simp) (.cells #[.int .i64 0, .int .i64 0, .slice none 0 0] 24)
  have ⟨e1, e3⟩ := two_new w (.cells #[.int .i64 a, .int .i64 b, .slice A V.length c] 24) (.cells #[.int .i64 0, .int .i64 0, .slice none 0 0] 24)
  have E0 := Lib.hid e0
  have E1 := Lib.hid (show Blk _ _ 24 _ from e1)
  have E3 := Lib.hid (show Blk _ _ 24 _ from e3)
  clear e0 e1 e3 hok hl hN ha
  go_enter Try.func24, Try.ntmps24
  go_wp2_with fail
  refine (rright_c a b A V.length c _ (by omega)).mono ?_
  rintro e w1 ⟨rfl, hb1⟩
  rw [Hbo.out]
  have hz1 := hb1.size
  simp at hz1
  have P1 := Lib.hid (E1.out.below hb1 (by simp; omega))
  have P3 := Lib.hid (E3.out.below hb1 (by simp))
  have PB := Lib.hid (E0.out.trans (hb1.mono (by simp; omega)))
  clear hb1 E0 E1 E3
  have c0 := P1.out.cell 0
  have c1 := P1.out.cell 1
  simp at c0 c1
  go_wp2_with fail
  refine (rnew_yes a b _ h1 h2 h3 h4).mono ?_
  rintro e w2 ⟨g, rfl, hg, hrow, hb2⟩
  have hz2 := hb2.size
  have D1 := P1.out.below hb2 (by omega)
  have D3 := P3.out.below hb2 (by omega)
  have DB := PB.out.trans (hb2.mono (by omega))
  have hgl := hrow.lt
  have hz3 : w.heap.size < w2.heap.size := by omega
  have hz4 : w.heap.size + 1 < w2.heap.size := by omega
  clear P1 P3 PB hb2 c0 c1
  have d2 := D1.cell 2
  simp at d2
  go_wp2_with fail
  have D4 := Blk.new w2 24 #[.int .i64 a, .int .i64 b, .slice (some ⟨g, 0, none⟩) (a * b) (a * b)]
  have D1 := Lib.hid (D1.alloc (.cells #[.int .i64 a, .int .i64 b, .slice (some ⟨g, 0, none⟩) (a * b) (a * b)] 24))
  have D3 := Lib.hid (D3.alloc (.cells #[.int .i64 a, .int .i64 b, .slice (some ⟨g, 0, none⟩) (a * b) (a * b)] 24))
  have hrow := Blk.alloc hrow (.cells #[.int .i64 a, .int .i64 b, .slice (some ⟨g, 0, none⟩) (a * b) (a * b)] 24)
  have DB := Lib.hid (DB.alloc (by omega) (.cells #[.int .i64 a, .int .i64 b, .slice (some ⟨g, 0, none⟩) (a * b) (a * b)] 24))
  have D4 := Lib.hid D4
  rw [← fillL_zero (a * b) (fun k => min (max (rdn V k) lo) hi)] at hrow
  have D5 := Lib.hid hrow
  clear d2 hrow
  generalize w2.alloc (.cells #[.int .i64 a, .int .i64 b, .slice (some ⟨g, 0, none⟩) (a * b) (a * b)] 24) = w3 at *
  generalize hm : a * b = m at *
  go_loopw [22] (fun v wr => ∃ k : Nat, k ≤ m ∧ v = .int .i64 k ∧ RowI wr g (fillL m (fun k => min (max (rdn V k) lo) hi) k) ∧ Blk wr (w.heap.size + 1) 24 #[.int .i64 0, .int .i64 0, .slice none 0 0] ∧
    Blk wr w2.heap.size 24 #[.int .i64 a, .int .i64 b, .slice (some ⟨g, 0, none⟩) m m] ∧ Below w.heap.size w wr) (fun v _ => m - (intOf v).toNat)
  case atStart => exact ⟨0, Nat.zero_le _, rfl, D5.out, D3.out, D4.out, DB.out⟩
  case round =>
    obtain ⟨k, hk, rfl, hr, ho, hv, hb⟩ := hrel
    clear D1 D3 D4 D5 DB
    have Hr := Lib.hid hr
    have Ho := Lib.hid ho
    have Hv := Lib.hid hv
    have HB := Lib.hid hb
    by_cases hlt : k < m
    · obtain ⟨ad, rfl, l1, k1⟩ := hR.rd_ (i := k) (by have := HL.out; omega)
      have d1 : wr.cell? (ad.add k) = some (.int .i64 (rdn V k)) := (hb.cell (by rw [block_of_add]; exact l1)).trans k1
      have d3 := hv.cell 2
      have d5 := hr.cell (i := k) (by rw [fillL_length]; exact hlt)
      have d6 := hr.frozen k
      clear hr ho hv hb k1
      simp at d3
      have i1 : (0 : Int) ≤ (k : Int) := by omega
      have i2 : (k : Int) < (V.length : Int) := by have := HL.out; omega
      have i4 : (k : Int) < (m : Int) := by omega
      have hfs : (fillL m (fun k => min (max (rdn V k) lo) hi) k).set k (min (max (rdn V k) lo) hi) = fillL m (fun k => min (max (rdn V k) lo) hi) (k + 1) := fillL_set _ _ _ hlt
      have HFS := Lib.hid hfs
      clear hfs
      have fin : ∀ x, x = min (max (rdn V k) lo) hi → RowI (wr.setCell ⟨g, k, none⟩ (.int .i64 x)) g (fillL m (fun k => min (max (rdn V k) lo) hi) (k + 1)) := fun x e => by rw [e, ← HFS.out]; exact Hr.out.set_ _ _
      have FIN := Lib.hid fin
      clear fin
      by_cases t1 : rdn V k < lo
      · by_cases t2 : hi < lo
        all_goals
          go_wp2_with fail
          go_roundw
          case rel =>
            have hrb : Blk wr g 3 _ := Hr.out
            exact ⟨k + 1, by omega, by go_num, FIN.out _ (by omega), Ho.out.far (Ho.out.ne_ hrb (by decide)) _, Hv.out.far (Hv.out.ne_ hrb (by decide)) _, HB.out.setCell (by simp; omega) _⟩
          case measure => simp [intOf]; omega
      · by_cases t2 : hi < rdn V k
        all_goals
          go_wp2_with fail
          go_roundw
          case rel =>
            have hrb : Blk wr g 3 _ := Hr.out
            exact ⟨k + 1, by omega, by go_num, FIN.out _ (by omega), Ho.out.far (Ho.out.ne_ hrb (by decide)) _, Hv.out.far (Hv.out.ne_ hrb (by decide)) _, HB.out.setCell (by simp; omega) _⟩
          case measure => simp [intOf]; omega
    · obtain rfl : k = m := by omega
      have HM := Lib.hid hm
      clear hm
      have i2 : decide (k < V.length) = false := by have := HL.out; simp; omega
      have d0 := hv.cell 0
      have d1 := hv.cell 1
      have d2 := hv.cell 2
      have f0 := ho.frozen 0
      have f1 := ho.frozen 1
      have f2 := ho.frozen 2
      have g0 := ho.cell 0
      have g1 := ho.cell 1
      have g2 := ho.cell 2
      clear hr ho hv hb
      simp at d0 d1 d2 g0 g1 g2
      go_wp2_with fail
      have hm := HM.out
      subst hm
      have hrow := ((Ho.out.set_ 0 (.int .i64 a)).set_ 1 (.int .i64 b)).set_ 2 (.slice (some ⟨g, 0, none⟩) (a * b) (a * b))
      have hrb : Blk wr g 3 _ := Hr.out
      have hne := hrb.ne_ Ho.out (by decide)
      refine bodyPost_ret (results_cell_row rfl _ _ (w.heap.size + 1) 24 _ (0, 0) _ rfl hrow Try.underlying24 rfl (by kernel_rfl)) rfl ?_
      exact ⟨g, rfl, by omega, ((hrb.far hne _).far hne _).far hne _, ((HB.out.setCell (by simp) _).setCell (by simp) _).setCell (by simp) _⟩

set_option maxRecDepth 100000 in
set_option maxHeartbeats 3200000 in
theorem rclip_no (lo hi : Int) (W H : Int) (n : Nat) (A : Option Addr) (c : Nat) (w : World) (hn : n ≤ 9223372036854775807) (hbo : okB W H n = false) :
    Calls Try.prog 24 #[plV W H (.slice A n c), .int .i64 lo, .int .i64 hi] w fun e w' => e = .returned (plV 0 0 (.slice none 0 0)) ∧ Below w.heap.size w w' := by
  have Hbo := Lib.hid hbo
  clear hbo
  have e0 := ((Below.refl w.heap.size w).alloc (Nat.le_refl _) (.cells #[.int .i64 W, .int .i64 H, .slice A n c] 24)).alloc (by simp) (.cells #[.int .i64 0, .int .i64 0, .slice none 0 0] 24)
  have ⟨e1, e3⟩ := two_new w (.cells #[.int .i64 W, .int .i64 H, .slice A n c] 24) (.cells #[.int .i64 0, .int .i64 0, .slice none 0 0] 24)
  have E0 := Lib.hid e0
  have E3 := Lib.hid (show Blk _ _ 24 _ from e3)
  clear e0 e3 e1
  go_enter Try.func24, Try.ntmps24
  go_wp2_with fail
  refine (rright_c W H A n c _ (by omega)).mono ?_
  rintro e w1 ⟨rfl, hb1⟩
  rw [Hbo.out]
  have hz1 := hb1.size
  simp at hz1
  have p3 := E3.out.below hb1 (by simp)
  have P3 := Lib.hid p3
  have PB := Lib.hid (E0.out.trans (hb1.mono (by simp; omega)))
  have f0 := p3.frozen 0
  have f1 := p3.frozen 1
  have f2 := p3.frozen 2
  have g0 := p3.cell 0
  have g1 := p3.cell 1
  have g2 := p3.cell 2
  clear hb1 E0 E3 p3
  simp at g0 g1 g2
  go_wp2_with fail
  have hrow := ((P3.out.set_ 0 (.int .i64 0)).set_ 1 (.int .i64 0)).set_ 2 (.slice none 0 0)
  refine bodyPost_ret (results_cell_row rfl _ _ (w.heap.size + 1) 24 _ (0, 0) _ rfl hrow Try.underlying24 rfl (by kernel_rfl)) rfl ?_
  exact ⟨rfl, ((PB.out.setCell (by simp) _).setCell (by simp) _).setCell (by simp) _⟩

theorem rclip_c (lo hi : Int) (W H : Int) (V : List Int) (A : Option Addr) (c : Nat) (w : World) (hR : ReadsI w A V) (hn : V.length ≤ 9223372036854775807) :
    Calls Try.prog 24 #[plV W H (.slice A V.length c), .int .i64 lo, .int .i64 hi] w (PlRes (joinP (fun x _ => min (max x lo) hi) W H V W H V) w) := by
  have hbb : bothB W H V.length W H V.length = okB W H V.length := by simp [bothB]
  cases h : okB W H V.length with
  | false =>
    refine (rclip_no lo hi W H _ A c w hn h).mono ?_
    rintro e w' ⟨rfl, hb⟩
    unfold joinP
    rw [hbb, h]
    exact ⟨_, rfl, OwnI.nil _ _, hb⟩
  | true =>
    have h0 := h
    obtain ⟨a, b, rfl, rfl, h1, h2, h3, h4, h5⟩ := okB_nat h
    refine (rclip_yes lo hi a b V A c w hR h1 h2 h3 h4 h5).mono ?_
    rintro e w' ⟨g, rfl, hg, hr, hb⟩
    unfold joinP
    rw [if_pos (hbb.trans h0)]
    have ho := RowI.own hr hg (by rw [fillL_length]; have := area_bd (W := a) (H := b) (by omega) (by omega) (by omega) (by omega); unfold maxLen; have : ((a * b : Nat) : Int) = (a : Int) * (b : Int) := Int.natCast_mul a b; omega)
    rw [fillL_length, ← h5] at ho
    exact ⟨_, by rw [← h5], ho, hb⟩

end Go.Proofs.Ytfknikgfilfcmaa
