/- Bands: the reference's list. -/
import Derived.Test.YtjlajggilcihoaaBd7
import Derived.Test.YtjlajggilcihoaaBd2
namespace Go.Proofs.Ytjlajggilcihoaa
open Go.RowKit
set_option linter.unusedVariables false
set_option linter.unusedSimpArgs false

theorem okF_iff (w h d : Int) : okF w h d = true ↔ padI w d = w ∧ padI h d = h ∧ 1 ≤ w ∧ 1 ≤ h := by
  rw [okF_eq]
  simp only [Bool.and_eq_true, decide_eq_true_eq]
  constructor
  · rintro ⟨⟨⟨a, b⟩, c⟩, e⟩
    exact ⟨b, e, by omega, by omega⟩
  · rintro ⟨a, b, c, e⟩
    exact ⟨⟨⟨by omega, a⟩, by omega⟩, b⟩
theorem p2_succ {d : Int} (h : 0 ≤ d) : p2 (d + 1) = p2 d * 2 := by
  unfold p2
  rw [show (d + 1).toNat = d.toNat + 1 by omega, Int.pow_succ]
theorem half_p2 (w : Int) {d : Int} (h : 0 ≤ d) : w / p2 (d + 1) = w / 2 / p2 d := by
  rw [p2_succ h, Int.mul_comm, ← Int.ediv_ediv_of_nonneg (by decide)]
theorem okF_half {w h d : Int} (e : okF w h (d + 1) = true) (h0 : 0 ≤ d) : okF (w / 2) (h / 2) d = true := by
  obtain ⟨a1, a2, b1, b2, _, d1, e1, e2⟩ := okF_t e
  rw [p2_succ h0] at e1 e2
  unfold okF
  apply decide_eq_true
  rcases p2_in h0 (by omega) with ⟨q, _⟩ | ⟨q, _⟩ | ⟨q, _⟩ | ⟨q, _⟩ | ⟨q, _⟩ | ⟨q, _⟩ | ⟨q, _⟩ <;> rw [q] at e1 e2 ⊢ <;> omega
theorem bandI_half (w h : Int) {d l o : Int} (h0 : 0 ≤ l) (h1 : l ≤ d) : bandI w h (d + 1) l o = bandI (w / 2) (h / 2) d l o := by
  unfold bandI
  have e : d + 1 - max (l - 1) 0 = d - max (l - 1) 0 + 1 := by omega
  rw [e, half_p2 w (by omega), half_p2 h (by omega)]
theorem bandK_half (w h : Int) {d : Int} {k : Nat} (h0 : 0 ≤ d) (hk : k < 3 * d.toNat + 1) : bandK w h (d + 1) k = bandK (w / 2) (h / 2) d k := by
  unfold bandK
  split
  · exact bandI_half w h (by omega) h0
  · exact bandI_half w h (by omega) (by omega)
theorem bandI_top (w h d o : Int) (h0 : 0 ≤ d) : bandI w h (d + 1) (d + 1) o = ⟨d + 1, o, if o % 2 = 1 then w / 2 else 0, if o / 2 % 2 = 1 then h / 2 else 0, w / 2, h / 2⟩ := by
  unfold bandI
  have e : d + 1 - max (d + 1 - 1) 0 = 1 := by omega
  rw [e]
  rfl
theorem bandsK_half (w h : Int) (d : Nat) : bandsK w h ((d : Int) + 1) (3 * (d + 1) + 1) = bandsK (w / 2) (h / 2) d (3 * d + 1) ++
    [⟨(d : Int) + 1, 1, w / 2, 0, w / 2, h / 2⟩, ⟨(d : Int) + 1, 2, 0, h / 2, w / 2, h / 2⟩, ⟨(d : Int) + 1, 3, w / 2, h / 2, w / 2, h / 2⟩] := by
  rw [show 3 * (d + 1) + 1 = 3 * d + 1 + 1 + 1 + 1 by omega, bandsK_succ, bandsK_succ, bandsK_succ]
  have e : ∀ o : Nat, 1 ≤ o → o ≤ 3 → bandK w h ((d : Int) + 1) (3 * d + o) = bandI w h ((d : Int) + 1) ((d : Int) + 1) o := fun o h1 h2 => bandK_at w h _ h1 h2
  rw [e 1 (by omega) (by omega), show 3 * d + 1 + 1 = 3 * d + 2 by omega, e 2 (by omega) (by omega), show 3 * d + 2 + 1 = 3 * d + 3 by omega, e 3 (by omega) (by omega)]
  rw [bandI_top _ _ _ _ (by omega), bandI_top _ _ _ _ (by omega), bandI_top _ _ _ _ (by omega)]
  have hh : bandsK w h ((d : Int) + 1) (3 * d + 1) = bandsK (w / 2) (h / 2) d (3 * d + 1) := List.map_congr_left fun k hk => bandK_half w h (by omega) (by have := List.mem_range.1 hk; omega)
  rw [hh]
  simp
set_option maxRecDepth 100000 in
set_option maxHeartbeats 6400000 in
theorem r10list_no (w h d : Int) (W : World) (hok : okF w h d = false) :
    Calls Try.prog 8 #[.int .i64 w, .int .i64 h, .int .i64 d] W fun e W' => e = .returned (.slice none 0 0) ∧ W = W' := by
  have hn : ¬ (padI w d = w ∧ padI h d = h ∧ 1 ≤ w ∧ 1 ≤ h) := fun e => by rw [(okF_iff w h d).2 e] at hok; cases hok
  have HA := Lib.hid (fun W => r9padded_c w d W)
  have HB := Lib.hid (fun W => r9padded_c h d W)
  generalize padI w d = a at *
  generalize padI h d = b at *
  have HN := Lib.hid hn
  clear hn hok
  cases h2 : (a == w) with
  | false =>
    have n2 : (a != w) = true := by simp [bne, h2]
    clear h2
    go_enter Try.func8, Try.ntmps8
    go_wp2_with fail
    refine (HA.out _).mono ?_
    rintro e w1 ⟨rfl, rfl⟩
    go_wp2_with fail
    go_ret
    exact ⟨rfl, rfl⟩
  | true =>
    have n2 : (a != w) = false := by simp [bne, h2]
    have e2 := Lib.hid (show a = w by simpa using h2)
    clear h2
    cases h4 : (b == h) with
    | false =>
      have n4 : (b != h) = true := by simp [bne, h4]
      clear h4
      go_enter Try.func8, Try.ntmps8
      go_wp2_with fail
      refine (HA.out _).mono ?_
      rintro e w1 ⟨rfl, rfl⟩
      go_wp2_with fail
      refine (HB.out _).mono ?_
      rintro e w1 ⟨rfl, rfl⟩
      go_wp2_with fail
      go_ret
      exact ⟨rfl, rfl⟩
    | true =>
      have n4 : (b != h) = false := by simp [bne, h4]
      have e4 := Lib.hid (show b = h by simpa using h4)
      clear h4
      by_cases h1 : 1 ≤ w
      · have h3 : h < 1 := by have := HN.out; have := e2.out; have := e4.out; omega
        go_enter Try.func8, Try.ntmps8
        go_wp2_with fail
        refine (HA.out _).mono ?_
        rintro e w1 ⟨rfl, rfl⟩
        go_wp2_with fail
        refine (HB.out _).mono ?_
        rintro e w1 ⟨rfl, rfl⟩
        go_wp2_with fail
        go_ret
        exact ⟨rfl, rfl⟩
      · skip
        go_enter Try.func8, Try.ntmps8
        go_wp2_with fail
        refine (HA.out _).mono ?_
        rintro e w1 ⟨rfl, rfl⟩
        go_wp2_with fail
        refine (HB.out _).mono ?_
        rintro e w1 ⟨rfl, rfl⟩
        go_wp2_with fail
        go_ret
        exact ⟨rfl, rfl⟩
set_option maxRecDepth 100000 in
set_option maxHeartbeats 6400000 in
theorem r10list_yes : ∀ (d : Nat) (w h : Int) (W : World), okF w h d = true →
    Calls Try.prog 8 #[.int .i64 w, .int .i64 h, .int .i64 (d : Int)] W fun e W' => ∃ v, e = .returned v ∧ OwnB W' W.heap.size v (bandsK w h d (3 * d + 1)) ∧ Below W.heap.size W W' := by
  intro d
  induction d with
  | zero =>
    intro w h W hok
    have hok : okF w h 0 = true := hok
    show Calls Try.prog _ #[.int .i64 w, .int .i64 h, .int .i64 0] W _
    obtain ⟨e1, e2, w1, h1⟩ := (okF_iff w h _).1 hok
    have HA := Lib.hid (fun W => r9padded_c w 0 W)
    have HB := Lib.hid (fun W => r9padded_c h 0 W)
    have E1 := Lib.hid e1
    have E2 := Lib.hid e2
    have HK := Lib.hid (show bandsK w h ((0 : Nat) : Int) (3 * 0 + 1) = [⟨0, 0, 0, 0, w, h⟩] by rw [show bandsK w h ((0 : Nat) : Int) (3 * 0 + 1) = [bandI w h 0 0 0] from rfl]; unfold bandI; rw [show p2 (0 - max ((0 : Int) - 1) 0) = 1 from rfl]; simp)
    clear e1 e2 hok
    go_enter Try.func8, Try.ntmps8
    go_wp2_with fail
    refine (HA.out _).mono ?_
    rintro e w1 ⟨rfl, rfl⟩
    rw [E1.out]
    go_wp2_with fail
    refine (HB.out _).mono ?_
    rintro e w1 ⟨rfl, rfl⟩
    rw [E2.out]
    go_wp2_with fail
    go_ret
    rw [HK.out]
    have hb := Blk.new W 31 (flB [⟨0, 0, 0, 0, w, h⟩]).toArray
    refine ⟨_, rfl, ⟨rfl, .inr ⟨W.heap.size, 1, _, rfl, Nat.le_refl _, hb, Nat.le_refl _, by unfold maxLen; omega, rfl, rfl⟩⟩, below_alloc_ (Below.refl _ _) _⟩
  | succ d ih =>
    intro w h W hok
    have hok' : okF w h ((d : Int) + 1) = true := by
      have : ((d + 1 : Nat) : Int) = (d : Int) + 1 := by omega
      rw [this] at hok; exact hok
    obtain ⟨e1, e2, w1, h1⟩ := (okF_iff w h _).1 hok'
    have hd := okF_t hok'
    have HA := Lib.hid (fun W => r9padded_c w ((d : Int) + 1) W)
    have HB := Lib.hid (fun W => r9padded_c h ((d : Int) + 1) W)
    have E1 := Lib.hid e1
    have E2 := Lib.hid e2
    have HK := Lib.hid (bandsK_half w h d)
    have HR := Lib.hid (fun W => ih (w / 2) (h / 2) W (okF_half (d := (d : Int)) hok' (Int.natCast_nonneg d)))
    obtain ⟨a, ha⟩ : ∃ a, a = w / 2 := ⟨_, rfl⟩
    obtain ⟨b, hb⟩ : ∃ b, b = h / 2 := ⟨_, rfl⟩
    have F1 : w.tdiv 2 = a := by rw [ha]; exact Int.tdiv_eq_ediv_of_nonneg (Int.le_trans (by decide) w1)
    have F2 : h.tdiv 2 = b := by rw [hb]; exact Int.tdiv_eq_ediv_of_nonneg (Int.le_trans (by decide) h1)
    rw [← ha, ← hb] at HR HK
    have a0 : 0 ≤ a := by omega
    have a1 : a ≤ 1024 := by omega
    have b0 : 0 ≤ b := by omega
    have b1 : b ≤ 1024 := by omega
    have d0 : (0 : Int) ≤ d := by omega
    have d6 : (d : Int) ≤ 6 := by omega
    have EC : ((d + 1 : Nat) : Int) = (d : Int) + 1 := by omega
    rw [EC]
    clear e1 e2 hok hok' ha hb EC hd
    go_enter Try.func8, Try.ntmps8
    go_wp2_with fail
    refine (HA.out _).mono ?_
    rintro e w1 ⟨rfl, rfl⟩
    rw [E1.out]
    go_wp2_with fail
    refine (HB.out _).mono ?_
    rintro e w1 ⟨rfl, rfl⟩
    rw [E2.out]
    go_wp2_with fail
    refine (HR.out _).mono ?_
    rintro e w2 ⟨v, rfl, ho, hb2⟩
    obtain ⟨A1, c1, rfl, _⟩ := ho.slice
    have O2 := Lib.hid ho
    have HB2 := Lib.hid hb2
    have hl := bandsK_length a b d (3 * d + 1)
    rw [hl] at O2 ⊢
    have HL := Lib.hid hl
    clear ho hb2 hl
    have hba := Lib.hid (below_alloc_ (Below.refl w2.heap.size w2) (.cells (flB [⟨(d : Int) + 1, 1, a, 0, a, b⟩, ⟨(d : Int) + 1, 2, 0, b, a, b⟩, ⟨(d : Int) + 1, 3, a, b, a, b⟩]).toArray 31))
    have hlo := Lib.hid (show (bandsK a b d (3 * d + 1)).length + 3 ≤ 1000000 by rw [HL.out]; omega)
    have hsz := Lib.hid (Nat.le_trans HB2.out.size hba.out.size)
    go_wp2_with (
      at_builtin
      refine wpList_appB rfl (.tmp 41) (.tmp 68) 24 rfl Try.underlying24 (.slice A1 (3 * d + 1) c1) (bandsK a b d (3 * d + 1)) rfl W.heap.size (O2.out.kept hba.out) (some ⟨w2.heap.size, 0, none⟩) (w2.heap.size + 1) 3 3 [⟨(d : Int) + 1, 1, a, 0, a, b⟩, ⟨(d : Int) + 1, 2, 0, b, a, b⟩, ⟨(d : Int) + 1, 3, a, b, a, b⟩] rfl rfl (Blk.readsAll (Blk.new w2 31 _) rfl) hlo.out hsz.out ?_
      intro v2 w3 ho2 hg2 hat
      have O3 := Lib.hid ho2
      have HG := Lib.hid hg2
      clear ho2 hg2)
    go_ret
    refine ⟨_, rfl, by rw [HK.out]; exact O3.out, OwnB.below (O2.out.kept hba.out) (HB2.out.trans (hba.out.mono HB2.out.size)) hsz.out HG.out⟩

end Go.Proofs.Ytjlajggilcihoaa
