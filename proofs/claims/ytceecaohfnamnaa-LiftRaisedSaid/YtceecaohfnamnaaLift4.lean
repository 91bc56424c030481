/- What Part of package lift answers. -/
import Derived.Test.YtceecaohfnamnaaLift
import Derived.Test.YtceecaohfnamnaaOwn2
import Derived.Deep.RegionHeld3
namespace Go.Proofs.Ytceecaohfnamnaa
open Go.RowKit
set_option linter.unusedVariables false
set_option linter.unusedSimpArgs false

/-- Every other number, the first k of them. -/
def everyK (xs : List Int) (from_ k : Nat) : List Int := tab k fun j => rdn xs (2 * j + from_)
theorem tab_succ (n : Nat) (f : Nat → Int) : tab (n + 1) f = tab n f ++ [f n] := by
  unfold tab
  rw [List.range_succ, List.map_append]
  rfl
theorem everyK_succ (xs : List Int) (from_ k : Nat) : everyK xs from_ (k + 1) = everyK xs from_ k ++ [rdn xs (2 * k + from_)] := tab_succ _ _

set_option maxRecDepth 100000 in
set_option maxHeartbeats 3200000 in
theorem lpart_yes (A : Option Addr) (c : Nat) (xs : List Int) (w : World) (hR : ReadsI w A xs) (hm : xs.length ≤ 100000) (h : rightL xs.length = true) :
    Calls Try.prog 15 #[.slice A xs.length c] w fun e w' => ∃ v u, e = .returned (.tuple #[v, u]) ∧ OwnI w' w.heap.size v (everyK xs 0 (xs.length / 2)) ∧ OwnI w' w.heap.size u (everyK xs 1 (xs.length / 2)) ∧ Diff v u ∧ Below w.heap.size w w' := by
  obtain ⟨i0, hi, hz0, hz1, hz2⟩ := info_parts info_int
  have ⟨hn, he⟩ : 2 ≤ xs.length ∧ xs.length % 2 = 0 := of_decide_eq_true h
  have H := Lib.hid h
  have He := Lib.hid he
  have HR := Lib.hid hR
  clear h he hR
  go_enter Try.func15, Try.ntmps15
  go_wp2_with fail
  refine (lline_c _ _ _ _ (by omega)).mono ?_
  rintro e w1 ⟨rfl, rfl⟩
  rw [H.out]
  go_wp2_with fail
  go_loopw [4, 5, 6] (fun v u i wr => ∃ k : Nat, 2 * k ≤ xs.length ∧ i = .int .i64 ((2 * k : Nat) : Int) ∧ OwnI wr w.heap.size v (everyK xs 0 k) ∧ OwnI wr w.heap.size u (everyK xs 1 k) ∧ Diff v u ∧ Below w.heap.size w wr) (fun v u i _ => xs.length - (intOf i).toNat)
  case atStart => exact ⟨0, by omega, by simp, OwnI.nil _ _, OwnI.nil _ _, Diff.nil_l _ _ _, Below.refl _ _⟩
  case round =>
    obtain ⟨k, hk, rfl, hv, hu, hd, hb⟩ := hrel
    have hlv : (everyK xs 0 k).length = k := tab_length _ _
    have hlu : (everyK xs 1 k).length = k := tab_length _ _
    by_cases hlt : 2 * k < xs.length
    · obtain ⟨ad, rfl, ha, hc1⟩ := HR.out.rd_ (i := 2 * k) (by omega)
      obtain ⟨ad2, e2, _, hc2⟩ := HR.out.rd_ (i := 2 * k + 1) (by have := He.out; omega)
      cases e2
      have hlt2 : 2 * k + 1 < xs.length := by have := He.out; omega
      have c1 : wr.cell? (ad.add (2 * k)) = some (.int .i64 (rdn xs (2 * k))) := (hb.cell (by rw [block_of_add]; exact ha)).trans hc1
      have c2 : wr.cell? (ad.add (2 * k + 1)) = some (.int .i64 (rdn xs (2 * k + 1))) := (hb.cell (by rw [block_of_add]; exact ha)).trans hc2
      have Ha1 : Hid ((ad.add (2 * k)).block < w.heap.size) := Lib.hid (by rw [block_of_add]; exact ha)
      have Hv1 : Hid (everyK xs 0 (k + 1) = everyK xs 0 k ++ [rdn xs (2 * k)]) := Lib.hid (everyK_succ xs 0 k)
      have Hu1 : Hid (everyK xs 1 (k + 1) = everyK xs 1 k ++ [rdn xs (2 * k + 1)]) := Lib.hid (everyK_succ xs 1 k)
      have Hv := Lib.hid hv
      have Hu := Lib.hid hu
      have Hd := Lib.hid hd
      have Hb := Lib.hid hb
      have hsz := hb.size
      have Hlv := Lib.hid hlv
      have Hlu := Lib.hid hlu
      have x1 : (0 : Int) ≤ ((2 * k : Nat) : Int) := by omega
      have x2 : ((2 * k : Nat) : Int) < (xs.length : Int) := by omega
      have x3 : ((2 * k : Nat) : Int) + 1 < (xs.length : Int) := by omega
      clear hc1 hc2 hv hu hd hb hlv hlu hlt hlt2
      generalize rdn xs (2 * k) = x at *
      generalize rdn xs (2 * k + 1) = y at *
      obtain ⟨j, Hj⟩ : ∃ j, Hid (2 * k = j) := ⟨_, rfl⟩
      have hjl : j < xs.length := by have := Hj.out; omega
      rw [Hj.out] at c1 x1 x2 x3 Ha1 ⊢
      have Ha3 : Hid ((⟨ad.block, ad.off + (j + 1), none⟩ : Addr).block < w.heap.size) := Lib.hid ha
      have hvb := fun k hk => (Hv.out.blk_lt k hk).1
      have hub := fun k hk => (Hu.out.blk_lt k hk).1
      have x4 : (0 : Int) ≤ (j : Int) + 1 := by omega
      go_wp2_with fail
      have e1 : IntKind.i64.wrap ((j : Int) + 1) = (j : Int) + 1 := IntWalk.i64_in _ (by omega)
      have e3 : ((j : Int) + 1).toNat = j + 1 := by omega
      have ea : ad.add (2 * k + 1) = ⟨ad.block, ad.off + (2 * k + 1), none⟩ := by simp [Addr.add]
      rw [ea, Hj.out] at c2
      clear ea
      go_region_held3 (fun w' => w'.cell? (ad.add j) = some (.int .i64 x) ∧ w'.cell? ⟨ad.block, ad.off + (j + 1), none⟩ = some (.int .i64 y))
        (first
          | go_keep
          | (go_split_ands; refine ⟨(far_cell (p := ad.add j) hg1 hvb Ha1.out (by first | (simp; omega) | (have := hg1.size; simp at this ⊢; omega))).trans ?_, (far_cell (p := ⟨ad.block, ad.off + (j + 1), none⟩) hg1 hvb Ha3.out (by first | (simp; omega) | (have := hg1.size; simp at this ⊢; omega))).trans ?_⟩ <;> assumption)
          | (go_split_ands; refine ⟨(far_cell (p := ad.add j) hg2 hub Ha1.out (by first | (simp; omega) | (have := hg1.size; simp at this ⊢; omega))).trans ?_, (far_cell (p := ⟨ad.block, ad.off + (j + 1), none⟩) hg2 hub Ha3.out (by first | (simp; omega) | (have := hg1.size; simp at this ⊢; omega))).trans ?_⟩ <;> assumption))
        (first
          | (refine step_app (by rfl) (.tmp 16) (.tmp 21) 23 (by rfl) Try.underlying23 u4 (everyK xs 0 k) (by rfl) w.heap.size ?_ 1 [x] (by rfl) _ _ (by rfl) (cells1 (by simp)) (by rw [Hlv.out]; omega) ?_ ?_
             · (first | exact Hv.out.alloc _ | exact (Hv.out.alloc _).alloc _)
             · (simp; omega)
             intro v1 w1 hown1 hg1 hat1)
          | (refine step_app (by rfl) (.tmp 23) (.tmp 29) 23 (by rfl) Try.underlying23 u5 (everyK xs 1 k) (by rfl) w.heap.size ?_ 1 [y] (by rfl) _ _ (by rfl) (cells1 (by first | (simp; done) | exact (World.cell?_of_block (hg1.block _ (by simp <;> omega) (fun e => absurd (Hv.out.blk_lt _ e.symm).2 (by dsimp only; omega)))).trans (by simp))) (by rw [Hlu.out]; omega) ?_ ?_
             · (first | exact (OwnI.other (Hu.out.alloc _).drew Hd.out hg1 hat1).1.alloc _ | exact (OwnI.other ((Hu.out.alloc _).alloc _).drew Hd.out hg1 hat1).1)
             · (have := hg1.size; simp at this ⊢; omega)
             intro v2 w2 hown2 hg2 hat2))
      all_goals
        clear e1 e3
        have hd1 : Diff v1 u5 := by first | exact (OwnI.other (Hu.out.alloc _).drew Hd.out hg1 hat1).2 | exact (OwnI.other ((Hu.out.alloc _).alloc _).drew Hd.out hg1 hat1).2
        have hx2 : OwnI w2 w.heap.size v1 (everyK xs 0 k ++ [x]) ∧ Diff v2 v1 := by first | exact OwnI.other (hown1.alloc _) hd1.symm hg2 hat2 | exact OwnI.other hown1 hd1.symm hg2 hat2
        have hb1 : Below w.heap.size w w1 := by
          first
            | exact (Hb.out.alloc (by omega) _).drew.grown hg1 (by simp; omega) (fun k hk => (Hv.out.blk_lt k hk).1)
            | exact ((Hb.out.alloc (by omega) _).alloc (by simp; omega) _).drew.grown hg1 (by simp; omega) (fun k hk => (Hv.out.blk_lt k hk).1)
        have hs1 : w.heap.size ≤ w1.heap.size := hb1.size
        have hb2 : Below w.heap.size w w2 := by
          first
            | exact (hb1.alloc hs1 _).grown hg2 (by simp; omega) (fun k hk => (Hu.out.blk_lt k hk).1)
            | exact hb1.grown hg2 hs1 (fun k hk => (Hu.out.blk_lt k hk).1)
        have HX := Lib.hid hx2
        have HY := Lib.hid hown2
        have HB := Lib.hid hb2
        clear hown1 hown2 hg1 hg2 hat1 hat2 hd1 hx2 hb1 hs1 hb2 c1 c2
        go_wp2_with fail
        go_roundw
        case rel =>
          have e := Hj.out
          refine ⟨k + 1, by omega, by go_num, ?_, ?_, HX.out.2.symm, HB.out⟩
          · rw [Hv1.out]; exact HX.out.1
          · rw [Hu1.out]; exact HY.out
        case measure => simp [intOf]; omega
    · have hk2 : xs.length / 2 = k := by have := He.out; omega
      have Hk := Lib.hid hk2
      have HV := Lib.hid hv
      have HU := Lib.hid hu
      have HD := Lib.hid hd
      have HB := Lib.hid hb
      clear hk2 hv hu hd hb hlv hlu
      have hc : decide (((2 * k : Nat) : Int) < (xs.length : Int)) = false := decide_eq_false (by omega)
      go_wp2_with fail
      go_ret2
      rw [Hk.out]
      exact ⟨_, _, rfl, HV.out, HU.out, HD.out, HB.out⟩

end Go.Proofs.Ytceecaohfnamnaa
