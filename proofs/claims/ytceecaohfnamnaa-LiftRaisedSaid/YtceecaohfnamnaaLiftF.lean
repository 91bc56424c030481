/- What must be answered ahead of everything else holds (layer 8). -/
import Derived.Test.YtceecaohfnamnaaRef8d
namespace Go.Proofs.Ytceecaohfnamnaa
open Go.RowKit
set_option linter.unusedVariables false
set_option linter.unusedSimpArgs false

theorem fwd46 : fwdZ 3 [4, 6] = [5, 2] := by decide +kernel
theorem inv52 : invZ 3 [5, 2] = [4, 6] := by decide +kernel
theorem ev0 : everyK [1, 2, 3, 4] 0 2 = [1, 3] := by decide +kernel
theorem ev1 : everyK [1, 2, 3, 4] 1 2 = [2, 4] := by decide +kernel
theorem OwnI.readsr {w : World} {B : Nat} {A : Option Addr} {n c : Nat} {xs : List Int} (h : OwnI w B (.slice A n c) xs) : ReadsI w A xs := by
  obtain ⟨A', c', hv, hR⟩ := h.slice
  injection hv with h1
  subst h1
  exact hR
theorem readsLit (w : World) (xs : List Int) (t : TypeId) (ht : t = 3) (hm : xs.length ≤ 1000) : ReadsI (w.alloc (.cells (xs.map (Value.int .i64)).toArray t)) (some ⟨w.heap.size, 0, none⟩) xs := by
  subst ht
  exact (RowI.new w xs).reads (by unfold maxLen; omega)

set_option maxRecDepth 100000 in
set_option maxHeartbeats 3200000 in
theorem first_c (w : World) :
    Calls Try.prog 7 #[] w fun e w' => e = .returned (.bool true) ∧ Below w.heap.size w w' := by
  have Hf := Lib.hid fwd46
  have Hi := Lib.hid inv52
  have He0 := Lib.hid ev0
  have He1 := Lib.hid ev1
  go_enter Try.func7, Try.ntmps7
  go_wp2_with fail
  refine (lfwd_c _ _ [4, 6] 3 _ (readsLit w [4, 6] _ rfl (by simp)) (by simp)).mono ?_
  rintro e w1 ⟨v, rfl, ho, hb⟩
  rw [Hf.out] at ho
  have ho := OwnI.lower (B' := w.heap.size) ho (by simp)
  have hb : Below w.heap.size w w1 := ((Below.refl _ _).alloc (Nat.le_refl _) _).trans (hb.mono (by simp))
  obtain ⟨A1, c1, rfl, hR1⟩ := ho.slice
  have HR1 := Lib.hid hR1
  have Hb1 := Lib.hid hb
  clear ho hb hR1
  go_wp2_with fail
  refine (lpart_yes _ _ [1, 2, 3, 4] _ (readsLit w1 [1, 2, 3, 4] _ rfl (by simp)) (by simp) (by decide)).mono ?_
  rintro e w2 ⟨va, vb, rfl, hoa, hob, _, hb⟩
  simp only [List.length_cons, List.length_nil, Nat.reduceAdd, Nat.reduceDiv] at hoa hob
  rw [He0.out] at hoa
  rw [He1.out] at hob
  have hb : Below w1.heap.size w1 w2 := ((Below.refl _ _).alloc (Nat.le_refl _) _).trans (hb.mono (by simp))
  obtain ⟨ga, ca, rfl, _, hga, hca, _⟩ := hoa.formr (by simp)
  obtain ⟨gb, cb, rfl, _, hgb, hcb, _⟩ := hob.formr (by simp)
  have HR2 := Lib.hid (HR1.out.kept hb)
  have Hb2 := Lib.hid (Hb1.out.trans (hb.mono Hb1.out.size))
  have Ha := Lib.hid (hca 1 (by simp))
  have Hbb := Lib.hid (hcb 1 (by simp))
  have Hoa := Lib.hid hoa
  have Hob := Lib.hid hob
  clear hoa hob hb hca hcb HR1 Hb1
  go_wp2_with fail
  refine (rsame_c _ _ _ _ [5, 2] [5, 2] _ (HR2.out.kept ((Below.refl _ _).alloc (Nat.le_refl _) _)) (readsLit w2 [5, 2] _ rfl (by simp)) (by simp) (by simp)).mono ?_
  rintro e w3 ⟨rfl, hb⟩
  have hb : Below w2.heap.size w2 w3 := ((Below.refl _ _).alloc (Nat.le_refl _) _).trans (hb.mono (by simp))
  have HR3 := Lib.hid (HR2.out.kept hb)
  have Hb3 := Lib.hid (Hb2.out.trans (hb.mono Hb2.out.size))
  have Ha3 := Lib.hid ((hb.cell (p := ⟨ga, 1, none⟩) hga).trans Ha.out)
  have Hbb3 := Lib.hid ((hb.cell (p := ⟨gb, 1, none⟩) hgb).trans Hbb.out)
  have Hoa3 := Lib.hid (Hoa.out.kept hb)
  have Hob3 := Lib.hid (Hob.out.kept hb)
  have hga := Nat.lt_of_lt_of_le hga hb.size
  have hgb := Nat.lt_of_lt_of_le hgb hb.size
  clear hb HR2 Hb2 Ha Hbb Hoa Hob
  go_wp2_with fail
  refine (linv_c _ _ [5, 2] 3 _ HR3.out (by simp)).mono ?_
  rintro e w4 ⟨v, rfl, ho, hb⟩
  rw [Hi.out] at ho
  obtain ⟨A4, c4, rfl, hR4⟩ := ho.slice
  have HR4 := Lib.hid hR4
  have Hb4 := Lib.hid (Hb3.out.trans (hb.mono Hb3.out.size))
  have Ha4 := Lib.hid ((hb.cell (p := ⟨ga, 1, none⟩) hga).trans Ha3.out)
  have Hbb4 := Lib.hid ((hb.cell (p := ⟨gb, 1, none⟩) hgb).trans Hbb3.out)
  have Hoa4 := Lib.hid (Hoa3.out.kept hb)
  have Hob4 := Lib.hid (Hob3.out.kept hb)
  have hga := Nat.lt_of_lt_of_le hga hb.size
  have hgb := Nat.lt_of_lt_of_le hgb hb.size
  clear hb ho hR4 HR3 Hb3 Ha3 Hbb3 Hoa3 Hob3
  go_wp2_with fail
  refine (rsame_c _ _ _ _ [4, 6] [4, 6] _ (HR4.out.kept ((Below.refl _ _).alloc (Nat.le_refl _) _)) (readsLit w4 [4, 6] _ rfl (by simp)) (by simp) (by simp)).mono ?_
  rintro e w5 ⟨rfl, hb⟩
  have hb : Below w4.heap.size w4 w5 := ((Below.refl _ _).alloc (Nat.le_refl _) _).trans (hb.mono (by simp))
  have Hb5 := Lib.hid (Hb4.out.trans (hb.mono Hb4.out.size))
  have Ha5 : w5.cell? ⟨ga, 1, none⟩ = some (.int .i64 3) := (hb.cell (p := ⟨ga, 1, none⟩) hga).trans Ha4.out
  have Hbb5 : w5.cell? ⟨gb, 1, none⟩ = some (.int .i64 4) := (hb.cell (p := ⟨gb, 1, none⟩) hgb).trans Hbb4.out
  have Hoa5 := Lib.hid (Hoa4.out.kept hb)
  have Hob5 := Lib.hid (Hob4.out.kept hb)
  clear hb HR4 Hb4 Ha4 Hbb4 Hoa4 Hob4
  have hr4 : rightF 4 = true := by decide
  have hr5 : rightF 5 = false := by decide
  have hs1 : shiftF 1 = 1 := by decide
  go_wp2_with (first
    | (go_at_call 13; refine (lright_c _ _).mono ?_; rintro e w' ⟨rfl, rfl⟩)
    | (go_at_call 14; refine (lshift_c _ _).mono ?_; rintro e w' ⟨rfl, rfl⟩)
    | fail)
  refine (lweave_yes (some ⟨ga, 0, none⟩) (some ⟨gb, 0, none⟩) ca cb [1, 3] [2, 4] w5 Hoa5.out.readsr Hob5.out.readsr (by simp) rfl).mono ?_
  rintro e w6 ⟨v, rfl, ho, hb⟩
  obtain ⟨A6, c6, rfl, _⟩ := ho.slice
  rw [show (weaveK [1, 3] [2, 4] ([1, 3] : List Int).length).length = 4 by rw [weaveK_length]; rfl]
  have Hb6 := Lib.hid (Hb5.out.trans (hb.mono Hb5.out.size))
  clear ho hb Hb5 Hoa5 Hob5
  go_wp2_with fail
  all_goals first | exact ⟨rfl, Hb6.out⟩ | (go_ret; exact ⟨rfl, Hb6.out⟩)

end Go.Proofs.Ytceecaohfnamnaa
