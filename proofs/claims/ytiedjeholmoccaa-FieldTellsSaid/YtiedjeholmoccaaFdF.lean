/- What first of the laws of layer 16 answers. -/
import Derived.Test.YtiedjeholmoccaaFd14
namespace Go.Proofs.Ytiedjeholmoccaa
open Go.RowKit Go.Sort
set_option linter.unusedVariables false
set_option linter.unusedSimpArgs false
theorem own_two' {w : World} {B B' : Nat} {A A' : Option Addr} {n c n' c' : Nat} {xs : List Int} {K : List Bk} (h : OwnI w B (.slice A n c) xs) (h' : OwnE EK w B' (.slice A' n' c') K) : (Value.slice A n c).ownBlock = none ∨ (Value.slice A n c).ownBlock ≠ (Value.slice A' n' c').ownBlock := by
  cases A with
  | none => exact .inl rfl
  | some a =>
    refine .inr fun e => ?_
    cases A' with
    | none => cases e
    | some a' =>
      rcases h.2 with ⟨e1, _⟩ | ⟨k, cap, cur, e1, hh⟩
      · cases e1
      · rcases h'.2 with ⟨e2, _⟩ | ⟨k', cap', cur', e2, hh'⟩
        · cases e2
        · have q1 : a = ⟨k, 0, none⟩ := by injection e1 with e1; injection e1
          have q2 : a' = ⟨k', 0, none⟩ := by injection e2 with e2; injection e2
          subst q1; subst q2
          exact own_two (B := B) (B' := B') h h' (by injection e with e; exact e.symm)
theorem ReadsE.cl {α : Type} {E : Enc α} {w : World} {ad : Addr} {xs : List α} (h : ReadsE E w (some ad) xs) (j : Nat) (u : Value) (hu : (flE E xs)[j + 1]? = some u) : w.cell? ⟨ad.block, ad.off + (j + 1), none⟩ = some u := by
  have hn : 0 < xs.length := by
    cases xs with
    | nil => simp [flE] at hu
    | cons b bs => simp
  obtain ⟨ad', e, _, hc⟩ := h.2 hn
  injection e with e
  subst e
  exact hc (j + 1) u hu
def K0f : List Bk := List.replicate 32 Bk.zero
def K1f : List Bk := layL 8 K0f ⟨4, 0, 4⟩ ⟨1, false, 0, 0, 0, 0, 0, 0, 0⟩
theorem first_facts : ∃ (S0 : List Int) (K0 K1 : List Bk), S0.length ≤ 9223372036854775807 ∧ K0.length ≤ 9223372036854775807 ∧ K1.length = K0.length ∧ newF 2 1 = ⟨2, 1, S0, K0⟩ ∧ unsF 2 1 S0 K0 = [⟨0, 0, 4⟩, ⟨4, 0, 4⟩] ∧ evenB 2 1 S0 K0 = true ∧ setB 2 1 S0 K0 ⟨4, 0, 4⟩ ⟨1, false, 0, 0, 0, 0, 0, 0, 0⟩ = true ∧ setK 2 1 S0 K0 ⟨4, 0, 4⟩ ⟨1, false, 0, 0, 0, 0, 0, 0, 0⟩ = K1 ∧ atB 2 1 S0 K1 7 3 = true ∧ atK 2 1 S0 K1 7 3 = ⟨1, false, 0, 0, 0, 0, 0, 0, 0⟩ ∧ okFl 2 1 S0 K1 = true :=
  ⟨[0, 0], K0f, K1f, by decide, by simp [K0f], by simp [K1f, layL_length], by kernel_rfl, by kernel_rfl, by kernel_rfl, by kernel_rfl, by kernel_rfl, by kernel_rfl, by kernel_rfl, by kernel_rfl⟩
theorem first_sq : sqB 33 16 8 = true ∧ covI 33 8 = 2 ∧ covI 16 8 = 1 := ⟨by kernel_rfl, by kernel_rfl, by kernel_rfl⟩
theorem first_ok0 : okFl 0 0 [] [] = false := by kernel_rfl
theorem first_plain : plainBk ⟨0, true, 0, 0, 0, 0, 0, 0, 0⟩ = Bk.zero := by kernel_rfl
theorem OwnE.below_of {α : Type} {E : Enc α} {w w' W : World} {B : Nat} {v : Value} {xs : List α} (h : OwnE E w B v xs) (hb : Below B W w) (hB : B ≤ w.heap.size) (hg : w.grownBy w' v.ownBlock) : Below B W w' := h.below hb hB hg
set_option maxRecDepth 100000 in
set_option maxHeartbeats 6400000 in
theorem first_c (w : World) : Calls Try.prog 8 #[] w fun e w' => e = .returned (.bool true) ∧ Below w.heap.size w w' := by
  obtain ⟨S0, K0, K1, hn, hm, hl, f1, f2, f3, f4, f5, f6, f7, f8⟩ := first_facts
  have hm1 : K1.length ≤ 9223372036854775807 := by rw [hl]; exact hm
  have F1 := Lib.hid f1
  have F2 := Lib.hid f2
  have F3 := Lib.hid f3
  have F4 := Lib.hid f4
  have F5 := Lib.hid f5
  have F6 := Lib.hid f6
  have F7 := Lib.hid f7
  have F8 := Lib.hid f8
  have LK := Lib.hid hl
  clear hl f1 f2 f3 f4 f5 f6 f7 f8
  have HB1 := Lib.hid (Below.refl w.heap.size w)
  go_enter Try.func8, Try.ntmps8
  go_wp2_with fail
  have h9 := fnew_c 2 1 w
  rw [F1.out] at h9
  refine h9.mono ?_
  rintro e w1 ⟨vs, vk, rfl, hs, hk, hb'⟩
  clear h9
  have HB1 := Lib.hid ((HB1.out).trans (hb'.mono (HB1.out).size))
  obtain ⟨A1, c1, rfl, _⟩ := hs.slice
  obtain ⟨A2, c2, rfl, _⟩ := hk.slice
  have OS := Lib.hid hs
  have OK := Lib.hid hk
  clear hs hk hb'
  dsimp only
  go_upto_region 2 with fail
  have HB1 := Lib.hid (below_alloc_ (HB1.out) (.cells #[.int .i64 2, .int .i64 1, .slice A1 S0.length c1, .slice A2 K0.length c2] 25))
  have OS := Lib.hid ((OS.out).alloc (.cells #[.int .i64 2, .int .i64 1, .slice A1 S0.length c1, .slice A2 K0.length c2] 25))
  have OK := Lib.hid ((OK.out).alloc (.cells #[.int .i64 2, .int .i64 1, .slice A1 S0.length c1, .slice A2 K0.length c2] 25))
  have hzw : (w1.alloc (.cells #[.int .i64 2, .int .i64 1, .slice A1 S0.length c1, .slice A2 K0.length c2] 25)).heap.size = w1.heap.size + 1 := by simp only [World.size_alloc]
  have B1 := Blk.new (w1) 25 #[.int .i64 2, .int .i64 1, .slice A1 S0.length c1, .slice A2 K0.length c2]
  skip
  have B1 := Lib.hid B1
  generalize w1.alloc (.cells #[.int .i64 2, .int .i64 1, .slice A1 S0.length c1, .slice A2 K0.length c2] 25) = w2 at *
  clear hzw
  obtain ⟨b1, hb1⟩ : ∃ n, n = w1.heap.size := ⟨_, rfl⟩
  rw [← hb1] at B1 ⊢
  clear hb1
  skip
  obtain ⟨zB10, zB11, zB12, zB13⟩ := (B1.out).cells4
  go_wp2_with fail
  clear zB10 zB11 zB12 zB13
  have h9 := flist_c 2 1 S0 A1 c1 K0 A2 c2 w2 OS.out.reads OK.out.reads hn hm
  rw [F2.out] at h9
  refine h9.mono ?_
  rintro e w3 ⟨v, rfl, hu, hb'⟩
  clear h9
  have HB1 := Lib.hid ((HB1.out).trans (hb'.mono (HB1.out).size))
  have OS := Lib.hid ((OS.out).kept hb')
  have OK := Lib.hid ((OK.out).kept hb')
  have B1 := Lib.hid ((B1.out).below hb' (B1.out).lt)
  skip
  obtain ⟨A3, c3, rfl, hr⟩ := hu.slice
  have RU := Lib.hid hr
  clear hr hu hb'
  simp only [List.length_cons, List.length_nil, Nat.zero_add, Nat.reduceAdd]
  obtain ⟨zB10, zB11, zB12, zB13⟩ := (B1.out).cells4
  go_upto_region 3 with fail
  clear zB10 zB11 zB12 zB13
  obtain ⟨a3, hq3, _, y0, _⟩ := RU.out.at_ (i := 1) (by decide)
  subst hq3
  have y1 := RU.out.cl 3 _ rfl
  have y2 := RU.out.cl 4 _ rfl
  have y0 := RU.out.cl 2 _ rfl
  obtain ⟨zB10, zB11, zB12, zB13⟩ := (B1.out).cells4
  have kq0 := cell_regrown zB10
  have kq1 := cell_regrown zB11
  have kq2 := cell_regrown zB12
  have kq3 := cell_regrown zB13
  have kq4 := cell_regrown y0
  have kq5 := cell_regrown y1
  have kq6 := cell_regrown y2
  clear zB10 zB11 zB12 zB13 y0 y1 y2
  refine wp_mono_tail 21 [Brings.one ?b1_0, Brings.one ?b2_1, Brings.one ?b3_2, Brings.one ?b4_3, Brings.one ?b5_4, Brings.one ?b6_5, Brings.one ?b7_6, Brings.one ?b8_7, Brings.one ?b9_8, Brings.one ?b10_9, Brings.one ?b11_10, Brings.one ?b12_11, Brings.one ?b13_12, Brings.one ?b14_13, Brings.one ?b15_14, Brings.one ?b16_15, Brings.one ?b17_16, Brings.one ?b18_17, Brings.one ?b19_18, Brings.one ?b20_19, Brings.one ?b21_20] (by kernel_rfl) (by kernel_rfl) ?_
  rotate_left 21
  simp only [List.take_succ_cons, List.take_zero, List.drop_succ_cons, List.drop_zero]
  refine wpL_take (k' := 1) rfl (by kernel_rfl) (fun d os => ?t22) ?_
  case t22 => (unfold bringsAt; go_simp; first | with_reducible exact take_one | exact take_one)
  try simp only [Act.put, List.setIfInBounds_toArray, List.set_cons_zero, List.set_cons_succ]
  refine wpL_take (k' := 2) rfl (by kernel_rfl) (fun d os => ?t23) ?_
  case t23 => (unfold bringsAt; go_simp; first | with_reducible exact take_one | exact take_one)
  try simp only [Act.put, List.setIfInBounds_toArray, List.set_cons_zero, List.set_cons_succ]
  refine wpL_take (k' := 3) rfl (by kernel_rfl) (fun d os => ?t24) ?_
  case t24 => (unfold bringsAt; go_simp; first | with_reducible exact take_one | exact take_one)
  try simp only [Act.put, List.setIfInBounds_toArray, List.set_cons_zero, List.set_cons_succ]
  refine wpL_take (k' := 4) rfl (by kernel_rfl) (fun d os => ?t25) ?_
  case t25 => (unfold bringsAt; go_simp; first | with_reducible exact take_one | exact take_one)
  try simp only [Act.put, List.setIfInBounds_toArray, List.set_cons_zero, List.set_cons_succ]
  refine wpL_take (k' := 5) rfl (by kernel_rfl) (fun d os => ?t26) ?_
  case t26 => (unfold bringsAt; go_simp; first | with_reducible exact take_one | exact take_one)
  try simp only [Act.put, List.setIfInBounds_toArray, List.set_cons_zero, List.set_cons_succ]
  refine wpL_take (k' := 6) rfl (by kernel_rfl) (fun d os => ?t27) ?_
  case t27 => (unfold bringsAt; go_simp; first | with_reducible exact take_one | exact take_one)
  try simp only [Act.put, List.setIfInBounds_toArray, List.set_cons_zero, List.set_cons_succ]
  refine wpL_take (k' := 7) rfl (by kernel_rfl) (fun d os => ?t28) ?_
  case t28 => (unfold bringsAt; go_simp; first | with_reducible exact take_one | exact take_one)
  try simp only [Act.put, List.setIfInBounds_toArray, List.set_cons_zero, List.set_cons_succ]
  refine wpL_take (k' := 8) rfl (by kernel_rfl) (fun d os => ?t29) ?_
  case t29 => (unfold bringsAt; go_simp; first | with_reducible exact take_one | exact take_one)
  try simp only [Act.put, List.setIfInBounds_toArray, List.set_cons_zero, List.set_cons_succ]
  refine wpL_take (k' := 9) rfl (by kernel_rfl) (fun d os => ?t30) ?_
  case t30 => (unfold bringsAt; go_simp; first | with_reducible exact take_one | exact take_one)
  try simp only [Act.put, List.setIfInBounds_toArray, List.set_cons_zero, List.set_cons_succ]
  refine wpL_take (k' := 10) rfl (by kernel_rfl) (fun d os => ?t31) ?_
  case t31 => (unfold bringsAt; go_simp; first | with_reducible exact take_one | exact take_one)
  try simp only [Act.put, List.setIfInBounds_toArray, List.set_cons_zero, List.set_cons_succ]
  refine wpL_take (k' := 11) rfl (by kernel_rfl) (fun d os => ?t32) ?_
  case t32 => (unfold bringsAt; go_simp; first | with_reducible exact take_one | exact take_one)
  try simp only [Act.put, List.setIfInBounds_toArray, List.set_cons_zero, List.set_cons_succ]
  refine wpL_take (k' := 12) rfl (by kernel_rfl) (fun d os => ?t33) ?_
  case t33 => (unfold bringsAt; go_simp; first | with_reducible exact take_one | exact take_one)
  try simp only [Act.put, List.setIfInBounds_toArray, List.set_cons_zero, List.set_cons_succ]
  refine wpL_call (k' := 13) rfl (by kernel_rfl) (fun wz hz hd => ?t34) ?_
  case t34 =>
    have HZ := Lib.hid (HB1.out.trans (hz.mono HB1.out.size))
    unfold bringsAt
    go_simp
    have h9 := feven_c 2 1 S0 A1 c1 K0 A2 c2 wz (OS.out.kept hz).reads (OK.out.kept hz).reads hn hm
    rw [F3.out] at h9
    refine call_one_as h9 ?_
    rfl
  try simp only [Act.put, List.setIfInBounds_toArray, List.set_cons_zero, List.set_cons_succ]
  refine wpL_take (k' := 14) rfl (by kernel_rfl) (fun d os => ?t35) ?_
  case t35 => (unfold bringsAt; go_simp; first | with_reducible exact take_one | exact take_one)
  try simp only [Act.put, List.setIfInBounds_toArray, List.set_cons_zero, List.set_cons_succ]
  refine wpL_take (k' := 15) rfl (by kernel_rfl) (fun d os => ?t36) ?_
  case t36 => (unfold bringsAt; go_simp; first | with_reducible exact take_one | exact take_one)
  try simp only [Act.put, List.setIfInBounds_toArray, List.set_cons_zero, List.set_cons_succ]
  refine wpL_take (k' := 16) rfl (by kernel_rfl) (fun d os => ?t37) ?_
  case t37 => (unfold bringsAt; go_simp; first | with_reducible exact take_one | exact take_one)
  try simp only [Act.put, List.setIfInBounds_toArray, List.set_cons_zero, List.set_cons_succ]
  refine wpL_take (k' := 17) rfl (by kernel_rfl) (fun d os => ?t38) ?_
  case t38 => (unfold bringsAt; go_simp; first | with_reducible exact take_one | exact take_one)
  try simp only [Act.put, List.setIfInBounds_toArray, List.set_cons_zero, List.set_cons_succ]
  refine wpL_take (k' := 18) rfl (by kernel_rfl) (fun d os => ?t39) ?_
  case t39 => (unfold bringsAt; go_simp; first | with_reducible exact take_one | exact take_one)
  try simp only [Act.put, List.setIfInBounds_toArray, List.set_cons_zero, List.set_cons_succ]
  refine wpL_take (k' := 19) rfl (by kernel_rfl) (fun d os => ?t40) ?_
  case t40 => (unfold bringsAt; go_simp; first | with_reducible exact take_one | exact take_one)
  try simp only [Act.put, List.setIfInBounds_toArray, List.set_cons_zero, List.set_cons_succ]
  refine wpL_take (k' := 20) rfl (by kernel_rfl) (fun d os => ?t41) ?_
  case t41 => (unfold bringsAt; go_simp; first | with_reducible exact take_one | exact take_one)
  try simp only [Act.put, List.setIfInBounds_toArray, List.set_cons_zero, List.set_cons_succ]
  refine wpL_take (k' := 21) rfl (by kernel_rfl) (fun d os => ?t42) ?_
  case t42 => (unfold bringsAt; go_simp; first | with_reducible exact take_one | exact take_one)
  try simp only [Act.put, List.setIfInBounds_toArray, List.set_cons_zero, List.set_cons_succ]
  refine wpL_nil ?_
  intro w4 hH
  have hb' := hH.below
  clear kq0 kq1 kq2 kq3 kq4 kq5 kq6
  have HB1 := Lib.hid ((HB1.out).trans (hb'.mono (HB1.out).size))
  have OS := Lib.hid ((OS.out).kept hb')
  have OK := Lib.hid ((OK.out).kept hb')
  have B1 := Lib.hid ((B1.out).below hb' (B1.out).lt)
  have RU := Lib.hid ((RU.out).kept hb')
  clear hH hb'
  go_wp2_with fail
  have h9 := fset_c 2 1 S0 A1 c1 K0 (.slice A2 K0.length c2) _ ⟨4, 0, 4⟩ ⟨1, false, 0, 0, 0, 0, 0, 0, 0⟩ w4 OS.out.reads OK.out hn
  rw [F4.out, F5.out] at h9
  refine h9.mono ?_
  clear h9
  rintro e w5 ⟨rfl, ho, hg⟩
  have HB1 := Lib.hid ((OK.out).below_of HB1.out (HB1.out.size) hg)
  have OS := Lib.hid (OS.out.grown hg (by first | exact own_two' OS.out OK.out | exact own_two' OS.out OK.out))
  have B1 := Lib.hid (B1.out.appE OK.out (by decide) hg)
  have OK := Lib.hid ho
  clear ho hg
  obtain ⟨zB10, zB11, zB12, zB13⟩ := (B1.out).cells4
  go_wp2_with fail
  clear zB10 zB11 zB12 zB13
  have h9 := fat_c 2 1 S0 A1 c1 K1 A2 c2 7 3 w5 OS.out.reads OK.out.reads hn hm1
  rw [F6.out, F7.out, LK.out] at h9
  refine (h9).mono ?_
  rintro e w6 ⟨rfl, hb'⟩
  have HB1 := Lib.hid ((HB1.out).trans (hb'.mono (HB1.out).size))
  have OS := Lib.hid ((OS.out).kept hb')
  have OK := Lib.hid ((OK.out).kept hb')
  have B1 := Lib.hid ((B1.out).below hb' (B1.out).lt)
  clear hb'
  clear h9
  go_upto_region 6 with fail
  have HB1 := Lib.hid (below_alloc_ (HB1.out) (.cells #[.int .i64 1, .bool false, .int .i64 0, .int .i64 0, .int .i64 0, .int .i64 0, .int .i64 0, .int .i64 0, .int .i64 0] 40))
  have OS := Lib.hid ((OS.out).alloc (.cells #[.int .i64 1, .bool false, .int .i64 0, .int .i64 0, .int .i64 0, .int .i64 0, .int .i64 0, .int .i64 0, .int .i64 0] 40))
  have OK := Lib.hid ((OK.out).alloc (.cells #[.int .i64 1, .bool false, .int .i64 0, .int .i64 0, .int .i64 0, .int .i64 0, .int .i64 0, .int .i64 0, .int .i64 0] 40))
  have B1 := Lib.hid ((B1.out).alloc (.cells #[.int .i64 1, .bool false, .int .i64 0, .int .i64 0, .int .i64 0, .int .i64 0, .int .i64 0, .int .i64 0, .int .i64 0] 40))
  have hzw : (w6.alloc (.cells #[.int .i64 1, .bool false, .int .i64 0, .int .i64 0, .int .i64 0, .int .i64 0, .int .i64 0, .int .i64 0, .int .i64 0] 40)).heap.size = w6.heap.size + 1 := by simp only [World.size_alloc]
  have B3 := Blk.new (w6) 40 #[.int .i64 1, .bool false, .int .i64 0, .int .i64 0, .int .i64 0, .int .i64 0, .int .i64 0, .int .i64 0, .int .i64 0]
  skip
  have B3 := Lib.hid B3
  generalize w6.alloc (.cells #[.int .i64 1, .bool false, .int .i64 0, .int .i64 0, .int .i64 0, .int .i64 0, .int .i64 0, .int .i64 0, .int .i64 0] 40) = w7 at *
  clear hzw
  go_wp2_with fail
  have h9 := fsq_y 33 16 8 w7 first_sq.1
  rw [first_sq.2.1, first_sq.2.2] at h9
  refine h9.mono ?_
  rintro e w9 ⟨rfl, rfl⟩
  clear h9
  obtain ⟨zB10, zB11, zB12, zB13⟩ := (B1.out).cells4
  obtain ⟨y0, y1, y2, y3, y4, y5, y6, y7, y8⟩ := B3.out.cells9
  go_wp2_with fail
  clear zB10 zB11 zB12 zB13
  clear y0 y1 y2 y3 y4 y5 y6 y7 y8
  have h9 := fright_c 2 1 S0 A1 c1 K1 A2 c2 w7 OS.out.reads OK.out.reads hn hm1
  rw [F8.out, LK.out] at h9
  refine (h9).mono ?_
  rintro e w8 ⟨rfl, hb'⟩
  have HB1 := Lib.hid ((HB1.out).trans (hb'.mono (HB1.out).size))
  have OS := Lib.hid ((OS.out).kept hb')
  have OK := Lib.hid ((OK.out).kept hb')
  have B1 := Lib.hid ((B1.out).below hb' (B1.out).lt)
  have B3 := Lib.hid ((B3.out).below hb' (B3.out).lt)
  clear hb'
  clear h9
  go_wp2_with fail
  have h9 := fright_c 0 0 [] none 0 [] none 0 w8 (show ReadsI _ none [] from by have h : ([] : List Int).map (Value.int .i64) = [] := rfl; unfold ReadsI; exact Reads.none_) (ReadsE.nil _) (by decide) (by decide)
  rw [first_ok0] at h9
  refine (h9).mono ?_
  rintro e w9 ⟨rfl, hb'⟩
  have HB1 := Lib.hid ((HB1.out).trans (hb'.mono (HB1.out).size))
  have OS := Lib.hid ((OS.out).kept hb')
  have OK := Lib.hid ((OK.out).kept hb')
  have B1 := Lib.hid ((B1.out).below hb' (B1.out).lt)
  have B3 := Lib.hid ((B3.out).below hb' (B3.out).lt)
  clear hb'
  clear h9
  go_wp2_with fail
  have h9 := fplain_c ⟨0, true, 0, 0, 0, 0, 0, 0, 0⟩ w9
  rw [first_plain] at h9
  refine (h9).mono ?_
  rintro e w10 ⟨rfl, hb'⟩
  have HB1 := Lib.hid ((HB1.out).trans (hb'.mono (HB1.out).size))
  have OS := Lib.hid ((OS.out).kept hb')
  have OK := Lib.hid ((OK.out).kept hb')
  have B1 := Lib.hid ((B1.out).below hb' (B1.out).lt)
  have B3 := Lib.hid ((B3.out).below hb' (B3.out).lt)
  clear hb'
  clear h9
  have heq := fun w => eq_bk Bk.zero Bk.zero w
  rw [show decide (Bk.zero = Bk.zero) = true by simp] at heq
  unfold Bk.zero at heq
  unfold Bk.zero
  dsimp only
  go_wp2_with fail
  go_ret
  exact ⟨rfl, HB1.out⟩

end Go.Proofs.Ytiedjeholmoccaa
