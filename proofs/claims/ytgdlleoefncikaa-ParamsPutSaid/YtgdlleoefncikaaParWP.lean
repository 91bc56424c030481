/- The bytes of any video: the law's walk. -/
import Derived.Test.YtgdlleoefncikaaParF
import Derived.Test.YtgdlleoefncikaaOpenVd
namespace Go.Proofs.Ytgdlleoefncikaa
open Go.RowKit Go.Sort
set_option linter.unusedVariables false
set_option linter.unusedSimpArgs false
set_option maxRecDepth 100000 in
set_option maxHeartbeats 6400000 in
theorem ppw_no (v : Vd) (i : Int) (w : World) (hr : rightVd v = false) : Calls Try.prog 3 #[vdV v, .int .i64 i] w fun e w' => e = .returned (.bool true) ∧ Below w.heap.size w w' := by
  have HB := Lib.hid (Below.refl w.heap.size w)
  have HR := Lib.hid hr
  clear hr
  obtain ⟨q, hq⟩ : ∃ q, q = othI v i := ⟨_, rfl⟩
  have HQ := Lib.hid hq.symm
  clear hq
  obtain ⟨m, hm⟩ : ∃ m, m = bestN v := ⟨_, rfl⟩
  have HM := Lib.hid hm.symm
  clear hm
  go_enter Try.func3, Try.ntmps3
  go_wp2_with fail
  have HB := Lib.hid (below_alloc_ (HB.out) (.cells #[.int .i64 v.W, .int .i64 v.H, .int .i64 v.C, .int .i64 v.B] 23))
  have hzw : (w.alloc (.cells #[.int .i64 v.W, .int .i64 v.H, .int .i64 v.C, .int .i64 v.B] 23)).heap.size = w.heap.size + 1 := by simp only [World.size_alloc]
  have B1 := Blk.new (w) 23 #[.int .i64 v.W, .int .i64 v.H, .int .i64 v.C, .int .i64 v.B]
  skip
  have B1 := Lib.hid B1
  generalize w.alloc (.cells #[.int .i64 v.W, .int .i64 v.H, .int .i64 v.C, .int .i64 v.B] 23) = w1 at *
  clear hzw
  refine (first_c _).mono ?_
  rintro e w2 ⟨rfl, hb'⟩
  have HB := Lib.hid ((HB.out).trans (hb'.mono (HB.out).size))
  have B1 := Lib.hid ((B1.out).below hb' (B1.out).lt)
  clear hb'
  go_wp2_with fail
  refine (pbases_c _).mono ?_
  rintro e w3 ⟨g1, rfl, _, htb, hb'⟩
  have HB := Lib.hid ((HB.out).trans (hb'.mono (HB.out).size))
  have B1 := Lib.hid ((B1.out).below hb' (B1.out).lt)
  have T1 := Lib.hid htb
  clear htb hb'
  go_wp2_with fail
  refine (rbases_c _).mono ?_
  rintro e w4 ⟨g2, rfl, _, htb, hb'⟩
  have HB := Lib.hid ((HB.out).trans (hb'.mono (HB.out).size))
  have B1 := Lib.hid ((B1.out).below hb' (B1.out).lt)
  have T1 := Lib.hid ((T1.out).below hb' (T1.out).lt)
  have T2 := Lib.hid htb
  clear htb hb'
  go_wp2_with fail
  have HB1 := Lib.hid (Below.refl w4.heap.size w4)
  go_loopw [16] (fun jv wr => ∃ k : Nat, k ≤ 5 ∧ jv = .int .i64 k ∧ Below w4.heap.size w4 wr) (fun jv _ => 5 - (intOf jv).toNat)
  case atStart => exact ⟨0, Nat.zero_le _, rfl, HB1.out⟩
  case round =>
    clear HB1
    obtain ⟨k, hk, rfl, hb⟩ := hrel
    have HB1 := Lib.hid hb
    obtain ⟨wo, ewo⟩ : ∃ wo, wo = wr := ⟨_, rfl⟩
    subst ewo
    clear hb
    by_cases hkl : k < 5
    · skip
      have c1 : (k : Int) < 5 := by omega
      have c0 : (0 : Int) ≤ (k : Int) := by omega
      go_upto_region 7 with fail
      obtain ⟨y0, y1, y2, y3⟩ := tab_cells (T1.out.below HB1.out T1.out.lt) hkl
      obtain ⟨z0, z1, z2, z3⟩ := tab_cells (T2.out.below HB1.out T2.out.lt) hkl
      obtain ⟨b, hb⟩ : ∃ b, b = baseV k := ⟨_, rfl⟩
      rw [← hb] at y0 y1 y2 y3 z0 z1 z2 z3
      obtain ⟨p, hp⟩ : ∃ p, p = othN v k := ⟨_, rfl⟩
      have HP := Lib.hid hp.symm
      clear hb hp
      have e1 : ((p : Int) != (p : Int)) = false := by simp
      obtain ⟨zB10, zB11, zB12, zB13⟩ := (B1.out.below HB1.out B1.out.lt).cells4
      have kq0 := cell_regrown zB10
      have kq1 := cell_regrown zB11
      have kq2 := cell_regrown zB12
      have kq3 := cell_regrown zB13
      have kq4 := cell_regrown y0
      have kq5 := cell_regrown y1
      have kq6 := cell_regrown y2
      have kq7 := cell_regrown y3
      have kq8 := cell_regrown z0
      have kq9 := cell_regrown z1
      have kq10 := cell_regrown z2
      have kq11 := cell_regrown z3
      have qc0 := fun (d : Nat) (os : Array Obj) => Calls.regrown_of ((by have h := pother_in v k (grow (redrawn wo d) os) hkl; rw [HP.out] at h; exact h))
      have qc1 := fun (d : Nat) (os : Array Obj) => Calls.regrown_of ((by have h := rother_in v k (grow (redrawn wo d) os) hkl; rw [HP.out] at h; exact h))
      clear zB10 zB11 zB12 zB13 y0 y1 y2 y3 z0 z1 z2 z3
      refine wp_region_quiet_below (by kernel_rfl) (by kernel_rfl) ?_
      repeat (go_big_quiet_step (first | with_reducible exact qc0 _ _ | with_reducible exact qc1 _ _))
      refine wpQuiet_nil ?_
      intro _ hw'
      obtain ⟨⟨dq, osq⟩, hw''⟩ := hw'
      subst hw''
      have hb' := below_regrown wo dq osq
      clear kq0 kq1 kq2 kq3 kq4 kq5 kq6 kq7 kq8 kq9 kq10 kq11 qc0 qc1
      have HB1 := Lib.hid ((HB1.out).trans (hb'.mono (HB1.out).size))
      clear hb'
      generalize grow (redrawn wo dq) osq = w5 at *
      clear e1
      go_wp2_with fail
      go_roundw
      case rel => exact ⟨k + 1, by omega, by go_num, HB1.out⟩
      case measure => simp [intOf]; omega
    · skip
      have ck : ¬ ((k : Int) < 5) := by omega
      obtain ⟨zB10, zB11, zB12, zB13⟩ := (B1.out.below HB1.out B1.out.lt).cells4
      go_wp2_with fail
      clear zB10 zB11 zB12 zB13
      clear ck hkl hk
      refine (pput_no v _ HR.out).mono ?_
      rintro e w6 ⟨rfl, hb'⟩
      have HB1 := Lib.hid ((HB1.out).trans (hb'.mono (HB1.out).size))
      clear hb'
      go_upto_region 11 with fail
      have e1 : (q != q) = false := by simp
      have e2 : ((m : Int) != (m : Int)) = false := by simp
      obtain ⟨zB10, zB11, zB12, zB13⟩ := (B1.out.below HB1.out B1.out.lt).cells4
      have kq0 := cell_regrown zB10
      have kq1 := cell_regrown zB11
      have kq2 := cell_regrown zB12
      have kq3 := cell_regrown zB13
      have qc0 := fun (d : Nat) (os : Array Obj) => Calls.regrown_of ((by have h := pother_c v i (grow (redrawn w6 d) os); rw [HQ.out] at h; exact h))
      have qc1 := fun (d : Nat) (os : Array Obj) => Calls.regrown_of ((by have h := rother_c v i (grow (redrawn w6 d) os); rw [HQ.out] at h; exact h))
      have qc2 := fun (d : Nat) (os : Array Obj) => Calls.regrown_of ((by have h := pbest_c v (grow (redrawn w6 d) os); rw [HM.out] at h; exact h))
      have qc3 := fun (d : Nat) (os : Array Obj) => Calls.regrown_of ((by have h := rbest_c v (grow (redrawn w6 d) os); rw [HM.out] at h; exact h))
      clear zB10 zB11 zB12 zB13
      refine wp_region_quiet_below (by kernel_rfl) (by kernel_rfl) ?_
      repeat (go_big_quiet_step (first | with_reducible exact qc0 _ _ | with_reducible exact qc1 _ _ | with_reducible exact qc2 _ _ | with_reducible exact qc3 _ _))
      refine wpQuiet_nil ?_
      intro _ hw'
      obtain ⟨⟨dq, osq⟩, hw''⟩ := hw'
      subst hw''
      have hb' := below_regrown w6 dq osq
      clear kq0 kq1 kq2 kq3 qc0 qc1 qc2 qc3
      have HB1 := Lib.hid ((HB1.out).trans (hb'.mono (HB1.out).size))
      clear hb'
      generalize grow (redrawn w6 dq) osq = w7 at *
      clear e1 e2
      obtain ⟨zB10, zB11, zB12, zB13⟩ := (B1.out.below HB1.out B1.out.lt).cells4
      go_wp2_with fail
      clear zB10 zB11 zB12 zB13
      refine (rrecon_c v _).mono ?_
      rintro e w8 ⟨rfl, hb'⟩
      have HB1 := Lib.hid ((HB1.out).trans (hb'.mono (HB1.out).size))
      clear hb'
      rw [HR.out]
      go_wp2_with fail
      go_ret
      exact ⟨rfl, HB.out.trans (HB1.out.mono HB.out.size)⟩
set_option maxRecDepth 100000 in
set_option maxHeartbeats 6400000 in
theorem ppw_yes (v : Vd) (i : Int) (w : World) (hr : rightVd v = true) : Calls Try.prog 3 #[vdV v, .int .i64 i] w fun e w' => e = .returned (.bool true) ∧ Below w.heap.size w w' := by
  have HB := Lib.hid (Below.refl w.heap.size w)
  have HR := Lib.hid hr
  clear hr
  obtain ⟨q, hq⟩ : ∃ q, q = othI v i := ⟨_, rfl⟩
  have HQ := Lib.hid hq.symm
  clear hq
  obtain ⟨m, hm⟩ : ∃ m, m = bestN v := ⟨_, rfl⟩
  have HM := Lib.hid hm.symm
  clear hm
  go_enter Try.func3, Try.ntmps3
  go_wp2_with fail
  have HB := Lib.hid (below_alloc_ (HB.out) (.cells #[.int .i64 v.W, .int .i64 v.H, .int .i64 v.C, .int .i64 v.B] 23))
  have hzw : (w.alloc (.cells #[.int .i64 v.W, .int .i64 v.H, .int .i64 v.C, .int .i64 v.B] 23)).heap.size = w.heap.size + 1 := by simp only [World.size_alloc]
  have B1 := Blk.new (w) 23 #[.int .i64 v.W, .int .i64 v.H, .int .i64 v.C, .int .i64 v.B]
  skip
  have B1 := Lib.hid B1
  generalize w.alloc (.cells #[.int .i64 v.W, .int .i64 v.H, .int .i64 v.C, .int .i64 v.B] 23) = w1 at *
  clear hzw
  refine (first_c _).mono ?_
  rintro e w2 ⟨rfl, hb'⟩
  have HB := Lib.hid ((HB.out).trans (hb'.mono (HB.out).size))
  have B1 := Lib.hid ((B1.out).below hb' (B1.out).lt)
  clear hb'
  go_wp2_with fail
  refine (pbases_c _).mono ?_
  rintro e w3 ⟨g1, rfl, _, htb, hb'⟩
  have HB := Lib.hid ((HB.out).trans (hb'.mono (HB.out).size))
  have B1 := Lib.hid ((B1.out).below hb' (B1.out).lt)
  have T1 := Lib.hid htb
  clear htb hb'
  go_wp2_with fail
  refine (rbases_c _).mono ?_
  rintro e w4 ⟨g2, rfl, _, htb, hb'⟩
  have HB := Lib.hid ((HB.out).trans (hb'.mono (HB.out).size))
  have B1 := Lib.hid ((B1.out).below hb' (B1.out).lt)
  have T1 := Lib.hid ((T1.out).below hb' (T1.out).lt)
  have T2 := Lib.hid htb
  clear htb hb'
  go_wp2_with fail
  have HB1 := Lib.hid (Below.refl w4.heap.size w4)
  go_loopw [16] (fun jv wr => ∃ k : Nat, k ≤ 5 ∧ jv = .int .i64 k ∧ Below w4.heap.size w4 wr) (fun jv _ => 5 - (intOf jv).toNat)
  case atStart => exact ⟨0, Nat.zero_le _, rfl, HB1.out⟩
  case round =>
    clear HB1
    obtain ⟨k, hk, rfl, hb⟩ := hrel
    have HB1 := Lib.hid hb
    obtain ⟨wo, ewo⟩ : ∃ wo, wo = wr := ⟨_, rfl⟩
    subst ewo
    clear hb
    by_cases hkl : k < 5
    · skip
      have c1 : (k : Int) < 5 := by omega
      have c0 : (0 : Int) ≤ (k : Int) := by omega
      go_upto_region 7 with fail
      obtain ⟨y0, y1, y2, y3⟩ := tab_cells (T1.out.below HB1.out T1.out.lt) hkl
      obtain ⟨z0, z1, z2, z3⟩ := tab_cells (T2.out.below HB1.out T2.out.lt) hkl
      obtain ⟨b, hb⟩ : ∃ b, b = baseV k := ⟨_, rfl⟩
      rw [← hb] at y0 y1 y2 y3 z0 z1 z2 z3
      obtain ⟨p, hp⟩ : ∃ p, p = othN v k := ⟨_, rfl⟩
      have HP := Lib.hid hp.symm
      clear hb hp
      have e1 : ((p : Int) != (p : Int)) = false := by simp
      obtain ⟨zB10, zB11, zB12, zB13⟩ := (B1.out.below HB1.out B1.out.lt).cells4
      have kq0 := cell_regrown zB10
      have kq1 := cell_regrown zB11
      have kq2 := cell_regrown zB12
      have kq3 := cell_regrown zB13
      have kq4 := cell_regrown y0
      have kq5 := cell_regrown y1
      have kq6 := cell_regrown y2
      have kq7 := cell_regrown y3
      have kq8 := cell_regrown z0
      have kq9 := cell_regrown z1
      have kq10 := cell_regrown z2
      have kq11 := cell_regrown z3
      have qc0 := fun (d : Nat) (os : Array Obj) => Calls.regrown_of ((by have h := pother_in v k (grow (redrawn wo d) os) hkl; rw [HP.out] at h; exact h))
      have qc1 := fun (d : Nat) (os : Array Obj) => Calls.regrown_of ((by have h := rother_in v k (grow (redrawn wo d) os) hkl; rw [HP.out] at h; exact h))
      clear zB10 zB11 zB12 zB13 y0 y1 y2 y3 z0 z1 z2 z3
      refine wp_region_quiet_below (by kernel_rfl) (by kernel_rfl) ?_
      repeat (go_big_quiet_step (first | with_reducible exact qc0 _ _ | with_reducible exact qc1 _ _))
      refine wpQuiet_nil ?_
      intro _ hw'
      obtain ⟨⟨dq, osq⟩, hw''⟩ := hw'
      subst hw''
      have hb' := below_regrown wo dq osq
      clear kq0 kq1 kq2 kq3 kq4 kq5 kq6 kq7 kq8 kq9 kq10 kq11 qc0 qc1
      have HB1 := Lib.hid ((HB1.out).trans (hb'.mono (HB1.out).size))
      clear hb'
      generalize grow (redrawn wo dq) osq = w5 at *
      clear e1
      go_wp2_with fail
      go_roundw
      case rel => exact ⟨k + 1, by omega, by go_num, HB1.out⟩
      case measure => simp [intOf]; omega
    · skip
      have ck : ¬ ((k : Int) < 5) := by omega
      obtain ⟨zB10, zB11, zB12, zB13⟩ := (B1.out.below HB1.out B1.out.lt).cells4
      go_wp2_with fail
      clear zB10 zB11 zB12 zB13
      clear ck hkl hk
      have h9 := pput_yes v wo HR.out
      rw [packZ_pad] at h9
      refine h9.mono ?_
      rintro e w6 ⟨u, rfl, ho, hb'⟩
      clear h9
      have HB1 := Lib.hid ((HB1.out).trans (hb'.mono (HB1.out).size))
      obtain ⟨pk, hpk⟩ : ∃ p, p = packZ (putB v) := ⟨_, rfl⟩
      rw [← hpk] at ho
      have HPK := Lib.hid hpk
      obtain ⟨A1, c1, rfl, _⟩ := ho.slice
      have OU := Lib.hid ho
      clear ho hb' hpk
      go_upto_region 11 with fail
      have e1 : (q != q) = false := by simp
      have e2 : ((m : Int) != (m : Int)) = false := by simp
      obtain ⟨zB10, zB11, zB12, zB13⟩ := (B1.out.below HB1.out B1.out.lt).cells4
      have kq0 := cell_regrown zB10
      have kq1 := cell_regrown zB11
      have kq2 := cell_regrown zB12
      have kq3 := cell_regrown zB13
      have qc0 := fun (d : Nat) (os : Array Obj) => Calls.regrown_of ((by have h := pother_c v i (grow (redrawn w6 d) os); rw [HQ.out] at h; exact h))
      have qc1 := fun (d : Nat) (os : Array Obj) => Calls.regrown_of ((by have h := rother_c v i (grow (redrawn w6 d) os); rw [HQ.out] at h; exact h))
      have qc2 := fun (d : Nat) (os : Array Obj) => Calls.regrown_of ((by have h := pbest_c v (grow (redrawn w6 d) os); rw [HM.out] at h; exact h))
      have qc3 := fun (d : Nat) (os : Array Obj) => Calls.regrown_of ((by have h := rbest_c v (grow (redrawn w6 d) os); rw [HM.out] at h; exact h))
      clear zB10 zB11 zB12 zB13
      refine wp_region_quiet_below (by kernel_rfl) (by kernel_rfl) ?_
      repeat (go_big_quiet_step (first | with_reducible exact qc0 _ _ | with_reducible exact qc1 _ _ | with_reducible exact qc2 _ _ | with_reducible exact qc3 _ _))
      refine wpQuiet_nil ?_
      intro _ hw'
      obtain ⟨⟨dq, osq⟩, hw''⟩ := hw'
      subst hw''
      have hb' := below_regrown w6 dq osq
      clear kq0 kq1 kq2 kq3 qc0 qc1 qc2 qc3
      have HB1 := Lib.hid ((HB1.out).trans (hb'.mono (HB1.out).size))
      have OU := Lib.hid ((OU.out).kept hb')
      clear hb'
      generalize grow (redrawn w6 dq) osq = w7 at *
      clear e1 e2
      obtain ⟨zB10, zB11, zB12, zB13⟩ := (B1.out.below HB1.out B1.out.lt).cells4
      go_wp2_with fail
      clear zB10 zB11 zB12 zB13
      refine (rrecon_c v _).mono ?_
      rintro e w8 ⟨rfl, hb'⟩
      have HB1 := Lib.hid ((HB1.out).trans (hb'.mono (HB1.out).size))
      have OU := Lib.hid ((OU.out).kept hb')
      clear hb'
      rw [HR.out]
      go_upto_region 15 with fail
      obtain ⟨t, ht⟩ : ∃ t, t = bytesStr pk := ⟨_, rfl⟩
      have HCV := Lib.hid (show ∀ (W : World) (B : Nat) (A : Option Addr) (c : Nat), OwnB W B (.slice A pk.length c) pk → (convert 28 9 (.slice A pk.length c)).run Try.prog W = .ok (.string t) W from fun W B A c q => by obtain ⟨A', c', e, hr⟩ := q.slice; injection e with e1 e2 e3; subst e1; rw [ht]; exact conv_str 28 9 Try.underlying28 Try.underlying9 A c pk W hr (by rw [HPK.out]; exact packZ_byte8 _))
      clear ht
      have HPT := Lib.hid (show ∀ W : World, Calls Try.prog 15 #[vdV v] W fun e w' => ∃ u, e = .returned u ∧ OwnB w' W.heap.size u pk ∧ Below W.heap.size W w' from fun W => by have h := rput_c v W; rw [← HPK.out] at h; exact h)
      have HB1 := Lib.hid ((HB1.out).drew)
      have OU := Lib.hid ((OU.out).drew)
      refine wp_region_held_drew (S := (fun w' => w'.cell? ⟨w.heap.size, 0, none⟩ = some (.int .i64 v.W) ∧ w'.cell? ⟨w.heap.size, 1, none⟩ = some (.int .i64 v.H) ∧ w'.cell? ⟨w.heap.size, 2, none⟩ = some (.int .i64 v.C) ∧ w'.cell? ⟨w.heap.size, 3, none⟩ = some (.int .i64 v.B) ∧ (convert 28 9 (.slice A1 pk.length c1)).run Try.prog w' = .ok (.string t) w')) (by kernel_rfl) ?hS0 (fun hHeld => ?_)
      case hS0 => exact ⟨(B1.out.below HB1.out B1.out.lt).cell 0, (B1.out.below HB1.out B1.out.lt).cell 1, (B1.out.below HB1.out B1.out.lt).cell 2, (B1.out.below HB1.out B1.out.lt).cell 3, HCV.out _ _ _ _ OU.out⟩
      refine wpAnyH_take (i := 0) (oi := ⟨some 67, _, _, _, _, _⟩) (v := ?v1) rfl (by kernel_rfl) (by kernel_rfl) (by kernel_rfl) (fun _ _ _ h => h) (Or.inl ⟨by rfl, ?h1⟩) (by assumption) ?r1
      case h1 => (intro w hSw; (try dsimp only at hSw); go_simp; try with_reducible rfl)
      try simp only [Act.put, List.setIfInBounds_toArray, List.set_cons_zero, List.set_cons_succ]
      refine wpAnyH_take (i := 1) (oi := ⟨some 68, _, _, _, _, _⟩) (v := ?v2) rfl (by kernel_rfl) (by kernel_rfl) (by kernel_rfl) (fun _ _ _ h => h) (Or.inl ⟨by rfl, ?h2⟩) (by assumption) ?r2
      case h2 => (intro w hSw; (try dsimp only at hSw); go_simp; try with_reducible rfl)
      try simp only [Act.put, List.setIfInBounds_toArray, List.set_cons_zero, List.set_cons_succ]
      refine wpAnyH_take (i := 2) (oi := ⟨some 69, _, _, _, _, _⟩) (v := ?v3) rfl (by kernel_rfl) (by kernel_rfl) (by kernel_rfl) (fun _ _ _ h => h) (Or.inl ⟨by rfl, ?h3⟩) (by assumption) ?r3
      case h3 => (intro w hSw; (try dsimp only at hSw); go_simp; try with_reducible rfl)
      try simp only [Act.put, List.setIfInBounds_toArray, List.set_cons_zero, List.set_cons_succ]
      refine wpAnyH_take (i := 3) (oi := ⟨some 70, _, _, _, _, _⟩) (v := ?v4) rfl (by kernel_rfl) (by kernel_rfl) (by kernel_rfl) (fun _ _ _ h => h) (Or.inl ⟨by rfl, ?h4⟩) (by assumption) ?r4
      case h4 => (intro w hSw; (try dsimp only at hSw); go_simp; try with_reducible rfl)
      try simp only [Act.put, List.setIfInBounds_toArray, List.set_cons_zero, List.set_cons_succ]
      refine wpAnyH_take (i := 4) (oi := ⟨some 71, _, _, _, _, _⟩) (v := ?v5) rfl (by kernel_rfl) (by kernel_rfl) (by kernel_rfl) (fun _ _ _ h => h) (Or.inl ⟨by rfl, ?h5⟩) (by assumption) ?r5
      case h5 => (intro w hSw; (try dsimp only at hSw); go_simp; try with_reducible rfl)
      try simp only [Act.put, List.setIfInBounds_toArray, List.set_cons_zero, List.set_cons_succ]
      refine wpAnyH_take (i := 5) (oi := ⟨some 72, _, _, _, _, _⟩) (v := ?v6) rfl (by kernel_rfl) (by kernel_rfl) (by kernel_rfl) (fun _ _ _ h => h) (Or.inl ⟨by rfl, ?h6⟩) (by assumption) ?r6
      case h6 => (intro w hSw; (try dsimp only at hSw); go_simp; try with_reducible rfl)
      try simp only [Act.put, List.setIfInBounds_toArray, List.set_cons_zero, List.set_cons_succ]
      refine wpAnyH_ready (rs := [6]) (by kernel_rfl) (by simp) ?_
      refine (AllReadyH.cons (o := ⟨some 73, _, _, _, _, _⟩) rfl (fun K hK => ?_) AllReadyH.nil)
      go_simp
      have HS1 := HB1
      refine (HPT.out _).mono ?_
      rintro e w9 ⟨u2, rfl, ho2, hb'⟩
      have HB1 := Lib.hid ((HB1.out).trans (hb'.mono (HB1.out).size))
      have OU := Lib.hid ((OU.out).kept hb')
      clear hb'
      obtain ⟨A2, c2, rfl, _⟩ := ho2.slice
      have O2 := Lib.hid ho2
      clear ho2
      refine hK.out _ _ ?hS7 (fun hHeld => ?_)
      case hS7 => exact ⟨(B1.out.below HB1.out B1.out.lt).cell 0, (B1.out.below HB1.out B1.out.lt).cell 1, (B1.out.below HB1.out B1.out.lt).cell 2, (B1.out.below HB1.out B1.out.lt).cell 3, HCV.out _ _ _ _ OU.out⟩
      clear hK K
      try simp only [Act.put, List.setIfInBounds_toArray, List.set_cons_zero, List.set_cons_succ]
      refine wpAnyH_ready (rs := [7]) (by kernel_rfl) (by simp) ?_
      refine (AllReadyH.cons (o := ⟨some 74, _, _, _, _, _⟩) rfl (fun K hK => ?_) AllReadyH.nil)
      have hcx := HCV.out _ _ _ _ O2.out
      go_simp
      clear hcx
      refine hK.out _ _ ?hS8 (fun hHeld => ?_)
      case hS8 => exact ⟨(B1.out.below HB1.out B1.out.lt).cell 0, (B1.out.below HB1.out B1.out.lt).cell 1, (B1.out.below HB1.out B1.out.lt).cell 2, (B1.out.below HB1.out B1.out.lt).cell 3, HCV.out _ _ _ _ OU.out⟩
      clear hK K
      try simp only [Act.put, List.setIfInBounds_toArray, List.set_cons_zero, List.set_cons_succ]
      refine wpAnyH_take (i := 8) (oi := ⟨some 75, _, _, _, _, _⟩) (v := ?v9) rfl (by kernel_rfl) (by kernel_rfl) (by kernel_rfl) (fun _ _ _ h => h) (Or.inl ⟨by rfl, ?h9⟩) (by assumption) ?r9
      case h9 => (intro w hSw; (try dsimp only at hSw); go_simp; try with_reducible rfl)
      try simp only [Act.put, List.setIfInBounds_toArray, List.set_cons_zero, List.set_cons_succ]
      refine wpAnyH_take (i := 9) (oi := ⟨some 76, _, _, _, _, _⟩) (v := ?v10) rfl (by kernel_rfl) (by kernel_rfl) (by kernel_rfl) (fun _ _ _ h => h) (Or.inl ⟨by rfl, ?h10⟩) (by assumption) ?r10
      case h10 => (intro w hSw; (try dsimp only at hSw); go_simp; try with_reducible rfl)
      try simp only [Act.put, List.setIfInBounds_toArray, List.set_cons_zero, List.set_cons_succ]
      refine wpAnyH_take (i := 10) (oi := ⟨some 4, _, _, _, _, _⟩) (v := ?v11) rfl (by kernel_rfl) (by kernel_rfl) (by kernel_rfl) (fun _ _ _ h => h) (Or.inl ⟨by rfl, ?h11⟩) (by assumption) ?r11
      case h11 => (intro w hSw; (try dsimp only at hSw); go_simp; try with_reducible rfl)
      try simp only [Act.put, List.setIfInBounds_toArray, List.set_cons_zero, List.set_cons_succ]
      refine wpAnyH_done (by kernel_rfl) ?_ _
      clear hHeld
      go_wp2_with fail
      go_ret
      exact ⟨rfl, HB.out.trans (HB1.out.mono HB.out.size)⟩
theorem paramsPut_walk (x0 : Int × Int × Int × Int) (x1 : Int) (v0 v1 : Value) (w : World) (k0 : IsVd v0 x0) (k1 : IsInt .i64 v1 x1) :
    Calls Try.prog 3 #[v0, v1] w fun e w' => e = .returned (.bool true) ∧ Below w.heap.size w w' := by
  obtain ⟨u0, u1, u2, u3, rfl, e0, e1, e2, e3⟩ := k0
  rw [e0.1, e1.1, e2.1, e3.1, k1.1]
  cases hr : rightVd ⟨x0.1, x0.2.1, x0.2.2.1, x0.2.2.2⟩ with
  | false => exact ppw_no ⟨x0.1, x0.2.1, x0.2.2.1, x0.2.2.2⟩ x1 w hr
  | true => exact ppw_yes ⟨x0.1, x0.2.1, x0.2.2.1, x0.2.2.2⟩ x1 w hr

end Go.Proofs.Ytgdlleoefncikaa
