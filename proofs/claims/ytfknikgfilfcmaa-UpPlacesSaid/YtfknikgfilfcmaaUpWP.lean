/- What the law UpPlaces of layer 19 answers: true. -/
import Derived.Test.YtfknikgfilfcmaaUpF
import Derived.Test.YtfknikgfilfcmaaOpenPlaneC
import Derived.Test.YtfknikgfilfcmaaOpenArr3
import Derived.Test.YtfknikgfilfcmaaUp5
import Derived.Test.YtfknikgfilfcmaaPl7
import Derived.Test.YtfknikgfilfcmaaRef7b
import Derived.Test.YtfknikgfilfcmaaQuiet
import Derived.Deep.DeepCutAuto
import Derived.Deep.CutBlock
namespace Go.Proofs.Ytfknikgfilfcmaa
open Go.RowKit Go.Sort
set_option linter.unusedVariables false
set_option linter.unusedSimpArgs false
set_option maxRecDepth 100000 in
set_option maxHeartbeats 16000000 in
theorem upl_1 (W H : Int) (V : List Int) (A : Option Addr) (c : Nat) (m : Int) (ats : List (Int × Int × Int)) (B : Option Addr) (d : Nat) (w : World) (hp : ReadsI w A V) (hq : Arr3R w B ats) (hn : V.length ≤ 9223372036854775807) (hm : ats.length ≤ 9223372036854775807) (h1 : 2000 < V.length) :
    Calls Try.prog 3 #[plV W H (.slice A V.length c), .int .i64 m, .slice B ats.length d] w fun e w' => e = .returned (.bool true) ∧ Below w.heap.size w w' := by
  have RP := Lib.hid hp
  have RQ := Lib.hid hq
  have HB := Lib.hid (Below.refl w.heap.size w)
  have q1 : (2000 : Int) < (V.length : Int) := by omega
  clear h1
  clear hp hq
  go_enter Try.func3, Try.ntmps3
  go_wp2_with fail
  have RP := Lib.hid ((RP.out).alloc (.cells #[.int .i64 W, .int .i64 H, .slice A V.length c] 24))
  have RQ := Lib.hid ((RQ.out).alloc (.cells #[.int .i64 W, .int .i64 H, .slice A V.length c] 24))
  have HB := Lib.hid (below_alloc_ (HB.out) (.cells #[.int .i64 W, .int .i64 H, .slice A V.length c] 24))
  have hzw : (w.alloc (.cells #[.int .i64 W, .int .i64 H, .slice A V.length c] 24)).heap.size = w.heap.size + 1 := by simp only [World.size_alloc]
  have B3 := Blk.new (w) 24 #[.int .i64 W, .int .i64 H, .slice A V.length c]
  skip
  have B3 := Lib.hid B3
  generalize w.alloc (.cells #[.int .i64 W, .int .i64 H, .slice A V.length c] 24) = w1 at *
  clear hzw
  have HB1 := Lib.hid (Below.refl w1.heap.size w1)
  refine (first_c _).mono ?_
  rintro e w2 ⟨rfl, hb'⟩
  have HB1 := Lib.hid ((HB1.out).trans (hb'.mono (HB1.out).size))
  clear hb'
  obtain ⟨zB30, zB31, zB32⟩ := (B3.out.below HB1.out B3.out.lt).cells3
  go_wp2_with fail
  clear zB30 zB31 zB32
  go_ret
  exact ⟨rfl, HB.out.trans (HB1.out.mono HB.out.size)⟩

set_option maxRecDepth 100000 in
set_option maxHeartbeats 16000000 in
theorem upl_2 (W H : Int) (V : List Int) (A : Option Addr) (c : Nat) (m : Int) (ats : List (Int × Int × Int)) (B : Option Addr) (d : Nat) (w : World) (hp : ReadsI w A V) (hq : Arr3R w B ats) (hn : V.length ≤ 9223372036854775807) (hm : ats.length ≤ 9223372036854775807) (h1 : ¬ 2000 < V.length) (h2 : okR W H V.length m = false) :
    Calls Try.prog 3 #[plV W H (.slice A V.length c), .int .i64 m, .slice B ats.length d] w fun e w' => e = .returned (.bool true) ∧ Below w.heap.size w w' := by
  have RP := Lib.hid hp
  have RQ := Lib.hid hq
  have HB := Lib.hid (Below.refl w.heap.size w)
  have q1 : (V.length : Int) ≤ 2000 := by omega
  have G2 := Lib.hid h2
  have GN := Lib.hid (show ¬ (okB W H V.length = true ∧ 1 ≤ m ∧ m ≤ 65535) by rintro ⟨e1, e2, e3⟩; simp [okR, e1, e2, e3] at h2)
  clear h1 h2
  clear hp hq
  go_enter Try.func3, Try.ntmps3
  go_wp2_with fail
  have RP := Lib.hid ((RP.out).alloc (.cells #[.int .i64 W, .int .i64 H, .slice A V.length c] 24))
  have RQ := Lib.hid ((RQ.out).alloc (.cells #[.int .i64 W, .int .i64 H, .slice A V.length c] 24))
  have HB := Lib.hid (below_alloc_ (HB.out) (.cells #[.int .i64 W, .int .i64 H, .slice A V.length c] 24))
  have hzw : (w.alloc (.cells #[.int .i64 W, .int .i64 H, .slice A V.length c] 24)).heap.size = w.heap.size + 1 := by simp only [World.size_alloc]
  have B3 := Blk.new (w) 24 #[.int .i64 W, .int .i64 H, .slice A V.length c]
  skip
  have B3 := Lib.hid B3
  generalize w.alloc (.cells #[.int .i64 W, .int .i64 H, .slice A V.length c] 24) = w1 at *
  clear hzw
  have HB1 := Lib.hid (Below.refl w1.heap.size w1)
  refine (first_c _).mono ?_
  rintro e w2 ⟨rfl, hb'⟩
  have HB1 := Lib.hid ((HB1.out).trans (hb'.mono (HB1.out).size))
  clear hb'
  obtain ⟨zB30, zB31, zB32⟩ := (B3.out.below HB1.out B3.out.lt).cells3
  go_wp2_with fail
  clear zB30 zB31 zB32
  refine (uNew_no W H A V.length c m _ hn GN.out).mono ?_
  rintro e w3 ⟨rfl, hb'⟩
  have HB1 := Lib.hid ((HB1.out).trans (hb'.mono (HB1.out).size))
  clear hb'
  obtain ⟨zB30, zB31, zB32⟩ := (B3.out.below HB1.out B3.out.lt).cells3
  go_wp2_with fail
  clear zB30 zB31 zB32
  refine (right_c W H A V.length c m _ hn).mono ?_
  rintro e w4 ⟨rfl, hb'⟩
  have HB1 := Lib.hid ((HB1.out).trans (hb'.mono (HB1.out).size))
  clear hb'
  rw [G2.out]
  go_wp2_with fail
  refine (uHalf_nil 0 0 _).mono ?_
  rintro e wz ⟨rfl, rfl⟩
  go_wp2_with fail
  refine (uAt_nil 0 0 0 _).mono ?_
  rintro e wz ⟨rfl, rfl⟩
  go_wp2_with fail
  refine (uPlane_nil _).mono ?_
  rintro e w5 ⟨rfl, hb'⟩
  have HB1 := Lib.hid ((HB1.out).trans (hb'.mono (HB1.out).size))
  clear hb'
  go_wp2_with fail
  refine (rsame_c 0 0 [] 0 0 [] none none 0 0 _ Reads.none_ Reads.none_ (by decide) (by decide)).mono ?_
  rintro e w6 ⟨rfl, hb'⟩
  have HB1 := Lib.hid ((HB1.out).trans (hb'.mono (HB1.out).size))
  clear hb'
  rw [show eqB 0 0 [] 0 0 [] = true from by simp [eqB]]
  go_wp2_with fail
  go_ret
  exact ⟨rfl, HB.out.trans (HB1.out.mono HB.out.size)⟩

set_option maxRecDepth 100000 in
set_option maxHeartbeats 16000000 in
theorem upl_3 (a b : Nat) (V : List Int) (A : Option Addr) (c : Nat) (m : Int) (ats : List (Int × Int × Int)) (B : Option Addr) (d : Nat) (w : World) (hp : ReadsI w A V) (hq : Arr3R w B ats) (hn : V.length ≤ 9223372036854775807) (hm : ats.length ≤ 9223372036854775807) (a1 : 1 ≤ a) (a2 : a ≤ 1024) (b1 : 1 ≤ b) (b2 : b ≤ 1024) (hl : V.length = a * b) (m1 : 1 ≤ m) (m2 : m ≤ 65535) (h1 : ¬ 2000 < V.length) :
    Calls Try.prog 3 #[plV a b (.slice A V.length c), .int .i64 m, .slice B ats.length d] w fun e w' => e = .returned (.bool true) ∧ Below w.heap.size w w' := by
  have RP := Lib.hid hp
  have RQ := Lib.hid hq
  have HB := Lib.hid (Below.refl w.heap.size w)
  have q1 : (V.length : Int) ≤ 2000 := by omega
  have G2 := Lib.hid (show okR a b V.length m = true by unfold okR; rw [hl, okB_mk a1 a2 b1 b2]; simp; omega)
  have HL := Lib.hid hl
  have HJ := Lib.hid (clip_join (m := m) (show okB a b V.length = true by rw [hl]; exact okB_mk a1 a2 b1 b2))
  have L1 := Lib.hid (show (clipV V m).length = a * b by rw [clipV_length]; exact hl)
  have L2 := Lib.hid (show (clipV V m).length ≤ 9223372036854775806 by rw [clipV_length]; omega)
  have EQ := Lib.hid (show eqB a b (clipV V m) a b (clipV V m) = true by simp [eqB])
  clear h1 hl
  clear hp hq
  go_enter Try.func3, Try.ntmps3
  go_wp2_with fail
  have RP := Lib.hid ((RP.out).alloc (.cells #[.int .i64 a, .int .i64 b, .slice A V.length c] 24))
  have RQ := Lib.hid ((RQ.out).alloc (.cells #[.int .i64 a, .int .i64 b, .slice A V.length c] 24))
  have HB := Lib.hid (below_alloc_ (HB.out) (.cells #[.int .i64 a, .int .i64 b, .slice A V.length c] 24))
  have hzw : (w.alloc (.cells #[.int .i64 a, .int .i64 b, .slice A V.length c] 24)).heap.size = w.heap.size + 1 := by simp only [World.size_alloc]
  have B3 := Blk.new (w) 24 #[.int .i64 a, .int .i64 b, .slice A V.length c]
  skip
  have B3 := Lib.hid B3
  generalize w.alloc (.cells #[.int .i64 a, .int .i64 b, .slice A V.length c] 24) = w1 at *
  clear hzw
  have HB1 := Lib.hid (Below.refl w1.heap.size w1)
  refine (first_c _).mono ?_
  rintro e w2 ⟨rfl, hb'⟩
  have HB1 := Lib.hid ((HB1.out).trans (hb'.mono (HB1.out).size))
  clear hb'
  obtain ⟨zB30, zB31, zB32⟩ := (B3.out.below HB1.out B3.out.lt).cells3
  go_wp2_with fail
  clear zB30 zB31 zB32
  refine (uNew_yes a b V A c m _ (RP.out.kept HB1.out) a1 a2 b1 b2 HL.out m1 m2).mono ?_
  rintro e w3 ⟨R, rfl, hlt, hr, hb'⟩
  have HB1 := Lib.hid ((HB1.out).trans (hb'.mono (HB1.out).size))
  clear hb'
  have FR := Lib.hid hr
  clear hr hlt
  have B3 := Lib.hid (B3.out.below HB1.out B3.out.lt)
  have RP := Lib.hid (RP.out.kept HB1.out)
  have RQ := Lib.hid (RQ.out.kept HB1.out)
  have HB := Lib.hid (HB.out.trans (HB1.out.mono HB.out.size))
  have HB1 := Lib.hid (Below.refl w3.heap.size w3)
  obtain ⟨zB30, zB31, zB32⟩ := (B3.out.below HB1.out B3.out.lt).cells3
  go_wp2_with fail
  clear zB30 zB31 zB32
  refine (right_c a b A V.length c m _ hn).mono ?_
  rintro e w4 ⟨rfl, hb'⟩
  have HB1 := Lib.hid ((HB1.out).trans (hb'.mono (HB1.out).size))
  clear hb'
  rw [G2.out]
  obtain ⟨zB30, zB31, zB32⟩ := (B3.out.below HB1.out B3.out.lt).cells3
  go_wp2_with fail
  clear zB30 zB31 zB32
  refine (r19New_c a b V A c m _ (RP.out.kept HB1.out) hn ⟨a, b, (clipV V m)⟩ HJ.out).mono ?_
  rintro e w5 ⟨v, rfl, ho, hb'⟩
  have HB1 := Lib.hid ((HB1.out).trans (hb'.mono (HB1.out).size))
  clear hb'
  obtain ⟨A6, c6, rfl, hq⟩ := ho.slice
  have R6 := Lib.hid hq
  clear ho hq
  have B3 := Lib.hid (B3.out.below HB1.out B3.out.lt)
  have FR := Lib.hid (FR.out.below HB1.out)
  have RP := Lib.hid (RP.out.kept HB1.out)
  have RQ := Lib.hid (RQ.out.kept HB1.out)
  have HB := Lib.hid (HB.out.trans (HB1.out.mono HB.out.size))
  have HB1 := Lib.hid (Below.refl w5.heap.size w5)
  obtain ⟨zB30, zB31, zB32⟩ := (B3.out.below HB1.out B3.out.lt).cells3
  go_wp2_with fail
  clear zB30 zB31 zB32
  have HBn := Lib.hid (below_alloc_ (Below.refl w5.heap.size w5) (.cells #[.int .i64 a, .int .i64 b, .slice A6 (clipV V m).length c6, .int .i64 m] 35))
  have HB1 := HBn
  have B8 := Lib.hid (Blk.new w5 35 #[.int .i64 a, .int .i64 b, .slice A6 (clipV V m).length c6, .int .i64 m])
  have B3 := Lib.hid (B3.out.below HB1.out B3.out.lt)
  have FR := Lib.hid (FR.out.below HB1.out)
  have R6 := Lib.hid (R6.out.kept HB1.out)
  have RP := Lib.hid (RP.out.kept HB1.out)
  have RQ := Lib.hid (RQ.out.kept HB1.out)
  have HB := Lib.hid (HB.out.trans (HB1.out.mono HB.out.size))
  generalize w5.alloc (.cells #[.int .i64 a, .int .i64 b, .slice A6 (clipV V m).length c6, .int .i64 m] 35) = wl at *
  clear HB1 HBn
  have HB1 := Lib.hid (Below.refl wl.heap.size wl)
  go_loopw [47] (fun v wr => ∃ k : Nat, k ≤ ats.length ∧ v = .int .i64 k ∧ Below wl.heap.size wl wr) (fun v _ => ats.length - (intOf v).toNat)
  case atStart => exact ⟨0, Nat.zero_le _, rfl, HB1.out⟩
  case round =>
    obtain ⟨k, hk, rfl, hb⟩ := hrel
    have HB1 := Lib.hid hb
    obtain ⟨wo, ewo⟩ : ∃ wo, wo = wr := ⟨_, rfl⟩
    subst ewo
    clear hb
    by_cases hlt : k < ats.length
    · skip
      obtain ⟨ad, rfl, l1, d0, d1, d2⟩ := Arr3R.at_ (RQ.out.kept HB1.out) hlt
      have i1 : (0 : Int) ≤ (k : Int) := by omega
      have i2 : (k : Int) < (ats.length : Int) := by omega
      clear l1
      obtain ⟨⟨p0, p1, p2⟩, hp⟩ : ∃ p, p = ats[k] := ⟨_, rfl⟩
      rw [← hp] at d0 d1 d2
      dsimp only at d0 d1 d2
      clear hp
      by_cases h60 : 60 ≤ k
      · skip
        have i3 : (60 : Int) ≤ (k : Int) := by omega
        skip
        obtain ⟨zB30, zB31, zB32⟩ := (B3.out.below HB1.out B3.out.lt).cells3
        obtain ⟨zB80, zB81, zB82, zB83⟩ := (B8.out.below HB1.out B8.out.lt).cells4
        go_upto_region 16 with fail
        clear zB30 zB31 zB32
        clear zB80 zB81 zB82 zB83
        clear d0 d1 d2
        have HB1 := Lib.hid (below_alloc_ (HB1.out) (.cells #[.int .i64 p0, .int .i64 p1, .int .i64 p2] 37))
        have hzw : (wo.alloc (.cells #[.int .i64 p0, .int .i64 p1, .int .i64 p2] 37)).heap.size = wo.heap.size + 1 := by simp only [World.size_alloc]
        have BA := Blk.new (wo) 37 #[.int .i64 p0, .int .i64 p1, .int .i64 p2]
        skip
        have BA := Lib.hid BA
        generalize wo.alloc (.cells #[.int .i64 p0, .int .i64 p1, .int .i64 p2] 37) = w6 at *
        clear hzw
        obtain ⟨zB30, zB31, zB32⟩ := (B3.out.below HB1.out B3.out.lt).cells3
        obtain ⟨zB80, zB81, zB82, zB83⟩ := (B8.out.below HB1.out B8.out.lt).cells4
        clear zB30 zB31 zB32
        clear zB80 zB81 zB82 zB83
        have HB1 := Lib.hid ((HB1.out).drew)
        refine wp_region_held_drew (S := (fun w' => w'.cell? ⟨w5.heap.size, 0, none⟩ = some (.int .i64 a) ∧ w'.cell? ⟨w5.heap.size, 1, none⟩ = some (.int .i64 b) ∧ w'.cell? ⟨w5.heap.size, 2, none⟩ = some (.slice A6 (clipV V m).length c6) ∧ w'.cell? ⟨w5.heap.size, 3, none⟩ = some (.int .i64 m))) (by kernel_rfl) ?hS0 (fun hHeld => ?_)
        case hS0 => exact ⟨(B8.out.below HB1.out B8.out.lt).cell 0, (B8.out.below HB1.out B8.out.lt).cell 1, (B8.out.below HB1.out B8.out.lt).cell 2, (B8.out.below HB1.out B8.out.lt).cell 3⟩
        refine wpAnyH_take (i := 0) (oi := ⟨some 87, _, _, _, _, _⟩) (v := ?v94) rfl (by kernel_rfl) (by kernel_rfl) (by kernel_rfl) (fun _ _ _ h => h) (Or.inl ⟨by rfl, ?h94⟩) (by assumption) ?r94
        case h94 => (intro w hSw; (try dsimp only at hSw); go_simp; try with_reducible rfl)
        try simp only [Act.put, List.setIfInBounds_toArray, List.set_cons_zero, List.set_cons_succ]
        refine wpAnyH_take (i := 2) (oi := ⟨some 89, _, _, _, _, _⟩) (v := ?v95) rfl (by kernel_rfl) (by kernel_rfl) (by kernel_rfl) (fun _ _ _ h => h) (Or.inl ⟨by rfl, ?h95⟩) (by assumption) ?r95
        case h95 => (intro w hSw; (try dsimp only at hSw); go_simp; try with_reducible rfl)
        try simp only [Act.put, List.setIfInBounds_toArray, List.set_cons_zero, List.set_cons_succ]
        refine wpAnyH_take (i := 3) (oi := ⟨some 90, _, _, _, _, _⟩) (v := ?v96) rfl (by kernel_rfl) (by kernel_rfl) (by kernel_rfl) (fun _ _ _ h => h) (Or.inl ⟨by rfl, ?h96⟩) (by assumption) ?r96
        case h96 => (intro w hSw; (try dsimp only at hSw); go_simp; try with_reducible rfl)
        try simp only [Act.put, List.setIfInBounds_toArray, List.set_cons_zero, List.set_cons_succ]
        refine wpAnyH_ready (rs := [1]) (by kernel_rfl) (by simp) ?_
        refine (AllReadyH.cons (o := ⟨some 88, _, _, _, _, _⟩) rfl (fun K hK => ?_) AllReadyH.nil)
        go_simp
        have HS1 := HB1
        refine (uPlane_c R a b (clipV V m) m _ (FR.out.below HB1.out)).mono ?_
        rintro e w7 ⟨v, rfl, ho, hb'⟩
        have HB1 := Lib.hid ((HB1.out).trans (hb'.mono (HB1.out).size))
        clear hb'
        obtain ⟨A9, c9, rfl, hq⟩ := ho.slice
        have R9 := Lib.hid hq
        clear ho hq
        refine hK.out _ _ ?hS97 (fun hHeld => ?_)
        case hS97 => exact ⟨(B8.out.below HB1.out B8.out.lt).cell 0, (B8.out.below HB1.out B8.out.lt).cell 1, (B8.out.below HB1.out B8.out.lt).cell 2, (B8.out.below HB1.out B8.out.lt).cell 3⟩
        clear hK K
        try simp only [Act.put, List.setIfInBounds_toArray, List.set_cons_zero, List.set_cons_succ]
        refine wpAnyH_ready (rs := [4]) (by kernel_rfl) (by simp) ?_
        refine (AllReadyH.cons (o := ⟨some 91, _, _, _, _, _⟩) rfl (fun K hK => ?_) AllReadyH.nil)
        go_simp
        have HS1 := HB1
        refine (rsame_c a b (clipV V m) a b (clipV V m) A9 A6 c9 c6 _ R9.out (R6.out.kept HB1.out) L2.out L2.out).mono ?_
        rintro e w8 ⟨rfl, hb'⟩
        have HB1 := Lib.hid ((HB1.out).trans (hb'.mono (HB1.out).size))
        have R9 := Lib.hid ((R9.out).kept hb')
        clear hb'
        rw [EQ.out]
        refine hK.out _ _ ?hS98 (fun hHeld => ?_)
        case hS98 => exact ⟨(B8.out.below HB1.out B8.out.lt).cell 0, (B8.out.below HB1.out B8.out.lt).cell 1, (B8.out.below HB1.out B8.out.lt).cell 2, (B8.out.below HB1.out B8.out.lt).cell 3⟩
        clear hK K
        try simp only [Act.put, List.setIfInBounds_toArray, List.set_cons_zero, List.set_cons_succ]
        refine wpAnyH_take (i := 5) (oi := ⟨some 6, _, _, _, _, _⟩) (v := ?v99) rfl (by kernel_rfl) (by kernel_rfl) (by kernel_rfl) (fun _ _ _ h => h) (Or.inl ⟨by rfl, ?h99⟩) (by assumption) ?r99
        case h99 => (intro w hSw; (try dsimp only at hSw); go_simp; try with_reducible rfl)
        try simp only [Act.put, List.setIfInBounds_toArray, List.set_cons_zero, List.set_cons_succ]
        refine wpAnyH_done (by kernel_rfl) ?_ _
        clear hHeld
        go_wp2_with fail
        go_ret
        exact ⟨rfl, HB.out.trans (HB1.out.mono HB.out.size)⟩
      · skip
        have i3 : (k : Int) < 60 := by omega
        obtain ⟨zB30, zB31, zB32⟩ := (B3.out.below HB1.out B3.out.lt).cells3
        obtain ⟨zB80, zB81, zB82, zB83⟩ := (B8.out.below HB1.out B8.out.lt).cells4
        go_upto_region 13 with fail
        clear zB30 zB31 zB32
        clear zB80 zB81 zB82 zB83
        clear d0 d1 d2
        have HB1 := Lib.hid (below_alloc_ (HB1.out) (.cells #[.int .i64 p0, .int .i64 p1, .int .i64 p2] 37))
        have hzw : (wo.alloc (.cells #[.int .i64 p0, .int .i64 p1, .int .i64 p2] 37)).heap.size = wo.heap.size + 1 := by simp only [World.size_alloc]
        have BA := Blk.new (wo) 37 #[.int .i64 p0, .int .i64 p1, .int .i64 p2]
        skip
        have BA := Lib.hid BA
        generalize wo.alloc (.cells #[.int .i64 p0, .int .i64 p1, .int .i64 p2] 37) = w6 at *
        clear hzw
        obtain ⟨zB80, zB81, zB82, zB83⟩ := (B8.out.below HB1.out B8.out.lt).cells4
        obtain ⟨zBA0, zBA1, zBA2⟩ := (BA.out).cells3
        have kq0 := cell_regrown zB80
        have kq1 := cell_regrown zB81
        have kq2 := cell_regrown zB82
        have kq3 := cell_regrown zB83
        have kq4 := cell_regrown zBA0
        have kq5 := cell_regrown zBA1
        have kq6 := cell_regrown zBA2
        have qc0 := fun (d : Nat) (os : Array Obj) => Calls.regrown_of (uHalf_c R a b (clipV V m) m p0 p1 (grow (redrawn w6 d) os) ((FR.out.below HB1.out).below (below_regrown w6 d os)))
        have qc1 := fun (d : Nat) (os : Array Obj) => Calls.regrown_of (r19Half_c a b (clipV V m) A6 c6 m p0 p1 (grow (redrawn w6 d) os) ((R6.out.kept HB1.out).kept (below_regrown w6 d os)) a1 a2 b1 b2 L1.out m1 m2 (clipV_bd V m1))
        have qc2 := fun (d : Nat) (os : Array Obj) => Calls.regrown_of (uAt_c R a b (clipV V m) m p0 p1 p2 (grow (redrawn w6 d) os) ((FR.out.below HB1.out).below (below_regrown w6 d os)))
        have qc3 := fun (d : Nat) (os : Array Obj) => Calls.regrown_of (r19At_c a b (clipV V m) A6 c6 m p0 p1 p2 (grow (redrawn w6 d) os) ((R6.out.kept HB1.out).kept (below_regrown w6 d os)) a1 a2 b1 b2 L1.out m1 m2 (clipV_bd V m1))
        clear zB80 zB81 zB82 zB83 zBA0 zBA1 zBA2
        refine wp_region_quiet_below (by kernel_rfl) (by kernel_rfl) ?_
        repeat (go_big_quiet_step (first | with_reducible exact qc0 _ _ | with_reducible exact qc1 _ _ | with_reducible exact qc2 _ _ | with_reducible exact qc3 _ _))
        refine wpQuiet_nil ?_
        intro _ hw'
        obtain ⟨⟨dq, osq⟩, hw''⟩ := hw'
        subst hw''
        have hb' := below_regrown w6 dq osq
        clear kq0 kq1 kq2 kq3 kq4 kq5 kq6 qc0 qc1 qc2 qc3
        have HB1 := Lib.hid ((HB1.out).trans (hb'.mono (HB1.out).size))
        have BA := Lib.hid ((BA.out).below hb' (BA.out).lt)
        clear hb'
        generalize grow (redrawn w6 dq) osq = w7 at *
        go_wp2_with fail
        go_roundw
        case rel => exact ⟨k + 1, by omega, by go_num, HB1.out⟩
        case measure => simp [intOf]; omega
    · skip
      obtain rfl : k = ats.length := by omega
      obtain ⟨zB30, zB31, zB32⟩ := (B3.out.below HB1.out B3.out.lt).cells3
      obtain ⟨zB80, zB81, zB82, zB83⟩ := (B8.out.below HB1.out B8.out.lt).cells4
      go_upto_region 16 with fail
      clear zB30 zB31 zB32
      clear zB80 zB81 zB82 zB83
      have HB1 := Lib.hid ((HB1.out).drew)
      refine wp_region_held_drew (S := (fun w' => w'.cell? ⟨w5.heap.size, 0, none⟩ = some (.int .i64 a) ∧ w'.cell? ⟨w5.heap.size, 1, none⟩ = some (.int .i64 b) ∧ w'.cell? ⟨w5.heap.size, 2, none⟩ = some (.slice A6 (clipV V m).length c6) ∧ w'.cell? ⟨w5.heap.size, 3, none⟩ = some (.int .i64 m))) (by kernel_rfl) ?hS0 (fun hHeld => ?_)
      case hS0 => exact ⟨(B8.out.below HB1.out B8.out.lt).cell 0, (B8.out.below HB1.out B8.out.lt).cell 1, (B8.out.below HB1.out B8.out.lt).cell 2, (B8.out.below HB1.out B8.out.lt).cell 3⟩
      refine wpAnyH_take (i := 0) (oi := ⟨some 87, _, _, _, _, _⟩) (v := ?v100) rfl (by kernel_rfl) (by kernel_rfl) (by kernel_rfl) (fun _ _ _ h => h) (Or.inl ⟨by rfl, ?h100⟩) (by assumption) ?r100
      case h100 => (intro w hSw; (try dsimp only at hSw); go_simp; try with_reducible rfl)
      try simp only [Act.put, List.setIfInBounds_toArray, List.set_cons_zero, List.set_cons_succ]
      refine wpAnyH_take (i := 2) (oi := ⟨some 89, _, _, _, _, _⟩) (v := ?v101) rfl (by kernel_rfl) (by kernel_rfl) (by kernel_rfl) (fun _ _ _ h => h) (Or.inl ⟨by rfl, ?h101⟩) (by assumption) ?r101
      case h101 => (intro w hSw; (try dsimp only at hSw); go_simp; try with_reducible rfl)
      try simp only [Act.put, List.setIfInBounds_toArray, List.set_cons_zero, List.set_cons_succ]
      refine wpAnyH_take (i := 3) (oi := ⟨some 90, _, _, _, _, _⟩) (v := ?v102) rfl (by kernel_rfl) (by kernel_rfl) (by kernel_rfl) (fun _ _ _ h => h) (Or.inl ⟨by rfl, ?h102⟩) (by assumption) ?r102
      case h102 => (intro w hSw; (try dsimp only at hSw); go_simp; try with_reducible rfl)
      try simp only [Act.put, List.setIfInBounds_toArray, List.set_cons_zero, List.set_cons_succ]
      refine wpAnyH_ready (rs := [1]) (by kernel_rfl) (by simp) ?_
      refine (AllReadyH.cons (o := ⟨some 88, _, _, _, _, _⟩) rfl (fun K hK => ?_) AllReadyH.nil)
      go_simp
      have HS1 := HB1
      refine (uPlane_c R a b (clipV V m) m _ (FR.out.below HB1.out)).mono ?_
      rintro e w8 ⟨v, rfl, ho, hb'⟩
      have HB1 := Lib.hid ((HB1.out).trans (hb'.mono (HB1.out).size))
      clear hb'
      obtain ⟨A9, c9, rfl, hq⟩ := ho.slice
      have R9 := Lib.hid hq
      clear ho hq
      refine hK.out _ _ ?hS103 (fun hHeld => ?_)
      case hS103 => exact ⟨(B8.out.below HB1.out B8.out.lt).cell 0, (B8.out.below HB1.out B8.out.lt).cell 1, (B8.out.below HB1.out B8.out.lt).cell 2, (B8.out.below HB1.out B8.out.lt).cell 3⟩
      clear hK K
      try simp only [Act.put, List.setIfInBounds_toArray, List.set_cons_zero, List.set_cons_succ]
      refine wpAnyH_ready (rs := [4]) (by kernel_rfl) (by simp) ?_
      refine (AllReadyH.cons (o := ⟨some 91, _, _, _, _, _⟩) rfl (fun K hK => ?_) AllReadyH.nil)
      go_simp
      have HS1 := HB1
      refine (rsame_c a b (clipV V m) a b (clipV V m) A9 A6 c9 c6 _ R9.out (R6.out.kept HB1.out) L2.out L2.out).mono ?_
      rintro e w9 ⟨rfl, hb'⟩
      have HB1 := Lib.hid ((HB1.out).trans (hb'.mono (HB1.out).size))
      have R9 := Lib.hid ((R9.out).kept hb')
      clear hb'
      rw [EQ.out]
      refine hK.out _ _ ?hS104 (fun hHeld => ?_)
      case hS104 => exact ⟨(B8.out.below HB1.out B8.out.lt).cell 0, (B8.out.below HB1.out B8.out.lt).cell 1, (B8.out.below HB1.out B8.out.lt).cell 2, (B8.out.below HB1.out B8.out.lt).cell 3⟩
      clear hK K
      try simp only [Act.put, List.setIfInBounds_toArray, List.set_cons_zero, List.set_cons_succ]
      refine wpAnyH_take (i := 5) (oi := ⟨some 6, _, _, _, _, _⟩) (v := ?v105) rfl (by kernel_rfl) (by kernel_rfl) (by kernel_rfl) (fun _ _ _ h => h) (Or.inl ⟨by rfl, ?h105⟩) (by assumption) ?r105
      case h105 => (intro w hSw; (try dsimp only at hSw); go_simp; try with_reducible rfl)
      try simp only [Act.put, List.setIfInBounds_toArray, List.set_cons_zero, List.set_cons_succ]
      refine wpAnyH_done (by kernel_rfl) ?_ _
      clear hHeld
      go_wp2_with fail
      go_ret
      exact ⟨rfl, HB.out.trans (HB1.out.mono HB.out.size)⟩

theorem upPlaces_walk (x0 : Int × Int × List Int) (x1 : Int) (x2 : List (Int × Int × Int)) (v0 v1 v2 : Value) (w : World) (k0 : IsPlaneC w v0 x0) (k1 : IsInt .i64 v1 x1) (k2 : IsArrs3 w v2 x2) :
    Calls Try.prog 3 #[v0, v1, v2] w fun e w' => e = .returned (.bool true) ∧ Below w.heap.size w w' := by
  obtain ⟨W, H, V⟩ := x0
  obtain ⟨A, c, rfl, hp, hn, _, _, _, hc, hc2⟩ := k0.form
  obtain ⟨rfl, _⟩ := k1
  obtain ⟨B, d, rfl, hm, hq, _⟩ := k2
  have hm2 : x2.length ≤ 9223372036854775807 := by unfold maxLen at hm; omega
  by_cases h1 : 2000 < V.length
  · exact upl_1 W H V A c x1 x2 B d w hp hq hn hm2 h1
  cases h2 : okR W H V.length x1 with
  | false => exact upl_2 W H V A c x1 x2 B d w hp hq hn hm2 h1 h2
  | true =>
    unfold okR at h2
    simp only [Bool.and_eq_true, decide_eq_true_eq] at h2
    obtain ⟨a, b, rfl, rfl, a1, a2, b1, b2, hl⟩ := okB_nat h2.1.1
    exact upl_3 a b V A c x1 x2 B d w hp hq hn hm2 a1 a2 b1 b2 hl h2.1.2 h2.2 h1

end Go.Proofs.Ytfknikgfilfcmaa
