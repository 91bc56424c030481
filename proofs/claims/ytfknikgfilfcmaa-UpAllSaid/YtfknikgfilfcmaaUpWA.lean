/- What the law UpAll of layer 19 answers: true. -/
import Derived.Test.YtfknikgfilfcmaaUpF
import Derived.Test.YtfknikgfilfcmaaOpenPlaneC
import Derived.Test.YtfknikgfilfcmaaUp5
import Derived.Test.YtfknikgfilfcmaaPl7
import Derived.Test.YtfknikgfilfcmaaRef7b
import Derived.Test.YtfknikgfilfcmaaQuiet
import Derived.Deep.DeepCutAuto
import Derived.Deep.CutBlock
namespace Go.Proofs.Ytfknikgfilfcmaa
open Go.RowKit Go.Sort
set_option linter.unusedVariables false
set_option linter.unusedSimpArgs false
set_option maxRecDepth 100000 in
set_option maxHeartbeats 16000000 in
theorem uall_1 (W H : Int) (V : List Int) (A : Option Addr) (c : Nat) (l : Int) (w : World) (hp : ReadsI w A V) (hn : V.length ≤ 9223372036854775807) (h1 : 40 < V.length) :
    Calls Try.prog 4 #[plV W H (.slice A V.length c), .int .u8 l] w fun e w' => e = .returned (.bool true) ∧ Below w.heap.size w w' := by
  have RP := Lib.hid hp
  have HB := Lib.hid (Below.refl w.heap.size w)
  have q1 : (40 : Int) < (V.length : Int) := by omega
  clear h1
  clear hp
  go_enter Try.func4, Try.ntmps4
  go_wp2_with fail
  have RP := Lib.hid ((RP.out).alloc (.cells #[.int .i64 W, .int .i64 H, .slice A V.length c] 24))
  have HB := Lib.hid (below_alloc_ (HB.out) (.cells #[.int .i64 W, .int .i64 H, .slice A V.length c] 24))
  have hzw : (w.alloc (.cells #[.int .i64 W, .int .i64 H, .slice A V.length c] 24)).heap.size = w.heap.size + 1 := by simp only [World.size_alloc]
  have B2 := Blk.new (w) 24 #[.int .i64 W, .int .i64 H, .slice A V.length c]
  skip
  have B2 := Lib.hid B2
  generalize w.alloc (.cells #[.int .i64 W, .int .i64 H, .slice A V.length c] 24) = w1 at *
  clear hzw
  have HB1 := Lib.hid (Below.refl w1.heap.size w1)
  refine (first_c _).mono ?_
  rintro e w2 ⟨rfl, hb'⟩
  have HB1 := Lib.hid ((HB1.out).trans (hb'.mono (HB1.out).size))
  clear hb'
  obtain ⟨zB20, zB21, zB22⟩ := (B2.out.below HB1.out B2.out.lt).cells3
  go_wp2_with fail
  clear zB20 zB21 zB22
  go_ret
  exact ⟨rfl, HB.out.trans (HB1.out.mono HB.out.size)⟩

set_option maxRecDepth 100000 in
set_option maxHeartbeats 16000000 in
theorem uall_2 (W H : Int) (V : List Int) (A : Option Addr) (c : Nat) (l : Int) (w : World) (hp : ReadsI w A V) (hn : V.length ≤ 9223372036854775807) (h1 : ¬ 40 < V.length) (h2 : okR W H V.length 255 = false) :
    Calls Try.prog 4 #[plV W H (.slice A V.length c), .int .u8 l] w fun e w' => e = .returned (.bool true) ∧ Below w.heap.size w w' := by
  have RP := Lib.hid hp
  have HB := Lib.hid (Below.refl w.heap.size w)
  have q1 : (V.length : Int) ≤ 40 := by omega
  have G2 := Lib.hid h2
  clear h1 h2
  clear hp
  go_enter Try.func4, Try.ntmps4
  go_wp2_with fail
  have RP := Lib.hid ((RP.out).alloc (.cells #[.int .i64 W, .int .i64 H, .slice A V.length c] 24))
  have HB := Lib.hid (below_alloc_ (HB.out) (.cells #[.int .i64 W, .int .i64 H, .slice A V.length c] 24))
  have hzw : (w.alloc (.cells #[.int .i64 W, .int .i64 H, .slice A V.length c] 24)).heap.size = w.heap.size + 1 := by simp only [World.size_alloc]
  have B2 := Blk.new (w) 24 #[.int .i64 W, .int .i64 H, .slice A V.length c]
  skip
  have B2 := Lib.hid B2
  generalize w.alloc (.cells #[.int .i64 W, .int .i64 H, .slice A V.length c] 24) = w1 at *
  clear hzw
  have HB1 := Lib.hid (Below.refl w1.heap.size w1)
  refine (first_c _).mono ?_
  rintro e w2 ⟨rfl, hb'⟩
  have HB1 := Lib.hid ((HB1.out).trans (hb'.mono (HB1.out).size))
  clear hb'
  obtain ⟨zB20, zB21, zB22⟩ := (B2.out.below HB1.out B2.out.lt).cells3
  go_wp2_with fail
  clear zB20 zB21 zB22
  refine (right_c W H A V.length c 255 _ hn).mono ?_
  rintro e w3 ⟨rfl, hb'⟩
  have HB1 := Lib.hid ((HB1.out).trans (hb'.mono (HB1.out).size))
  clear hb'
  rw [G2.out]
  go_wp2_with fail
  go_ret
  exact ⟨rfl, HB.out.trans (HB1.out.mono HB.out.size)⟩

set_option maxRecDepth 100000 in
set_option maxHeartbeats 16000000 in
theorem uall_y0 (a b : Nat) (V : List Int) (A : Option Addr) (c : Nat) (l : Int) (w : World) (hp : ReadsI w A V) (hn : V.length ≤ 9223372036854775807) (a1 : 1 ≤ a) (a2 : a ≤ 1024) (b1 : 1 ≤ b) (b2 : b ≤ 1024) (hl : V.length = a * b) (h1 : ¬ 40 < V.length) (hl1 : 0 ≤ l) (hl2 : l ≤ 255) (hl0 : l % 4 = 0) :
    Calls Try.prog 4 #[plV a b (.slice A V.length c), .int .u8 l] w fun e w' => e = .returned (.bool true) ∧ Below w.heap.size w w' := by
  have RP := Lib.hid hp
  have HB := Lib.hid (Below.refl w.heap.size w)
  have q1 : (V.length : Int) ≤ 40 := by omega
  have G2 := Lib.hid (show okR a b V.length 255 = true by unfold okR; rw [hl, okB_mk a1 a2 b1 b2]; rfl)
  have HL := Lib.hid hl
  have HJ := Lib.hid (clip_join (m := 255) (show okB a b V.length = true by rw [hl]; exact okB_mk a1 a2 b1 b2))
  have HM := Lib.hid hl0
  have L1 := Lib.hid (show (clipV V 255).length = a * b by rw [clipV_length]; exact hl)
  clear h1 hl hl0
  clear hp
  go_enter Try.func4, Try.ntmps4
  go_wp2_with fail
  have RP := Lib.hid ((RP.out).alloc (.cells #[.int .i64 a, .int .i64 b, .slice A V.length c] 24))
  have HB := Lib.hid (below_alloc_ (HB.out) (.cells #[.int .i64 a, .int .i64 b, .slice A V.length c] 24))
  have hzw : (w.alloc (.cells #[.int .i64 a, .int .i64 b, .slice A V.length c] 24)).heap.size = w.heap.size + 1 := by simp only [World.size_alloc]
  have B2 := Blk.new (w) 24 #[.int .i64 a, .int .i64 b, .slice A V.length c]
  skip
  have B2 := Lib.hid B2
  generalize w.alloc (.cells #[.int .i64 a, .int .i64 b, .slice A V.length c] 24) = w1 at *
  clear hzw
  have HB1 := Lib.hid (Below.refl w1.heap.size w1)
  refine (first_c _).mono ?_
  rintro e w2 ⟨rfl, hb'⟩
  have HB1 := Lib.hid ((HB1.out).trans (hb'.mono (HB1.out).size))
  clear hb'
  obtain ⟨zB20, zB21, zB22⟩ := (B2.out.below HB1.out B2.out.lt).cells3
  go_wp2_with fail
  clear zB20 zB21 zB22
  refine (right_c a b A V.length c 255 _ hn).mono ?_
  rintro e w3 ⟨rfl, hb'⟩
  have HB1 := Lib.hid ((HB1.out).trans (hb'.mono (HB1.out).size))
  clear hb'
  rw [G2.out]
  obtain ⟨zB20, zB21, zB22⟩ := (B2.out.below HB1.out B2.out.lt).cells3
  go_upto_region 5 with fail
  clear zB20 zB21 zB22
  obtain ⟨zB20, zB21, zB22⟩ := (B2.out.below HB1.out B2.out.lt).cells3
  clear zB20 zB21 zB22
  go_cut [5, 6] (fun s5 s6 wx => ∃ R b6 A6 c6, s5 = .pointer (some ⟨R, 0, none⟩) ∧ s6 = .pointer (some ⟨b6, 0, none⟩) ∧ Blk wx b6 35 #[.int .i64 a, .int .i64 b, .slice A6 (clipV V 255).length c6, .int .i64 255] ∧ ReadsI wx A6 (clipV V 255) ∧ RefAt wx R a b (clipV V 255) 255 ∧ Below w1.heap.size w1 wx)
  case first =>
    have HB1 := Lib.hid ((HB1.out).drew)
    refine wp_region_held_drew (S := (fun w' => w'.cell? ⟨w.heap.size, 0, none⟩ = some (.int .i64 a) ∧ w'.cell? ⟨w.heap.size, 1, none⟩ = some (.int .i64 b) ∧ w'.cell? ⟨w.heap.size, 2, none⟩ = some (.slice A V.length c))) (by kernel_rfl) ?hS0 (fun hHeld => ?_)
    case hS0 => exact ⟨(B2.out.below HB1.out B2.out.lt).cell 0, (B2.out.below HB1.out B2.out.lt).cell 1, (B2.out.below HB1.out B2.out.lt).cell 2⟩
    refine wpAnyH_take (i := 0) (oi := ⟨some 22, _, _, _, _, _⟩) (v := ?v30) rfl (by kernel_rfl) (by kernel_rfl) (by kernel_rfl) (fun _ _ _ h => h) (Or.inl ⟨by rfl, ?h30⟩) (by assumption) ?r30
    case h30 => (intro w hSw; (try dsimp only at hSw); go_simp; try with_reducible rfl)
    try simp only [Act.put, List.setIfInBounds_toArray, List.set_cons_zero, List.set_cons_succ]
    refine wpAnyH_take (i := 2) (oi := ⟨some 24, _, _, _, _, _⟩) (v := ?v31) rfl (by kernel_rfl) (by kernel_rfl) (by kernel_rfl) (fun _ _ _ h => h) (Or.inl ⟨by rfl, ?h31⟩) (by assumption) ?r31
    case h31 => (intro w hSw; (try dsimp only at hSw); go_simp; try with_reducible rfl)
    try simp only [Act.put, List.setIfInBounds_toArray, List.set_cons_zero, List.set_cons_succ]
    refine wpAnyH_ready (rs := [1, 4]) (by kernel_rfl) (by simp) ?_
    refine (AllReadyH.cons (o := ⟨some 23, _, _, _, _, _⟩) rfl (fun K hK => ?_) (AllReadyH.cons (o := ⟨some 6, _, _, _, _, _⟩) rfl (fun K hK => ?_) AllReadyH.nil))
    · skip
      go_simp
      have HS1 := HB1
      refine (uNew_own a b V A c 255 _ (RP.out.kept HB1.out) a1 a2 b1 b2 HL.out (by decide) (by decide)).mono ?_
      rintro e w4 ⟨R, rfl, hr, hb'⟩
      have HB1 := Lib.hid ((HB1.out).trans (hb'.mono (HB1.out).size))
      clear hb'
      have FR := Lib.hid (hr.lower (B' := w1.heap.size) HS1.out.size)
      clear hr
      refine hK.out _ _ ?hS32 (fun hHeld => ?_)
      case hS32 => exact ⟨(B2.out.below HB1.out B2.out.lt).cell 0, (B2.out.below HB1.out B2.out.lt).cell 1, (B2.out.below HB1.out B2.out.lt).cell 2⟩
      clear hK K
      try simp only [Act.put, List.setIfInBounds_toArray, List.set_cons_zero, List.set_cons_succ]
      refine wpAnyH_ready (rs := [3, 4]) (by kernel_rfl) (by simp) ?_
      refine (AllReadyH.cons (o := ⟨some 25, _, _, _, _, _⟩) rfl (fun K hK => ?_) (AllReadyH.cons (o := ⟨some 6, _, _, _, _, _⟩) rfl (fun K hK => ?_) AllReadyH.nil))
      · skip
        go_simp
        have HS1 := HB1
        refine (r19New_c a b V A c 255 _ (RP.out.kept HB1.out) (by omega) ⟨a, b, clipV V 255⟩ HJ.out).mono ?_
        rintro e w5 ⟨v, rfl, ho, hb'⟩
        have HB1 := Lib.hid ((HB1.out).trans (hb'.mono (HB1.out).size))
        have FR := Lib.hid ((FR.out).below hb')
        clear hb'
        obtain ⟨A6, c6, rfl, hq⟩ := ho.slice
        have O6 := Lib.hid (ho.lower (B' := w1.heap.size) HS1.out.size)
        clear ho hq
        refine hK.out _ _ ?hS33 (fun hHeld => ?_)
        case hS33 => exact ⟨(B2.out.below HB1.out B2.out.lt).cell 0, (B2.out.below HB1.out B2.out.lt).cell 1, (B2.out.below HB1.out B2.out.lt).cell 2⟩
        clear hK K
        try simp only [Act.put, List.setIfInBounds_toArray, List.set_cons_zero, List.set_cons_succ]
        refine wpAnyH_ready (rs := [4]) (by kernel_rfl) (by simp) ?_
        refine (AllReadyH.cons (o := ⟨some 6, _, _, _, _, _⟩) rfl (fun K hK => ?_) AllReadyH.nil)
        go_simp
        have hlt := HB1.out.size
        have HB1 := Lib.hid (below_alloc_ (HB1.out) (.cells #[.int .i64 0, .int .i64 0, .slice none 0 0, .int .i64 0] 35))
        have FR := Lib.hid ((FR.out).alloc (.cells #[.int .i64 0, .int .i64 0, .slice none 0 0, .int .i64 0] 35))
        have O6 := Lib.hid ((O6.out).alloc (.cells #[.int .i64 0, .int .i64 0, .slice none 0 0, .int .i64 0] 35))
        have hzw : (w5.alloc (.cells #[.int .i64 0, .int .i64 0, .slice none 0 0, .int .i64 0] 35)).heap.size = w5.heap.size + 1 := by simp only [World.size_alloc]
        have B6 := Blk.new (w5) 35 #[.int .i64 0, .int .i64 0, .slice none 0 0, .int .i64 0]
        skip
        have B6 := Lib.hid B6
        generalize w5.alloc (.cells #[.int .i64 0, .int .i64 0, .slice none 0 0, .int .i64 0] 35) = w6 at *
        have hgeB6 : w1.heap.size ≤ w5.heap.size := hlt
        clear hzw hlt
        refine hK.out _ _ ?hS34 (fun hHeld => ?_)
        case hS34 => exact ⟨(B2.out.below HB1.out B2.out.lt).cell 0, (B2.out.below HB1.out B2.out.lt).cell 1, (B2.out.below HB1.out B2.out.lt).cell 2⟩
        clear hK K
        try simp only [Act.put, List.setIfInBounds_toArray, List.set_cons_zero, List.set_cons_succ]
        refine wpAnyH_take (i := 5) (oi := ⟨some 5, _, _, _, _, _⟩) (v := ?v35) rfl (by kernel_rfl) (by kernel_rfl) (by kernel_rfl) (fun _ _ _ h => h) (Or.inl ⟨by rfl, ?h35⟩) (by assumption) ?r35
        case h35 => (intro w hSw; (try dsimp only at hSw); go_simp; try with_reducible rfl)
        try simp only [Act.put, List.setIfInBounds_toArray, List.set_cons_zero, List.set_cons_succ]
        refine wpAnyH_ready (rs := [6]) (by kernel_rfl) (by simp) ?_
        refine (AllReadyH.cons (o := ⟨none, _, _, _, _, _⟩) rfl (fun K hK => ?_) AllReadyH.nil)
        obtain ⟨⟨q0, q1, q2, q3⟩, f0, f1, f2, f3⟩ := B6.out.four
        go_simp
        clear q0 q1 q2 q3 f0 f1 f2 f3
        have FR := Lib.hid (ret_four_ref B6.out FR.out (.int .i64 a) (.int .i64 b) (.slice A6 (clipV V 255).length c6) (.int .i64 255))
        obtain ⟨k1, k2, k3⟩ := ret_four B6.out (.int .i64 a) (.int .i64 b) (.slice A6 (clipV V 255).length c6) (.int .i64 255)
        have B6 := Lib.hid k1
        have O6 := Lib.hid (k2 _ _ _ O6.out)
        have HB1 := Lib.hid (k3 _ _ HB1.out hgeB6)
        clear k1 k2 k3
        refine hK.out _ _ ?hS36 (fun hHeld => ?_)
        case hS36 => exact ⟨(B2.out.below HB1.out B2.out.lt).cell 0, (B2.out.below HB1.out B2.out.lt).cell 1, (B2.out.below HB1.out B2.out.lt).cell 2⟩
        clear hK K
        try simp only [Act.put, List.setIfInBounds_toArray, List.set_cons_zero, List.set_cons_succ]
        refine wpAnyH_done (by kernel_rfl) ?_ _
        clear hHeld
        go_wp2_with fail
        go_meet
        exact ⟨_, _, _, _, rfl, rfl, B6.out, O6.out.reads, FR.out.at_, HB1.out⟩
      · skip
        go_simp
        have hlt := HB1.out.size
        have HB1 := Lib.hid (below_alloc_ (HB1.out) (.cells #[.int .i64 0, .int .i64 0, .slice none 0 0, .int .i64 0] 35))
        have FR := Lib.hid ((FR.out).alloc (.cells #[.int .i64 0, .int .i64 0, .slice none 0 0, .int .i64 0] 35))
        have hzw : (w4.alloc (.cells #[.int .i64 0, .int .i64 0, .slice none 0 0, .int .i64 0] 35)).heap.size = w4.heap.size + 1 := by simp only [World.size_alloc]
        have B6 := Blk.new (w4) 35 #[.int .i64 0, .int .i64 0, .slice none 0 0, .int .i64 0]
        skip
        have B6 := Lib.hid B6
        generalize w4.alloc (.cells #[.int .i64 0, .int .i64 0, .slice none 0 0, .int .i64 0] 35) = w5 at *
        have hgeB6 : w1.heap.size ≤ w4.heap.size := hlt
        clear hzw hlt
        refine hK.out _ _ ?hS37 (fun hHeld => ?_)
        case hS37 => exact ⟨(B2.out.below HB1.out B2.out.lt).cell 0, (B2.out.below HB1.out B2.out.lt).cell 1, (B2.out.below HB1.out B2.out.lt).cell 2⟩
        clear hK K
        try simp only [Act.put, List.setIfInBounds_toArray, List.set_cons_zero, List.set_cons_succ]
        refine wpAnyH_ready (rs := [3]) (by kernel_rfl) (by simp) ?_
        refine (AllReadyH.cons (o := ⟨some 25, _, _, _, _, _⟩) rfl (fun K hK => ?_) AllReadyH.nil)
        go_simp
        have HS1 := HB1
        refine (r19New_c a b V A c 255 _ (RP.out.kept HB1.out) (by omega) ⟨a, b, clipV V 255⟩ HJ.out).mono ?_
        rintro e w6 ⟨v, rfl, ho, hb'⟩
        have HB1 := Lib.hid ((HB1.out).trans (hb'.mono (HB1.out).size))
        have FR := Lib.hid ((FR.out).below hb')
        have B6 := Lib.hid ((B6.out).below hb' (B6.out).lt)
        clear hb'
        obtain ⟨A6, c6, rfl, hq⟩ := ho.slice
        have O6 := Lib.hid (ho.lower (B' := w1.heap.size) HS1.out.size)
        clear ho hq
        refine hK.out _ _ ?hS38 (fun hHeld => ?_)
        case hS38 => exact ⟨(B2.out.below HB1.out B2.out.lt).cell 0, (B2.out.below HB1.out B2.out.lt).cell 1, (B2.out.below HB1.out B2.out.lt).cell 2⟩
        clear hK K
        try simp only [Act.put, List.setIfInBounds_toArray, List.set_cons_zero, List.set_cons_succ]
        refine wpAnyH_take (i := 5) (oi := ⟨some 5, _, _, _, _, _⟩) (v := ?v39) rfl (by kernel_rfl) (by kernel_rfl) (by kernel_rfl) (fun _ _ _ h => h) (Or.inl ⟨by rfl, ?h39⟩) (by assumption) ?r39
        case h39 => (intro w hSw; (try dsimp only at hSw); go_simp; try with_reducible rfl)
        try simp only [Act.put, List.setIfInBounds_toArray, List.set_cons_zero, List.set_cons_succ]
        refine wpAnyH_ready (rs := [6]) (by kernel_rfl) (by simp) ?_
        refine (AllReadyH.cons (o := ⟨none, _, _, _, _, _⟩) rfl (fun K hK => ?_) AllReadyH.nil)
        obtain ⟨⟨q0, q1, q2, q3⟩, f0, f1, f2, f3⟩ := B6.out.four
        go_simp
        clear q0 q1 q2 q3 f0 f1 f2 f3
        have FR := Lib.hid (ret_four_ref B6.out FR.out (.int .i64 a) (.int .i64 b) (.slice A6 (clipV V 255).length c6) (.int .i64 255))
        obtain ⟨k1, k2, k3⟩ := ret_four B6.out (.int .i64 a) (.int .i64 b) (.slice A6 (clipV V 255).length c6) (.int .i64 255)
        have B6 := Lib.hid k1
        have O6 := Lib.hid (k2 _ _ _ O6.out)
        have HB1 := Lib.hid (k3 _ _ HB1.out hgeB6)
        clear k1 k2 k3
        refine hK.out _ _ ?hS40 (fun hHeld => ?_)
        case hS40 => exact ⟨(B2.out.below HB1.out B2.out.lt).cell 0, (B2.out.below HB1.out B2.out.lt).cell 1, (B2.out.below HB1.out B2.out.lt).cell 2⟩
        clear hK K
        try simp only [Act.put, List.setIfInBounds_toArray, List.set_cons_zero, List.set_cons_succ]
        refine wpAnyH_done (by kernel_rfl) ?_ _
        clear hHeld
        go_wp2_with fail
        go_meet
        exact ⟨_, _, _, _, rfl, rfl, B6.out, O6.out.reads, FR.out.at_, HB1.out⟩
    · skip
      go_simp
      have hlt := HB1.out.size
      have HB1 := Lib.hid (below_alloc_ (HB1.out) (.cells #[.int .i64 0, .int .i64 0, .slice none 0 0, .int .i64 0] 35))
      have hzw : (w3.drew.alloc (.cells #[.int .i64 0, .int .i64 0, .slice none 0 0, .int .i64 0] 35)).heap.size = w3.drew.heap.size + 1 := by simp only [World.size_alloc]
      have B6 := Blk.new (w3.drew) 35 #[.int .i64 0, .int .i64 0, .slice none 0 0, .int .i64 0]
      skip
      have B6 := Lib.hid B6
      have B6 := Lib.hid (show Blk _ (w3.heap.size) _ _ from B6.out)
      try rw [show (w3.alloc (.cells #[.int .i64 0, .int .i64 0, .slice none 0 0, .int .i64 0] 35)).drew = w3.drew.alloc (.cells #[.int .i64 0, .int .i64 0, .slice none 0 0, .int .i64 0] 35) from rfl]
      generalize w3.drew.alloc (.cells #[.int .i64 0, .int .i64 0, .slice none 0 0, .int .i64 0] 35) = w4 at *
      have hgeB6 : w1.heap.size ≤ w3.heap.size := hlt
      clear hzw hlt
      refine hK.out _ _ ?hS41 (fun hHeld => ?_)
      case hS41 => exact ⟨(B2.out.below HB1.out B2.out.lt).cell 0, (B2.out.below HB1.out B2.out.lt).cell 1, (B2.out.below HB1.out B2.out.lt).cell 2⟩
      clear hK K
      try simp only [Act.put, List.setIfInBounds_toArray, List.set_cons_zero, List.set_cons_succ]
      refine wpAnyH_ready (rs := [1]) (by kernel_rfl) (by simp) ?_
      refine (AllReadyH.cons (o := ⟨some 23, _, _, _, _, _⟩) rfl (fun K hK => ?_) AllReadyH.nil)
      go_simp
      have HS1 := HB1
      refine (uNew_own a b V A c 255 _ (RP.out.kept HB1.out) a1 a2 b1 b2 HL.out (by decide) (by decide)).mono ?_
      rintro e w5 ⟨R, rfl, hr, hb'⟩
      have HB1 := Lib.hid ((HB1.out).trans (hb'.mono (HB1.out).size))
      have B6 := Lib.hid ((B6.out).below hb' (B6.out).lt)
      clear hb'
      have FR := Lib.hid (hr.lower (B' := w1.heap.size) HS1.out.size)
      clear hr
      refine hK.out _ _ ?hS42 (fun hHeld => ?_)
      case hS42 => exact ⟨(B2.out.below HB1.out B2.out.lt).cell 0, (B2.out.below HB1.out B2.out.lt).cell 1, (B2.out.below HB1.out B2.out.lt).cell 2⟩
      clear hK K
      try simp only [Act.put, List.setIfInBounds_toArray, List.set_cons_zero, List.set_cons_succ]
      refine wpAnyH_ready (rs := [3]) (by kernel_rfl) (by simp) ?_
      refine (AllReadyH.cons (o := ⟨some 25, _, _, _, _, _⟩) rfl (fun K hK => ?_) AllReadyH.nil)
      go_simp
      have HS1 := HB1
      refine (r19New_c a b V A c 255 _ (RP.out.kept HB1.out) (by omega) ⟨a, b, clipV V 255⟩ HJ.out).mono ?_
      rintro e w6 ⟨v, rfl, ho, hb'⟩
      have HB1 := Lib.hid ((HB1.out).trans (hb'.mono (HB1.out).size))
      have B6 := Lib.hid ((B6.out).below hb' (B6.out).lt)
      have FR := Lib.hid ((FR.out).below hb')
      clear hb'
      obtain ⟨A6, c6, rfl, hq⟩ := ho.slice
      have O6 := Lib.hid (ho.lower (B' := w1.heap.size) HS1.out.size)
      clear ho hq
      refine hK.out _ _ ?hS43 (fun hHeld => ?_)
      case hS43 => exact ⟨(B2.out.below HB1.out B2.out.lt).cell 0, (B2.out.below HB1.out B2.out.lt).cell 1, (B2.out.below HB1.out B2.out.lt).cell 2⟩
      clear hK K
      try simp only [Act.put, List.setIfInBounds_toArray, List.set_cons_zero, List.set_cons_succ]
      refine wpAnyH_take (i := 5) (oi := ⟨some 5, _, _, _, _, _⟩) (v := ?v44) rfl (by kernel_rfl) (by kernel_rfl) (by kernel_rfl) (fun _ _ _ h => h) (Or.inl ⟨by rfl, ?h44⟩) (by assumption) ?r44
      case h44 => (intro w hSw; (try dsimp only at hSw); go_simp; try with_reducible rfl)
      try simp only [Act.put, List.setIfInBounds_toArray, List.set_cons_zero, List.set_cons_succ]
      refine wpAnyH_ready (rs := [6]) (by kernel_rfl) (by simp) ?_
      refine (AllReadyH.cons (o := ⟨none, _, _, _, _, _⟩) rfl (fun K hK => ?_) AllReadyH.nil)
      obtain ⟨⟨q0, q1, q2, q3⟩, f0, f1, f2, f3⟩ := B6.out.four
      go_simp
      clear q0 q1 q2 q3 f0 f1 f2 f3
      have FR := Lib.hid (ret_four_ref B6.out FR.out (.int .i64 a) (.int .i64 b) (.slice A6 (clipV V 255).length c6) (.int .i64 255))
      obtain ⟨k1, k2, k3⟩ := ret_four B6.out (.int .i64 a) (.int .i64 b) (.slice A6 (clipV V 255).length c6) (.int .i64 255)
      have B6 := Lib.hid k1
      have O6 := Lib.hid (k2 _ _ _ O6.out)
      have HB1 := Lib.hid (k3 _ _ HB1.out hgeB6)
      clear k1 k2 k3
      refine hK.out _ _ ?hS45 (fun hHeld => ?_)
      case hS45 => exact ⟨(B2.out.below HB1.out B2.out.lt).cell 0, (B2.out.below HB1.out B2.out.lt).cell 1, (B2.out.below HB1.out B2.out.lt).cell 2⟩
      clear hK K
      try simp only [Act.put, List.setIfInBounds_toArray, List.set_cons_zero, List.set_cons_succ]
      refine wpAnyH_done (by kernel_rfl) ?_ _
      clear hHeld
      go_wp2_with fail
      go_meet
      exact ⟨_, _, _, _, rfl, rfl, B6.out, O6.out.reads, FR.out.at_, HB1.out⟩
  case rest =>
    obtain ⟨R, b6, A6, c6, rfl, rfl, h6, hr6, hr, hb⟩ := hcut
    have HB1 := Lib.hid hb
    have B6 := Lib.hid h6
    have R6 := Lib.hid hr6
    have FR := Lib.hid hr
    clear hb h6 hr6 hr
    have B2 := Lib.hid (B2.out.below HB1.out B2.out.lt)
    have RP := Lib.hid (RP.out.kept HB1.out)
    have HB := Lib.hid (HB.out.trans (HB1.out.mono HB.out.size))
    have HB1 := Lib.hid (Below.refl wc.heap.size wc)
    have M1 := HM.out
    have F1 : l.tmod 4 = 0 := by rw [Int.tmod_eq_emod_of_nonneg hl1]; exact M1
    have qa1 : 1 ≤ a := a1
    have qb1 : 1 ≤ b := b1
    have qa2 : (a : Int) ≤ 1024 := by omega
    have qb2 : (b : Int) ≤ 1024 := by omega
    clear M1
    obtain ⟨zB20, zB21, zB22⟩ := (B2.out.below HB1.out B2.out.lt).cells3
    obtain ⟨zB60, zB61, zB62, zB63⟩ := (B6.out.below HB1.out B6.out.lt).cells4
    go_wp2_with fail
    clear zB20 zB21 zB22
    clear zB60 zB61 zB62 zB63
    go_loopw [9] (fun v wr => ∃ y : Int, -1 ≤ y ∧ y ≤ 1 * (b : Int) + 1 ∧ v = .int .i64 y ∧ Below wc.heap.size wc wr) (fun v _ => (1 * (b : Int) + 1 - intOf v).toNat)
    case atStart => exact ⟨-1, by omega, by omega, by go_num, HB1.out⟩
    case round =>
      obtain ⟨y, hy0, hy1, rfl, hb⟩ := hrel
      have HB1 := Lib.hid hb
      obtain ⟨wo, ewo⟩ : ∃ wo, wo = wr := ⟨_, rfl⟩
      subst ewo
      clear hb
      by_cases hy : y ≤ 1 * (b : Int)
      · skip
        obtain ⟨zB20, zB21, zB22⟩ := (B2.out.below HB1.out B2.out.lt).cells3
        obtain ⟨zB60, zB61, zB62, zB63⟩ := (B6.out.below HB1.out B6.out.lt).cells4
        go_wp2_with fail
        clear zB20 zB21 zB22
        clear zB60 zB61 zB62 zB63
        go_loopw [10] (fun v wr => ∃ z : Int, -1 ≤ z ∧ z ≤ 1 * (a : Int) + 1 ∧ v = .int .i64 z ∧ Below wc.heap.size wc wr) (fun v _ => (1 * (a : Int) + 1 - intOf v).toNat)
        case atStart => exact ⟨-1, by omega, by omega, by go_num, HB1.out⟩
        case round =>
          obtain ⟨z, hz0, hz1, rfl, hb⟩ := hrel
          have HB1 := Lib.hid hb
          clear hb
          obtain ⟨wi, ewi⟩ : ∃ wi, wi = wr := ⟨_, rfl⟩
          subst ewi
          by_cases hz : z ≤ 1 * (a : Int)
          · skip
            obtain ⟨zB20, zB21, zB22⟩ := (B2.out.below HB1.out B2.out.lt).cells3
            obtain ⟨zB60, zB61, zB62, zB63⟩ := (B6.out.below HB1.out B6.out.lt).cells4
            go_upto_region 14 with fail
            have kq0 := cell_regrown zB20
            have kq1 := cell_regrown zB21
            have kq2 := cell_regrown zB22
            have kq3 := cell_regrown zB60
            have kq4 := cell_regrown zB61
            have kq5 := cell_regrown zB62
            have kq6 := cell_regrown zB63
            have qc0 := fun (d : Nat) (os : Array Obj) => Calls.regrown_of (uAt_c R a b (clipV V 255) 255 z y 0 (grow (redrawn wi d) os) ((FR.out.below HB1.out).below (below_regrown wi d os)))
            have qc1 := fun (d : Nat) (os : Array Obj) => Calls.regrown_of (r19At_c a b (clipV V 255) A6 c6 255 z y 0 (grow (redrawn wi d) os) ((R6.out.kept HB1.out).kept (below_regrown wi d os)) a1 a2 b1 b2 L1.out (by decide) (by decide) (clipV_bd V (by decide)))
            clear zB20 zB21 zB22 zB60 zB61 zB62 zB63
            refine wp_region_quiet_below (by kernel_rfl) (by kernel_rfl) ?_
            repeat (go_big_quiet_step (first | with_reducible exact qc0 _ _ | with_reducible exact qc1 _ _))
            refine wpQuiet_nil ?_
            intro _ hw'
            obtain ⟨⟨dq, osq⟩, hw''⟩ := hw'
            subst hw''
            have hb' := below_regrown wi dq osq
            clear kq0 kq1 kq2 kq3 kq4 kq5 kq6 qc0 qc1
            have HB1 := Lib.hid ((HB1.out).trans (hb'.mono (HB1.out).size))
            clear hb'
            generalize grow (redrawn wi dq) osq = w4 at *
            go_wp2_with fail
            go_roundw
            case rel => exact ⟨z + 1, by omega, by omega, by go_num, HB1.out⟩
            case measure => simp [intOf]; omega
          · skip
            obtain ⟨zB20, zB21, zB22⟩ := (B2.out.below HB1.out B2.out.lt).cells3
            obtain ⟨zB60, zB61, zB62, zB63⟩ := (B6.out.below HB1.out B6.out.lt).cells4
            go_wp2_with fail
            clear zB20 zB21 zB22
            clear zB60 zB61 zB62 zB63
            go_roundw
            case rel => exact ⟨y + 1, by omega, by omega, by go_num, HB1.out⟩
            case measure => simp [intOf]; omega
      · skip
        obtain ⟨zB20, zB21, zB22⟩ := (B2.out.below HB1.out B2.out.lt).cells3
        obtain ⟨zB60, zB61, zB62, zB63⟩ := (B6.out.below HB1.out B6.out.lt).cells4
        go_wp2_with fail
        clear zB20 zB21 zB22
        clear zB60 zB61 zB62 zB63
        go_ret
        exact ⟨rfl, HB.out.trans (HB1.out.mono HB.out.size)⟩

set_option maxRecDepth 100000 in
set_option maxHeartbeats 16000000 in
theorem uall_y1 (a b : Nat) (V : List Int) (A : Option Addr) (c : Nat) (l : Int) (w : World) (hp : ReadsI w A V) (hn : V.length ≤ 9223372036854775807) (a1 : 1 ≤ a) (a2 : a ≤ 1024) (b1 : 1 ≤ b) (b2 : b ≤ 1024) (hl : V.length = a * b) (h1 : ¬ 40 < V.length) (hl1 : 0 ≤ l) (hl2 : l ≤ 255) (hl0 : l % 4 = 1) :
    Calls Try.prog 4 #[plV a b (.slice A V.length c), .int .u8 l] w fun e w' => e = .returned (.bool true) ∧ Below w.heap.size w w' := by
  have RP := Lib.hid hp
  have HB := Lib.hid (Below.refl w.heap.size w)
  have q1 : (V.length : Int) ≤ 40 := by omega
  have G2 := Lib.hid (show okR a b V.length 255 = true by unfold okR; rw [hl, okB_mk a1 a2 b1 b2]; rfl)
  have HL := Lib.hid hl
  have HJ := Lib.hid (clip_join (m := 255) (show okB a b V.length = true by rw [hl]; exact okB_mk a1 a2 b1 b2))
  have HM := Lib.hid hl0
  have L1 := Lib.hid (show (clipV V 255).length = a * b by rw [clipV_length]; exact hl)
  clear h1 hl hl0
  clear hp
  go_enter Try.func4, Try.ntmps4
  go_wp2_with fail
  have RP := Lib.hid ((RP.out).alloc (.cells #[.int .i64 a, .int .i64 b, .slice A V.length c] 24))
  have HB := Lib.hid (below_alloc_ (HB.out) (.cells #[.int .i64 a, .int .i64 b, .slice A V.length c] 24))
  have hzw : (w.alloc (.cells #[.int .i64 a, .int .i64 b, .slice A V.length c] 24)).heap.size = w.heap.size + 1 := by simp only [World.size_alloc]
  have B2 := Blk.new (w) 24 #[.int .i64 a, .int .i64 b, .slice A V.length c]
  skip
  have B2 := Lib.hid B2
  generalize w.alloc (.cells #[.int .i64 a, .int .i64 b, .slice A V.length c] 24) = w1 at *
  clear hzw
  have HB1 := Lib.hid (Below.refl w1.heap.size w1)
  refine (first_c _).mono ?_
  rintro e w2 ⟨rfl, hb'⟩
  have HB1 := Lib.hid ((HB1.out).trans (hb'.mono (HB1.out).size))
  clear hb'
  obtain ⟨zB20, zB21, zB22⟩ := (B2.out.below HB1.out B2.out.lt).cells3
  go_wp2_with fail
  clear zB20 zB21 zB22
  refine (right_c a b A V.length c 255 _ hn).mono ?_
  rintro e w3 ⟨rfl, hb'⟩
  have HB1 := Lib.hid ((HB1.out).trans (hb'.mono (HB1.out).size))
  clear hb'
  rw [G2.out]
  obtain ⟨zB20, zB21, zB22⟩ := (B2.out.below HB1.out B2.out.lt).cells3
  go_upto_region 5 with fail
  clear zB20 zB21 zB22
  obtain ⟨zB20, zB21, zB22⟩ := (B2.out.below HB1.out B2.out.lt).cells3
  clear zB20 zB21 zB22
  go_cut [5, 6] (fun s5 s6 wx => ∃ R b6 A6 c6, s5 = .pointer (some ⟨R, 0, none⟩) ∧ s6 = .pointer (some ⟨b6, 0, none⟩) ∧ Blk wx b6 35 #[.int .i64 a, .int .i64 b, .slice A6 (clipV V 255).length c6, .int .i64 255] ∧ ReadsI wx A6 (clipV V 255) ∧ RefAt wx R a b (clipV V 255) 255 ∧ Below w1.heap.size w1 wx)
  case first =>
    have HB1 := Lib.hid ((HB1.out).drew)
    refine wp_region_held_drew (S := (fun w' => w'.cell? ⟨w.heap.size, 0, none⟩ = some (.int .i64 a) ∧ w'.cell? ⟨w.heap.size, 1, none⟩ = some (.int .i64 b) ∧ w'.cell? ⟨w.heap.size, 2, none⟩ = some (.slice A V.length c))) (by kernel_rfl) ?hS0 (fun hHeld => ?_)
    case hS0 => exact ⟨(B2.out.below HB1.out B2.out.lt).cell 0, (B2.out.below HB1.out B2.out.lt).cell 1, (B2.out.below HB1.out B2.out.lt).cell 2⟩
    refine wpAnyH_take (i := 0) (oi := ⟨some 22, _, _, _, _, _⟩) (v := ?v46) rfl (by kernel_rfl) (by kernel_rfl) (by kernel_rfl) (fun _ _ _ h => h) (Or.inl ⟨by rfl, ?h46⟩) (by assumption) ?r46
    case h46 => (intro w hSw; (try dsimp only at hSw); go_simp; try with_reducible rfl)
    try simp only [Act.put, List.setIfInBounds_toArray, List.set_cons_zero, List.set_cons_succ]
    refine wpAnyH_take (i := 2) (oi := ⟨some 24, _, _, _, _, _⟩) (v := ?v47) rfl (by kernel_rfl) (by kernel_rfl) (by kernel_rfl) (fun _ _ _ h => h) (Or.inl ⟨by rfl, ?h47⟩) (by assumption) ?r47
    case h47 => (intro w hSw; (try dsimp only at hSw); go_simp; try with_reducible rfl)
    try simp only [Act.put, List.setIfInBounds_toArray, List.set_cons_zero, List.set_cons_succ]
    refine wpAnyH_ready (rs := [1, 4]) (by kernel_rfl) (by simp) ?_
    refine (AllReadyH.cons (o := ⟨some 23, _, _, _, _, _⟩) rfl (fun K hK => ?_) (AllReadyH.cons (o := ⟨some 6, _, _, _, _, _⟩) rfl (fun K hK => ?_) AllReadyH.nil))
    · skip
      go_simp
      have HS1 := HB1
      refine (uNew_own a b V A c 255 _ (RP.out.kept HB1.out) a1 a2 b1 b2 HL.out (by decide) (by decide)).mono ?_
      rintro e w4 ⟨R, rfl, hr, hb'⟩
      have HB1 := Lib.hid ((HB1.out).trans (hb'.mono (HB1.out).size))
      clear hb'
      have FR := Lib.hid (hr.lower (B' := w1.heap.size) HS1.out.size)
      clear hr
      refine hK.out _ _ ?hS48 (fun hHeld => ?_)
      case hS48 => exact ⟨(B2.out.below HB1.out B2.out.lt).cell 0, (B2.out.below HB1.out B2.out.lt).cell 1, (B2.out.below HB1.out B2.out.lt).cell 2⟩
      clear hK K
      try simp only [Act.put, List.setIfInBounds_toArray, List.set_cons_zero, List.set_cons_succ]
      refine wpAnyH_ready (rs := [3, 4]) (by kernel_rfl) (by simp) ?_
      refine (AllReadyH.cons (o := ⟨some 25, _, _, _, _, _⟩) rfl (fun K hK => ?_) (AllReadyH.cons (o := ⟨some 6, _, _, _, _, _⟩) rfl (fun K hK => ?_) AllReadyH.nil))
      · skip
        go_simp
        have HS1 := HB1
        refine (r19New_c a b V A c 255 _ (RP.out.kept HB1.out) (by omega) ⟨a, b, clipV V 255⟩ HJ.out).mono ?_
        rintro e w5 ⟨v, rfl, ho, hb'⟩
        have HB1 := Lib.hid ((HB1.out).trans (hb'.mono (HB1.out).size))
        have FR := Lib.hid ((FR.out).below hb')
        clear hb'
        obtain ⟨A6, c6, rfl, hq⟩ := ho.slice
        have O6 := Lib.hid (ho.lower (B' := w1.heap.size) HS1.out.size)
        clear ho hq
        refine hK.out _ _ ?hS49 (fun hHeld => ?_)
        case hS49 => exact ⟨(B2.out.below HB1.out B2.out.lt).cell 0, (B2.out.below HB1.out B2.out.lt).cell 1, (B2.out.below HB1.out B2.out.lt).cell 2⟩
        clear hK K
        try simp only [Act.put, List.setIfInBounds_toArray, List.set_cons_zero, List.set_cons_succ]
        refine wpAnyH_ready (rs := [4]) (by kernel_rfl) (by simp) ?_
        refine (AllReadyH.cons (o := ⟨some 6, _, _, _, _, _⟩) rfl (fun K hK => ?_) AllReadyH.nil)
        go_simp
        have hlt := HB1.out.size
        have HB1 := Lib.hid (below_alloc_ (HB1.out) (.cells #[.int .i64 0, .int .i64 0, .slice none 0 0, .int .i64 0] 35))
        have FR := Lib.hid ((FR.out).alloc (.cells #[.int .i64 0, .int .i64 0, .slice none 0 0, .int .i64 0] 35))
        have O6 := Lib.hid ((O6.out).alloc (.cells #[.int .i64 0, .int .i64 0, .slice none 0 0, .int .i64 0] 35))
        have hzw : (w5.alloc (.cells #[.int .i64 0, .int .i64 0, .slice none 0 0, .int .i64 0] 35)).heap.size = w5.heap.size + 1 := by simp only [World.size_alloc]
        have B6 := Blk.new (w5) 35 #[.int .i64 0, .int .i64 0, .slice none 0 0, .int .i64 0]
        skip
        have B6 := Lib.hid B6
        generalize w5.alloc (.cells #[.int .i64 0, .int .i64 0, .slice none 0 0, .int .i64 0] 35) = w6 at *
        have hgeB6 : w1.heap.size ≤ w5.heap.size := hlt
        clear hzw hlt
        refine hK.out _ _ ?hS50 (fun hHeld => ?_)
        case hS50 => exact ⟨(B2.out.below HB1.out B2.out.lt).cell 0, (B2.out.below HB1.out B2.out.lt).cell 1, (B2.out.below HB1.out B2.out.lt).cell 2⟩
        clear hK K
        try simp only [Act.put, List.setIfInBounds_toArray, List.set_cons_zero, List.set_cons_succ]
        refine wpAnyH_take (i := 5) (oi := ⟨some 5, _, _, _, _, _⟩) (v := ?v51) rfl (by kernel_rfl) (by kernel_rfl) (by kernel_rfl) (fun _ _ _ h => h) (Or.inl ⟨by rfl, ?h51⟩) (by assumption) ?r51
        case h51 => (intro w hSw; (try dsimp only at hSw); go_simp; try with_reducible rfl)
        try simp only [Act.put, List.setIfInBounds_toArray, List.set_cons_zero, List.set_cons_succ]
        refine wpAnyH_ready (rs := [6]) (by kernel_rfl) (by simp) ?_
        refine (AllReadyH.cons (o := ⟨none, _, _, _, _, _⟩) rfl (fun K hK => ?_) AllReadyH.nil)
        obtain ⟨⟨q0, q1, q2, q3⟩, f0, f1, f2, f3⟩ := B6.out.four
        go_simp
        clear q0 q1 q2 q3 f0 f1 f2 f3
        have FR := Lib.hid (ret_four_ref B6.out FR.out (.int .i64 a) (.int .i64 b) (.slice A6 (clipV V 255).length c6) (.int .i64 255))
        obtain ⟨k1, k2, k3⟩ := ret_four B6.out (.int .i64 a) (.int .i64 b) (.slice A6 (clipV V 255).length c6) (.int .i64 255)
        have B6 := Lib.hid k1
        have O6 := Lib.hid (k2 _ _ _ O6.out)
        have HB1 := Lib.hid (k3 _ _ HB1.out hgeB6)
        clear k1 k2 k3
        refine hK.out _ _ ?hS52 (fun hHeld => ?_)
        case hS52 => exact ⟨(B2.out.below HB1.out B2.out.lt).cell 0, (B2.out.below HB1.out B2.out.lt).cell 1, (B2.out.below HB1.out B2.out.lt).cell 2⟩
        clear hK K
        try simp only [Act.put, List.setIfInBounds_toArray, List.set_cons_zero, List.set_cons_succ]
        refine wpAnyH_done (by kernel_rfl) ?_ _
        clear hHeld
        go_wp2_with fail
        go_meet
        exact ⟨_, _, _, _, rfl, rfl, B6.out, O6.out.reads, FR.out.at_, HB1.out⟩
      · skip
        go_simp
        have hlt := HB1.out.size
        have HB1 := Lib.hid (below_alloc_ (HB1.out) (.cells #[.int .i64 0, .int .i64 0, .slice none 0 0, .int .i64 0] 35))
        have FR := Lib.hid ((FR.out).alloc (.cells #[.int .i64 0, .int .i64 0, .slice none 0 0, .int .i64 0] 35))
        have hzw : (w4.alloc (.cells #[.int .i64 0, .int .i64 0, .slice none 0 0, .int .i64 0] 35)).heap.size = w4.heap.size + 1 := by simp only [World.size_alloc]
        have B6 := Blk.new (w4) 35 #[.int .i64 0, .int .i64 0, .slice none 0 0, .int .i64 0]
        skip
        have B6 := Lib.hid B6
        generalize w4.alloc (.cells #[.int .i64 0, .int .i64 0, .slice none 0 0, .int .i64 0] 35) = w5 at *
        have hgeB6 : w1.heap.size ≤ w4.heap.size := hlt
        clear hzw hlt
        refine hK.out _ _ ?hS53 (fun hHeld => ?_)
        case hS53 => exact ⟨(B2.out.below HB1.out B2.out.lt).cell 0, (B2.out.below HB1.out B2.out.lt).cell 1, (B2.out.below HB1.out B2.out.lt).cell 2⟩
        clear hK K
        try simp only [Act.put, List.setIfInBounds_toArray, List.set_cons_zero, List.set_cons_succ]
        refine wpAnyH_ready (rs := [3]) (by kernel_rfl) (by simp) ?_
        refine (AllReadyH.cons (o := ⟨some 25, _, _, _, _, _⟩) rfl (fun K hK => ?_) AllReadyH.nil)
        go_simp
        have HS1 := HB1
        refine (r19New_c a b V A c 255 _ (RP.out.kept HB1.out) (by omega) ⟨a, b, clipV V 255⟩ HJ.out).mono ?_
        rintro e w6 ⟨v, rfl, ho, hb'⟩
        have HB1 := Lib.hid ((HB1.out).trans (hb'.mono (HB1.out).size))
        have FR := Lib.hid ((FR.out).below hb')
        have B6 := Lib.hid ((B6.out).below hb' (B6.out).lt)
        clear hb'
        obtain ⟨A6, c6, rfl, hq⟩ := ho.slice
        have O6 := Lib.hid (ho.lower (B' := w1.heap.size) HS1.out.size)
        clear ho hq
        refine hK.out _ _ ?hS54 (fun hHeld => ?_)
        case hS54 => exact ⟨(B2.out.below HB1.out B2.out.lt).cell 0, (B2.out.below HB1.out B2.out.lt).cell 1, (B2.out.below HB1.out B2.out.lt).cell 2⟩
        clear hK K
        try simp only [Act.put, List.setIfInBounds_toArray, List.set_cons_zero, List.set_cons_succ]
        refine wpAnyH_take (i := 5) (oi := ⟨some 5, _, _, _, _, _⟩) (v := ?v55) rfl (by kernel_rfl) (by kernel_rfl) (by kernel_rfl) (fun _ _ _ h => h) (Or.inl ⟨by rfl, ?h55⟩) (by assumption) ?r55
        case h55 => (intro w hSw; (try dsimp only at hSw); go_simp; try with_reducible rfl)
        try simp only [Act.put, List.setIfInBounds_toArray, List.set_cons_zero, List.set_cons_succ]
        refine wpAnyH_ready (rs := [6]) (by kernel_rfl) (by simp) ?_
        refine (AllReadyH.cons (o := ⟨none, _, _, _, _, _⟩) rfl (fun K hK => ?_) AllReadyH.nil)
        obtain ⟨⟨q0, q1, q2, q3⟩, f0, f1, f2, f3⟩ := B6.out.four
        go_simp
        clear q0 q1 q2 q3 f0 f1 f2 f3
        have FR := Lib.hid (ret_four_ref B6.out FR.out (.int .i64 a) (.int .i64 b) (.slice A6 (clipV V 255).length c6) (.int .i64 255))
        obtain ⟨k1, k2, k3⟩ := ret_four B6.out (.int .i64 a) (.int .i64 b) (.slice A6 (clipV V 255).length c6) (.int .i64 255)
        have B6 := Lib.hid k1
        have O6 := Lib.hid (k2 _ _ _ O6.out)
        have HB1 := Lib.hid (k3 _ _ HB1.out hgeB6)
        clear k1 k2 k3
        refine hK.out _ _ ?hS56 (fun hHeld => ?_)
        case hS56 => exact ⟨(B2.out.below HB1.out B2.out.lt).cell 0, (B2.out.below HB1.out B2.out.lt).cell 1, (B2.out.below HB1.out B2.out.lt).cell 2⟩
        clear hK K
        try simp only [Act.put, List.setIfInBounds_toArray, List.set_cons_zero, List.set_cons_succ]
        refine wpAnyH_done (by kernel_rfl) ?_ _
        clear hHeld
        go_wp2_with fail
        go_meet
        exact ⟨_, _, _, _, rfl, rfl, B6.out, O6.out.reads, FR.out.at_, HB1.out⟩
    · skip
      go_simp
      have hlt := HB1.out.size
      have HB1 := Lib.hid (below_alloc_ (HB1.out) (.cells #[.int .i64 0, .int .i64 0, .slice none 0 0, .int .i64 0] 35))
      have hzw : (w3.drew.alloc (.cells #[.int .i64 0, .int .i64 0, .slice none 0 0, .int .i64 0] 35)).heap.size = w3.drew.heap.size + 1 := by simp only [World.size_alloc]
      have B6 := Blk.new (w3.drew) 35 #[.int .i64 0, .int .i64 0, .slice none 0 0, .int .i64 0]
      skip
      have B6 := Lib.hid B6
      have B6 := Lib.hid (show Blk _ (w3.heap.size) _ _ from B6.out)
      try rw [show (w3.alloc (.cells #[.int .i64 0, .int .i64 0, .slice none 0 0, .int .i64 0] 35)).drew = w3.drew.alloc (.cells #[.int .i64 0, .int .i64 0, .slice none 0 0, .int .i64 0] 35) from rfl]
      generalize w3.drew.alloc (.cells #[.int .i64 0, .int .i64 0, .slice none 0 0, .int .i64 0] 35) = w4 at *
      have hgeB6 : w1.heap.size ≤ w3.heap.size := hlt
      clear hzw hlt
      refine hK.out _ _ ?hS57 (fun hHeld => ?_)
      case hS57 => exact ⟨(B2.out.below HB1.out B2.out.lt).cell 0, (B2.out.below HB1.out B2.out.lt).cell 1, (B2.out.below HB1.out B2.out.lt).cell 2⟩
      clear hK K
      try simp only [Act.put, List.setIfInBounds_toArray, List.set_cons_zero, List.set_cons_succ]
      refine wpAnyH_ready (rs := [1]) (by kernel_rfl) (by simp) ?_
      refine (AllReadyH.cons (o := ⟨some 23, _, _, _, _, _⟩) rfl (fun K hK => ?_) AllReadyH.nil)
      go_simp
      have HS1 := HB1
      refine (uNew_own a b V A c 255 _ (RP.out.kept HB1.out) a1 a2 b1 b2 HL.out (by decide) (by decide)).mono ?_
      rintro e w5 ⟨R, rfl, hr, hb'⟩
      have HB1 := Lib.hid ((HB1.out).trans (hb'.mono (HB1.out).size))
      have B6 := Lib.hid ((B6.out).below hb' (B6.out).lt)
      clear hb'
      have FR := Lib.hid (hr.lower (B' := w1.heap.size) HS1.out.size)
      clear hr
      refine hK.out _ _ ?hS58 (fun hHeld => ?_)
      case hS58 => exact ⟨(B2.out.below HB1.out B2.out.lt).cell 0, (B2.out.below HB1.out B2.out.lt).cell 1, (B2.out.below HB1.out B2.out.lt).cell 2⟩
      clear hK K
      try simp only [Act.put, List.setIfInBounds_toArray, List.set_cons_zero, List.set_cons_succ]
      refine wpAnyH_ready (rs := [3]) (by kernel_rfl) (by simp) ?_
      refine (AllReadyH.cons (o := ⟨some 25, _, _, _, _, _⟩) rfl (fun K hK => ?_) AllReadyH.nil)
      go_simp
      have HS1 := HB1
      refine (r19New_c a b V A c 255 _ (RP.out.kept HB1.out) (by omega) ⟨a, b, clipV V 255⟩ HJ.out).mono ?_
      rintro e w6 ⟨v, rfl, ho, hb'⟩
      have HB1 := Lib.hid ((HB1.out).trans (hb'.mono (HB1.out).size))
      have B6 := Lib.hid ((B6.out).below hb' (B6.out).lt)
      have FR := Lib.hid ((FR.out).below hb')
      clear hb'
      obtain ⟨A6, c6, rfl, hq⟩ := ho.slice
      have O6 := Lib.hid (ho.lower (B' := w1.heap.size) HS1.out.size)
      clear ho hq
      refine hK.out _ _ ?hS59 (fun hHeld => ?_)
      case hS59 => exact ⟨(B2.out.below HB1.out B2.out.lt).cell 0, (B2.out.below HB1.out B2.out.lt).cell 1, (B2.out.below HB1.out B2.out.lt).cell 2⟩
      clear hK K
      try simp only [Act.put, List.setIfInBounds_toArray, List.set_cons_zero, List.set_cons_succ]
      refine wpAnyH_take (i := 5) (oi := ⟨some 5, _, _, _, _, _⟩) (v := ?v60) rfl (by kernel_rfl) (by kernel_rfl) (by kernel_rfl) (fun _ _ _ h => h) (Or.inl ⟨by rfl, ?h60⟩) (by assumption) ?r60
      case h60 => (intro w hSw; (try dsimp only at hSw); go_simp; try with_reducible rfl)
      try simp only [Act.put, List.setIfInBounds_toArray, List.set_cons_zero, List.set_cons_succ]
      refine wpAnyH_ready (rs := [6]) (by kernel_rfl) (by simp) ?_
      refine (AllReadyH.cons (o := ⟨none, _, _, _, _, _⟩) rfl (fun K hK => ?_) AllReadyH.nil)
      obtain ⟨⟨q0, q1, q2, q3⟩, f0, f1, f2, f3⟩ := B6.out.four
      go_simp
      clear q0 q1 q2 q3 f0 f1 f2 f3
      have FR := Lib.hid (ret_four_ref B6.out FR.out (.int .i64 a) (.int .i64 b) (.slice A6 (clipV V 255).length c6) (.int .i64 255))
      obtain ⟨k1, k2, k3⟩ := ret_four B6.out (.int .i64 a) (.int .i64 b) (.slice A6 (clipV V 255).length c6) (.int .i64 255)
      have B6 := Lib.hid k1
      have O6 := Lib.hid (k2 _ _ _ O6.out)
      have HB1 := Lib.hid (k3 _ _ HB1.out hgeB6)
      clear k1 k2 k3
      refine hK.out _ _ ?hS61 (fun hHeld => ?_)
      case hS61 => exact ⟨(B2.out.below HB1.out B2.out.lt).cell 0, (B2.out.below HB1.out B2.out.lt).cell 1, (B2.out.below HB1.out B2.out.lt).cell 2⟩
      clear hK K
      try simp only [Act.put, List.setIfInBounds_toArray, List.set_cons_zero, List.set_cons_succ]
      refine wpAnyH_done (by kernel_rfl) ?_ _
      clear hHeld
      go_wp2_with fail
      go_meet
      exact ⟨_, _, _, _, rfl, rfl, B6.out, O6.out.reads, FR.out.at_, HB1.out⟩
  case rest =>
    obtain ⟨R, b6, A6, c6, rfl, rfl, h6, hr6, hr, hb⟩ := hcut
    have HB1 := Lib.hid hb
    have B6 := Lib.hid h6
    have R6 := Lib.hid hr6
    have FR := Lib.hid hr
    clear hb h6 hr6 hr
    have B2 := Lib.hid (B2.out.below HB1.out B2.out.lt)
    have RP := Lib.hid (RP.out.kept HB1.out)
    have HB := Lib.hid (HB.out.trans (HB1.out.mono HB.out.size))
    have HB1 := Lib.hid (Below.refl wc.heap.size wc)
    have M1 := HM.out
    have F1 : l.tmod 4 = 1 := by rw [Int.tmod_eq_emod_of_nonneg hl1]; exact M1
    have qa1 : 1 ≤ a := a1
    have qb1 : 1 ≤ b := b1
    have qa2 : (a : Int) ≤ 1024 := by omega
    have qb2 : (b : Int) ≤ 1024 := by omega
    clear M1
    obtain ⟨zB20, zB21, zB22⟩ := (B2.out.below HB1.out B2.out.lt).cells3
    obtain ⟨zB60, zB61, zB62, zB63⟩ := (B6.out.below HB1.out B6.out.lt).cells4
    go_wp2_with fail
    clear zB20 zB21 zB22
    clear zB60 zB61 zB62 zB63
    go_loopw [9] (fun v wr => ∃ y : Int, -2 ≤ y ∧ y ≤ 2 * (b : Int) + 1 ∧ v = .int .i64 y ∧ Below wc.heap.size wc wr) (fun v _ => (2 * (b : Int) + 1 - intOf v).toNat)
    case atStart => exact ⟨-2, by omega, by omega, by go_num, HB1.out⟩
    case round =>
      obtain ⟨y, hy0, hy1, rfl, hb⟩ := hrel
      have HB1 := Lib.hid hb
      obtain ⟨wo, ewo⟩ : ∃ wo, wo = wr := ⟨_, rfl⟩
      subst ewo
      clear hb
      by_cases hy : y ≤ 2 * (b : Int)
      · skip
        obtain ⟨zB20, zB21, zB22⟩ := (B2.out.below HB1.out B2.out.lt).cells3
        obtain ⟨zB60, zB61, zB62, zB63⟩ := (B6.out.below HB1.out B6.out.lt).cells4
        go_wp2_with fail
        clear zB20 zB21 zB22
        clear zB60 zB61 zB62 zB63
        go_loopw [10] (fun v wr => ∃ z : Int, -2 ≤ z ∧ z ≤ 2 * (a : Int) + 1 ∧ v = .int .i64 z ∧ Below wc.heap.size wc wr) (fun v _ => (2 * (a : Int) + 1 - intOf v).toNat)
        case atStart => exact ⟨-2, by omega, by omega, by go_num, HB1.out⟩
        case round =>
          obtain ⟨z, hz0, hz1, rfl, hb⟩ := hrel
          have HB1 := Lib.hid hb
          clear hb
          obtain ⟨wi, ewi⟩ : ∃ wi, wi = wr := ⟨_, rfl⟩
          subst ewi
          by_cases hz : z ≤ 2 * (a : Int)
          · skip
            obtain ⟨zB20, zB21, zB22⟩ := (B2.out.below HB1.out B2.out.lt).cells3
            obtain ⟨zB60, zB61, zB62, zB63⟩ := (B6.out.below HB1.out B6.out.lt).cells4
            go_upto_region 14 with fail
            have kq0 := cell_regrown zB20
            have kq1 := cell_regrown zB21
            have kq2 := cell_regrown zB22
            have kq3 := cell_regrown zB60
            have kq4 := cell_regrown zB61
            have kq5 := cell_regrown zB62
            have kq6 := cell_regrown zB63
            have qc0 := fun (d : Nat) (os : Array Obj) => Calls.regrown_of (uAt_c R a b (clipV V 255) 255 z y 1 (grow (redrawn wi d) os) ((FR.out.below HB1.out).below (below_regrown wi d os)))
            have qc1 := fun (d : Nat) (os : Array Obj) => Calls.regrown_of (r19At_c a b (clipV V 255) A6 c6 255 z y 1 (grow (redrawn wi d) os) ((R6.out.kept HB1.out).kept (below_regrown wi d os)) a1 a2 b1 b2 L1.out (by decide) (by decide) (clipV_bd V (by decide)))
            clear zB20 zB21 zB22 zB60 zB61 zB62 zB63
            refine wp_region_quiet_below (by kernel_rfl) (by kernel_rfl) ?_
            repeat (go_big_quiet_step (first | with_reducible exact qc0 _ _ | with_reducible exact qc1 _ _))
            refine wpQuiet_nil ?_
            intro _ hw'
            obtain ⟨⟨dq, osq⟩, hw''⟩ := hw'
            subst hw''
            have hb' := below_regrown wi dq osq
            clear kq0 kq1 kq2 kq3 kq4 kq5 kq6 qc0 qc1
            have HB1 := Lib.hid ((HB1.out).trans (hb'.mono (HB1.out).size))
            clear hb'
            generalize grow (redrawn wi dq) osq = w4 at *
            go_wp2_with fail
            go_roundw
            case rel => exact ⟨z + 1, by omega, by omega, by go_num, HB1.out⟩
            case measure => simp [intOf]; omega
          · skip
            obtain ⟨zB20, zB21, zB22⟩ := (B2.out.below HB1.out B2.out.lt).cells3
            obtain ⟨zB60, zB61, zB62, zB63⟩ := (B6.out.below HB1.out B6.out.lt).cells4
            go_wp2_with fail
            clear zB20 zB21 zB22
            clear zB60 zB61 zB62 zB63
            go_roundw
            case rel => exact ⟨y + 1, by omega, by omega, by go_num, HB1.out⟩
            case measure => simp [intOf]; omega
      · skip
        obtain ⟨zB20, zB21, zB22⟩ := (B2.out.below HB1.out B2.out.lt).cells3
        obtain ⟨zB60, zB61, zB62, zB63⟩ := (B6.out.below HB1.out B6.out.lt).cells4
        go_wp2_with fail
        clear zB20 zB21 zB22
        clear zB60 zB61 zB62 zB63
        go_ret
        exact ⟨rfl, HB.out.trans (HB1.out.mono HB.out.size)⟩

set_option maxRecDepth 100000 in
set_option maxHeartbeats 16000000 in
theorem uall_y2 (a b : Nat) (V : List Int) (A : Option Addr) (c : Nat) (l : Int) (w : World) (hp : ReadsI w A V) (hn : V.length ≤ 9223372036854775807) (a1 : 1 ≤ a) (a2 : a ≤ 1024) (b1 : 1 ≤ b) (b2 : b ≤ 1024) (hl : V.length = a * b) (h1 : ¬ 40 < V.length) (hl1 : 0 ≤ l) (hl2 : l ≤ 255) (hl0 : l % 4 = 2) :
    Calls Try.prog 4 #[plV a b (.slice A V.length c), .int .u8 l] w fun e w' => e = .returned (.bool true) ∧ Below w.heap.size w w' := by
  have RP := Lib.hid hp
  have HB := Lib.hid (Below.refl w.heap.size w)
  have q1 : (V.length : Int) ≤ 40 := by omega
  have G2 := Lib.hid (show okR a b V.length 255 = true by unfold okR; rw [hl, okB_mk a1 a2 b1 b2]; rfl)
  have HL := Lib.hid hl
  have HJ := Lib.hid (clip_join (m := 255) (show okB a b V.length = true by rw [hl]; exact okB_mk a1 a2 b1 b2))
  have HM := Lib.hid hl0
  have L1 := Lib.hid (show (clipV V 255).length = a * b by rw [clipV_length]; exact hl)
  clear h1 hl hl0
  clear hp
  go_enter Try.func4, Try.ntmps4
  go_wp2_with fail
  have RP := Lib.hid ((RP.out).alloc (.cells #[.int .i64 a, .int .i64 b, .slice A V.length c] 24))
  have HB := Lib.hid (below_alloc_ (HB.out) (.cells #[.int .i64 a, .int .i64 b, .slice A V.length c] 24))
  have hzw : (w.alloc (.cells #[.int .i64 a, .int .i64 b, .slice A V.length c] 24)).heap.size = w.heap.size + 1 := by simp only [World.size_alloc]
  have B2 := Blk.new (w) 24 #[.int .i64 a, .int .i64 b, .slice A V.length c]
  skip
  have B2 := Lib.hid B2
  generalize w.alloc (.cells #[.int .i64 a, .int .i64 b, .slice A V.length c] 24) = w1 at *
  clear hzw
  have HB1 := Lib.hid (Below.refl w1.heap.size w1)
  refine (first_c _).mono ?_
  rintro e w2 ⟨rfl, hb'⟩
  have HB1 := Lib.hid ((HB1.out).trans (hb'.mono (HB1.out).size))
  clear hb'
  obtain ⟨zB20, zB21, zB22⟩ := (B2.out.below HB1.out B2.out.lt).cells3
  go_wp2_with fail
  clear zB20 zB21 zB22
  refine (right_c a b A V.length c 255 _ hn).mono ?_
  rintro e w3 ⟨rfl, hb'⟩
  have HB1 := Lib.hid ((HB1.out).trans (hb'.mono (HB1.out).size))
  clear hb'
  rw [G2.out]
  obtain ⟨zB20, zB21, zB22⟩ := (B2.out.below HB1.out B2.out.lt).cells3
  go_upto_region 5 with fail
  clear zB20 zB21 zB22
  obtain ⟨zB20, zB21, zB22⟩ := (B2.out.below HB1.out B2.out.lt).cells3
  clear zB20 zB21 zB22
  go_cut [5, 6] (fun s5 s6 wx => ∃ R b6 A6 c6, s5 = .pointer (some ⟨R, 0, none⟩) ∧ s6 = .pointer (some ⟨b6, 0, none⟩) ∧ Blk wx b6 35 #[.int .i64 a, .int .i64 b, .slice A6 (clipV V 255).length c6, .int .i64 255] ∧ ReadsI wx A6 (clipV V 255) ∧ RefAt wx R a b (clipV V 255) 255 ∧ Below w1.heap.size w1 wx)
  case first =>
    have HB1 := Lib.hid ((HB1.out).drew)
    refine wp_region_held_drew (S := (fun w' => w'.cell? ⟨w.heap.size, 0, none⟩ = some (.int .i64 a) ∧ w'.cell? ⟨w.heap.size, 1, none⟩ = some (.int .i64 b) ∧ w'.cell? ⟨w.heap.size, 2, none⟩ = some (.slice A V.length c))) (by kernel_rfl) ?hS0 (fun hHeld => ?_)
    case hS0 => exact ⟨(B2.out.below HB1.out B2.out.lt).cell 0, (B2.out.below HB1.out B2.out.lt).cell 1, (B2.out.below HB1.out B2.out.lt).cell 2⟩
    refine wpAnyH_take (i := 0) (oi := ⟨some 22, _, _, _, _, _⟩) (v := ?v62) rfl (by kernel_rfl) (by kernel_rfl) (by kernel_rfl) (fun _ _ _ h => h) (Or.inl ⟨by rfl, ?h62⟩) (by assumption) ?r62
    case h62 => (intro w hSw; (try dsimp only at hSw); go_simp; try with_reducible rfl)
    try simp only [Act.put, List.setIfInBounds_toArray, List.set_cons_zero, List.set_cons_succ]
    refine wpAnyH_take (i := 2) (oi := ⟨some 24, _, _, _, _, _⟩) (v := ?v63) rfl (by kernel_rfl) (by kernel_rfl) (by kernel_rfl) (fun _ _ _ h => h) (Or.inl ⟨by rfl, ?h63⟩) (by assumption) ?r63
    case h63 => (intro w hSw; (try dsimp only at hSw); go_simp; try with_reducible rfl)
    try simp only [Act.put, List.setIfInBounds_toArray, List.set_cons_zero, List.set_cons_succ]
    refine wpAnyH_ready (rs := [1, 4]) (by kernel_rfl) (by simp) ?_
    refine (AllReadyH.cons (o := ⟨some 23, _, _, _, _, _⟩) rfl (fun K hK => ?_) (AllReadyH.cons (o := ⟨some 6, _, _, _, _, _⟩) rfl (fun K hK => ?_) AllReadyH.nil))
    · skip
      go_simp
      have HS1 := HB1
      refine (uNew_own a b V A c 255 _ (RP.out.kept HB1.out) a1 a2 b1 b2 HL.out (by decide) (by decide)).mono ?_
      rintro e w4 ⟨R, rfl, hr, hb'⟩
      have HB1 := Lib.hid ((HB1.out).trans (hb'.mono (HB1.out).size))
      clear hb'
      have FR := Lib.hid (hr.lower (B' := w1.heap.size) HS1.out.size)
      clear hr
      refine hK.out _ _ ?hS64 (fun hHeld => ?_)
      case hS64 => exact ⟨(B2.out.below HB1.out B2.out.lt).cell 0, (B2.out.below HB1.out B2.out.lt).cell 1, (B2.out.below HB1.out B2.out.lt).cell 2⟩
      clear hK K
      try simp only [Act.put, List.setIfInBounds_toArray, List.set_cons_zero, List.set_cons_succ]
      refine wpAnyH_ready (rs := [3, 4]) (by kernel_rfl) (by simp) ?_
      refine (AllReadyH.cons (o := ⟨some 25, _, _, _, _, _⟩) rfl (fun K hK => ?_) (AllReadyH.cons (o := ⟨some 6, _, _, _, _, _⟩) rfl (fun K hK => ?_) AllReadyH.nil))
      · skip
        go_simp
        have HS1 := HB1
        refine (r19New_c a b V A c 255 _ (RP.out.kept HB1.out) (by omega) ⟨a, b, clipV V 255⟩ HJ.out).mono ?_
        rintro e w5 ⟨v, rfl, ho, hb'⟩
        have HB1 := Lib.hid ((HB1.out).trans (hb'.mono (HB1.out).size))
        have FR := Lib.hid ((FR.out).below hb')
        clear hb'
        obtain ⟨A6, c6, rfl, hq⟩ := ho.slice
        have O6 := Lib.hid (ho.lower (B' := w1.heap.size) HS1.out.size)
        clear ho hq
        refine hK.out _ _ ?hS65 (fun hHeld => ?_)
        case hS65 => exact ⟨(B2.out.below HB1.out B2.out.lt).cell 0, (B2.out.below HB1.out B2.out.lt).cell 1, (B2.out.below HB1.out B2.out.lt).cell 2⟩
        clear hK K
        try simp only [Act.put, List.setIfInBounds_toArray, List.set_cons_zero, List.set_cons_succ]
        refine wpAnyH_ready (rs := [4]) (by kernel_rfl) (by simp) ?_
        refine (AllReadyH.cons (o := ⟨some 6, _, _, _, _, _⟩) rfl (fun K hK => ?_) AllReadyH.nil)
        go_simp
        have hlt := HB1.out.size
        have HB1 := Lib.hid (below_alloc_ (HB1.out) (.cells #[.int .i64 0, .int .i64 0, .slice none 0 0, .int .i64 0] 35))
        have FR := Lib.hid ((FR.out).alloc (.cells #[.int .i64 0, .int .i64 0, .slice none 0 0, .int .i64 0] 35))
        have O6 := Lib.hid ((O6.out).alloc (.cells #[.int .i64 0, .int .i64 0, .slice none 0 0, .int .i64 0] 35))
        have hzw : (w5.alloc (.cells #[.int .i64 0, .int .i64 0, .slice none 0 0, .int .i64 0] 35)).heap.size = w5.heap.size + 1 := by simp only [World.size_alloc]
        have B6 := Blk.new (w5) 35 #[.int .i64 0, .int .i64 0, .slice none 0 0, .int .i64 0]
        skip
        have B6 := Lib.hid B6
        generalize w5.alloc (.cells #[.int .i64 0, .int .i64 0, .slice none 0 0, .int .i64 0] 35) = w6 at *
        have hgeB6 : w1.heap.size ≤ w5.heap.size := hlt
        clear hzw hlt
        refine hK.out _ _ ?hS66 (fun hHeld => ?_)
        case hS66 => exact ⟨(B2.out.below HB1.out B2.out.lt).cell 0, (B2.out.below HB1.out B2.out.lt).cell 1, (B2.out.below HB1.out B2.out.lt).cell 2⟩
        clear hK K
        try simp only [Act.put, List.setIfInBounds_toArray, List.set_cons_zero, List.set_cons_succ]
        refine wpAnyH_take (i := 5) (oi := ⟨some 5, _, _, _, _, _⟩) (v := ?v67) rfl (by kernel_rfl) (by kernel_rfl) (by kernel_rfl) (fun _ _ _ h => h) (Or.inl ⟨by rfl, ?h67⟩) (by assumption) ?r67
        case h67 => (intro w hSw; (try dsimp only at hSw); go_simp; try with_reducible rfl)
        try simp only [Act.put, List.setIfInBounds_toArray, List.set_cons_zero, List.set_cons_succ]
        refine wpAnyH_ready (rs := [6]) (by kernel_rfl) (by simp) ?_
        refine (AllReadyH.cons (o := ⟨none, _, _, _, _, _⟩) rfl (fun K hK => ?_) AllReadyH.nil)
        obtain ⟨⟨q0, q1, q2, q3⟩, f0, f1, f2, f3⟩ := B6.out.four
        go_simp
        clear q0 q1 q2 q3 f0 f1 f2 f3
        have FR := Lib.hid (ret_four_ref B6.out FR.out (.int .i64 a) (.int .i64 b) (.slice A6 (clipV V 255).length c6) (.int .i64 255))
        obtain ⟨k1, k2, k3⟩ := ret_four B6.out (.int .i64 a) (.int .i64 b) (.slice A6 (clipV V 255).length c6) (.int .i64 255)
        have B6 := Lib.hid k1
        have O6 := Lib.hid (k2 _ _ _ O6.out)
        have HB1 := Lib.hid (k3 _ _ HB1.out hgeB6)
        clear k1 k2 k3
        refine hK.out _ _ ?hS68 (fun hHeld => ?_)
        case hS68 => exact ⟨(B2.out.below HB1.out B2.out.lt).cell 0, (B2.out.below HB1.out B2.out.lt).cell 1, (B2.out.below HB1.out B2.out.lt).cell 2⟩
        clear hK K
        try simp only [Act.put, List.setIfInBounds_toArray, List.set_cons_zero, List.set_cons_succ]
        refine wpAnyH_done (by kernel_rfl) ?_ _
        clear hHeld
        go_wp2_with fail
        go_meet
        exact ⟨_, _, _, _, rfl, rfl, B6.out, O6.out.reads, FR.out.at_, HB1.out⟩
      · skip
        go_simp
        have hlt := HB1.out.size
        have HB1 := Lib.hid (below_alloc_ (HB1.out) (.cells #[.int .i64 0, .int .i64 0, .slice none 0 0, .int .i64 0] 35))
        have FR := Lib.hid ((FR.out).alloc (.cells #[.int .i64 0, .int .i64 0, .slice none 0 0, .int .i64 0] 35))
        have hzw : (w4.alloc (.cells #[.int .i64 0, .int .i64 0, .slice none 0 0, .int .i64 0] 35)).heap.size = w4.heap.size + 1 := by simp only [World.size_alloc]
        have B6 := Blk.new (w4) 35 #[.int .i64 0, .int .i64 0, .slice none 0 0, .int .i64 0]
        skip
        have B6 := Lib.hid B6
        generalize w4.alloc (.cells #[.int .i64 0, .int .i64 0, .slice none 0 0, .int .i64 0] 35) = w5 at *
        have hgeB6 : w1.heap.size ≤ w4.heap.size := hlt
        clear hzw hlt
        refine hK.out _ _ ?hS69 (fun hHeld => ?_)
        case hS69 => exact ⟨(B2.out.below HB1.out B2.out.lt).cell 0, (B2.out.below HB1.out B2.out.lt).cell 1, (B2.out.below HB1.out B2.out.lt).cell 2⟩
        clear hK K
        try simp only [Act.put, List.setIfInBounds_toArray, List.set_cons_zero, List.set_cons_succ]
        refine wpAnyH_ready (rs := [3]) (by kernel_rfl) (by simp) ?_
        refine (AllReadyH.cons (o := ⟨some 25, _, _, _, _, _⟩) rfl (fun K hK => ?_) AllReadyH.nil)
        go_simp
        have HS1 := HB1
        refine (r19New_c a b V A c 255 _ (RP.out.kept HB1.out) (by omega) ⟨a, b, clipV V 255⟩ HJ.out).mono ?_
        rintro e w6 ⟨v, rfl, ho, hb'⟩
        have HB1 := Lib.hid ((HB1.out).trans (hb'.mono (HB1.out).size))
        have FR := Lib.hid ((FR.out).below hb')
        have B6 := Lib.hid ((B6.out).below hb' (B6.out).lt)
        clear hb'
        obtain ⟨A6, c6, rfl, hq⟩ := ho.slice
        have O6 := Lib.hid (ho.lower (B' := w1.heap.size) HS1.out.size)
        clear ho hq
        refine hK.out _ _ ?hS70 (fun hHeld => ?_)
        case hS70 => exact ⟨(B2.out.below HB1.out B2.out.lt).cell 0, (B2.out.below HB1.out B2.out.lt).cell 1, (B2.out.below HB1.out B2.out.lt).cell 2⟩
        clear hK K
        try simp only [Act.put, List.setIfInBounds_toArray, List.set_cons_zero, List.set_cons_succ]
        refine wpAnyH_take (i := 5) (oi := ⟨some 5, _, _, _, _, _⟩) (v := ?v71) rfl (by kernel_rfl) (by kernel_rfl) (by kernel_rfl) (fun _ _ _ h => h) (Or.inl ⟨by rfl, ?h71⟩) (by assumption) ?r71
        case h71 => (intro w hSw; (try dsimp only at hSw); go_simp; try with_reducible rfl)
        try simp only [Act.put, List.setIfInBounds_toArray, List.set_cons_zero, List.set_cons_succ]
        refine wpAnyH_ready (rs := [6]) (by kernel_rfl) (by simp) ?_
        refine (AllReadyH.cons (o := ⟨none, _, _, _, _, _⟩) rfl (fun K hK => ?_) AllReadyH.nil)
        obtain ⟨⟨q0, q1, q2, q3⟩, f0, f1, f2, f3⟩ := B6.out.four
        go_simp
        clear q0 q1 q2 q3 f0 f1 f2 f3
        have FR := Lib.hid (ret_four_ref B6.out FR.out (.int .i64 a) (.int .i64 b) (.slice A6 (clipV V 255).length c6) (.int .i64 255))
        obtain ⟨k1, k2, k3⟩ := ret_four B6.out (.int .i64 a) (.int .i64 b) (.slice A6 (clipV V 255).length c6) (.int .i64 255)
        have B6 := Lib.hid k1
        have O6 := Lib.hid (k2 _ _ _ O6.out)
        have HB1 := Lib.hid (k3 _ _ HB1.out hgeB6)
        clear k1 k2 k3
        refine hK.out _ _ ?hS72 (fun hHeld => ?_)
        case hS72 => exact ⟨(B2.out.below HB1.out B2.out.lt).cell 0, (B2.out.below HB1.out B2.out.lt).cell 1, (B2.out.below HB1.out B2.out.lt).cell 2⟩
        clear hK K
        try simp only [Act.put, List.setIfInBounds_toArray, List.set_cons_zero, List.set_cons_succ]
        refine wpAnyH_done (by kernel_rfl) ?_ _
        clear hHeld
        go_wp2_with fail
        go_meet
        exact ⟨_, _, _, _, rfl, rfl, B6.out, O6.out.reads, FR.out.at_, HB1.out⟩
    · skip
      go_simp
      have hlt := HB1.out.size
      have HB1 := Lib.hid (below_alloc_ (HB1.out) (.cells #[.int .i64 0, .int .i64 0, .slice none 0 0, .int .i64 0] 35))
      have hzw : (w3.drew.alloc (.cells #[.int .i64 0, .int .i64 0, .slice none 0 0, .int .i64 0] 35)).heap.size = w3.drew.heap.size + 1 := by simp only [World.size_alloc]
      have B6 := Blk.new (w3.drew) 35 #[.int .i64 0, .int .i64 0, .slice none 0 0, .int .i64 0]
      skip
      have B6 := Lib.hid B6
      have B6 := Lib.hid (show Blk _ (w3.heap.size) _ _ from B6.out)
      try rw [show (w3.alloc (.cells #[.int .i64 0, .int .i64 0, .slice none 0 0, .int .i64 0] 35)).drew = w3.drew.alloc (.cells #[.int .i64 0, .int .i64 0, .slice none 0 0, .int .i64 0] 35) from rfl]
      generalize w3.drew.alloc (.cells #[.int .i64 0, .int .i64 0, .slice none 0 0, .int .i64 0] 35) = w4 at *
      have hgeB6 : w1.heap.size ≤ w3.heap.size := hlt
      clear hzw hlt
      refine hK.out _ _ ?hS73 (fun hHeld => ?_)
      case hS73 => exact ⟨(B2.out.below HB1.out B2.out.lt).cell 0, (B2.out.below HB1.out B2.out.lt).cell 1, (B2.out.below HB1.out B2.out.lt).cell 2⟩
      clear hK K
      try simp only [Act.put, List.setIfInBounds_toArray, List.set_cons_zero, List.set_cons_succ]
      refine wpAnyH_ready (rs := [1]) (by kernel_rfl) (by simp) ?_
      refine (AllReadyH.cons (o := ⟨some 23, _, _, _, _, _⟩) rfl (fun K hK => ?_) AllReadyH.nil)
      go_simp
      have HS1 := HB1
      refine (uNew_own a b V A c 255 _ (RP.out.kept HB1.out) a1 a2 b1 b2 HL.out (by decide) (by decide)).mono ?_
      rintro e w5 ⟨R, rfl, hr, hb'⟩
      have HB1 := Lib.hid ((HB1.out).trans (hb'.mono (HB1.out).size))
      have B6 := Lib.hid ((B6.out).below hb' (B6.out).lt)
      clear hb'
      have FR := Lib.hid (hr.lower (B' := w1.heap.size) HS1.out.size)
      clear hr
      refine hK.out _ _ ?hS74 (fun hHeld => ?_)
      case hS74 => exact ⟨(B2.out.below HB1.out B2.out.lt).cell 0, (B2.out.below HB1.out B2.out.lt).cell 1, (B2.out.below HB1.out B2.out.lt).cell 2⟩
      clear hK K
      try simp only [Act.put, List.setIfInBounds_toArray, List.set_cons_zero, List.set_cons_succ]
      refine wpAnyH_ready (rs := [3]) (by kernel_rfl) (by simp) ?_
      refine (AllReadyH.cons (o := ⟨some 25, _, _, _, _, _⟩) rfl (fun K hK => ?_) AllReadyH.nil)
      go_simp
      have HS1 := HB1
      refine (r19New_c a b V A c 255 _ (RP.out.kept HB1.out) (by omega) ⟨a, b, clipV V 255⟩ HJ.out).mono ?_
      rintro e w6 ⟨v, rfl, ho, hb'⟩
      have HB1 := Lib.hid ((HB1.out).trans (hb'.mono (HB1.out).size))
      have B6 := Lib.hid ((B6.out).below hb' (B6.out).lt)
      have FR := Lib.hid ((FR.out).below hb')
      clear hb'
      obtain ⟨A6, c6, rfl, hq⟩ := ho.slice
      have O6 := Lib.hid (ho.lower (B' := w1.heap.size) HS1.out.size)
      clear ho hq
      refine hK.out _ _ ?hS75 (fun hHeld => ?_)
      case hS75 => exact ⟨(B2.out.below HB1.out B2.out.lt).cell 0, (B2.out.below HB1.out B2.out.lt).cell 1, (B2.out.below HB1.out B2.out.lt).cell 2⟩
      clear hK K
      try simp only [Act.put, List.setIfInBounds_toArray, List.set_cons_zero, List.set_cons_succ]
      refine wpAnyH_take (i := 5) (oi := ⟨some 5, _, _, _, _, _⟩) (v := ?v76) rfl (by kernel_rfl) (by kernel_rfl) (by kernel_rfl) (fun _ _ _ h => h) (Or.inl ⟨by rfl, ?h76⟩) (by assumption) ?r76
      case h76 => (intro w hSw; (try dsimp only at hSw); go_simp; try with_reducible rfl)
      try simp only [Act.put, List.setIfInBounds_toArray, List.set_cons_zero, List.set_cons_succ]
      refine wpAnyH_ready (rs := [6]) (by kernel_rfl) (by simp) ?_
      refine (AllReadyH.cons (o := ⟨none, _, _, _, _, _⟩) rfl (fun K hK => ?_) AllReadyH.nil)
      obtain ⟨⟨q0, q1, q2, q3⟩, f0, f1, f2, f3⟩ := B6.out.four
      go_simp
      clear q0 q1 q2 q3 f0 f1 f2 f3
      have FR := Lib.hid (ret_four_ref B6.out FR.out (.int .i64 a) (.int .i64 b) (.slice A6 (clipV V 255).length c6) (.int .i64 255))
      obtain ⟨k1, k2, k3⟩ := ret_four B6.out (.int .i64 a) (.int .i64 b) (.slice A6 (clipV V 255).length c6) (.int .i64 255)
      have B6 := Lib.hid k1
      have O6 := Lib.hid (k2 _ _ _ O6.out)
      have HB1 := Lib.hid (k3 _ _ HB1.out hgeB6)
      clear k1 k2 k3
      refine hK.out _ _ ?hS77 (fun hHeld => ?_)
      case hS77 => exact ⟨(B2.out.below HB1.out B2.out.lt).cell 0, (B2.out.below HB1.out B2.out.lt).cell 1, (B2.out.below HB1.out B2.out.lt).cell 2⟩
      clear hK K
      try simp only [Act.put, List.setIfInBounds_toArray, List.set_cons_zero, List.set_cons_succ]
      refine wpAnyH_done (by kernel_rfl) ?_ _
      clear hHeld
      go_wp2_with fail
      go_meet
      exact ⟨_, _, _, _, rfl, rfl, B6.out, O6.out.reads, FR.out.at_, HB1.out⟩
  case rest =>
    obtain ⟨R, b6, A6, c6, rfl, rfl, h6, hr6, hr, hb⟩ := hcut
    have HB1 := Lib.hid hb
    have B6 := Lib.hid h6
    have R6 := Lib.hid hr6
    have FR := Lib.hid hr
    clear hb h6 hr6 hr
    have B2 := Lib.hid (B2.out.below HB1.out B2.out.lt)
    have RP := Lib.hid (RP.out.kept HB1.out)
    have HB := Lib.hid (HB.out.trans (HB1.out.mono HB.out.size))
    have HB1 := Lib.hid (Below.refl wc.heap.size wc)
    have M1 := HM.out
    have F1 : l.tmod 4 = 2 := by rw [Int.tmod_eq_emod_of_nonneg hl1]; exact M1
    have qa1 : 1 ≤ a := a1
    have qb1 : 1 ≤ b := b1
    have qa2 : (a : Int) ≤ 1024 := by omega
    have qb2 : (b : Int) ≤ 1024 := by omega
    clear M1
    obtain ⟨zB20, zB21, zB22⟩ := (B2.out.below HB1.out B2.out.lt).cells3
    obtain ⟨zB60, zB61, zB62, zB63⟩ := (B6.out.below HB1.out B6.out.lt).cells4
    go_wp2_with fail
    clear zB20 zB21 zB22
    clear zB60 zB61 zB62 zB63
    go_loopw [9] (fun v wr => ∃ y : Int, -4 ≤ y ∧ y ≤ 4 * (b : Int) + 1 ∧ v = .int .i64 y ∧ Below wc.heap.size wc wr) (fun v _ => (4 * (b : Int) + 1 - intOf v).toNat)
    case atStart => exact ⟨-4, by omega, by omega, by go_num, HB1.out⟩
    case round =>
      obtain ⟨y, hy0, hy1, rfl, hb⟩ := hrel
      have HB1 := Lib.hid hb
      obtain ⟨wo, ewo⟩ : ∃ wo, wo = wr := ⟨_, rfl⟩
      subst ewo
      clear hb
      by_cases hy : y ≤ 4 * (b : Int)
      · skip
        obtain ⟨zB20, zB21, zB22⟩ := (B2.out.below HB1.out B2.out.lt).cells3
        obtain ⟨zB60, zB61, zB62, zB63⟩ := (B6.out.below HB1.out B6.out.lt).cells4
        go_wp2_with fail
        clear zB20 zB21 zB22
        clear zB60 zB61 zB62 zB63
        go_loopw [10] (fun v wr => ∃ z : Int, -4 ≤ z ∧ z ≤ 4 * (a : Int) + 1 ∧ v = .int .i64 z ∧ Below wc.heap.size wc wr) (fun v _ => (4 * (a : Int) + 1 - intOf v).toNat)
        case atStart => exact ⟨-4, by omega, by omega, by go_num, HB1.out⟩
        case round =>
          obtain ⟨z, hz0, hz1, rfl, hb⟩ := hrel
          have HB1 := Lib.hid hb
          clear hb
          obtain ⟨wi, ewi⟩ : ∃ wi, wi = wr := ⟨_, rfl⟩
          subst ewi
          by_cases hz : z ≤ 4 * (a : Int)
          · skip
            obtain ⟨zB20, zB21, zB22⟩ := (B2.out.below HB1.out B2.out.lt).cells3
            obtain ⟨zB60, zB61, zB62, zB63⟩ := (B6.out.below HB1.out B6.out.lt).cells4
            go_upto_region 14 with fail
            have kq0 := cell_regrown zB20
            have kq1 := cell_regrown zB21
            have kq2 := cell_regrown zB22
            have kq3 := cell_regrown zB60
            have kq4 := cell_regrown zB61
            have kq5 := cell_regrown zB62
            have kq6 := cell_regrown zB63
            have qc0 := fun (d : Nat) (os : Array Obj) => Calls.regrown_of (uAt_c R a b (clipV V 255) 255 z y 2 (grow (redrawn wi d) os) ((FR.out.below HB1.out).below (below_regrown wi d os)))
            have qc1 := fun (d : Nat) (os : Array Obj) => Calls.regrown_of (r19At_c a b (clipV V 255) A6 c6 255 z y 2 (grow (redrawn wi d) os) ((R6.out.kept HB1.out).kept (below_regrown wi d os)) a1 a2 b1 b2 L1.out (by decide) (by decide) (clipV_bd V (by decide)))
            clear zB20 zB21 zB22 zB60 zB61 zB62 zB63
            refine wp_region_quiet_below (by kernel_rfl) (by kernel_rfl) ?_
            repeat (go_big_quiet_step (first | with_reducible exact qc0 _ _ | with_reducible exact qc1 _ _))
            refine wpQuiet_nil ?_
            intro _ hw'
            obtain ⟨⟨dq, osq⟩, hw''⟩ := hw'
            subst hw''
            have hb' := below_regrown wi dq osq
            clear kq0 kq1 kq2 kq3 kq4 kq5 kq6 qc0 qc1
            have HB1 := Lib.hid ((HB1.out).trans (hb'.mono (HB1.out).size))
            clear hb'
            generalize grow (redrawn wi dq) osq = w4 at *
            go_wp2_with fail
            go_roundw
            case rel => exact ⟨z + 1, by omega, by omega, by go_num, HB1.out⟩
            case measure => simp [intOf]; omega
          · skip
            obtain ⟨zB20, zB21, zB22⟩ := (B2.out.below HB1.out B2.out.lt).cells3
            obtain ⟨zB60, zB61, zB62, zB63⟩ := (B6.out.below HB1.out B6.out.lt).cells4
            go_wp2_with fail
            clear zB20 zB21 zB22
            clear zB60 zB61 zB62 zB63
            go_roundw
            case rel => exact ⟨y + 1, by omega, by omega, by go_num, HB1.out⟩
            case measure => simp [intOf]; omega
      · skip
        obtain ⟨zB20, zB21, zB22⟩ := (B2.out.below HB1.out B2.out.lt).cells3
        obtain ⟨zB60, zB61, zB62, zB63⟩ := (B6.out.below HB1.out B6.out.lt).cells4
        go_wp2_with fail
        clear zB20 zB21 zB22
        clear zB60 zB61 zB62 zB63
        go_ret
        exact ⟨rfl, HB.out.trans (HB1.out.mono HB.out.size)⟩

set_option maxRecDepth 100000 in
set_option maxHeartbeats 16000000 in
theorem uall_y3 (a b : Nat) (V : List Int) (A : Option Addr) (c : Nat) (l : Int) (w : World) (hp : ReadsI w A V) (hn : V.length ≤ 9223372036854775807) (a1 : 1 ≤ a) (a2 : a ≤ 1024) (b1 : 1 ≤ b) (b2 : b ≤ 1024) (hl : V.length = a * b) (h1 : ¬ 40 < V.length) (hl1 : 0 ≤ l) (hl2 : l ≤ 255) (hl0 : l % 4 = 3) :
    Calls Try.prog 4 #[plV a b (.slice A V.length c), .int .u8 l] w fun e w' => e = .returned (.bool true) ∧ Below w.heap.size w w' := by
  have RP := Lib.hid hp
  have HB := Lib.hid (Below.refl w.heap.size w)
  have q1 : (V.length : Int) ≤ 40 := by omega
  have G2 := Lib.hid (show okR a b V.length 255 = true by unfold okR; rw [hl, okB_mk a1 a2 b1 b2]; rfl)
  have HL := Lib.hid hl
  have HJ := Lib.hid (clip_join (m := 255) (show okB a b V.length = true by rw [hl]; exact okB_mk a1 a2 b1 b2))
  have HM := Lib.hid hl0
  have L1 := Lib.hid (show (clipV V 255).length = a * b by rw [clipV_length]; exact hl)
  clear h1 hl hl0
  clear hp
  go_enter Try.func4, Try.ntmps4
  go_wp2_with fail
  have RP := Lib.hid ((RP.out).alloc (.cells #[.int .i64 a, .int .i64 b, .slice A V.length c] 24))
  have HB := Lib.hid (below_alloc_ (HB.out) (.cells #[.int .i64 a, .int .i64 b, .slice A V.length c] 24))
  have hzw : (w.alloc (.cells #[.int .i64 a, .int .i64 b, .slice A V.length c] 24)).heap.size = w.heap.size + 1 := by simp only [World.size_alloc]
  have B2 := Blk.new (w) 24 #[.int .i64 a, .int .i64 b, .slice A V.length c]
  skip
  have B2 := Lib.hid B2
  generalize w.alloc (.cells #[.int .i64 a, .int .i64 b, .slice A V.length c] 24) = w1 at *
  clear hzw
  have HB1 := Lib.hid (Below.refl w1.heap.size w1)
  refine (first_c _).mono ?_
  rintro e w2 ⟨rfl, hb'⟩
  have HB1 := Lib.hid ((HB1.out).trans (hb'.mono (HB1.out).size))
  clear hb'
  obtain ⟨zB20, zB21, zB22⟩ := (B2.out.below HB1.out B2.out.lt).cells3
  go_wp2_with fail
  clear zB20 zB21 zB22
  refine (right_c a b A V.length c 255 _ hn).mono ?_
  rintro e w3 ⟨rfl, hb'⟩
  have HB1 := Lib.hid ((HB1.out).trans (hb'.mono (HB1.out).size))
  clear hb'
  rw [G2.out]
  obtain ⟨zB20, zB21, zB22⟩ := (B2.out.below HB1.out B2.out.lt).cells3
  go_upto_region 5 with fail
  clear zB20 zB21 zB22
  obtain ⟨zB20, zB21, zB22⟩ := (B2.out.below HB1.out B2.out.lt).cells3
  clear zB20 zB21 zB22
  go_cut [5, 6] (fun s5 s6 wx => ∃ R b6 A6 c6, s5 = .pointer (some ⟨R, 0, none⟩) ∧ s6 = .pointer (some ⟨b6, 0, none⟩) ∧ Blk wx b6 35 #[.int .i64 a, .int .i64 b, .slice A6 (clipV V 255).length c6, .int .i64 255] ∧ ReadsI wx A6 (clipV V 255) ∧ RefAt wx R a b (clipV V 255) 255 ∧ Below w1.heap.size w1 wx)
  case first =>
    have HB1 := Lib.hid ((HB1.out).drew)
    refine wp_region_held_drew (S := (fun w' => w'.cell? ⟨w.heap.size, 0, none⟩ = some (.int .i64 a) ∧ w'.cell? ⟨w.heap.size, 1, none⟩ = some (.int .i64 b) ∧ w'.cell? ⟨w.heap.size, 2, none⟩ = some (.slice A V.length c))) (by kernel_rfl) ?hS0 (fun hHeld => ?_)
    case hS0 => exact ⟨(B2.out.below HB1.out B2.out.lt).cell 0, (B2.out.below HB1.out B2.out.lt).cell 1, (B2.out.below HB1.out B2.out.lt).cell 2⟩
    refine wpAnyH_take (i := 0) (oi := ⟨some 22, _, _, _, _, _⟩) (v := ?v78) rfl (by kernel_rfl) (by kernel_rfl) (by kernel_rfl) (fun _ _ _ h => h) (Or.inl ⟨by rfl, ?h78⟩) (by assumption) ?r78
    case h78 => (intro w hSw; (try dsimp only at hSw); go_simp; try with_reducible rfl)
    try simp only [Act.put, List.setIfInBounds_toArray, List.set_cons_zero, List.set_cons_succ]
    refine wpAnyH_take (i := 2) (oi := ⟨some 24, _, _, _, _, _⟩) (v := ?v79) rfl (by kernel_rfl) (by kernel_rfl) (by kernel_rfl) (fun _ _ _ h => h) (Or.inl ⟨by rfl, ?h79⟩) (by assumption) ?r79
    case h79 => (intro w hSw; (try dsimp only at hSw); go_simp; try with_reducible rfl)
    try simp only [Act.put, List.setIfInBounds_toArray, List.set_cons_zero, List.set_cons_succ]
    refine wpAnyH_ready (rs := [1, 4]) (by kernel_rfl) (by simp) ?_
    refine (AllReadyH.cons (o := ⟨some 23, _, _, _, _, _⟩) rfl (fun K hK => ?_) (AllReadyH.cons (o := ⟨some 6, _, _, _, _, _⟩) rfl (fun K hK => ?_) AllReadyH.nil))
    · skip
      go_simp
      have HS1 := HB1
      refine (uNew_own a b V A c 255 _ (RP.out.kept HB1.out) a1 a2 b1 b2 HL.out (by decide) (by decide)).mono ?_
      rintro e w4 ⟨R, rfl, hr, hb'⟩
      have HB1 := Lib.hid ((HB1.out).trans (hb'.mono (HB1.out).size))
      clear hb'
      have FR := Lib.hid (hr.lower (B' := w1.heap.size) HS1.out.size)
      clear hr
      refine hK.out _ _ ?hS80 (fun hHeld => ?_)
      case hS80 => exact ⟨(B2.out.below HB1.out B2.out.lt).cell 0, (B2.out.below HB1.out B2.out.lt).cell 1, (B2.out.below HB1.out B2.out.lt).cell 2⟩
      clear hK K
      try simp only [Act.put, List.setIfInBounds_toArray, List.set_cons_zero, List.set_cons_succ]
      refine wpAnyH_ready (rs := [3, 4]) (by kernel_rfl) (by simp) ?_
      refine (AllReadyH.cons (o := ⟨some 25, _, _, _, _, _⟩) rfl (fun K hK => ?_) (AllReadyH.cons (o := ⟨some 6, _, _, _, _, _⟩) rfl (fun K hK => ?_) AllReadyH.nil))
      · skip
        go_simp
        have HS1 := HB1
        refine (r19New_c a b V A c 255 _ (RP.out.kept HB1.out) (by omega) ⟨a, b, clipV V 255⟩ HJ.out).mono ?_
        rintro e w5 ⟨v, rfl, ho, hb'⟩
        have HB1 := Lib.hid ((HB1.out).trans (hb'.mono (HB1.out).size))
        have FR := Lib.hid ((FR.out).below hb')
        clear hb'
        obtain ⟨A6, c6, rfl, hq⟩ := ho.slice
        have O6 := Lib.hid (ho.lower (B' := w1.heap.size) HS1.out.size)
        clear ho hq
        refine hK.out _ _ ?hS81 (fun hHeld => ?_)
        case hS81 => exact ⟨(B2.out.below HB1.out B2.out.lt).cell 0, (B2.out.below HB1.out B2.out.lt).cell 1, (B2.out.below HB1.out B2.out.lt).cell 2⟩
        clear hK K
        try simp only [Act.put, List.setIfInBounds_toArray, List.set_cons_zero, List.set_cons_succ]
        refine wpAnyH_ready (rs := [4]) (by kernel_rfl) (by simp) ?_
        refine (AllReadyH.cons (o := ⟨some 6, _, _, _, _, _⟩) rfl (fun K hK => ?_) AllReadyH.nil)
        go_simp
        have hlt := HB1.out.size
        have HB1 := Lib.hid (below_alloc_ (HB1.out) (.cells #[.int .i64 0, .int .i64 0, .slice none 0 0, .int .i64 0] 35))
        have FR := Lib.hid ((FR.out).alloc (.cells #[.int .i64 0, .int .i64 0, .slice none 0 0, .int .i64 0] 35))
        have O6 := Lib.hid ((O6.out).alloc (.cells #[.int .i64 0, .int .i64 0, .slice none 0 0, .int .i64 0] 35))
        have hzw : (w5.alloc (.cells #[.int .i64 0, .int .i64 0, .slice none 0 0, .int .i64 0] 35)).heap.size = w5.heap.size + 1 := by simp only [World.size_alloc]
        have B6 := Blk.new (w5) 35 #[.int .i64 0, .int .i64 0, .slice none 0 0, .int .i64 0]
        skip
        have B6 := Lib.hid B6
        generalize w5.alloc (.cells #[.int .i64 0, .int .i64 0, .slice none 0 0, .int .i64 0] 35) = w6 at *
        have hgeB6 : w1.heap.size ≤ w5.heap.size := hlt
        clear hzw hlt
        refine hK.out _ _ ?hS82 (fun hHeld => ?_)
        case hS82 => exact ⟨(B2.out.below HB1.out B2.out.lt).cell 0, (B2.out.below HB1.out B2.out.lt).cell 1, (B2.out.below HB1.out B2.out.lt).cell 2⟩
        clear hK K
        try simp only [Act.put, List.setIfInBounds_toArray, List.set_cons_zero, List.set_cons_succ]
        refine wpAnyH_take (i := 5) (oi := ⟨some 5, _, _, _, _, _⟩) (v := ?v83) rfl (by kernel_rfl) (by kernel_rfl) (by kernel_rfl) (fun _ _ _ h => h) (Or.inl ⟨by rfl, ?h83⟩) (by assumption) ?r83
        case h83 => (intro w hSw; (try dsimp only at hSw); go_simp; try with_reducible rfl)
        try simp only [Act.put, List.setIfInBounds_toArray, List.set_cons_zero, List.set_cons_succ]
        refine wpAnyH_ready (rs := [6]) (by kernel_rfl) (by simp) ?_
        refine (AllReadyH.cons (o := ⟨none, _, _, _, _, _⟩) rfl (fun K hK => ?_) AllReadyH.nil)
        obtain ⟨⟨q0, q1, q2, q3⟩, f0, f1, f2, f3⟩ := B6.out.four
        go_simp
        clear q0 q1 q2 q3 f0 f1 f2 f3
        have FR := Lib.hid (ret_four_ref B6.out FR.out (.int .i64 a) (.int .i64 b) (.slice A6 (clipV V 255).length c6) (.int .i64 255))
        obtain ⟨k1, k2, k3⟩ := ret_four B6.out (.int .i64 a) (.int .i64 b) (.slice A6 (clipV V 255).length c6) (.int .i64 255)
        have B6 := Lib.hid k1
        have O6 := Lib.hid (k2 _ _ _ O6.out)
        have HB1 := Lib.hid (k3 _ _ HB1.out hgeB6)
        clear k1 k2 k3
        refine hK.out _ _ ?hS84 (fun hHeld => ?_)
        case hS84 => exact ⟨(B2.out.below HB1.out B2.out.lt).cell 0, (B2.out.below HB1.out B2.out.lt).cell 1, (B2.out.below HB1.out B2.out.lt).cell 2⟩
        clear hK K
        try simp only [Act.put, List.setIfInBounds_toArray, List.set_cons_zero, List.set_cons_succ]
        refine wpAnyH_done (by kernel_rfl) ?_ _
        clear hHeld
        go_wp2_with fail
        go_meet
        exact ⟨_, _, _, _, rfl, rfl, B6.out, O6.out.reads, FR.out.at_, HB1.out⟩
      · skip
        go_simp
        have hlt := HB1.out.size
        have HB1 := Lib.hid (below_alloc_ (HB1.out) (.cells #[.int .i64 0, .int .i64 0, .slice none 0 0, .int .i64 0] 35))
        have FR := Lib.hid ((FR.out).alloc (.cells #[.int .i64 0, .int .i64 0, .slice none 0 0, .int .i64 0] 35))
        have hzw : (w4.alloc (.cells #[.int .i64 0, .int .i64 0, .slice none 0 0, .int .i64 0] 35)).heap.size = w4.heap.size + 1 := by simp only [World.size_alloc]
        have B6 := Blk.new (w4) 35 #[.int .i64 0, .int .i64 0, .slice none 0 0, .int .i64 0]
        skip
        have B6 := Lib.hid B6
        generalize w4.alloc (.cells #[.int .i64 0, .int .i64 0, .slice none 0 0, .int .i64 0] 35) = w5 at *
        have hgeB6 : w1.heap.size ≤ w4.heap.size := hlt
        clear hzw hlt
        refine hK.out _ _ ?hS85 (fun hHeld => ?_)
        case hS85 => exact ⟨(B2.out.below HB1.out B2.out.lt).cell 0, (B2.out.below HB1.out B2.out.lt).cell 1, (B2.out.below HB1.out B2.out.lt).cell 2⟩
        clear hK K
        try simp only [Act.put, List.setIfInBounds_toArray, List.set_cons_zero, List.set_cons_succ]
        refine wpAnyH_ready (rs := [3]) (by kernel_rfl) (by simp) ?_
        refine (AllReadyH.cons (o := ⟨some 25, _, _, _, _, _⟩) rfl (fun K hK => ?_) AllReadyH.nil)
        go_simp
        have HS1 := HB1
        refine (r19New_c a b V A c 255 _ (RP.out.kept HB1.out) (by omega) ⟨a, b, clipV V 255⟩ HJ.out).mono ?_
        rintro e w6 ⟨v, rfl, ho, hb'⟩
        have HB1 := Lib.hid ((HB1.out).trans (hb'.mono (HB1.out).size))
        have FR := Lib.hid ((FR.out).below hb')
        have B6 := Lib.hid ((B6.out).below hb' (B6.out).lt)
        clear hb'
        obtain ⟨A6, c6, rfl, hq⟩ := ho.slice
        have O6 := Lib.hid (ho.lower (B' := w1.heap.size) HS1.out.size)
        clear ho hq
        refine hK.out _ _ ?hS86 (fun hHeld => ?_)
        case hS86 => exact ⟨(B2.out.below HB1.out B2.out.lt).cell 0, (B2.out.below HB1.out B2.out.lt).cell 1, (B2.out.below HB1.out B2.out.lt).cell 2⟩
        clear hK K
        try simp only [Act.put, List.setIfInBounds_toArray, List.set_cons_zero, List.set_cons_succ]
        refine wpAnyH_take (i := 5) (oi := ⟨some 5, _, _, _, _, _⟩) (v := ?v87) rfl (by kernel_rfl) (by kernel_rfl) (by kernel_rfl) (fun _ _ _ h => h) (Or.inl ⟨by rfl, ?h87⟩) (by assumption) ?r87
        case h87 => (intro w hSw; (try dsimp only at hSw); go_simp; try with_reducible rfl)
        try simp only [Act.put, List.setIfInBounds_toArray, List.set_cons_zero, List.set_cons_succ]
        refine wpAnyH_ready (rs := [6]) (by kernel_rfl) (by simp) ?_
        refine (AllReadyH.cons (o := ⟨none, _, _, _, _, _⟩) rfl (fun K hK => ?_) AllReadyH.nil)
        obtain ⟨⟨q0, q1, q2, q3⟩, f0, f1, f2, f3⟩ := B6.out.four
        go_simp
        clear q0 q1 q2 q3 f0 f1 f2 f3
        have FR := Lib.hid (ret_four_ref B6.out FR.out (.int .i64 a) (.int .i64 b) (.slice A6 (clipV V 255).length c6) (.int .i64 255))
        obtain ⟨k1, k2, k3⟩ := ret_four B6.out (.int .i64 a) (.int .i64 b) (.slice A6 (clipV V 255).length c6) (.int .i64 255)
        have B6 := Lib.hid k1
        have O6 := Lib.hid (k2 _ _ _ O6.out)
        have HB1 := Lib.hid (k3 _ _ HB1.out hgeB6)
        clear k1 k2 k3
        refine hK.out _ _ ?hS88 (fun hHeld => ?_)
        case hS88 => exact ⟨(B2.out.below HB1.out B2.out.lt).cell 0, (B2.out.below HB1.out B2.out.lt).cell 1, (B2.out.below HB1.out B2.out.lt).cell 2⟩
        clear hK K
        try simp only [Act.put, List.setIfInBounds_toArray, List.set_cons_zero, List.set_cons_succ]
        refine wpAnyH_done (by kernel_rfl) ?_ _
        clear hHeld
        go_wp2_with fail
        go_meet
        exact ⟨_, _, _, _, rfl, rfl, B6.out, O6.out.reads, FR.out.at_, HB1.out⟩
    · skip
      go_simp
      have hlt := HB1.out.size
      have HB1 := Lib.hid (below_alloc_ (HB1.out) (.cells #[.int .i64 0, .int .i64 0, .slice none 0 0, .int .i64 0] 35))
      have hzw : (w3.drew.alloc (.cells #[.int .i64 0, .int .i64 0, .slice none 0 0, .int .i64 0] 35)).heap.size = w3.drew.heap.size + 1 := by simp only [World.size_alloc]
      have B6 := Blk.new (w3.drew) 35 #[.int .i64 0, .int .i64 0, .slice none 0 0, .int .i64 0]
      skip
      have B6 := Lib.hid B6
      have B6 := Lib.hid (show Blk _ (w3.heap.size) _ _ from B6.out)
      try rw [show (w3.alloc (.cells #[.int .i64 0, .int .i64 0, .slice none 0 0, .int .i64 0] 35)).drew = w3.drew.alloc (.cells #[.int .i64 0, .int .i64 0, .slice none 0 0, .int .i64 0] 35) from rfl]
      generalize w3.drew.alloc (.cells #[.int .i64 0, .int .i64 0, .slice none 0 0, .int .i64 0] 35) = w4 at *
      have hgeB6 : w1.heap.size ≤ w3.heap.size := hlt
      clear hzw hlt
      refine hK.out _ _ ?hS89 (fun hHeld => ?_)
      case hS89 => exact ⟨(B2.out.below HB1.out B2.out.lt).cell 0, (B2.out.below HB1.out B2.out.lt).cell 1, (B2.out.below HB1.out B2.out.lt).cell 2⟩
      clear hK K
      try simp only [Act.put, List.setIfInBounds_toArray, List.set_cons_zero, List.set_cons_succ]
      refine wpAnyH_ready (rs := [1]) (by kernel_rfl) (by simp) ?_
      refine (AllReadyH.cons (o := ⟨some 23, _, _, _, _, _⟩) rfl (fun K hK => ?_) AllReadyH.nil)
      go_simp
      have HS1 := HB1
      refine (uNew_own a b V A c 255 _ (RP.out.kept HB1.out) a1 a2 b1 b2 HL.out (by decide) (by decide)).mono ?_
      rintro e w5 ⟨R, rfl, hr, hb'⟩
      have HB1 := Lib.hid ((HB1.out).trans (hb'.mono (HB1.out).size))
      have B6 := Lib.hid ((B6.out).below hb' (B6.out).lt)
      clear hb'
      have FR := Lib.hid (hr.lower (B' := w1.heap.size) HS1.out.size)
      clear hr
      refine hK.out _ _ ?hS90 (fun hHeld => ?_)
      case hS90 => exact ⟨(B2.out.below HB1.out B2.out.lt).cell 0, (B2.out.below HB1.out B2.out.lt).cell 1, (B2.out.below HB1.out B2.out.lt).cell 2⟩
      clear hK K
      try simp only [Act.put, List.setIfInBounds_toArray, List.set_cons_zero, List.set_cons_succ]
      refine wpAnyH_ready (rs := [3]) (by kernel_rfl) (by simp) ?_
      refine (AllReadyH.cons (o := ⟨some 25, _, _, _, _, _⟩) rfl (fun K hK => ?_) AllReadyH.nil)
      go_simp
      have HS1 := HB1
      refine (r19New_c a b V A c 255 _ (RP.out.kept HB1.out) (by omega) ⟨a, b, clipV V 255⟩ HJ.out).mono ?_
      rintro e w6 ⟨v, rfl, ho, hb'⟩
      have HB1 := Lib.hid ((HB1.out).trans (hb'.mono (HB1.out).size))
      have B6 := Lib.hid ((B6.out).below hb' (B6.out).lt)
      have FR := Lib.hid ((FR.out).below hb')
      clear hb'
      obtain ⟨A6, c6, rfl, hq⟩ := ho.slice
      have O6 := Lib.hid (ho.lower (B' := w1.heap.size) HS1.out.size)
      clear ho hq
      refine hK.out _ _ ?hS91 (fun hHeld => ?_)
      case hS91 => exact ⟨(B2.out.below HB1.out B2.out.lt).cell 0, (B2.out.below HB1.out B2.out.lt).cell 1, (B2.out.below HB1.out B2.out.lt).cell 2⟩
      clear hK K
      try simp only [Act.put, List.setIfInBounds_toArray, List.set_cons_zero, List.set_cons_succ]
      refine wpAnyH_take (i := 5) (oi := ⟨some 5, _, _, _, _, _⟩) (v := ?v92) rfl (by kernel_rfl) (by kernel_rfl) (by kernel_rfl) (fun _ _ _ h => h) (Or.inl ⟨by rfl, ?h92⟩) (by assumption) ?r92
      case h92 => (intro w hSw; (try dsimp only at hSw); go_simp; try with_reducible rfl)
      try simp only [Act.put, List.setIfInBounds_toArray, List.set_cons_zero, List.set_cons_succ]
      refine wpAnyH_ready (rs := [6]) (by kernel_rfl) (by simp) ?_
      refine (AllReadyH.cons (o := ⟨none, _, _, _, _, _⟩) rfl (fun K hK => ?_) AllReadyH.nil)
      obtain ⟨⟨q0, q1, q2, q3⟩, f0, f1, f2, f3⟩ := B6.out.four
      go_simp
      clear q0 q1 q2 q3 f0 f1 f2 f3
      have FR := Lib.hid (ret_four_ref B6.out FR.out (.int .i64 a) (.int .i64 b) (.slice A6 (clipV V 255).length c6) (.int .i64 255))
      obtain ⟨k1, k2, k3⟩ := ret_four B6.out (.int .i64 a) (.int .i64 b) (.slice A6 (clipV V 255).length c6) (.int .i64 255)
      have B6 := Lib.hid k1
      have O6 := Lib.hid (k2 _ _ _ O6.out)
      have HB1 := Lib.hid (k3 _ _ HB1.out hgeB6)
      clear k1 k2 k3
      refine hK.out _ _ ?hS93 (fun hHeld => ?_)
      case hS93 => exact ⟨(B2.out.below HB1.out B2.out.lt).cell 0, (B2.out.below HB1.out B2.out.lt).cell 1, (B2.out.below HB1.out B2.out.lt).cell 2⟩
      clear hK K
      try simp only [Act.put, List.setIfInBounds_toArray, List.set_cons_zero, List.set_cons_succ]
      refine wpAnyH_done (by kernel_rfl) ?_ _
      clear hHeld
      go_wp2_with fail
      go_meet
      exact ⟨_, _, _, _, rfl, rfl, B6.out, O6.out.reads, FR.out.at_, HB1.out⟩
  case rest =>
    obtain ⟨R, b6, A6, c6, rfl, rfl, h6, hr6, hr, hb⟩ := hcut
    have HB1 := Lib.hid hb
    have B6 := Lib.hid h6
    have R6 := Lib.hid hr6
    have FR := Lib.hid hr
    clear hb h6 hr6 hr
    have B2 := Lib.hid (B2.out.below HB1.out B2.out.lt)
    have RP := Lib.hid (RP.out.kept HB1.out)
    have HB := Lib.hid (HB.out.trans (HB1.out.mono HB.out.size))
    have HB1 := Lib.hid (Below.refl wc.heap.size wc)
    have M1 := HM.out
    have F1 : l.tmod 4 = 3 := by rw [Int.tmod_eq_emod_of_nonneg hl1]; exact M1
    have qa1 : 1 ≤ a := a1
    have qb1 : 1 ≤ b := b1
    have qa2 : (a : Int) ≤ 1024 := by omega
    have qb2 : (b : Int) ≤ 1024 := by omega
    clear M1
    obtain ⟨zB20, zB21, zB22⟩ := (B2.out.below HB1.out B2.out.lt).cells3
    obtain ⟨zB60, zB61, zB62, zB63⟩ := (B6.out.below HB1.out B6.out.lt).cells4
    go_wp2_with fail
    clear zB20 zB21 zB22
    clear zB60 zB61 zB62 zB63
    go_loopw [9] (fun v wr => ∃ y : Int, -8 ≤ y ∧ y ≤ 8 * (b : Int) + 1 ∧ v = .int .i64 y ∧ Below wc.heap.size wc wr) (fun v _ => (8 * (b : Int) + 1 - intOf v).toNat)
    case atStart => exact ⟨-8, by omega, by omega, by go_num, HB1.out⟩
    case round =>
      obtain ⟨y, hy0, hy1, rfl, hb⟩ := hrel
      have HB1 := Lib.hid hb
      obtain ⟨wo, ewo⟩ : ∃ wo, wo = wr := ⟨_, rfl⟩
      subst ewo
      clear hb
      by_cases hy : y ≤ 8 * (b : Int)
      · skip
        obtain ⟨zB20, zB21, zB22⟩ := (B2.out.below HB1.out B2.out.lt).cells3
        obtain ⟨zB60, zB61, zB62, zB63⟩ := (B6.out.below HB1.out B6.out.lt).cells4
        go_wp2_with fail
        clear zB20 zB21 zB22
        clear zB60 zB61 zB62 zB63
        go_loopw [10] (fun v wr => ∃ z : Int, -8 ≤ z ∧ z ≤ 8 * (a : Int) + 1 ∧ v = .int .i64 z ∧ Below wc.heap.size wc wr) (fun v _ => (8 * (a : Int) + 1 - intOf v).toNat)
        case atStart => exact ⟨-8, by omega, by omega, by go_num, HB1.out⟩
        case round =>
          obtain ⟨z, hz0, hz1, rfl, hb⟩ := hrel
          have HB1 := Lib.hid hb
          clear hb
          obtain ⟨wi, ewi⟩ : ∃ wi, wi = wr := ⟨_, rfl⟩
          subst ewi
          by_cases hz : z ≤ 8 * (a : Int)
          · skip
            obtain ⟨zB20, zB21, zB22⟩ := (B2.out.below HB1.out B2.out.lt).cells3
            obtain ⟨zB60, zB61, zB62, zB63⟩ := (B6.out.below HB1.out B6.out.lt).cells4
            go_upto_region 14 with fail
            have kq0 := cell_regrown zB20
            have kq1 := cell_regrown zB21
            have kq2 := cell_regrown zB22
            have kq3 := cell_regrown zB60
            have kq4 := cell_regrown zB61
            have kq5 := cell_regrown zB62
            have kq6 := cell_regrown zB63
            have qc0 := fun (d : Nat) (os : Array Obj) => Calls.regrown_of (uAt_c R a b (clipV V 255) 255 z y 3 (grow (redrawn wi d) os) ((FR.out.below HB1.out).below (below_regrown wi d os)))
            have qc1 := fun (d : Nat) (os : Array Obj) => Calls.regrown_of (r19At_c a b (clipV V 255) A6 c6 255 z y 3 (grow (redrawn wi d) os) ((R6.out.kept HB1.out).kept (below_regrown wi d os)) a1 a2 b1 b2 L1.out (by decide) (by decide) (clipV_bd V (by decide)))
            clear zB20 zB21 zB22 zB60 zB61 zB62 zB63
            refine wp_region_quiet_below (by kernel_rfl) (by kernel_rfl) ?_
            repeat (go_big_quiet_step (first | with_reducible exact qc0 _ _ | with_reducible exact qc1 _ _))
            refine wpQuiet_nil ?_
            intro _ hw'
            obtain ⟨⟨dq, osq⟩, hw''⟩ := hw'
            subst hw''
            have hb' := below_regrown wi dq osq
            clear kq0 kq1 kq2 kq3 kq4 kq5 kq6 qc0 qc1
            have HB1 := Lib.hid ((HB1.out).trans (hb'.mono (HB1.out).size))
            clear hb'
            generalize grow (redrawn wi dq) osq = w4 at *
            go_wp2_with fail
            go_roundw
            case rel => exact ⟨z + 1, by omega, by omega, by go_num, HB1.out⟩
            case measure => simp [intOf]; omega
          · skip
            obtain ⟨zB20, zB21, zB22⟩ := (B2.out.below HB1.out B2.out.lt).cells3
            obtain ⟨zB60, zB61, zB62, zB63⟩ := (B6.out.below HB1.out B6.out.lt).cells4
            go_wp2_with fail
            clear zB20 zB21 zB22
            clear zB60 zB61 zB62 zB63
            go_roundw
            case rel => exact ⟨y + 1, by omega, by omega, by go_num, HB1.out⟩
            case measure => simp [intOf]; omega
      · skip
        obtain ⟨zB20, zB21, zB22⟩ := (B2.out.below HB1.out B2.out.lt).cells3
        obtain ⟨zB60, zB61, zB62, zB63⟩ := (B6.out.below HB1.out B6.out.lt).cells4
        go_wp2_with fail
        clear zB20 zB21 zB22
        clear zB60 zB61 zB62 zB63
        go_ret
        exact ⟨rfl, HB.out.trans (HB1.out.mono HB.out.size)⟩

theorem upAll_walk (x0 : Int × Int × List Int) (x1 : Int) (v0 v1 : Value) (w : World) (k0 : IsPlaneC w v0 x0) (k1 : IsInt .u8 v1 x1) :
    Calls Try.prog 4 #[v0, v1] w fun e w' => e = .returned (.bool true) ∧ Below w.heap.size w w' := by
  obtain ⟨W, H, V⟩ := x0
  obtain ⟨A, c, rfl, hp, hn, _, _, _, hc, hc2⟩ := k0.form
  have b8 := k1.bd8
  obtain ⟨rfl, _⟩ := k1
  by_cases h1 : 40 < V.length
  · exact uall_1 W H V A c x1 w hp hn h1
  cases h2 : okR W H V.length 255 with
  | false => exact uall_2 W H V A c x1 w hp hn h1 h2
  | true =>
    have h3 : okB W H V.length = true := by
      unfold okR at h2
      simp only [Bool.and_eq_true] at h2
      exact h2.1.1
    obtain ⟨a, b, rfl, rfl, a1, a2, b1, b2, hl⟩ := okB_nat h3
    have hm : x1 % 4 = 0 ∨ x1 % 4 = 1 ∨ x1 % 4 = 2 ∨ x1 % 4 = 3 := by omega
    rcases hm with h | h | h | h
    · exact uall_y0 a b V A c x1 w hp hn a1 a2 b1 b2 hl h1 b8.1 b8.2 h
    · exact uall_y1 a b V A c x1 w hp hn a1 a2 b1 b2 hl h1 b8.1 b8.2 h
    · exact uall_y2 a b V A c x1 w hp hn a1 a2 b1 b2 hl h1 b8.1 b8.2 h
    · exact uall_y3 a b V A c x1 w hp hn a1 a2 b1 b2 hl h1 b8.1 b8.2 h

end Go.Proofs.Ytfknikgfilfcmaa
