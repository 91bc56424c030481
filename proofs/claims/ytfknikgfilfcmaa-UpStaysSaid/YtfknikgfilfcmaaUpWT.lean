/- What the law UpStays of layer 19 answers: true. -/
import Derived.Test.YtfknikgfilfcmaaUpF
import Derived.Test.YtfknikgfilfcmaaOpenPlaneC
import Derived.Test.YtfknikgfilfcmaaOpenArr3
import Derived.Test.YtfknikgfilfcmaaUp6
import Derived.Test.YtfknikgfilfcmaaUp5
import Derived.Test.YtfknikgfilfcmaaPl7
import Derived.Test.YtfknikgfilfcmaaRef7b
import Derived.Test.YtfknikgfilfcmaaQuiet
import Derived.Deep.DeepCutAuto
import Derived.Deep.CutBlock
namespace Go.Proofs.Ytfknikgfilfcmaa
open Go.RowKit Go.Sort
set_option linter.unusedVariables false
set_option linter.unusedSimpArgs false
theorem tmod_bd (n : Int) : -199 ≤ n.tmod 200 ∧ n.tmod 200 ≤ 199 := by
  have h1 := Int.tmod_lt_of_pos n (b := 200) (by decide)
  have h2 := Int.lt_tmod_of_pos n (b := 200) (by decide)
  omega
theorem u16_bd (n : Int) : 0 ≤ IntKind.u16.wrap n ∧ IntKind.u16.wrap n ≤ 65535 := by
  unfold IntKind.wrap
  simp [IntKind.signed, IntKind.bits]
  omega
set_option maxRecDepth 100000 in
set_option maxHeartbeats 16000000 in
theorem ust_1 (W H : Int) (V : List Int) (A : Option Addr) (c : Nat) (mo h0 h1 h2 : Int) (w : World) (hp : ReadsI w A V) (hn : V.length ≤ 9223372036854775807) (m0 : 0 ≤ mo) (m1 : mo ≤ 65535) (h1' : 2000 < V.length) :
    Calls Try.prog 5 #[plV W H (.slice A V.length c), .int .u16 mo, .agg #[.int .i16 h0, .int .i16 h1, .int .i16 h2]] w fun e w' => e = .returned (.bool true) ∧ Below w.heap.size w w' := by
  have RP := Lib.hid hp
  have HB := Lib.hid (Below.refl w.heap.size w)
  have q1 : (2000 : Int) < (V.length : Int) := by omega
  clear h1'
  obtain ⟨fl, FL, fl0, fl1⟩ : ∃ fl, IntKind.u16.wrap h2 = fl ∧ 0 ≤ fl ∧ fl ≤ 65535 := ⟨_, rfl, u16_bd h2⟩
  obtain ⟨r, hr⟩ : ∃ r, r = mo % 65535 := ⟨_, rfl⟩
  have F1 : mo.tmod 65535 = r := by rw [hr, Int.tmod_eq_emod_of_nonneg m0]
  have F2 : IntKind.i64.wrap r = r := IntWalk.i64_in _ (by omega)
  have r0 : 0 ≤ r ∧ r ≤ 65534 := by omega
  obtain ⟨m, hm⟩ : ∃ m, 1 + r = m := ⟨_, rfl⟩
  have F3 : IntKind.i64.wrap (1 + r) = m := by rw [← hm]; exact IntWalk.i64_in _ (by omega)
  have mm1 : 1 ≤ m := by omega
  have mm2 : m ≤ 65535 := by omega
  clear hr
  clear hp
  go_enter Try.func5, Try.ntmps5
  go_wp2_with fail
  have RP := Lib.hid (((RP.out).alloc (.cells #[.int .i64 W, .int .i64 H, .slice A V.length c] 24)).alloc (.cells #[.int .i16 h0, .int .i16 h1, .int .i16 h2] 42))
  have HB := Lib.hid (below_alloc_ (below_alloc_ (HB.out) (.cells #[.int .i64 W, .int .i64 H, .slice A V.length c] 24)) (.cells #[.int .i16 h0, .int .i16 h1, .int .i16 h2] 42))
  have hzw : ((w.alloc (.cells #[.int .i64 W, .int .i64 H, .slice A V.length c] 24)).alloc (.cells #[.int .i16 h0, .int .i16 h1, .int .i16 h2] 42)).heap.size = w.heap.size + 2 := by simp only [World.size_alloc]
  have B3 := (Blk.new (w) 24 #[.int .i64 W, .int .i64 H, .slice A V.length c]).alloc (.cells #[.int .i16 h0, .int .i16 h1, .int .i16 h2] 42)
  skip
  have B3 := Lib.hid B3
  have B5 := Blk.new (w.alloc (.cells #[.int .i64 W, .int .i64 H, .slice A V.length c] 24)) 42 #[.int .i16 h0, .int .i16 h1, .int .i16 h2]
  rw [show (w.alloc (.cells #[.int .i64 W, .int .i64 H, .slice A V.length c] 24)).heap.size = w.heap.size + 1 by simp only [World.size_alloc]] at B5
  have B5 := Lib.hid B5
  generalize (w.alloc (.cells #[.int .i64 W, .int .i64 H, .slice A V.length c] 24)).alloc (.cells #[.int .i16 h0, .int .i16 h1, .int .i16 h2] 42) = w1 at *
  clear hzw
  have HB1 := Lib.hid (Below.refl w1.heap.size w1)
  refine (first_c _).mono ?_
  rintro e w2 ⟨rfl, hb'⟩
  have HB1 := Lib.hid ((HB1.out).trans (hb'.mono (HB1.out).size))
  clear hb'
  obtain ⟨zB30, zB31, zB32⟩ := (B3.out.below HB1.out B3.out.lt).cells3
  obtain ⟨zB50, zB51, zB52⟩ := (B5.out.below HB1.out B5.out.lt).cells3
  go_upto_region 3 with fail
  clear zB30 zB31 zB32
  clear zB50 zB51 zB52
  have HB1 := Lib.hid ((HB1.out).drew)
  refine wp_region_held_drew (S := (fun w' => w'.cell? ⟨w.heap.size + 1, 0, none⟩ = some (.int .i16 h0) ∧ w'.cell? ⟨w.heap.size + 1, 1, none⟩ = some (.int .i16 h1) ∧ w'.cell? ⟨w.heap.size + 1, 2, none⟩ = some (.int .i16 h2))) (by kernel_rfl) ?hS0 (fun hHeld => ?_)
  case hS0 => exact ⟨(B5.out.below HB1.out B5.out.lt).cell 0, (B5.out.below HB1.out B5.out.lt).cell 1, (B5.out.below HB1.out B5.out.lt).cell 2⟩
  refine wpAnyH_take (i := 0) (oi := ⟨some 25, _, _, _, _, _⟩) (v := ?v106) rfl (by kernel_rfl) (by kernel_rfl) (by kernel_rfl) (fun _ _ _ h => h) (Or.inl ⟨by rfl, ?h106⟩) (by assumption) ?r106
  case h106 => (intro w hSw; (try dsimp only at hSw); go_simp; try with_reducible rfl)
  try simp only [Act.put, List.setIfInBounds_toArray, List.set_cons_zero, List.set_cons_succ]
  refine wpAnyH_take (i := 1) (oi := ⟨some 26, _, _, _, _, _⟩) (v := ?v107) rfl (by kernel_rfl) (by kernel_rfl) (by kernel_rfl) (fun _ _ _ h => h) (Or.inl ⟨by rfl, ?h107⟩) (by assumption) ?r107
  case h107 => (intro w hSw; (try dsimp only at hSw); go_simp; try with_reducible rfl)
  try simp only [Act.put, List.setIfInBounds_toArray, List.set_cons_zero, List.set_cons_succ]
  refine wpAnyH_take (i := 2) (oi := ⟨some 27, _, _, _, _, _⟩) (v := ?v108) rfl (by kernel_rfl) (by kernel_rfl) (by kernel_rfl) (fun _ _ _ h => h) (Or.inl ⟨by rfl, ?h108⟩) (by assumption) ?r108
  case h108 => (intro w hSw; (try dsimp only at hSw); go_simp; try with_reducible rfl)
  try simp only [Act.put, List.setIfInBounds_toArray, List.set_cons_zero, List.set_cons_succ]
  refine wpAnyH_take (i := 3) (oi := ⟨some 28, _, _, _, _, _⟩) (v := ?v109) rfl (by kernel_rfl) (by kernel_rfl) (by kernel_rfl) (fun _ _ _ h => h) (Or.inl ⟨by rfl, ?h109⟩) (by assumption) ?r109
  case h109 => (intro w hSw; (try dsimp only at hSw); go_simp; try with_reducible rfl)
  try simp only [Act.put, List.setIfInBounds_toArray, List.set_cons_zero, List.set_cons_succ]
  refine wpAnyH_take (i := 4) (oi := ⟨some 29, _, _, _, _, _⟩) (v := ?v110) rfl (by kernel_rfl) (by kernel_rfl) (by kernel_rfl) (fun _ _ _ h => h) (Or.inl ⟨by rfl, ?h110⟩) (by assumption) ?r110
  case h110 => (intro w hSw; (try dsimp only at hSw); go_simp; try with_reducible rfl)
  try simp only [Act.put, List.setIfInBounds_toArray, List.set_cons_zero, List.set_cons_succ]
  refine wpAnyH_take (i := 5) (oi := ⟨some 30, _, _, _, _, _⟩) (v := ?v111) rfl (by kernel_rfl) (by kernel_rfl) (by kernel_rfl) (fun _ _ _ h => h) (Or.inl ⟨by rfl, ?h111⟩) (by assumption) ?r111
  case h111 => (intro w hSw; (try dsimp only at hSw); go_simp; try with_reducible rfl)
  try simp only [Act.put, List.setIfInBounds_toArray, List.set_cons_zero, List.set_cons_succ]
  refine wpAnyH_take (i := 6) (oi := ⟨some 31, _, _, _, _, _⟩) (v := ?v112) rfl (by kernel_rfl) (by kernel_rfl) (by kernel_rfl) (fun _ _ _ h => h) (Or.inl ⟨by rfl, ?h112⟩) (by assumption) ?r112
  case h112 => (intro w hSw; (try dsimp only at hSw); go_simp; try with_reducible rfl)
  try simp only [Act.put, List.setIfInBounds_toArray, List.set_cons_zero, List.set_cons_succ]
  refine wpAnyH_take (i := 7) (oi := ⟨some 32, _, _, _, _, _⟩) (v := ?v113) rfl (by kernel_rfl) (by kernel_rfl) (by kernel_rfl) (fun _ _ _ h => h) (Or.inl ⟨by rfl, ?h113⟩) (by assumption) ?r113
  case h113 => (intro w hSw; (try dsimp only at hSw); go_simp; try with_reducible rfl)
  try simp only [Act.put, List.setIfInBounds_toArray, List.set_cons_zero, List.set_cons_succ]
  refine wpAnyH_ready (rs := [8]) (by kernel_rfl) (by simp) ?_
  refine (AllReadyH.cons (o := ⟨some 7, _, _, _, _, _⟩) rfl (fun K hK => ?_) AllReadyH.nil)
  go_simp
  have hlt := HB1.out.size
  have HB1 := Lib.hid (below_alloc_ (HB1.out) (.cells #[.int .i16 0, .int .i16 0] 43))
  have hzw : (w2.drew.alloc (.cells #[.int .i16 0, .int .i16 0] 43)).heap.size = w2.drew.heap.size + 1 := by simp only [World.size_alloc]
  have B7 := Blk.new (w2.drew) 43 #[.int .i16 0, .int .i16 0]
  skip
  have B7 := Lib.hid B7
  have B7 := Lib.hid (show Blk _ (w2.heap.size) _ _ from B7.out)
  try rw [show (w2.alloc (.cells #[.int .i16 0, .int .i16 0] 43)).drew = w2.drew.alloc (.cells #[.int .i16 0, .int .i16 0] 43) from rfl]
  generalize w2.drew.alloc (.cells #[.int .i16 0, .int .i16 0] 43) = w3 at *
  have hgeB7 : w1.heap.size ≤ w2.heap.size := hlt
  clear hzw hlt
  refine hK.out _ _ ?hS114 (fun hHeld => ?_)
  case hS114 => exact ⟨(B5.out.below HB1.out B5.out.lt).cell 0, (B5.out.below HB1.out B5.out.lt).cell 1, (B5.out.below HB1.out B5.out.lt).cell 2⟩
  clear hK K
  try simp only [Act.put, List.setIfInBounds_toArray, List.set_cons_zero, List.set_cons_succ]
  refine wpAnyH_ready (rs := [9]) (by kernel_rfl) (by simp) ?_
  refine (AllReadyH.cons (o := ⟨none, _, _, _, _, _⟩) rfl (fun K hK => ?_) AllReadyH.nil)
  obtain ⟨⟨q0, q1⟩, f0, f1⟩ := B7.out.two
  go_simp
  clear q0 q1 f0 f1
  obtain ⟨k1, k2⟩ := ret_two B7.out (.int .i16 h0) (.int .i16 h1)
  have B7 := Lib.hid k1
  have HB1 := Lib.hid (k2 _ _ HB1.out hgeB7)
  clear k1 k2
  generalize (w3.setCell ⟨w2.heap.size, 0, none⟩ (.int .i16 h0)).setCell ⟨w2.heap.size, 1, none⟩ (.int .i16 h1) = w4 at *
  refine hK.out _ _ ?hS115 (fun hHeld => ?_)
  case hS115 => exact ⟨(B5.out.below HB1.out B5.out.lt).cell 0, (B5.out.below HB1.out B5.out.lt).cell 1, (B5.out.below HB1.out B5.out.lt).cell 2⟩
  clear hK K
  try simp only [Act.put, List.setIfInBounds_toArray, List.set_cons_zero, List.set_cons_succ]
  refine wpAnyH_take (i := 10) (oi := ⟨some 8, _, _, _, _, _⟩) (v := ?v116) rfl (by kernel_rfl) (by kernel_rfl) (by kernel_rfl) (fun _ _ _ h => h) (Or.inl ⟨by rfl, ?h116⟩) (by assumption) ?r116
  case h116 => (intro w hSw; (try dsimp only at hSw); go_simp; try with_reducible rfl)
  try simp only [Act.put, List.setIfInBounds_toArray, List.set_cons_zero, List.set_cons_succ]
  refine wpAnyH_done (by kernel_rfl) ?_ _
  clear hHeld
  have B3 := Lib.hid (B3.out.below HB1.out B3.out.lt)
  have B5 := Lib.hid (B5.out.below HB1.out B5.out.lt)
  have RP := Lib.hid (RP.out.kept HB1.out)
  have HB := Lib.hid (HB.out.trans (HB1.out.mono HB.out.size))
  have HB1 := Lib.hid (Below.refl w4.heap.size w4)
  clear hgeB7
  obtain ⟨zB30, zB31, zB32⟩ := (B3.out.below HB1.out B3.out.lt).cells3
  obtain ⟨zB70, zB71⟩ := (B7.out.below HB1.out B7.out.lt).cells2
  go_wp2_with fail
  clear zB30 zB31 zB32
  clear zB70 zB71
  go_ret
  exact ⟨rfl, HB.out.trans (HB1.out.mono HB.out.size)⟩

set_option maxRecDepth 100000 in
set_option maxHeartbeats 16000000 in
theorem ust_2 (W H : Int) (V : List Int) (A : Option Addr) (c : Nat) (mo h0 h1 h2 : Int) (w : World) (hp : ReadsI w A V) (hn : V.length ≤ 9223372036854775807) (m0 : 0 ≤ mo) (m1 : mo ≤ 65535) (h1' : ¬ 2000 < V.length) (h2' : okB W H V.length = false) :
    Calls Try.prog 5 #[plV W H (.slice A V.length c), .int .u16 mo, .agg #[.int .i16 h0, .int .i16 h1, .int .i16 h2]] w fun e w' => e = .returned (.bool true) ∧ Below w.heap.size w w' := by
  have RP := Lib.hid hp
  have HB := Lib.hid (Below.refl w.heap.size w)
  have q1 : (V.length : Int) ≤ 2000 := by omega
  have G2 := Lib.hid h2'
  clear h1' h2'
  obtain ⟨fl, FL, fl0, fl1⟩ : ∃ fl, IntKind.u16.wrap h2 = fl ∧ 0 ≤ fl ∧ fl ≤ 65535 := ⟨_, rfl, u16_bd h2⟩
  obtain ⟨r, hr⟩ : ∃ r, r = mo % 65535 := ⟨_, rfl⟩
  have F1 : mo.tmod 65535 = r := by rw [hr, Int.tmod_eq_emod_of_nonneg m0]
  have F2 : IntKind.i64.wrap r = r := IntWalk.i64_in _ (by omega)
  have r0 : 0 ≤ r ∧ r ≤ 65534 := by omega
  obtain ⟨m, hm⟩ : ∃ m, 1 + r = m := ⟨_, rfl⟩
  have F3 : IntKind.i64.wrap (1 + r) = m := by rw [← hm]; exact IntWalk.i64_in _ (by omega)
  have mm1 : 1 ≤ m := by omega
  have mm2 : m ≤ 65535 := by omega
  clear hr
  clear hp
  go_enter Try.func5, Try.ntmps5
  go_wp2_with fail
  have RP := Lib.hid (((RP.out).alloc (.cells #[.int .i64 W, .int .i64 H, .slice A V.length c] 24)).alloc (.cells #[.int .i16 h0, .int .i16 h1, .int .i16 h2] 42))
  have HB := Lib.hid (below_alloc_ (below_alloc_ (HB.out) (.cells #[.int .i64 W, .int .i64 H, .slice A V.length c] 24)) (.cells #[.int .i16 h0, .int .i16 h1, .int .i16 h2] 42))
  have hzw : ((w.alloc (.cells #[.int .i64 W, .int .i64 H, .slice A V.length c] 24)).alloc (.cells #[.int .i16 h0, .int .i16 h1, .int .i16 h2] 42)).heap.size = w.heap.size + 2 := by simp only [World.size_alloc]
  have B3 := (Blk.new (w) 24 #[.int .i64 W, .int .i64 H, .slice A V.length c]).alloc (.cells #[.int .i16 h0, .int .i16 h1, .int .i16 h2] 42)
  skip
  have B3 := Lib.hid B3
  have B5 := Blk.new (w.alloc (.cells #[.int .i64 W, .int .i64 H, .slice A V.length c] 24)) 42 #[.int .i16 h0, .int .i16 h1, .int .i16 h2]
  rw [show (w.alloc (.cells #[.int .i64 W, .int .i64 H, .slice A V.length c] 24)).heap.size = w.heap.size + 1 by simp only [World.size_alloc]] at B5
  have B5 := Lib.hid B5
  generalize (w.alloc (.cells #[.int .i64 W, .int .i64 H, .slice A V.length c] 24)).alloc (.cells #[.int .i16 h0, .int .i16 h1, .int .i16 h2] 42) = w1 at *
  clear hzw
  have HB1 := Lib.hid (Below.refl w1.heap.size w1)
  refine (first_c _).mono ?_
  rintro e w2 ⟨rfl, hb'⟩
  have HB1 := Lib.hid ((HB1.out).trans (hb'.mono (HB1.out).size))
  clear hb'
  obtain ⟨zB30, zB31, zB32⟩ := (B3.out.below HB1.out B3.out.lt).cells3
  obtain ⟨zB50, zB51, zB52⟩ := (B5.out.below HB1.out B5.out.lt).cells3
  go_upto_region 3 with fail
  clear zB30 zB31 zB32
  clear zB50 zB51 zB52
  have HB1 := Lib.hid ((HB1.out).drew)
  refine wp_region_held_drew (S := (fun w' => w'.cell? ⟨w.heap.size + 1, 0, none⟩ = some (.int .i16 h0) ∧ w'.cell? ⟨w.heap.size + 1, 1, none⟩ = some (.int .i16 h1) ∧ w'.cell? ⟨w.heap.size + 1, 2, none⟩ = some (.int .i16 h2))) (by kernel_rfl) ?hS0 (fun hHeld => ?_)
  case hS0 => exact ⟨(B5.out.below HB1.out B5.out.lt).cell 0, (B5.out.below HB1.out B5.out.lt).cell 1, (B5.out.below HB1.out B5.out.lt).cell 2⟩
  refine wpAnyH_take (i := 0) (oi := ⟨some 25, _, _, _, _, _⟩) (v := ?v117) rfl (by kernel_rfl) (by kernel_rfl) (by kernel_rfl) (fun _ _ _ h => h) (Or.inl ⟨by rfl, ?h117⟩) (by assumption) ?r117
  case h117 => (intro w hSw; (try dsimp only at hSw); go_simp; try with_reducible rfl)
  try simp only [Act.put, List.setIfInBounds_toArray, List.set_cons_zero, List.set_cons_succ]
  refine wpAnyH_take (i := 1) (oi := ⟨some 26, _, _, _, _, _⟩) (v := ?v118) rfl (by kernel_rfl) (by kernel_rfl) (by kernel_rfl) (fun _ _ _ h => h) (Or.inl ⟨by rfl, ?h118⟩) (by assumption) ?r118
  case h118 => (intro w hSw; (try dsimp only at hSw); go_simp; try with_reducible rfl)
  try simp only [Act.put, List.setIfInBounds_toArray, List.set_cons_zero, List.set_cons_succ]
  refine wpAnyH_take (i := 2) (oi := ⟨some 27, _, _, _, _, _⟩) (v := ?v119) rfl (by kernel_rfl) (by kernel_rfl) (by kernel_rfl) (fun _ _ _ h => h) (Or.inl ⟨by rfl, ?h119⟩) (by assumption) ?r119
  case h119 => (intro w hSw; (try dsimp only at hSw); go_simp; try with_reducible rfl)
  try simp only [Act.put, List.setIfInBounds_toArray, List.set_cons_zero, List.set_cons_succ]
  refine wpAnyH_take (i := 3) (oi := ⟨some 28, _, _, _, _, _⟩) (v := ?v120) rfl (by kernel_rfl) (by kernel_rfl) (by kernel_rfl) (fun _ _ _ h => h) (Or.inl ⟨by rfl, ?h120⟩) (by assumption) ?r120
  case h120 => (intro w hSw; (try dsimp only at hSw); go_simp; try with_reducible rfl)
  try simp only [Act.put, List.setIfInBounds_toArray, List.set_cons_zero, List.set_cons_succ]
  refine wpAnyH_take (i := 4) (oi := ⟨some 29, _, _, _, _, _⟩) (v := ?v121) rfl (by kernel_rfl) (by kernel_rfl) (by kernel_rfl) (fun _ _ _ h => h) (Or.inl ⟨by rfl, ?h121⟩) (by assumption) ?r121
  case h121 => (intro w hSw; (try dsimp only at hSw); go_simp; try with_reducible rfl)
  try simp only [Act.put, List.setIfInBounds_toArray, List.set_cons_zero, List.set_cons_succ]
  refine wpAnyH_take (i := 5) (oi := ⟨some 30, _, _, _, _, _⟩) (v := ?v122) rfl (by kernel_rfl) (by kernel_rfl) (by kernel_rfl) (fun _ _ _ h => h) (Or.inl ⟨by rfl, ?h122⟩) (by assumption) ?r122
  case h122 => (intro w hSw; (try dsimp only at hSw); go_simp; try with_reducible rfl)
  try simp only [Act.put, List.setIfInBounds_toArray, List.set_cons_zero, List.set_cons_succ]
  refine wpAnyH_take (i := 6) (oi := ⟨some 31, _, _, _, _, _⟩) (v := ?v123) rfl (by kernel_rfl) (by kernel_rfl) (by kernel_rfl) (fun _ _ _ h => h) (Or.inl ⟨by rfl, ?h123⟩) (by assumption) ?r123
  case h123 => (intro w hSw; (try dsimp only at hSw); go_simp; try with_reducible rfl)
  try simp only [Act.put, List.setIfInBounds_toArray, List.set_cons_zero, List.set_cons_succ]
  refine wpAnyH_take (i := 7) (oi := ⟨some 32, _, _, _, _, _⟩) (v := ?v124) rfl (by kernel_rfl) (by kernel_rfl) (by kernel_rfl) (fun _ _ _ h => h) (Or.inl ⟨by rfl, ?h124⟩) (by assumption) ?r124
  case h124 => (intro w hSw; (try dsimp only at hSw); go_simp; try with_reducible rfl)
  try simp only [Act.put, List.setIfInBounds_toArray, List.set_cons_zero, List.set_cons_succ]
  refine wpAnyH_ready (rs := [8]) (by kernel_rfl) (by simp) ?_
  refine (AllReadyH.cons (o := ⟨some 7, _, _, _, _, _⟩) rfl (fun K hK => ?_) AllReadyH.nil)
  go_simp
  have hlt := HB1.out.size
  have HB1 := Lib.hid (below_alloc_ (HB1.out) (.cells #[.int .i16 0, .int .i16 0] 43))
  have hzw : (w2.drew.alloc (.cells #[.int .i16 0, .int .i16 0] 43)).heap.size = w2.drew.heap.size + 1 := by simp only [World.size_alloc]
  have B7 := Blk.new (w2.drew) 43 #[.int .i16 0, .int .i16 0]
  skip
  have B7 := Lib.hid B7
  have B7 := Lib.hid (show Blk _ (w2.heap.size) _ _ from B7.out)
  try rw [show (w2.alloc (.cells #[.int .i16 0, .int .i16 0] 43)).drew = w2.drew.alloc (.cells #[.int .i16 0, .int .i16 0] 43) from rfl]
  generalize w2.drew.alloc (.cells #[.int .i16 0, .int .i16 0] 43) = w3 at *
  have hgeB7 : w1.heap.size ≤ w2.heap.size := hlt
  clear hzw hlt
  refine hK.out _ _ ?hS125 (fun hHeld => ?_)
  case hS125 => exact ⟨(B5.out.below HB1.out B5.out.lt).cell 0, (B5.out.below HB1.out B5.out.lt).cell 1, (B5.out.below HB1.out B5.out.lt).cell 2⟩
  clear hK K
  try simp only [Act.put, List.setIfInBounds_toArray, List.set_cons_zero, List.set_cons_succ]
  refine wpAnyH_ready (rs := [9]) (by kernel_rfl) (by simp) ?_
  refine (AllReadyH.cons (o := ⟨none, _, _, _, _, _⟩) rfl (fun K hK => ?_) AllReadyH.nil)
  obtain ⟨⟨q0, q1⟩, f0, f1⟩ := B7.out.two
  go_simp
  clear q0 q1 f0 f1
  obtain ⟨k1, k2⟩ := ret_two B7.out (.int .i16 h0) (.int .i16 h1)
  have B7 := Lib.hid k1
  have HB1 := Lib.hid (k2 _ _ HB1.out hgeB7)
  clear k1 k2
  generalize (w3.setCell ⟨w2.heap.size, 0, none⟩ (.int .i16 h0)).setCell ⟨w2.heap.size, 1, none⟩ (.int .i16 h1) = w4 at *
  refine hK.out _ _ ?hS126 (fun hHeld => ?_)
  case hS126 => exact ⟨(B5.out.below HB1.out B5.out.lt).cell 0, (B5.out.below HB1.out B5.out.lt).cell 1, (B5.out.below HB1.out B5.out.lt).cell 2⟩
  clear hK K
  try simp only [Act.put, List.setIfInBounds_toArray, List.set_cons_zero, List.set_cons_succ]
  refine wpAnyH_take (i := 10) (oi := ⟨some 8, _, _, _, _, _⟩) (v := ?v127) rfl (by kernel_rfl) (by kernel_rfl) (by kernel_rfl) (fun _ _ _ h => h) (Or.inl ⟨by rfl, ?h127⟩) (by assumption) ?r127
  case h127 => (intro w hSw; (try dsimp only at hSw); go_simp; try with_reducible rfl)
  try simp only [Act.put, List.setIfInBounds_toArray, List.set_cons_zero, List.set_cons_succ]
  refine wpAnyH_done (by kernel_rfl) ?_ _
  clear hHeld
  have B3 := Lib.hid (B3.out.below HB1.out B3.out.lt)
  have B5 := Lib.hid (B5.out.below HB1.out B5.out.lt)
  have RP := Lib.hid (RP.out.kept HB1.out)
  have HB := Lib.hid (HB.out.trans (HB1.out.mono HB.out.size))
  have HB1 := Lib.hid (Below.refl w4.heap.size w4)
  clear hgeB7
  obtain ⟨zB30, zB31, zB32⟩ := (B3.out.below HB1.out B3.out.lt).cells3
  obtain ⟨zB70, zB71⟩ := (B7.out.below HB1.out B7.out.lt).cells2
  go_wp2_with fail
  clear zB30 zB31 zB32
  clear zB70 zB71
  refine (rright_c W H A V.length c _ hn).mono ?_
  rintro e w5 ⟨rfl, hb'⟩
  have HB1 := Lib.hid ((HB1.out).trans (hb'.mono (HB1.out).size))
  clear hb'
  rw [G2.out]
  go_wp2_with fail
  go_ret
  exact ⟨rfl, HB.out.trans (HB1.out.mono HB.out.size)⟩

set_option maxRecDepth 100000 in
set_option maxHeartbeats 16000000 in
theorem ust_3 (a b : Nat) (V : List Int) (A : Option Addr) (c : Nat) (mo h0 h1 h2 : Int) (w : World) (hp : ReadsI w A V) (hn : V.length ≤ 9223372036854775807) (m0 : 0 ≤ mo) (m1 : mo ≤ 65535) (a1 : 1 ≤ a) (a2 : a ≤ 1024) (b1 : 1 ≤ b) (b2 : b ≤ 1024) (hl : V.length = a * b) (h1' : ¬ 2000 < V.length) :
    Calls Try.prog 5 #[plV a b (.slice A V.length c), .int .u16 mo, .agg #[.int .i16 h0, .int .i16 h1, .int .i16 h2]] w fun e w' => e = .returned (.bool true) ∧ Below w.heap.size w w' := by
  have RP := Lib.hid hp
  have HB := Lib.hid (Below.refl w.heap.size w)
  have q1 : (V.length : Int) ≤ 2000 := by omega
  have hok : okB a b V.length = true := by rw [hl]; exact okB_mk a1 a2 b1 b2
  have G2 := Lib.hid hok
  have HL := Lib.hid hl
  obtain ⟨X, F4, X0, X1⟩ : ∃ X, h0.tmod 200 = X ∧ -199 ≤ X ∧ X ≤ 199 := ⟨_, rfl, tmod_bd h0⟩
  obtain ⟨Y, F5, Y0, Y1⟩ : ∃ Y, h1.tmod 200 = Y ∧ -199 ≤ Y ∧ Y ≤ 199 := ⟨_, rfl, tmod_bd h1⟩
  have F6 : IntKind.i64.wrap X = X := IntWalk.i64_in _ (by omega)
  have F7 : IntKind.i64.wrap Y = Y := IntWalk.i64_in _ (by omega)
  clear h1' hl
  obtain ⟨fl, FL, fl0, fl1⟩ : ∃ fl, IntKind.u16.wrap h2 = fl ∧ 0 ≤ fl ∧ fl ≤ 65535 := ⟨_, rfl, u16_bd h2⟩
  obtain ⟨r, hr⟩ : ∃ r, r = mo % 65535 := ⟨_, rfl⟩
  have F1 : mo.tmod 65535 = r := by rw [hr, Int.tmod_eq_emod_of_nonneg m0]
  have F2 : IntKind.i64.wrap r = r := IntWalk.i64_in _ (by omega)
  have r0 : 0 ≤ r ∧ r ≤ 65534 := by omega
  obtain ⟨m, hm⟩ : ∃ m, 1 + r = m := ⟨_, rfl⟩
  have F3 : IntKind.i64.wrap (1 + r) = m := by rw [← hm]; exact IntWalk.i64_in _ (by omega)
  have mm1 : 1 ≤ m := by omega
  have mm2 : m ≤ 65535 := by omega
  clear hr
  clear hp
  go_enter Try.func5, Try.ntmps5
  go_wp2_with fail
  have RP := Lib.hid (((RP.out).alloc (.cells #[.int .i64 a, .int .i64 b, .slice A V.length c] 24)).alloc (.cells #[.int .i16 h0, .int .i16 h1, .int .i16 h2] 42))
  have HB := Lib.hid (below_alloc_ (below_alloc_ (HB.out) (.cells #[.int .i64 a, .int .i64 b, .slice A V.length c] 24)) (.cells #[.int .i16 h0, .int .i16 h1, .int .i16 h2] 42))
  have hzw : ((w.alloc (.cells #[.int .i64 a, .int .i64 b, .slice A V.length c] 24)).alloc (.cells #[.int .i16 h0, .int .i16 h1, .int .i16 h2] 42)).heap.size = w.heap.size + 2 := by simp only [World.size_alloc]
  have B3 := (Blk.new (w) 24 #[.int .i64 a, .int .i64 b, .slice A V.length c]).alloc (.cells #[.int .i16 h0, .int .i16 h1, .int .i16 h2] 42)
  skip
  have B3 := Lib.hid B3
  have B5 := Blk.new (w.alloc (.cells #[.int .i64 a, .int .i64 b, .slice A V.length c] 24)) 42 #[.int .i16 h0, .int .i16 h1, .int .i16 h2]
  rw [show (w.alloc (.cells #[.int .i64 a, .int .i64 b, .slice A V.length c] 24)).heap.size = w.heap.size + 1 by simp only [World.size_alloc]] at B5
  have B5 := Lib.hid B5
  generalize (w.alloc (.cells #[.int .i64 a, .int .i64 b, .slice A V.length c] 24)).alloc (.cells #[.int .i16 h0, .int .i16 h1, .int .i16 h2] 42) = w1 at *
  clear hzw
  have HB1 := Lib.hid (Below.refl w1.heap.size w1)
  refine (first_c _).mono ?_
  rintro e w2 ⟨rfl, hb'⟩
  have HB1 := Lib.hid ((HB1.out).trans (hb'.mono (HB1.out).size))
  clear hb'
  obtain ⟨zB30, zB31, zB32⟩ := (B3.out.below HB1.out B3.out.lt).cells3
  obtain ⟨zB50, zB51, zB52⟩ := (B5.out.below HB1.out B5.out.lt).cells3
  go_upto_region 3 with fail
  clear zB30 zB31 zB32
  clear zB50 zB51 zB52
  have HB1 := Lib.hid ((HB1.out).drew)
  refine wp_region_held_drew (S := (fun w' => w'.cell? ⟨w.heap.size + 1, 0, none⟩ = some (.int .i16 h0) ∧ w'.cell? ⟨w.heap.size + 1, 1, none⟩ = some (.int .i16 h1) ∧ w'.cell? ⟨w.heap.size + 1, 2, none⟩ = some (.int .i16 h2))) (by kernel_rfl) ?hS0 (fun hHeld => ?_)
  case hS0 => exact ⟨(B5.out.below HB1.out B5.out.lt).cell 0, (B5.out.below HB1.out B5.out.lt).cell 1, (B5.out.below HB1.out B5.out.lt).cell 2⟩
  refine wpAnyH_take (i := 0) (oi := ⟨some 25, _, _, _, _, _⟩) (v := ?v128) rfl (by kernel_rfl) (by kernel_rfl) (by kernel_rfl) (fun _ _ _ h => h) (Or.inl ⟨by rfl, ?h128⟩) (by assumption) ?r128
  case h128 => (intro w hSw; (try dsimp only at hSw); go_simp; try with_reducible rfl)
  try simp only [Act.put, List.setIfInBounds_toArray, List.set_cons_zero, List.set_cons_succ]
  refine wpAnyH_take (i := 1) (oi := ⟨some 26, _, _, _, _, _⟩) (v := ?v129) rfl (by kernel_rfl) (by kernel_rfl) (by kernel_rfl) (fun _ _ _ h => h) (Or.inl ⟨by rfl, ?h129⟩) (by assumption) ?r129
  case h129 => (intro w hSw; (try dsimp only at hSw); go_simp; try with_reducible rfl)
  try simp only [Act.put, List.setIfInBounds_toArray, List.set_cons_zero, List.set_cons_succ]
  refine wpAnyH_take (i := 2) (oi := ⟨some 27, _, _, _, _, _⟩) (v := ?v130) rfl (by kernel_rfl) (by kernel_rfl) (by kernel_rfl) (fun _ _ _ h => h) (Or.inl ⟨by rfl, ?h130⟩) (by assumption) ?r130
  case h130 => (intro w hSw; (try dsimp only at hSw); go_simp; try with_reducible rfl)
  try simp only [Act.put, List.setIfInBounds_toArray, List.set_cons_zero, List.set_cons_succ]
  refine wpAnyH_take (i := 3) (oi := ⟨some 28, _, _, _, _, _⟩) (v := ?v131) rfl (by kernel_rfl) (by kernel_rfl) (by kernel_rfl) (fun _ _ _ h => h) (Or.inl ⟨by rfl, ?h131⟩) (by assumption) ?r131
  case h131 => (intro w hSw; (try dsimp only at hSw); go_simp; try with_reducible rfl)
  try simp only [Act.put, List.setIfInBounds_toArray, List.set_cons_zero, List.set_cons_succ]
  refine wpAnyH_take (i := 4) (oi := ⟨some 29, _, _, _, _, _⟩) (v := ?v132) rfl (by kernel_rfl) (by kernel_rfl) (by kernel_rfl) (fun _ _ _ h => h) (Or.inl ⟨by rfl, ?h132⟩) (by assumption) ?r132
  case h132 => (intro w hSw; (try dsimp only at hSw); go_simp; try with_reducible rfl)
  try simp only [Act.put, List.setIfInBounds_toArray, List.set_cons_zero, List.set_cons_succ]
  refine wpAnyH_take (i := 5) (oi := ⟨some 30, _, _, _, _, _⟩) (v := ?v133) rfl (by kernel_rfl) (by kernel_rfl) (by kernel_rfl) (fun _ _ _ h => h) (Or.inl ⟨by rfl, ?h133⟩) (by assumption) ?r133
  case h133 => (intro w hSw; (try dsimp only at hSw); go_simp; try with_reducible rfl)
  try simp only [Act.put, List.setIfInBounds_toArray, List.set_cons_zero, List.set_cons_succ]
  refine wpAnyH_take (i := 6) (oi := ⟨some 31, _, _, _, _, _⟩) (v := ?v134) rfl (by kernel_rfl) (by kernel_rfl) (by kernel_rfl) (fun _ _ _ h => h) (Or.inl ⟨by rfl, ?h134⟩) (by assumption) ?r134
  case h134 => (intro w hSw; (try dsimp only at hSw); go_simp; try with_reducible rfl)
  try simp only [Act.put, List.setIfInBounds_toArray, List.set_cons_zero, List.set_cons_succ]
  refine wpAnyH_take (i := 7) (oi := ⟨some 32, _, _, _, _, _⟩) (v := ?v135) rfl (by kernel_rfl) (by kernel_rfl) (by kernel_rfl) (fun _ _ _ h => h) (Or.inl ⟨by rfl, ?h135⟩) (by assumption) ?r135
  case h135 => (intro w hSw; (try dsimp only at hSw); go_simp; try with_reducible rfl)
  try simp only [Act.put, List.setIfInBounds_toArray, List.set_cons_zero, List.set_cons_succ]
  refine wpAnyH_ready (rs := [8]) (by kernel_rfl) (by simp) ?_
  refine (AllReadyH.cons (o := ⟨some 7, _, _, _, _, _⟩) rfl (fun K hK => ?_) AllReadyH.nil)
  go_simp
  have hlt := HB1.out.size
  have HB1 := Lib.hid (below_alloc_ (HB1.out) (.cells #[.int .i16 0, .int .i16 0] 43))
  have hzw : (w2.drew.alloc (.cells #[.int .i16 0, .int .i16 0] 43)).heap.size = w2.drew.heap.size + 1 := by simp only [World.size_alloc]
  have B7 := Blk.new (w2.drew) 43 #[.int .i16 0, .int .i16 0]
  skip
  have B7 := Lib.hid B7
  have B7 := Lib.hid (show Blk _ (w2.heap.size) _ _ from B7.out)
  try rw [show (w2.alloc (.cells #[.int .i16 0, .int .i16 0] 43)).drew = w2.drew.alloc (.cells #[.int .i16 0, .int .i16 0] 43) from rfl]
  generalize w2.drew.alloc (.cells #[.int .i16 0, .int .i16 0] 43) = w3 at *
  have hgeB7 : w1.heap.size ≤ w2.heap.size := hlt
  clear hzw hlt
  refine hK.out _ _ ?hS136 (fun hHeld => ?_)
  case hS136 => exact ⟨(B5.out.below HB1.out B5.out.lt).cell 0, (B5.out.below HB1.out B5.out.lt).cell 1, (B5.out.below HB1.out B5.out.lt).cell 2⟩
  clear hK K
  try simp only [Act.put, List.setIfInBounds_toArray, List.set_cons_zero, List.set_cons_succ]
  refine wpAnyH_ready (rs := [9]) (by kernel_rfl) (by simp) ?_
  refine (AllReadyH.cons (o := ⟨none, _, _, _, _, _⟩) rfl (fun K hK => ?_) AllReadyH.nil)
  obtain ⟨⟨q0, q1⟩, f0, f1⟩ := B7.out.two
  go_simp
  clear q0 q1 f0 f1
  obtain ⟨k1, k2⟩ := ret_two B7.out (.int .i16 h0) (.int .i16 h1)
  have B7 := Lib.hid k1
  have HB1 := Lib.hid (k2 _ _ HB1.out hgeB7)
  clear k1 k2
  generalize (w3.setCell ⟨w2.heap.size, 0, none⟩ (.int .i16 h0)).setCell ⟨w2.heap.size, 1, none⟩ (.int .i16 h1) = w4 at *
  refine hK.out _ _ ?hS137 (fun hHeld => ?_)
  case hS137 => exact ⟨(B5.out.below HB1.out B5.out.lt).cell 0, (B5.out.below HB1.out B5.out.lt).cell 1, (B5.out.below HB1.out B5.out.lt).cell 2⟩
  clear hK K
  try simp only [Act.put, List.setIfInBounds_toArray, List.set_cons_zero, List.set_cons_succ]
  refine wpAnyH_take (i := 10) (oi := ⟨some 8, _, _, _, _, _⟩) (v := ?v138) rfl (by kernel_rfl) (by kernel_rfl) (by kernel_rfl) (fun _ _ _ h => h) (Or.inl ⟨by rfl, ?h138⟩) (by assumption) ?r138
  case h138 => (intro w hSw; (try dsimp only at hSw); go_simp; try with_reducible rfl)
  try simp only [Act.put, List.setIfInBounds_toArray, List.set_cons_zero, List.set_cons_succ]
  refine wpAnyH_done (by kernel_rfl) ?_ _
  clear hHeld
  have B3 := Lib.hid (B3.out.below HB1.out B3.out.lt)
  have B5 := Lib.hid (B5.out.below HB1.out B5.out.lt)
  have RP := Lib.hid (RP.out.kept HB1.out)
  have HB := Lib.hid (HB.out.trans (HB1.out.mono HB.out.size))
  have HB1 := Lib.hid (Below.refl w4.heap.size w4)
  clear hgeB7
  obtain ⟨zB30, zB31, zB32⟩ := (B3.out.below HB1.out B3.out.lt).cells3
  obtain ⟨zB70, zB71⟩ := (B7.out.below HB1.out B7.out.lt).cells2
  go_wp2_with fail
  clear zB30 zB31 zB32
  clear zB70 zB71
  refine (rright_c a b A V.length c _ hn).mono ?_
  rintro e w5 ⟨rfl, hb'⟩
  have HB1 := Lib.hid ((HB1.out).trans (hb'.mono (HB1.out).size))
  clear hb'
  rw [G2.out]
  obtain ⟨zB30, zB31, zB32⟩ := (B3.out.below HB1.out B3.out.lt).cells3
  obtain ⟨zB70, zB71⟩ := (B7.out.below HB1.out B7.out.lt).cells2
  go_wp2_with fail
  clear zB30 zB31 zB32
  clear zB70 zB71
  refine (uNew_yes a b V A c m _ (RP.out.kept HB1.out) a1 a2 b1 b2 HL.out mm1 mm2).mono ?_
  rintro e w6 ⟨R, rfl, hlt, hr, hb'⟩
  have HB1 := Lib.hid ((HB1.out).trans (hb'.mono (HB1.out).size))
  clear hb'
  have FR := Lib.hid hr
  clear hr hlt
  have B3 := Lib.hid (B3.out.below HB1.out B3.out.lt)
  have B5 := Lib.hid (B5.out.below HB1.out B5.out.lt)
  have B7 := Lib.hid (B7.out.below HB1.out B7.out.lt)
  have RP := Lib.hid (RP.out.kept HB1.out)
  have HB := Lib.hid (HB.out.trans (HB1.out.mono HB.out.size))
  have HB1 := Lib.hid (Below.refl w6.heap.size w6)
  have L1 := Lib.hid (show (clipV V m).length = a * b by rw [clipV_length]; exact HL.out)
  have L2 := Lib.hid (show (clipV V m).length ≤ 9223372036854775806 by rw [clipV_length]; omega)
  have CB := Lib.hid (clipV_bd V mm1)
  generalize (clipV V m) = U at *
  obtain ⟨s0, S1, S2, S3⟩ := stays_smp (show okB a b U.length = true by rw [L1.out]; exact okB_mk a1 a2 b1 b2) m (X := X) (Y := Y) (by omega) (by omega) (by omega) (by omega)
  have S1 := Lib.hid S1
  have S2 := Lib.hid S2
  have S3 := Lib.hid S3
  have ST := Lib.hid (fun (n M : Int) => stays_in (a := a) (b := b) (V := U) (m := m) (X := X) (Y := Y) (n := n) (M := M) (by omega) (by omega) (by omega) (by omega))
  have BD := Lib.hid (fun (x y : Int) => betI_bd (a := a) (b := b) CB.out mm1 x y)
  have hBD := BD.out
  have hST := ST.out
  have y0 := hBD (plI (X / 4)) (plI (Y / 4))
  obtain ⟨z0, hz0⟩ : ∃ z, z = betI a b U m (plI (X / 4)) (plI (Y / 4)) := ⟨_, rfl⟩
  have y1 := hBD (plI (X / 4 + 1)) (plI (Y / 4))
  obtain ⟨z1, hz1⟩ : ∃ z, z = betI a b U m (plI (X / 4 + 1)) (plI (Y / 4)) := ⟨_, rfl⟩
  have y2 := hBD (plI (X / 4)) (plI (Y / 4 + 1))
  obtain ⟨z2, hz2⟩ : ∃ z, z = betI a b U m (plI (X / 4)) (plI (Y / 4 + 1)) := ⟨_, rfl⟩
  have y3 := hBD (plI (X / 4 + 1)) (plI (Y / 4 + 1))
  obtain ⟨z3, hz3⟩ : ∃ z, z = betI a b U m (plI (X / 4 + 1)) (plI (Y / 4 + 1)) := ⟨_, rfl⟩
  rw [← hz0] at y0
  rw [← hz1] at y1
  rw [← hz2] at y2
  rw [← hz3] at y3
  rw [← hz0, ← hz1, ← hz2, ← hz3] at hST
  obtain ⟨v3, hv3⟩ : ∃ v, v = atI a b U m X Y 3 := ⟨_, rfl⟩
  rw [← hv3] at hST
  obtain ⟨n1, n2, nn, E1, E2, E3, e1, e2, e3, e4, e5⟩ := four_min z0 z1 z2 z3
  obtain ⟨k1, k2, kk, E4, E5, E6, d1, d2, d3, d4, d5⟩ := four_max z0 z1 z2 z3
  have hin := hST nn kk ⟨e1, d1⟩ ⟨e2, d2⟩ ⟨e3, d3⟩ ⟨e4, d4⟩
  have t0 : 0 ≤ nn := by omega
  have t1 : kk ≤ m := by omega
  have MN : ∀ w, (Builtin.min_ #[3, 3, 3, 3] 3 #[.int .i64 z0, .int .i64 z1, .int .i64 z2, .int .i64 z3]).run Try.prog w = .ok (.int .i64 nn) w := fun w => by rw [run_min_four, E1, E2, E3]
  have MX : ∀ w, (Builtin.max_ #[3, 3, 3, 3] 3 #[.int .i64 z0, .int .i64 z1, .int .i64 z2, .int .i64 z3]).run Try.prog w = .ok (.int .i64 kk) w := fun w => by rw [run_max_four, E4, E5, E6]
  clear E1 E2 E3 E4 E5 E6
  have Z0 := Lib.hid hz0
  have Z1 := Lib.hid hz1
  have Z2 := Lib.hid hz2
  have Z3 := Lib.hid hz3
  have V3 := Lib.hid hv3
  obtain ⟨in1, in2⟩ := hin
  clear hST hBD hz0 hz1 hz2 hz3 hv3 e1 e2 e3 e4 e5 d1 d2 d3 d4 d5 y0 y1 y2 y3
  obtain ⟨zB30, zB31, zB32⟩ := (B3.out.below HB1.out B3.out.lt).cells3
  obtain ⟨zB70, zB71⟩ := (B7.out.below HB1.out B7.out.lt).cells2
  go_upto_region 8 with fail
  clear zB30 zB31 zB32
  have kq0 := cell_regrown zB70
  have kq1 := cell_regrown zB71
  clear zB70 zB71
  refine wp_region_quiet_below (by kernel_rfl) (by kernel_rfl) ?_
  repeat (go_big_quiet_step (fail))
  refine wpQuiet_nil ?_
  intro _ hw'
  obtain ⟨⟨dq, osq⟩, hw''⟩ := hw'
  subst hw''
  have hb' := below_regrown w6 dq osq
  clear kq0 kq1
  have HB1 := Lib.hid ((HB1.out).trans (hb'.mono (HB1.out).size))
  clear hb'
  generalize grow (redrawn w6 dq) osq = w7 at *
  go_wp2_with fail
  refine (uAt_c R a b U m X Y 0 _ (FR.out.below HB1.out)).mono ?_
  rintro e w8 ⟨rfl, hb'⟩
  have HB1 := Lib.hid ((HB1.out).trans (hb'.mono (HB1.out).size))
  clear hb'
  rw [S1.out]
  go_wp2_with fail
  refine (uPlane_c R a b U m _ (FR.out.below HB1.out)).mono ?_
  rintro e w9 ⟨v, rfl, ho, hb'⟩
  have HB1 := Lib.hid ((HB1.out).trans (hb'.mono (HB1.out).size))
  clear hb'
  obtain ⟨A9, c9, rfl, hq⟩ := ho.slice
  have R9 := Lib.hid hq
  clear ho hq
  go_wp2_with fail
  refine (r7at_c a b U A9 c9 X Y _ R9.out (by have := L2.out; omega)).mono ?_
  rintro e w10 ⟨rfl, hb'⟩
  have HB1 := Lib.hid ((HB1.out).trans (hb'.mono (HB1.out).size))
  have R9 := Lib.hid ((R9.out).kept hb')
  clear hb'
  rw [S2.out]
  go_wp2_with fail
  refine (uHalf_c R a b U m (2 * X) (2 * Y) _ (FR.out.below HB1.out)).mono ?_
  rintro e w11 ⟨rfl, hb'⟩
  have HB1 := Lib.hid ((HB1.out).trans (hb'.mono (HB1.out).size))
  clear hb'
  rw [S3.out]
  go_wp2_with fail
  refine (uAt_c R a b U m X Y 0 _ (FR.out.below HB1.out)).mono ?_
  rintro e w12 ⟨rfl, hb'⟩
  have HB1 := Lib.hid ((HB1.out).trans (hb'.mono (HB1.out).size))
  clear hb'
  rw [S1.out]
  go_wp2_with fail
  refine (uHalf_c R a b U m (X / 4) (Y / 4) _ (FR.out.below HB1.out)).mono ?_
  rintro e w13 ⟨rfl, hb'⟩
  have HB1 := Lib.hid ((HB1.out).trans (hb'.mono (HB1.out).size))
  clear hb'
  rw [← Z0.out]
  go_wp2_with fail
  refine (uHalf_c R a b U m (X / 4 + 1) (Y / 4) _ (FR.out.below HB1.out)).mono ?_
  rintro e w14 ⟨rfl, hb'⟩
  have HB1 := Lib.hid ((HB1.out).trans (hb'.mono (HB1.out).size))
  clear hb'
  rw [← Z1.out]
  go_wp2_with fail
  refine (uHalf_c R a b U m (X / 4) (Y / 4 + 1) _ (FR.out.below HB1.out)).mono ?_
  rintro e w15 ⟨rfl, hb'⟩
  have HB1 := Lib.hid ((HB1.out).trans (hb'.mono (HB1.out).size))
  clear hb'
  rw [← Z2.out]
  go_wp2_with fail
  refine (uHalf_c R a b U m (X / 4 + 1) (Y / 4 + 1) _ (FR.out.below HB1.out)).mono ?_
  rintro e w16 ⟨rfl, hb'⟩
  have HB1 := Lib.hid ((HB1.out).trans (hb'.mono (HB1.out).size))
  clear hb'
  rw [← Z3.out]
  go_wp2_with fail
  refine (uAt_c R a b U m X Y 3 _ (FR.out.below HB1.out)).mono ?_
  rintro e w17 ⟨rfl, hb'⟩
  have HB1 := Lib.hid ((HB1.out).trans (hb'.mono (HB1.out).size))
  clear hb'
  rw [← V3.out]
  obtain ⟨zB30, zB31, zB32⟩ := (B3.out.below HB1.out B3.out.lt).cells3
  go_wp2_with fail
  clear zB30 zB31 zB32
  clear MN MX
  have HC0 := Lib.hid HB1.out.size
  refine (rnew_yes a b _ a1 a2 b1 b2).mono ?_
  rintro e w18 ⟨g, rfl, hge, hrow, hb'⟩
  have HB1 := Lib.hid ((HB1.out).trans (hb'.mono (HB1.out).size))
  clear hb'
  have HG := Lib.hid hge
  clear hge
  have RG := Lib.hid hrow
  clear hrow
  obtain ⟨N, hN⟩ : ∃ N, N = a * b := ⟨_, rfl⟩
  have hN2 : N ≤ 2000 := by have := HL.out; omega
  have hN1 : 1 ≤ N := by rw [hN]; exact Nat.mul_pos a1 b1
  have HN := Lib.hid hN
  have E9 : (a : Int) * (b : Int) = (N : Int) := by rw [hN]; exact (Int.natCast_mul a b).symm
  rw [← hN] at RG ⊢
  clear hN
  obtain ⟨zB30, zB31, zB32⟩ := (B3.out.below HB1.out B3.out.lt).cells3
  go_wp2_with fail
  clear zB30 zB31 zB32
  have hlt := HB1.out.size
  have HB1 := Lib.hid (below_alloc_ (HB1.out) (.cells #[.int .i64 a, .int .i64 b, .slice (some ⟨g, 0, none⟩) N N] 24))
  have RG := Lib.hid ((RG.out).alloc (.cells #[.int .i64 a, .int .i64 b, .slice (some ⟨g, 0, none⟩) N N] 24))
  have hzw : (w18.alloc (.cells #[.int .i64 a, .int .i64 b, .slice (some ⟨g, 0, none⟩) N N] 24)).heap.size = w18.heap.size + 1 := by simp only [World.size_alloc]
  have B20 := Blk.new (w18) 24 #[.int .i64 a, .int .i64 b, .slice (some ⟨g, 0, none⟩) N N]
  skip
  have B20 := Lib.hid B20
  generalize w18.alloc (.cells #[.int .i64 a, .int .i64 b, .slice (some ⟨g, 0, none⟩) N N] 24) = w19 at *
  obtain ⟨b20, hb20⟩ : ∃ n, n = w18.heap.size := ⟨_, rfl⟩
  rw [← hb20] at B20 hzw hlt ⊢
  have HC := Lib.hid hlt
  clear hlt hzw hb20
  obtain ⟨f, F8, f0, f1⟩ : ∃ f, fl.tmod (m + 1) = f ∧ 0 ≤ f ∧ f ≤ m := ⟨_, rfl, by rw [Int.tmod_eq_emod_of_nonneg fl0]; exact Int.emod_nonneg _ (by omega), by rw [Int.tmod_eq_emod_of_nonneg fl0]; have := Int.emod_lt_of_pos fl (b := m + 1) (by omega); omega⟩
  have F11 : ¬ m + 1 = 0 := by omega
  have F9 : IntKind.i64.wrap fl = fl := IntWalk.i64_in _ (by omega)
  have F10 : IntKind.i64.wrap (m + 1) = m + 1 := IntWalk.i64_in _ (by omega)
  have HFL := Lib.hid (fillL_zero N (fun _ => f))
  rw [← HFL.out] at RG
  go_loopw [149] (fun v wr => ∃ k : Nat, k ≤ N ∧ v = .int .i64 k ∧ Blk wr b20 24 #[.int .i64 a, .int .i64 b, .slice (some ⟨g, 0, none⟩) N N] ∧ RowI wr g (fillL N (fun _ => f) k) ∧ Below w6.heap.size w6 wr) (fun v _ => N - (intOf v).toNat)
  case atStart => exact ⟨0, Nat.zero_le _, rfl, B20.out, RG.out, HB1.out⟩
  case round =>
    obtain ⟨k, hk, rfl, h20, hg, hb⟩ := hrel
    have HB1 := Lib.hid hb
    have B20 := Lib.hid h20
    have RG := Lib.hid hg
    obtain ⟨wo, ewo⟩ : ∃ wo, wo = wr := ⟨_, rfl⟩
    subst ewo
    clear hb h20 hg
    have z202 := B20.out.cell 2
    by_cases hlt : k < N
    · skip
      have i1 : (0 : Int) ≤ (k : Int) := by omega
      have i2 : (k : Int) < (N : Int) := by omega
      simp at z202
      go_upto_region 20 with fail
      have zg := RG.out.cell (i := k) (by rw [fillL_length]; exact hlt)
      have fg := RG.out.frozen k
      clear z202
      clear zg fg
      have HG2 := Lib.hid (show w6.heap.size ≤ g by have := HG.out; have := HC0.out; omega)
      have HB1 := Lib.hid ((HB1.out).drew)
      have B20 := Lib.hid ((B20.out).drew)
      have RG := Lib.hid ((RG.out).drew)
      refine wp_region_held_drew (S := (fun w' => w'.cell? ⟨b20, 2, none⟩ = some (.slice (some ⟨g, 0, none⟩) N N))) (by kernel_rfl) ?hS0 (fun hHeld => ?_)
      case hS0 => exact B20.out.cell 2
      refine wpAnyH_take (i := 0) (oi := ⟨some 152, _, _, _, _, _⟩) (v := ?v139) rfl (by kernel_rfl) (by kernel_rfl) (by kernel_rfl) (fun _ _ _ h => h) (Or.inl ⟨by rfl, ?h139⟩) (by assumption) ?r139
      case h139 => (intro w hSw; (try dsimp only at hSw); go_simp; try with_reducible rfl)
      try simp only [Act.put, List.setIfInBounds_toArray, List.set_cons_zero, List.set_cons_succ]
      refine wpAnyH_take (i := 1) (oi := ⟨some 153, _, _, _, _, _⟩) (v := ?v140) rfl (by kernel_rfl) (by kernel_rfl) (by kernel_rfl) (fun _ _ _ h => h) (Or.inl ⟨by rfl, ?h140⟩) (by assumption) ?r140
      case h140 => (intro w hSw; (try dsimp only at hSw); go_simp; try with_reducible rfl)
      try simp only [Act.put, List.setIfInBounds_toArray, List.set_cons_zero, List.set_cons_succ]
      refine wpAnyH_take (i := 2) (oi := ⟨some 154, _, _, _, _, _⟩) (v := ?v141) rfl (by kernel_rfl) (by kernel_rfl) (by kernel_rfl) (fun _ _ _ h => h) (Or.inl ⟨by rfl, ?h141⟩) (by assumption) ?r141
      case h141 => (intro w hSw; (try dsimp only at hSw); go_simp; try with_reducible rfl)
      try simp only [Act.put, List.setIfInBounds_toArray, List.set_cons_zero, List.set_cons_succ]
      refine wpAnyH_take (i := 3) (oi := ⟨some 155, _, _, _, _, _⟩) (v := ?v142) rfl (by kernel_rfl) (by kernel_rfl) (by kernel_rfl) (fun _ _ _ h => h) (Or.inl ⟨by rfl, ?h142⟩) (by assumption) ?r142
      case h142 => (intro w hSw; (try dsimp only at hSw); go_simp; try with_reducible rfl)
      try simp only [Act.put, List.setIfInBounds_toArray, List.set_cons_zero, List.set_cons_succ]
      refine wpAnyH_take (i := 4) (oi := ⟨some 156, _, _, _, _, _⟩) (v := ?v143) rfl (by kernel_rfl) (by kernel_rfl) (by kernel_rfl) (fun _ _ _ h => h) (Or.inl ⟨by rfl, ?h143⟩) (by assumption) ?r143
      case h143 => (intro w hSw; (try dsimp only at hSw); go_simp; try with_reducible rfl)
      try simp only [Act.put, List.setIfInBounds_toArray, List.set_cons_zero, List.set_cons_succ]
      refine wpAnyH_take (i := 5) (oi := ⟨some 157, _, _, _, _, _⟩) (v := ?v144) rfl (by kernel_rfl) (by kernel_rfl) (by kernel_rfl) (fun _ _ _ h => h) (Or.inl ⟨by rfl, ?h144⟩) (by assumption) ?r144
      case h144 => (intro w hSw; (try dsimp only at hSw); go_simp; try with_reducible rfl)
      try simp only [Act.put, List.setIfInBounds_toArray, List.set_cons_zero, List.set_cons_succ]
      refine wpAnyH_take (i := 6) (oi := ⟨some 158, _, _, _, _, _⟩) (v := ?v145) rfl (by kernel_rfl) (by kernel_rfl) (by kernel_rfl) (fun _ _ _ h => h) (Or.inl ⟨by rfl, ?h145⟩) (by assumption) ?r145
      case h145 => (intro w hSw; (try dsimp only at hSw); go_simp; try with_reducible rfl)
      try simp only [Act.put, List.setIfInBounds_toArray, List.set_cons_zero, List.set_cons_succ]
      refine wpAnyH_take (i := 7) (oi := ⟨some 159, _, _, _, _, _⟩) (v := ?v146) rfl (by kernel_rfl) (by kernel_rfl) (by kernel_rfl) (fun _ _ _ h => h) (Or.inl ⟨by rfl, ?h146⟩) (by assumption) ?r146
      case h146 => (intro w hSw; (try dsimp only at hSw); go_simp; try with_reducible rfl)
      try simp only [Act.put, List.setIfInBounds_toArray, List.set_cons_zero, List.set_cons_succ]
      refine wpAnyH_take (i := 8) (oi := ⟨some 160, _, _, _, _, _⟩) (v := ?v147) rfl (by kernel_rfl) (by kernel_rfl) (by kernel_rfl) (fun _ _ _ h => h) (Or.inl ⟨by rfl, ?h147⟩) (by assumption) ?r147
      case h147 => (intro w hSw; (try dsimp only at hSw); go_simp; try with_reducible rfl)
      try simp only [Act.put, List.setIfInBounds_toArray, List.set_cons_zero, List.set_cons_succ]
      refine wpAnyH_ready (rs := [9]) (by kernel_rfl) (by simp) ?_
      refine (AllReadyH.cons (o := ⟨none, _, _, _, _, _⟩) rfl (fun K hK => ?_) AllReadyH.nil)
      have zg := RG.out.cell (i := k) (by rw [fillL_length]; exact hlt)
      have fg := RG.out.frozen k
      go_simp
      clear zg fg
      have hne : b20 ≠ g := Blk.ne_ B20.out RG.out (by decide)
      have hrs := RowI.set_ RG.out k f
      rw [fillL_set N (fun _ => f) k hlt] at hrs
      have RG := Lib.hid hrs
      have B20 := Lib.hid (B20.out.far (p := ⟨g, k, none⟩) hne (.int .i64 f))
      have HB1 := Lib.hid (HB1.out.setCell (p := ⟨g, k, none⟩) HG2.out (.int .i64 f))
      refine hK.out _ _ ?hS148 (fun hHeld => ?_)
      case hS148 => exact B20.out.cell 2
      clear hK K
      try simp only [Act.put, List.setIfInBounds_toArray, List.set_cons_zero, List.set_cons_succ]
      refine wpAnyH_done (by kernel_rfl) ?_ _
      clear hHeld
      go_wp2_with fail
      go_roundw
      case rel => exact ⟨k + 1, by omega, by go_num, B20.out, RG.out, HB1.out⟩
      case measure => simp [intOf]; omega
    · skip
      obtain rfl : k = N := by omega
      clear z202
      have lF : (fillL k (fun _ => f) k).length = k := fillL_length _ _ _
      have hv : ∀ j, j < (fillL k (fun _ => f) k).length → rdn (fillL k (fun _ => f) k) j = f := fun j hj => by rw [lF] at hj; rw [fillL_full]; unfold rdn; simp [List.getD_eq_getElem?_getD, hj]
      have SF := Lib.hid (stays_flat (m := m) a1 a2 b1 b2 (lF.trans HN.out) hv f0 f1 X Y)
      have SL := Lib.hid lF
      have zg := RG.out.cell (i := 0) (by rw [lF]; omega)
      have Hv := Lib.hid hv
      rw [show (fillL k (fun _ => f) k).getD 0 0 = f from hv 0 (by rw [lF]; omega)] at zg
      have ZG := Lib.hid zg
      clear zg hv lF
      have RR := Lib.hid (RG.out.reads (by rw [SL.out]; unfold maxLen; omega))
      have B3 := Lib.hid (B3.out.below HB1.out B3.out.lt)
      have B5 := Lib.hid (B5.out.below HB1.out B5.out.lt)
      have B7 := Lib.hid (B7.out.below HB1.out B7.out.lt)
      have FR := Lib.hid (FR.out.below HB1.out)
      have RP := Lib.hid (RP.out.kept HB1.out)
      have HB := Lib.hid (HB.out.trans (HB1.out.mono HB.out.size))
      have HB1 := Lib.hid (Below.refl wo.heap.size wo)
      have ZG := Lib.hid (show wo.cell? ⟨g, 0, none⟩ = some (.int .i64 f) from ZG.out)
      obtain ⟨zB200, zB201, zB202⟩ := (B20.out.below HB1.out B20.out.lt).cells3
      go_wp2_with fail
      clear zB200 zB201 zB202
      have h9 := uNew_yes a b (fillL k (fun _ => f) k) (some ⟨g, 0, none⟩) k m wo (RR.out.kept HB1.out) a1 a2 b1 b2 (SL.out.trans HN.out) mm1 mm2
      rw [SL.out] at h9
      refine (h9).mono ?_
      rintro e w20 ⟨R2, rfl, hlt2, hr, hb'⟩
      have HB1 := Lib.hid ((HB1.out).trans (hb'.mono (HB1.out).size))
      have ZG := Lib.hid ((hb'.cell (p := ⟨g, 0, none⟩) (block_lt_of_cell ZG.out)).trans ZG.out)
      clear hb'
      have FE := Lib.hid hr
      clear hr hlt2 h9
      have B20 := Lib.hid (B20.out.below HB1.out B20.out.lt)
      have B3 := Lib.hid (B3.out.below HB1.out B3.out.lt)
      have B5 := Lib.hid (B5.out.below HB1.out B5.out.lt)
      have B7 := Lib.hid (B7.out.below HB1.out B7.out.lt)
      have FR := Lib.hid (FR.out.below HB1.out)
      have RG := Lib.hid (RG.out.kept HB1.out)
      have RP := Lib.hid (RP.out.kept HB1.out)
      have RR := Lib.hid (RR.out.kept HB1.out)
      have HB := Lib.hid (HB.out.trans (HB1.out.mono HB.out.size))
      have HB1 := Lib.hid (Below.refl w20.heap.size w20)
      obtain ⟨zB200, zB201, zB202⟩ := (B20.out.below HB1.out B20.out.lt).cells3
      have zg0 := ZG.out
      go_upto_region 23 with fail
      have K0 := Lib.hid (fun (W : World) (h : RefAt W R2 a b (clipV (fillL k (fun _ => f) k) m) m) => (show Calls Try.prog 10 #[.pointer (some ⟨R2, 0, none⟩), .int .i64 X, .int .i64 Y, .int .i64 3] W fun e w' => e = .returned (.int .i64 f) ∧ Below W.heap.size W w' from by have h9 := uAt_c R2 a b (clipV (fillL k (fun _ => f) k) m) m X Y 3 W h; rw [SF.out.1] at h9; exact h9))
      have K1 := Lib.hid (fun (W : World) (h : RefAt W R2 a b (clipV (fillL k (fun _ => f) k) m) m) => (show Calls Try.prog 10 #[.pointer (some ⟨R2, 0, none⟩), .int .i64 X, .int .i64 Y, .int .i64 2] W fun e w' => e = .returned (.int .i64 f) ∧ Below W.heap.size W w' from by have h9 := uAt_c R2 a b (clipV (fillL k (fun _ => f) k) m) m X Y 2 W h; rw [SF.out.2.1] at h9; exact h9))
      have K2 := Lib.hid (fun (W : World) (h : RefAt W R2 a b (clipV (fillL k (fun _ => f) k) m) m) => (show Calls Try.prog 9 #[.pointer (some ⟨R2, 0, none⟩), .int .i64 X, .int .i64 Y] W fun e w' => e = .returned (.int .i64 f) ∧ Below W.heap.size W w' from by have h9 := uHalf_c R2 a b (clipV (fillL k (fun _ => f) k) m) m X Y W h; rw [SF.out.2.2] at h9; exact h9))
      have kq0 := cell_regrown zB200
      have kq1 := cell_regrown zB201
      have kq2 := cell_regrown zB202
      have kq3 := cell_regrown zg0
      have qc0 := fun (d : Nat) (os : Array Obj) => Calls.regrown_of (K0.out (grow (redrawn w20 d) os) ((FE.out.below HB1.out).below (below_regrown w20 d os)))
      have qc1 := fun (d : Nat) (os : Array Obj) => Calls.regrown_of (K1.out (grow (redrawn w20 d) os) ((FE.out.below HB1.out).below (below_regrown w20 d os)))
      have qc2 := fun (d : Nat) (os : Array Obj) => Calls.regrown_of (K2.out (grow (redrawn w20 d) os) ((FE.out.below HB1.out).below (below_regrown w20 d os)))
      clear zB200 zB201 zB202 zg0
      refine wp_region_quiet_below (by kernel_rfl) (by kernel_rfl) ?_
      repeat (go_big_quiet_step (first | with_reducible exact qc0 _ _ | with_reducible exact qc1 _ _ | with_reducible exact qc2 _ _))
      refine wpQuiet_nil ?_
      intro _ hw'
      obtain ⟨⟨dq, osq⟩, hw''⟩ := hw'
      subst hw''
      have hb' := below_regrown w20 dq osq
      clear kq0 kq1 kq2 kq3 qc0 qc1 qc2
      have HB1 := Lib.hid ((HB1.out).trans (hb'.mono (HB1.out).size))
      clear hb'
      generalize grow (redrawn w20 dq) osq = w21 at *
      go_wp2_with fail
      go_ret
      exact ⟨rfl, HB.out.trans (HB1.out.mono HB.out.size)⟩

theorem bd_u16 {v : Value} {n : Int} (h : IsInt .u16 v n) : 0 ≤ n ∧ n ≤ 65535 := by
  have := h.2
  simp [Lit.wf, IntKind.min, IntKind.max, IntKind.signed, IntKind.bits] at this
  omega
theorem upStays_walk (x0 : Int × Int × List Int) (x1 : Int) (x2 : Int × Int × Int) (v0 v1 v2 : Value) (w : World) (k0 : IsPlaneC w v0 x0) (k1 : IsInt .u16 v1 x1) (k2 : IsArr3 .i16 v2 x2) :
    Calls Try.prog 5 #[v0, v1, v2] w fun e w' => e = .returned (.bool true) ∧ Below w.heap.size w w' := by
  obtain ⟨W, H, V⟩ := x0
  obtain ⟨A, c, rfl, hp, hn, _, _, _, hc, hc2⟩ := k0.form
  have b16 := bd_u16 k1
  obtain ⟨rfl, _⟩ := k1
  obtain ⟨h0, h1, h2⟩ := x2
  obtain ⟨u0, u1, u2, rfl, ⟨rfl, _⟩, ⟨rfl, _⟩, ⟨rfl, _⟩⟩ := k2
  by_cases h1' : 2000 < V.length
  · exact ust_1 W H V A c x1 h0 h1 h2 w hp hn b16.1 b16.2 h1'
  cases h2' : okB W H V.length with
  | false => exact ust_2 W H V A c x1 h0 h1 h2 w hp hn b16.1 b16.2 h1' h2'
  | true =>
    obtain ⟨a, b, rfl, rfl, a1, a2, b1, b2, hl⟩ := okB_nat h2'
    exact ust_3 a b V A c x1 h0 h1 h2 w hp hn b16.1 b16.2 a1 a2 b1 b2 hl h1'

end Go.Proofs.Ytfknikgfilfcmaa
