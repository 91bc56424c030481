/- Fields: a field that is levelled. -/
import Derived.Test.YtiedjeholmoccaaFd12
import Derived.Test.YtiedjeholmoccaaMono4
import Derived.Test.YtiedjeholmoccaaRows2
namespace Go.Proofs.Ytiedjeholmoccaa
open Go.RowKit Go.Shelf Go.Sort
set_option linter.unusedVariables false
set_option linter.unusedSimpArgs false
attribute [local go_sem] Oper.semAt_some

theorem sclonei_c (A : Option Addr) (c : Nat) (xs : List Int) (w : World) (hR : ReadsI w A xs) (hm : xs.length ≤ 100000000) :
    Calls Try.prog 35 #[.slice A xs.length c] w fun e w' => ∃ v, e = .returned v ∧ OwnI w' w.heap.size v xs ∧ Below w.heap.size w w' := by
  rcases A with _ | ad
  · have hx : xs = [] := by
      cases xs with
      | nil => rfl
      | cons x xs => obtain ⟨ad, h, _⟩ := hR.2 (by simp); cases h
    subst hx
    have hnil : ∀ w, (binOp .eql 22 (.slice none 0 c) (.slice none 0 0)).run Try.prog w = .ok (.bool true) w := fun _ => rfl
    simp only [List.length_nil]
    go_enter Try.func35, Try.ntmps35
    go_wp2_with fail
    go_ret
    exact ⟨_, rfl, OwnI.nil _ _, Below.refl _ _⟩
  · have hnil : ∀ w, (binOp .eql 22 (.slice (some ad) xs.length c) (.slice none 0 0)).run Try.prog w = .ok (.bool false) w := fun _ => rfl
    have HS := Lib.hid (World.size_alloc w (.cells #[] 3))
    have HO := Lib.hid (show OwnI (w.alloc (.cells #[] 3)) w.heap.size (.slice (some ⟨w.heap.size, 0, none⟩) 0 0) [] from (RowI.new w []).own (Nat.le_refl _) (Nat.zero_le _))
    have HR := Lib.hid (hR.kept (below_alloc_ (Below.refl w.heap.size w) (.cells #[] 3)))
    have HB0 := Lib.hid (below_alloc_ (Below.refl w.heap.size w) (.cells #[] 3))
    clear hR
    go_enter Try.func35, Try.ntmps35
    go_wp2_with (
      at_builtin
      obtain ⟨i0, hi, hz0, hz1, hz2⟩ := info_parts info_int
      refine wpList_append_any _ rfl (.tmp 5) (.tmp 6) _ rfl w.heap.size 3 i0 (.int .i64 0) 1 8 Try.underlying22 hi hz0 hz1 hz2 rfl (by omega) _ 0 [] (by rfl) HO.out _ (some ad) xs.length c _ (by rfl) HR.out (by intro u hu; obtain ⟨_, _, rfl⟩ := List.mem_map.1 hu; rfl) (by simp only [maxLen]; omega) (by omega) (by have := HS.out; omega) ?_
      intro v1 w1 hown1 hg1 hat1
      have O1 := Lib.hid hown1
      have HB := Lib.hid (HB0.out.grown hg1 (by have := HS.out; omega) (fun k hk => by simp [Value.ownBlock] at hk; omega))
      clear hown1 hg1 hat1 hnil hi hz0 hz1 hz2)
    go_ret
    exact ⟨_, rfl, by have h := O1.out; unfold OwnI; simpa using h, HB.out⟩
/-- What is answered: a field of the call's own. -/
def FlRes (a d : Int) (S : List Int) (K : List Bk) (w : World) (e : Ending) (w' : World) : Prop := ∃ vs vk, e = .returned (flV a d vs vk) ∧ OwnI w' w.heap.size vs S ∧ OwnE EK w' w.heap.size vk K ∧ Below w.heap.size w w'
structure Fl where
  a : Int
  d : Int
  S : List Int
  K : List Bk
def levF (a d : Int) (S : List Int) (K : List Bk) : Fl := if okFl a d S K = true then ⟨a, d, S, levelK a.toNat S K⟩ else ⟨0, 0, [], []⟩
theorem Blk.frozens {w : World} {g : Nat} {t : TypeId} {cs : Array Value} (h : Blk w g t cs) : w.frozen? ⟨g, 0, none⟩ = false ∧ w.frozen? ⟨g, 1, none⟩ = false ∧ w.frozen? ⟨g, 2, none⟩ = false ∧ w.frozen? ⟨g, 3, none⟩ = false := ⟨h.frozen 0, h.frozen 1, h.frozen 2, h.frozen 3⟩
theorem own_two {w : World} {B B' g g' n c n' c' : Nat} {xs : List Int} {K : List Bk} (h : OwnI w B (.slice (some ⟨g, 0, none⟩) n c) xs) (h' : OwnE EK w B' (.slice (some ⟨g', 0, none⟩) n' c') K) : g' ≠ g := by
  rintro rfl
  rcases h.2 with ⟨e, _⟩ | ⟨k, cap, cur, e, _, hh, _⟩
  · cases e
  · rcases h'.2 with ⟨e', _⟩ | ⟨k', cap', cur', e', _, hh', _⟩
    · cases e'
    · injection e with e; injection e with e; injection e with e
      injection e' with e'; injection e' with e'; injection e' with e'
      subst e; subst e'
      rw [hh] at hh'
      injection hh' with hh'
      injection hh' with _ ht
      exact absurd ht (by decide)
theorem ret_four' {w : World} {b : Nat} {t : TypeId} {x0 x1 x2 x3 : Value} (h : Blk w b t #[x0, x1, x2, x3]) (y0 y1 y2 y3 : Value) : Blk ((((w.setCell ⟨b, 0, none⟩ y0).setCell ⟨b, 1, none⟩ y1).setCell ⟨b, 2, none⟩ y2).setCell ⟨b, 3, none⟩ y3) b t #[y0, y1, y2, y3] := by
  have h0 : Blk _ b t #[y0, x1, x2, x3] := h.set_ 0 y0
  have h1 : Blk _ b t #[y0, y1, x2, x3] := h0.set_ 1 y1
  have h2 : Blk _ b t #[y0, y1, y2, x3] := h1.set_ 2 y2
  have h3 : Blk _ b t #[y0, y1, y2, y3] := h2.set_ 3 y3
  exact h3
theorem set_two3 {w : World} {b : Nat} {t : TypeId} {x0 x1 x2 x3 : Value} (h : Blk w b t #[x0, x1, x2, x3]) (y2 y3 : Value) : Blk ((w.setCell ⟨b, 2, none⟩ y2).setCell ⟨b, 3, none⟩ y3) b t #[x0, x1, y2, y3] := by
  have h2 : Blk _ b t #[x0, x1, y2, x3] := h.set_ 2 y2
  have h3 : Blk _ b t #[x0, x1, y2, y3] := h2.set_ 3 y3
  exact h3
set_option maxRecDepth 100000 in
set_option maxHeartbeats 6400000 in
theorem flevel_no (a d : Int) (S : List Int) (As : Option Addr) (cs : Nat) (K : List Bk) (Ak : Option Addr) (ck : Nat) (w : World) (hS : ReadsI w As S) (hK : ReadsE EK w Ak K) (hn : S.length ≤ 9223372036854775807) (hm : K.length ≤ 9223372036854775807) (h1 : okFl a d S K = false) :
    Calls Try.prog 15 #[flV a d (.slice As S.length cs) (.slice Ak K.length ck)] w (FlRes 0 0 [] [] w) := by
  have RS := Lib.hid hS
  have RK := Lib.hid hK
  have H1 := Lib.hid h1
  clear hS hK h1
  have HB1 := Lib.hid (Below.refl w.heap.size w)
  go_enter Try.func15, Try.ntmps15
  go_wp2_with fail
  have HB1 := Lib.hid (below_alloc_ (below_alloc_ (HB1.out) (.cells #[.int .i64 a, .int .i64 d, .slice As S.length cs, .slice Ak K.length ck] 25)) (.cells #[.int .i64 0, .int .i64 0, .slice none 0 0, .slice none 0 0] 25))
  have hzw : ((w.alloc (.cells #[.int .i64 a, .int .i64 d, .slice As S.length cs, .slice Ak K.length ck] 25)).alloc (.cells #[.int .i64 0, .int .i64 0, .slice none 0 0, .slice none 0 0] 25)).heap.size = w.heap.size + 2 := by simp only [World.size_alloc]
  have B1 := (Blk.new (w) 25 #[.int .i64 a, .int .i64 d, .slice As S.length cs, .slice Ak K.length ck]).alloc (.cells #[.int .i64 0, .int .i64 0, .slice none 0 0, .slice none 0 0] 25)
  skip
  have B1 := Lib.hid B1
  have B2 := Blk.new (w.alloc (.cells #[.int .i64 a, .int .i64 d, .slice As S.length cs, .slice Ak K.length ck] 25)) 25 #[.int .i64 0, .int .i64 0, .slice none 0 0, .slice none 0 0]
  rw [show (w.alloc (.cells #[.int .i64 a, .int .i64 d, .slice As S.length cs, .slice Ak K.length ck] 25)).heap.size = w.heap.size + 1 by simp only [World.size_alloc]] at B2
  have B2 := Lib.hid B2
  generalize (w.alloc (.cells #[.int .i64 a, .int .i64 d, .slice As S.length cs, .slice Ak K.length ck] 25)).alloc (.cells #[.int .i64 0, .int .i64 0, .slice none 0 0, .slice none 0 0] 25) = w1 at *
  clear hzw
  refine (fright_c a d S As cs K Ak ck _ (RS.out.kept HB1.out) (RK.out.kept HB1.out) hn hm).mono ?_
  rintro e w2 ⟨rfl, hb'⟩
  have HB1 := Lib.hid ((HB1.out).trans (hb'.mono (HB1.out).size))
  have B1 := Lib.hid ((B1.out).below hb' (B1.out).lt)
  have B2 := Lib.hid ((B2.out).below hb' (B2.out).lt)
  clear hb'
  rw [H1.out]
  obtain ⟨f0, f1, f2, f3⟩ := B2.out.frozens
  obtain ⟨zB10, zB11, zB12, zB13⟩ := (B1.out).cells4
  obtain ⟨zB20, zB21, zB22, zB23⟩ := (B2.out).cells4
  go_wp2_with fail
  have hrow := ret_four' B2.out (.int .i64 0) (.int .i64 0) (.slice none 0 0) (.slice none 0 0)
  refine bodyPost_ret (results_cell_row rfl _ _ (w.heap.size + 1) 25 _ (0, 0) _ rfl hrow Try.underlying25 rfl (by kernel_rfl)) rfl ?_
  have hb2 : w.heap.size ≤ w.heap.size + 1 := by omega
  exact ⟨_, _, rfl, OwnI.nil _ _, OwnE.nil _ _, Below.setCell (Below.setCell (Below.setCell (Below.setCell HB1.out hb2 _) hb2 _) hb2 _) hb2 _⟩
set_option maxRecDepth 100000 in
set_option maxHeartbeats 6400000 in
theorem flevel_yes (a d : Nat) (S : List Int) (sa : Addr) (cs : Nat) (K : List Bk) (Ak : Option Addr) (ck : Nat) (w : World) (hS : ReadsI w (some sa) S) (hK : ReadsE EK w Ak K) (h1 : okFl a d S K = true) :
    Calls Try.prog 15 #[flV a d (.slice (some sa) S.length cs) (.slice Ak K.length ck)] w (FlRes a d S (levelK a S K) w) := by
  have RS := Lib.hid hS
  have RK := Lib.hid hK
  have H1 := Lib.hid h1
  obtain ⟨A_, D_, ea, ed, a1, a2, d1, d2, hl, hkl, hS1, hK1⟩ := okFl_nat h1
  have ea := Int.ofNat.inj ea
  have ed := Int.ofNat.inj ed
  subst ea
  subst ed
  have HL := Lib.hid hl
  have HKL := Lib.hid hkl
  have HS1 := Lib.hid hS1
  have hn : S.length ≤ 4096 := by rw [hl]; exact Nat.le_trans (Nat.mul_le_mul a2 d2) (by omega)
  have hm : K.length ≤ 65536 := by rw [hkl]; have := Nat.mul_le_mul a2 d2; omega
  have sp : 0 < S.length := by rw [hl]; exact Nat.mul_pos a1 d1
  have kp : 0 < K.length := by rw [hkl]; have := Nat.mul_pos a1 d1; omega
  clear hS hK h1 hl hkl hS1 hK1
  have HB1 := Lib.hid (Below.refl w.heap.size w)
  refine calls_marks Try.func15 rfl ?_
  simp only [Try.ntmps15, List.size_toArray, List.length_cons, List.length_nil, Nat.reduceAdd, Nat.reduceSub, Array.replicate_succ, Array.replicate_zero, List.push_toArray, List.append_toArray, List.nil_append, List.cons_append]
  go_wp2_with fail
  have HB1 := Lib.hid (below_alloc_ (below_alloc_ (HB1.out) (.cells #[.int .i64 a, .int .i64 d, .slice (some sa) S.length cs, .slice Ak K.length ck] 25)) (.cells #[.int .i64 0, .int .i64 0, .slice none 0 0, .slice none 0 0] 25))
  have hzw : ((w.alloc (.cells #[.int .i64 a, .int .i64 d, .slice (some sa) S.length cs, .slice Ak K.length ck] 25)).alloc (.cells #[.int .i64 0, .int .i64 0, .slice none 0 0, .slice none 0 0] 25)).heap.size = w.heap.size + 2 := by simp only [World.size_alloc]
  have B1 := (Blk.new (w) 25 #[.int .i64 a, .int .i64 d, .slice (some sa) S.length cs, .slice Ak K.length ck]).alloc (.cells #[.int .i64 0, .int .i64 0, .slice none 0 0, .slice none 0 0] 25)
  skip
  have B1 := Lib.hid B1
  have B2 := Blk.new (w.alloc (.cells #[.int .i64 a, .int .i64 d, .slice (some sa) S.length cs, .slice Ak K.length ck] 25)) 25 #[.int .i64 0, .int .i64 0, .slice none 0 0, .slice none 0 0]
  rw [show (w.alloc (.cells #[.int .i64 a, .int .i64 d, .slice (some sa) S.length cs, .slice Ak K.length ck] 25)).heap.size = w.heap.size + 1 by simp only [World.size_alloc]] at B2
  have B2 := Lib.hid B2
  generalize (w.alloc (.cells #[.int .i64 a, .int .i64 d, .slice (some sa) S.length cs, .slice Ak K.length ck] 25)).alloc (.cells #[.int .i64 0, .int .i64 0, .slice none 0 0, .slice none 0 0] 25) = w1 at *
  clear hzw
  refine (fright_c a d S (some sa) cs K Ak ck _ (RS.out.kept HB1.out) (RK.out.kept HB1.out) (by omega) (by omega)).mono ?_
  rintro e w2 ⟨rfl, hb'⟩
  have HB1 := Lib.hid ((HB1.out).trans (hb'.mono (HB1.out).size))
  have B1 := Lib.hid ((B1.out).below hb' (B1.out).lt)
  have B2 := Lib.hid ((B2.out).below hb' (B2.out).lt)
  clear hb'
  rw [H1.out]
  obtain ⟨zB10, zB11, zB12, zB13⟩ := (B1.out).cells4
  go_upto_region 3 with fail
  have Hw2 := Lib.hid HB1.out.size
  have kq0 := cell_regrown zB10
  have kq1 := cell_regrown zB11
  have kq2 := cell_regrown zB12
  have kq3 := cell_regrown zB13
  clear zB10 zB11 zB12 zB13
  refine wp_mono_tail 7 [Brings.one ?b1_0, Brings.one ?b2_1, Brings.own w2.heap.size (fun v => v) (S), Brings.one ?b3_3, Brings.one ?b4_4, Brings.ownE EK w2.heap.size (fun v => v) (K), Brings.one ?b5_6] (by kernel_rfl) (by kernel_rfl) ?_
  rotate_left 5
  simp only [List.take_succ_cons, List.take_zero, List.drop_succ_cons, List.drop_zero]
  refine wpL_take (k' := 1) rfl (by kernel_rfl) (fun d os => ?t6) ?_
  case t6 => (unfold bringsAt; go_simp; first | with_reducible exact take_one | exact take_one)
  try simp only [Act.put, List.setIfInBounds_toArray, List.set_cons_zero, List.set_cons_succ]
  refine wpL_take (k' := 2) rfl (by kernel_rfl) (fun d os => ?t7) ?_
  case t7 => (unfold bringsAt; go_simp; first | with_reducible exact take_one | exact take_one)
  try simp only [Act.put, List.setIfInBounds_toArray, List.set_cons_zero, List.set_cons_succ]
  refine wpL_own (k' := 3) rfl (by kernel_rfl) (fun wz hz hd => ?t8) (fun A2 c2 => ?_)
  case t8 =>
    have HZ := Lib.hid (HB1.out.trans (hz.mono HB1.out.size))
    unfold bringsAt
    go_simp
    have h9 := sclonei_c (some sa) cs S wz (RS.out.kept HZ.out) (by omega)
    exact call_own hz.size h9
  try simp only [Act.put, List.setIfInBounds_toArray, List.set_cons_zero, List.set_cons_succ]
  refine wpL_take (k' := 4) rfl (by kernel_rfl) (fun d os => ?t9) ?_
  case t9 => (unfold bringsAt; go_simp; first | with_reducible exact take_one | exact take_one)
  try simp only [Act.put, List.setIfInBounds_toArray, List.set_cons_zero, List.set_cons_succ]
  refine wpL_take (k' := 5) rfl (by kernel_rfl) (fun d os => ?t10) ?_
  case t10 => (unfold bringsAt; go_simp; first | with_reducible exact take_one | exact take_one)
  try simp only [Act.put, List.setIfInBounds_toArray, List.set_cons_zero, List.set_cons_succ]
  refine wpL_ownE (k' := 6) rfl (by kernel_rfl) (fun wz hz hd => ?t11) (fun A5 c5 => ?_)
  case t11 =>
    have HZ := Lib.hid (HB1.out.trans (hz.mono HB1.out.size))
    unfold bringsAt
    go_simp
    have h9 := sclonek_c K Ak ck wz (RK.out.kept HZ.out) (by omega)
    exact call_ownE hz.size h9
  try simp only [Act.put, List.setIfInBounds_toArray, List.set_cons_zero, List.set_cons_succ]
  refine wpL_take (k' := 7) rfl (by kernel_rfl) (fun d os => ?t12) ?_
  case t12 => (unfold bringsAt; go_simp; first | with_reducible exact take_one | exact take_one)
  try simp only [Act.put, List.setIfInBounds_toArray, List.set_cons_zero, List.set_cons_succ]
  refine wpL_nil ?_
  intro w3 hH
  have hb' := hH.below
  clear kq0 kq1 kq2 kq3
  have HB1 := Lib.hid ((HB1.out).trans (hb'.mono (HB1.out).size))
  have B1 := Lib.hid ((B1.out).below hb' (B1.out).lt)
  have B2 := Lib.hid ((B2.out).below hb' (B2.out).lt)
  have O2 := Lib.hid (show OwnI w3 w2.heap.size (.slice A2 (S).length c2) (S) from hH.facts 2)
  have O5 := Lib.hid (show OwnE EK w3 w2.heap.size (.slice A5 (K).length c5) (K) from hH.facts 5)
  clear hH hb'
  obtain ⟨g2, c2', e2, hg2, hl2, _⟩ := O2.out.formr sp
  injection e2 with e2 e2b e2c
  subst e2
  subst e2c
  clear e2b
  obtain ⟨g5, c5', e5, hg5, hl5⟩ := OwnE.form O5.out kp
  injection e5 with e5 e5b e5c
  subst e5
  subst e5c
  clear e5b
  obtain ⟨z0, z1, z2, z3⟩ := B1.out.cells4
  obtain ⟨f0, f1, f2, f3⟩ := B1.out.frozens
  go_upto_region 4 with fail
  clear z0 z1 z2 z3 f0 f1 f2 f3
  have hne : w.heap.size + 1 ≠ w.heap.size := by omega
  have lw : w.heap.size ≤ w.heap.size := Nat.le_refl _
  have HLW := Lib.hid lw
  have B2 := Lib.hid ((B2.out.far (p := ⟨w.heap.size, 2, none⟩) hne (.slice (some ⟨g2, 0, none⟩) S.length c2)).far (p := ⟨w.heap.size, 3, none⟩) hne (.slice (some ⟨g5, 0, none⟩) K.length c5))
  have O2 := Lib.hid (((O2.out.lower (B' := w.heap.size) (by have := Hw2.out; omega)).set_ (i := 2) B1.out (by decide) (.slice (some ⟨g2, 0, none⟩) S.length c2)).set_ (i := 3) (B1.out.set_ 2 (.slice (some ⟨g2, 0, none⟩) S.length c2)) (by decide) (.slice (some ⟨g5, 0, none⟩) K.length c5))
  have O5 := Lib.hid (((O5.out.lower (B' := w.heap.size) (by have := Hw2.out; omega)).set_ (i := 2) B1.out (by decide) (.slice (some ⟨g2, 0, none⟩) S.length c2)).set_ (i := 3) (B1.out.set_ 2 (.slice (some ⟨g2, 0, none⟩) S.length c2)) (by decide) (.slice (some ⟨g5, 0, none⟩) K.length c5))
  have B1 := Lib.hid (set_two3 B1.out (.slice (some ⟨g2, 0, none⟩) S.length c2) (.slice (some ⟨g5, 0, none⟩) K.length c5))
  have HB1 := Lib.hid ((HB1.out.setCell (p := ⟨w.heap.size, 2, none⟩) HLW.out (.slice (some ⟨g2, 0, none⟩) S.length c2)).setCell (p := ⟨w.heap.size, 3, none⟩) HLW.out (.slice (some ⟨g5, 0, none⟩) K.length c5))
  clear hne lw
  generalize (w3.setCell ⟨w.heap.size, 2, none⟩ (.slice (some ⟨g2, 0, none⟩) S.length c2)).setCell ⟨w.heap.size, 3, none⟩ (.slice (some ⟨g5, 0, none⟩) K.length c5) = w4 at *
  obtain ⟨z0, z1, z2, z3⟩ := B1.out.cells4
  go_wp2_with fail
  clear z0 z1 z2 z3
  refine (funits_c a d (.slice (some ⟨g2, 0, none⟩) S.length c2) (.slice (some ⟨g5, 0, none⟩) K.length c5) _).mono ?_
  rintro e w9 ⟨rfl, rfl⟩
  have hB2l := B2.out.lt
  have HB1 := Lib.hid (below_alloc_ (HB1.out) (.cells #[.int .i64 a, .int .i64 d, .slice (some ⟨g2, 0, none⟩) S.length c2, .slice (some ⟨g5, 0, none⟩) K.length c5] 25))
  have B1 := Lib.hid ((B1.out).alloc (.cells #[.int .i64 a, .int .i64 d, .slice (some ⟨g2, 0, none⟩) S.length c2, .slice (some ⟨g5, 0, none⟩) K.length c5] 25))
  have B2 := Lib.hid ((B2.out).alloc (.cells #[.int .i64 a, .int .i64 d, .slice (some ⟨g2, 0, none⟩) S.length c2, .slice (some ⟨g5, 0, none⟩) K.length c5] 25))
  have O2 := Lib.hid ((O2.out).alloc (.cells #[.int .i64 a, .int .i64 d, .slice (some ⟨g2, 0, none⟩) S.length c2, .slice (some ⟨g5, 0, none⟩) K.length c5] 25))
  have O5 := Lib.hid ((O5.out).alloc (.cells #[.int .i64 a, .int .i64 d, .slice (some ⟨g2, 0, none⟩) S.length c2, .slice (some ⟨g5, 0, none⟩) K.length c5] 25))
  have hzw : (w4.alloc (.cells #[.int .i64 a, .int .i64 d, .slice (some ⟨g2, 0, none⟩) S.length c2, .slice (some ⟨g5, 0, none⟩) K.length c5] 25)).heap.size = w4.heap.size + 1 := by simp only [World.size_alloc]
  have BC := Blk.new (w4) 25 #[.int .i64 a, .int .i64 d, .slice (some ⟨g2, 0, none⟩) S.length c2, .slice (some ⟨g5, 0, none⟩) K.length c5]
  skip
  have BC := Lib.hid BC
  generalize w4.alloc (.cells #[.int .i64 a, .int .i64 d, .slice (some ⟨g2, 0, none⟩) S.length c2, .slice (some ⟨g5, 0, none⟩) K.length c5] 25) = wl at *
  have hzl := hzw
  obtain ⟨bc, hbc⟩ : ∃ n, n = w4.heap.size := ⟨_, rfl⟩
  rw [← hbc] at BC hzl hB2l ⊢
  have hcb : w.heap.size + 1 < bc := hB2l
  clear hB2l
  clear hzw hbc
  have HS := Lib.hid (funits_yes a d S ⟨g2, 0, none⟩ c2 K (some ⟨g5, 0, none⟩) c5 bc wl H1.out BC.out O2.out.reads O5.out.reads)
  have lc := BC.out.lt
  have l1 := B1.out.lt
  have l2 := B2.out.lt
  have lg2 := (O2.out.blk_lt g2 rfl).2
  have lg5 := (O5.out.blk_lt g5 rfl).2
  skip
  have n5c : (Value.slice (some ⟨g5, 0, none⟩) K.length c5).ownBlock ≠ some bc := own_blk_ne O5.out BC.out (by decide)
  have n5c' : g5 ≠ bc := fun e => n5c (by rw [e]; rfl)
  have nc2 : (Value.slice (some ⟨g2, 0, none⟩) S.length c2).ownBlock ≠ some w.heap.size := own_blk_ne O2.out B1.out (by decide)
  have n5b : g5 ≠ w.heap.size := fun e => own_blk_ne O5.out B1.out (by decide) (by rw [e]; rfl)
  have n5b2 : g5 ≠ w.heap.size + 1 := fun e => own_blk_ne O5.out B2.out (by decide) (by rw [e]; rfl)
  have N52 := Lib.hid (own_two O2.out O5.out)
  have HLW2 := Lib.hid HB1.out.size
  clear n5c nc2 hzl
  go_wp2_with fail
  refine wp_range (N := cntU S S.length) rfl (enters_of Try.func41 (by kernel_rfl) rfl) HS.out (Below.refl _ _) (fun k hk => by rcases hk with hk | hk <;> omega)
    (fun k args X hh => by obtain ⟨_, _, hh⟩ := hh; rw [hh]; rfl)
    (fun k X => Blk X w.heap.size 25 #[.int .i64 a, .int .i64 d, .slice (some ⟨g2, 0, none⟩) S.length c2, .slice (some ⟨g5, 0, none⟩) K.length c5] ∧ Blk X (w.heap.size + 1) 25 #[.int .i64 0, .int .i64 0, .slice none 0 0, .slice none 0 0] ∧ OwnI X w.heap.size (.slice (some ⟨g2, 0, none⟩) S.length c2) S ∧ OwnE EK X w.heap.size (.slice (some ⟨g5, 0, none⟩) K.length c5) (levK (4 * a) K (unsL a S) k) ∧ Below w.heap.size w X)
    (fun _ _ => False)
    (fun k args a' X => (Blk X w.heap.size 25 #[.int .i64 a, .int .i64 d, .slice (some ⟨g2, 0, none⟩) S.length c2, .slice (some ⟨g5, 0, none⟩) K.length c5] ∧ Blk X (w.heap.size + 1) 25 #[.int .i64 0, .int .i64 0, .slice none 0 0, .slice none 0 0] ∧ OwnI X w.heap.size (.slice (some ⟨g2, 0, none⟩) S.length c2) S ∧ OwnE EK X w.heap.size (.slice (some ⟨g5, 0, none⟩) K.length c5) (levK (4 * a) K (unsL a S) k) ∧ Below w.heap.size w X) ∧ ∃ b9 q, (unsP a S S.length)[k]? = some q ∧ Blk X b9 34 #[.int .i64 q.2.x, .int .i64 q.2.y, .int .i64 q.2.s] ∧ wl.heap.size ≤ b9 ∧ a' = { tmps := #[.agg #[.int .i64 a, .int .i64 d, .slice (some sa) S.length cs, .slice Ak K.length ck], .pointer (some ⟨w.heap.size, 0, none⟩), .pointer (some ⟨w.heap.size + 1, 0, none⟩), undef, .pointer (some ⟨b9, 0, none⟩), .agg #[.int .i64 a, .int .i64 d, .slice (some sa) S.length cs, .slice Ak K.length ck], .bool true, .bool false, undef, .pointer (some ⟨w.heap.size, 2, none⟩), .slice (some sa) S.length cs, .slice (some ⟨g2, 0, none⟩) S.length c2, .pointer (some ⟨w.heap.size, 3, none⟩), .slice Ak K.length ck, .slice (some ⟨g5, 0, none⟩) K.length c5, .pointer (some ⟨w.heap.size, 2, none⟩), .pointer (some ⟨w.heap.size, 3, none⟩), .agg #[.int .i64 a, .int .i64 d, .slice (some ⟨g2, 0, none⟩) S.length c2, .slice (some ⟨g5, 0, none⟩) K.length c5], .func (.func 41) #[] #[.pointer (some ⟨bc, 0, none⟩)], .int .i64 (q.1 : Int), unV q.2, undef, undef, undef, undef, undef, undef, undef, undef, undef, undef, undef, undef, undef, undef, undef], defers := [] })
    ?hI ?hIx ?hM ?h0 ?hassign ?hbody ?hdone ?hstop
  case hI =>
    rintro k A B ⟨i1, i2, i3, i4, i5⟩ q
    exact ⟨i1.qt q, i2.qt q, own_qt i3 q, own_qt i4 q, below_qt i5 (Nat.le_refl _) HLW2.out q⟩
  case hIx => exact fun _ _ _ h _ => h
  case hM =>
    rintro k args a' A B ⟨⟨i1, i2, i3, i4, i5⟩, b9, u, hu, j1, j2, e⟩ q
    exact ⟨⟨i1.qt q, i2.qt q, own_qt i3 q, own_qt i4 q, below_qt i5 (Nat.le_refl _) HLW2.out q⟩, b9, u, hu, j1.qt q, j2, e⟩
  case h0 => exact ⟨B1.out, B2.out, O2.out, O5.out, HB1.out⟩
  case hassign =>
    intro n l k args X hk hi hkb hs hel
    obtain ⟨q, hq, rfl⟩ := hel
    have HQ := Lib.hid hq
    obtain ⟨i1, i2, i3, i4, i5⟩ := hi
    have I1 := Lib.hid i1
    have I2 := Lib.hid i2
    have I3 := Lib.hid i3
    have I4 := Lib.hid i4
    have I5 := Lib.hid i5
    clear i1 i2 i3 i4 i5 hkb hq
    gi_wp2_with fail
    have hb := below_alloc_ (Below.refl X.heap.size X) (.cells #[.int .i64 q.2.x, .int .i64 q.2.y, .int .i64 q.2.s] 34)
    exact ⟨keepsFrom_qt_of hb, KeepB.of_below hb (fun k hk => by rcases hk with hk | hk <;> omega), ⟨I1.out.alloc _, I2.out.alloc _, I3.out.alloc _, I4.out.alloc _, I5.out.trans (hb.mono I5.out.size)⟩, X.heap.size, q, HQ.out, Blk.new _ _ _, hs, rfl⟩
  case hbody =>
    rintro n l k args a' X hk hl ⟨⟨i1, i2, i3, i4, i5⟩, b9, q, hq, j1, j2, rfl⟩ hs
    obtain ⟨qi, u⟩ := q
    have hu := unsL_get hq
    obtain ⟨hku, hue⟩ := List.getElem?_eq_some_iff.1 hu
    dsimp only at hue
    obtain ⟨ux, uy, us, eu, u1, u4, hux, huy⟩ := unsL_in (a := a) (d := d) a1 HL.out HS1.out (List.getElem_mem hku)
    rw [hue] at eu
    subst eu
    have hug : unG (unsL a S) k = ⟨ux, uy, us⟩ := by rw [unG_lt hku]; exact hue
    have hfi := frst_in a1 HL.out HS1.out HKL.out hku
    have hlf := lev_first a1 HL.out HS1.out HKL.out hku
    rw [hug] at hfi hlf
    have hnx : levK (4 * a) K (unsL a S) (k + 1) = layL (4 * a) (levK (4 * a) K (unsL a S) k) ⟨ux, uy, us⟩ (plainBk (kat K (frst (4 * a) ⟨ux, uy, us⟩))) := by show layL _ _ (unG (unsL a S) k) (plainBk (kat K (frst _ (unG (unsL a S) k)))) = _; rw [hug]
    have hfr : frst (4 * a) ⟨ux, uy, us⟩ = uy * (4 * a) + ux := by unfold frst; simp
    obtain ⟨pl, hpl⟩ : ∃ p, p = uy * (4 * a) + ux := ⟨_, rfl⟩
    rw [hfr, ← hpl] at hfi hlf hnx
    have HNX := Lib.hid hnx
    have HPL := Lib.hid hpl
    obtain ⟨L, hL⟩ : ∃ L, L = levK (4 * a) K (unsL a S) k := ⟨_, rfl⟩
    have hLl : L.length = K.length := by rw [hL]; exact levK_length _ _ _ _
    rw [← hL] at i4 hlf HNX
    have HLF := Lib.hid hlf
    have HLL := Lib.hid hLl
    have hpk : pl < K.length := hfi.1
    have p0 : (0 : Int) ≤ (pl : Int) := by omega
    have p1 : (pl : Int) < (K.length : Int) := by omega
    have I1 := Lib.hid i1
    have I2 := Lib.hid i2
    have I3 := Lib.hid i3
    have I4 := Lib.hid i4
    have I5 := Lib.hid i5
    have J1 := Lib.hid j1
    have HL5 := Lib.hid (I4.out.blk_lt g5 rfl).2
    obtain ⟨zA0, zA1, zA2, zA3⟩ := i1.cells4
    obtain ⟨zU0, zU1, zU2⟩ := j1.cells3
    obtain ⟨⟨y0, y1, y2, y3, y4, y5, y6, y7, y8⟩, _⟩ := OwnE.cells9 i4 (p := pl) (by omega)
    obtain ⟨bk, hbk⟩ : ∃ b, b = kat L pl := ⟨_, rfl⟩
    rw [← hbk] at y0 y1 y2 y3 y4 y5 y6 y7 y8
    have HBK := Lib.hid hbk
    clear hq hu hue hug hfi hlf hnx hfr hpl hL hLl i1 i2 i3 i4 i5 j1 hbk hku
    have b1_ : ux ≤ 1024 := by omega
    have b2_ : uy ≤ 1024 := by omega
    refine wpIn_block ?_
    have kq0 := cell_regrown zA0
    have kq1 := cell_regrown zA1
    have kq2 := cell_regrown zA2
    have kq3 := cell_regrown zA3
    have kq4 := cell_regrown zU0
    have kq5 := cell_regrown zU1
    have kq6 := cell_regrown zU2
    have kq7 := cell_regrown y0
    have kq8 := cell_regrown y1
    have kq9 := cell_regrown y2
    have kq10 := cell_regrown y3
    have kq11 := cell_regrown y4
    have kq12 := cell_regrown y5
    have kq13 := cell_regrown y6
    have kq14 := cell_regrown y7
    have kq15 := cell_regrown y8
    clear zA0 zA1 zA2 zA3 zU0 zU1 zU2 y0 y1 y2 y3 y4 y5 y6 y7 y8
    refine wpIn_mono_tail 13 [Brings.one ?b13_0, Brings.one ?b14_1, Brings.one ?b15_2, Brings.one ?b16_3, Brings.one ?b17_4, Brings.one ?b18_5, Brings.one ?b19_6, Brings.one ?b20_7, Brings.one ?b21_8, Brings.one ?b22_9, Brings.one ?b23_10, Brings.one ?b24_11, Brings.one ?b25_12] (by kernel_rfl) (by kernel_rfl) rnd_noOut1 (by kernel_rfl) ?_
    rotate_left 13
    simp only [List.take_succ_cons, List.take_zero, List.drop_succ_cons, List.drop_zero]
    refine wpL_take (k' := 1) rfl (by kernel_rfl) (fun d os => ?t26) ?_
    case t26 => (unfold bringsAt; go_simp; first | with_reducible exact take_one | exact take_one)
    try simp only [Act.put, List.setIfInBounds_toArray, List.set_cons_zero, List.set_cons_succ]
    refine wpL_take (k' := 2) rfl (by kernel_rfl) (fun d os => ?t27) ?_
    case t27 => (unfold bringsAt; go_simp; first | with_reducible exact take_one | exact take_one)
    try simp only [Act.put, List.setIfInBounds_toArray, List.set_cons_zero, List.set_cons_succ]
    refine wpL_take (k' := 3) rfl (by kernel_rfl) (fun d os => ?t28) ?_
    case t28 => (unfold bringsAt; go_simp; first | with_reducible exact take_one | exact take_one)
    try simp only [Act.put, List.setIfInBounds_toArray, List.set_cons_zero, List.set_cons_succ]
    refine wpL_take (k' := 4) rfl (by kernel_rfl) (fun d os => ?t29) ?_
    case t29 => (unfold bringsAt; go_simp; first | with_reducible exact take_one | exact take_one)
    try simp only [Act.put, List.setIfInBounds_toArray, List.set_cons_zero, List.set_cons_succ]
    refine wpL_take (k' := 5) rfl (by kernel_rfl) (fun d os => ?t30) ?_
    case t30 => (unfold bringsAt; go_simp; first | with_reducible exact take_one | exact take_one)
    try simp only [Act.put, List.setIfInBounds_toArray, List.set_cons_zero, List.set_cons_succ]
    refine wpL_take (k' := 6) rfl (by kernel_rfl) (fun d os => ?t31) ?_
    case t31 => (unfold bringsAt; go_simp; first | with_reducible exact take_one | exact take_one)
    try simp only [Act.put, List.setIfInBounds_toArray, List.set_cons_zero, List.set_cons_succ]
    refine wpL_take (k' := 7) rfl (by kernel_rfl) (fun d os => ?t32) ?_
    case t32 => (unfold bringsAt; go_simp; first | with_reducible exact take_one | exact take_one)
    try simp only [Act.put, List.setIfInBounds_toArray, List.set_cons_zero, List.set_cons_succ]
    refine wpL_take (k' := 8) rfl (by kernel_rfl) (fun d os => ?t33) ?_
    case t33 => (unfold bringsAt; go_simp; first | with_reducible exact take_one | exact take_one)
    try simp only [Act.put, List.setIfInBounds_toArray, List.set_cons_zero, List.set_cons_succ]
    refine wpL_take (k' := 9) rfl (by kernel_rfl) (fun d os => ?t34) ?_
    case t34 => (unfold bringsAt; go_simp; first | with_reducible exact take_one | exact take_one)
    try simp only [Act.put, List.setIfInBounds_toArray, List.set_cons_zero, List.set_cons_succ]
    refine wpL_call (k' := 10) rfl (by kernel_rfl) (fun wz hz hd => ?t35) ?_
    case t35 =>
      unfold bringsAt
      go_simp
      have h9 := fplace_c a d (.slice (some ⟨g2, 0, none⟩) S.length c2) (.slice (some ⟨g5, 0, none⟩) K.length c5) ux uy wz a2 b1_ b2_
      rw [← HPL.out] at h9
      refine call_one_as h9 ?_
      rfl
    try simp only [Act.put, List.setIfInBounds_toArray, List.set_cons_zero, List.set_cons_succ]
    refine wpL_take (k' := 11) rfl (by kernel_rfl) (fun d os => ?t36) ?_
    case t36 => (unfold bringsAt; go_simp; first | with_reducible exact take_one | exact take_one)
    try simp only [Act.put, List.setIfInBounds_toArray, List.set_cons_zero, List.set_cons_succ]
    refine wpL_take (k' := 12) rfl (by kernel_rfl) (fun d os => ?t37) ?_
    case t37 => (unfold bringsAt; go_simp; first | with_reducible exact take_one | exact take_one)
    try simp only [Act.put, List.setIfInBounds_toArray, List.set_cons_zero, List.set_cons_succ]
    refine wpL_call (k' := 13) rfl (by kernel_rfl) (fun wz hz hd => ?t38) ?_
    case t38 =>
      unfold bringsAt
      go_simp
      have h9 := fplain_c bk wz
      refine call_one_as h9 ?_
      rfl
    try simp only [Act.put, List.setIfInBounds_toArray, List.set_cons_zero, List.set_cons_succ]
    refine wpL_nil ?_
    intro w21 hH
    have hb' := hH.below
    have HBX := Lib.hid hb'
    clear kq0 kq1 kq2 kq3 kq4 kq5 kq6 kq7 kq8 kq9 kq10 kq11 kq12 kq13 kq14 kq15
    clear hH hb'
    go_wp2_with fail
    refine (flay_c a d (.slice (some ⟨g2, 0, none⟩) S.length c2) g5 K.length c5 w.heap.size L ux uy us (plainBk bk).m (plainBk bk).g (plainBk bk).x0 (plainBk bk).y0 (plainBk bk).x1 (plainBk bk).y1 (plainBk bk).d0 (plainBk bk).d1 (plainBk bk).d2 _ (I4.out.kept HBX.out) (by have := HL5.out; have := HBX.out.size; omega) a2 d2 (by rw [HLL.out]; exact HKL.out) hux huy).mono ?_
    rintro e X2 ⟨⟨v, rfl⟩, ho, hg⟩
    rw [HBK.out, HLF.out] at ho
    have ho' : OwnE EK X2 w.heap.size (.slice (some ⟨g5, 0, none⟩) K.length c5) (levK (4 * a) K (unsL a S) (k + 1)) := by rw [HNX.out]; exact ho
    have O2 := Lib.hid ho'
    have HG := Lib.hid hg
    clear ho ho' hg
    go_wp2_with fail
    have gX : X.grownBy X2 (some g5) := (only_of_below HBX.out _).trans HG.out
    refine ⟨(keepsFrom_qt_of (B := wl.heap.size) HBX.out).trans (keepsFrom_grown HG.out (own_cells (I4.out.kept HBX.out))), ?_, I1.out.grown gX (by intro h; injection h with h; exact n5b h.symm), I2.out.grown gX (by intro h; injection h with h; exact n5b2 h.symm), OwnI.grown I3.out gX (.inr (by simp only [Value.ownBlock]; intro h; injection h with h; exact N52.out h.symm)), O2.out, I5.out.grown gX I5.out.size (fun j hj => by injection hj with hj; rw [← hj]; exact (O5.out.blk_lt g5 rfl).1)⟩
    exact KeepB.of_grown gX (fun j hj => by rcases hj with hj | hj; exact ⟨by omega, by rw [hj]; intro h; injection h with h; exact n5c' h⟩; exact ⟨by rw [hj]; show g2 < _; omega, by rw [hj]; intro h; injection h with h; exact N52.out h⟩)
  case hdone =>
    rintro D X hD ⟨i1, i2, i3, i4, i5⟩ hK
    rw [← unsL_length a S] at i4
    obtain ⟨z0, z1, z2, z3⟩ := i1.cells4
    obtain ⟨q0, q1, q2, q3⟩ := i2.cells4
    obtain ⟨f0, f1, f2, f3⟩ := i2.frozens
    have I2 := Lib.hid i2
    have I3 := Lib.hid i3
    have I4 := Lib.hid i4
    have I5 := Lib.hid i5
    have HD := Lib.hid hK
    clear i1 i2 i3 i4 i5 hK
    go_wp2_with fail
    have hb2 : w.heap.size ≤ w.heap.size + 1 := by omega
    have hrow := ret_four' I2.out (.int .i64 (a : Int)) (.int .i64 (d : Int)) (.slice (some ⟨g2, 0, none⟩) S.length c2) (.slice (some ⟨g5, 0, none⟩) K.length c5)
    have HDD := def_setCell (def_setCell (def_setCell (def_setCell HD.out ⟨w.heap.size + 1, 0, none⟩ (.int .i64 (a : Int))) ⟨w.heap.size + 1, 1, none⟩ (.int .i64 (d : Int))) ⟨w.heap.size + 1, 2, none⟩ (.slice (some ⟨g2, 0, none⟩) S.length c2)) ⟨w.heap.size + 1, 3, none⟩ (.slice (some ⟨g5, 0, none⟩) K.length c5)
    have hO2 := (((I3.out.set_ (i := 0) I2.out (by decide) (.int .i64 (a : Int))).set_ (i := 1) (I2.out.set_ 0 _) (by decide) (.int .i64 (d : Int))).set_ (i := 2) ((I2.out.set_ 0 _).set_ 1 _) (by decide) (.slice (some ⟨g2, 0, none⟩) S.length c2)).set_ (i := 3) (((I2.out.set_ 0 _).set_ 1 _).set_ 2 _) (by decide) (.slice (some ⟨g5, 0, none⟩) K.length c5)
    have hO5 := (((I4.out.set_ (i := 0) I2.out (by decide) (.int .i64 (a : Int))).set_ (i := 1) (I2.out.set_ 0 _) (by decide) (.int .i64 (d : Int))).set_ (i := 2) ((I2.out.set_ 0 _).set_ 1 _) (by decide) (.slice (some ⟨g2, 0, none⟩) S.length c2)).set_ (i := 3) (((I2.out.set_ 0 _).set_ 1 _).set_ 2 _) (by decide) (.slice (some ⟨g5, 0, none⟩) K.length c5)
    have hBB := (((I5.out.setCell (p := ⟨w.heap.size + 1, 0, none⟩) hb2 (.int .i64 (a : Int))).setCell (p := ⟨w.heap.size + 1, 1, none⟩) hb2 (.int .i64 (d : Int))).setCell (p := ⟨w.heap.size + 1, 2, none⟩) hb2 (.slice (some ⟨g2, 0, none⟩) S.length c2)).setCell (p := ⟨w.heap.size + 1, 3, none⟩) hb2 (.slice (some ⟨g5, 0, none⟩) K.length c5)
    refine leave_mark HDD (fun w' q => ⟨_, results_cell_row rfl _ _ (w.heap.size + 1) 25 _ (0, 0) _ rfl (hrow.qt q) Try.underlying25 rfl (by kernel_rfl), ?_⟩)
    exact ⟨_, _, rfl, own_qt hO2 q, own_qt hO5 q, below_qt hBB (Nat.le_refl _) (by have := HLW2.out; omega) q⟩
  case hstop => exact fun _ _ _ _ h _ => h.elim
theorem flevel_c (a d : Int) (S : List Int) (As : Option Addr) (cs : Nat) (K : List Bk) (Ak : Option Addr) (ck : Nat) (w : World) (hS : ReadsI w As S) (hK : ReadsE EK w Ak K) (hn : S.length ≤ 9223372036854775807) (hm : K.length ≤ 9223372036854775807) :
    Calls Try.prog 15 #[flV a d (.slice As S.length cs) (.slice Ak K.length ck)] w (FlRes (levF a d S K).a (levF a d S K).d (levF a d S K).S (levF a d S K).K w) := by
  unfold levF
  cases h1 : okFl a d S K with
  | false => exact flevel_no a d S As cs K Ak ck w hS hK hn hm h1
  | true =>
    obtain ⟨A, D, rfl, rfl, a1, a2, d1, d2, hl, hkl, hS1, hK1⟩ := okFl_nat h1
    obtain ⟨sa, rfl, _⟩ := hS.2 (by rw [hl]; exact Nat.mul_pos a1 d1)
    exact flevel_yes A D S sa cs K Ak ck w hS hK h1

end Go.Proofs.Ytiedjeholmoccaa
