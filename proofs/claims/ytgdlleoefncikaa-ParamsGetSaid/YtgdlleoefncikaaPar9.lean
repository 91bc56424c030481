/- Params: how a source begins. -/
import Derived.Test.YtgdlleoefncikaaPar8
namespace Go.Proofs.Ytgdlleoefncikaa
open Go.RowKit Go.Sort
set_option linter.unusedVariables false
set_option linter.unusedSimpArgs false
theorem results_row_tmp {P : Program} {fn : Func} {p u : Tmp} {ty : TypeId} (h : fn.results = #[.cell p ty, .tmp u]) (tmps : Array Value) (w : World) (g : Nat) (t : TypeId) (cs : Array Value) (fr : Nat × Nat) (d : TypeDesc)
    (hp : tmps.getD p undef = .pointer (some ⟨g, 0, none⟩)) (hg : w.heap[g]? = some (.cells cs t fr))
    (hu : P.underlying ty = some d) (hd : (match d with | .struct _ | .array _ _ => true | _ => false) = true) (hi : (P.info? ty).map (·.size) = some cs.size) :
    (results fn tmps).run P w = .ok (.tuple #[.agg cs, tmps.getD u undef]) w := by
  have hp' : tmps[p]?.getD undef = .pointer (some ⟨g, 0, none⟩) := by simpa using hp
  simp [results, h, hp', asAddr, run_loadVar_row w g t ty cs fr d hg hu hd hi]
theorem ret_four' {w : World} {b : Nat} {t : TypeId} {x0 x1 x2 x3 : Value} (h : Blk w b t #[x0, x1, x2, x3]) (y0 y1 y2 y3 : Value) :
    Blk ((((w.setCell ⟨b, 0, none⟩ y0).setCell ⟨b, 1, none⟩ y1).setCell ⟨b, 2, none⟩ y2).setCell ⟨b, 3, none⟩ y3) b t #[y0, y1, y2, y3] := by
  have h0 : Blk _ b t #[y0, x1, x2, x3] := (h).set_ 0 y0
  have h1 : Blk _ b t #[y0, y1, x2, x3] := (h0).set_ 1 y1
  have h2 : Blk _ b t #[y0, y1, y2, x3] := (h1).set_ 2 y2
  exact (h2).set_ 3 y3
theorem SrcI.kept_ {w w' : World} {B s g : Nat} {xs : List Int} {st : Rs} (h : SrcI w B s g xs st) (hb : Below w.heap.size w w') : SrcI w' B s g xs st := ⟨h.1.below hb h.1.lt, h.2.kept hb⟩
theorem SrcI.lts {w : World} {B s g : Nat} {xs : List Int} {st : Rs} (h : SrcI w B s g xs st) : s < w.heap.size ∧ g < w.heap.size := by
  obtain ⟨h1, rv, _, h2, _⟩ := h
  exact ⟨h1.lt, h2.lt⟩
theorem SrcI.setv {w : World} {B s g b i : Nat} {xs : List Int} {st : Rs} {cs : Array Value} (h : SrcI w B s g xs st) (hb : Blk w b 23 cs) (u : Value) : SrcI (w.setCell ⟨b, i, none⟩ u) B s g xs st :=
  ⟨h.1.far (h.1.ne_ hb (by decide)) u, h.2.qset hb (by decide) (by decide) u⟩
theorem ButQ.setn {Q : Nat → Prop} {w w' : World} (h : ButQ Q w w') {p : Addr} (hp : w.heap.size ≤ p.block) (u : Value) : ButQ Q w (w'.setCell p u) :=
  ⟨h.os, h.tape, h.output, by simpa [World.setCell] using h.size, fun k hk h1 => (Below.heap_setCell _ _ _ _ (by rintro rfl; omega)).trans (h.block k hk h1)⟩
def bgS (T : List Bool) (s : Rs) : Vd × Int × Rs :=
  if (cdS T s).2.e = 0 ∧ (cdS T s).1 ≠ 1 then (⟨0, 0, 0, 0⟩, 281, (cdS T s).2)
  else if (cdS T (cdS T s).2).2.e ≠ 0 then (⟨0, 0, 0, 0⟩, (cdS T (cdS T s).2).2.e, (cdS T (cdS T s).2).2)
  else if 5 ≤ (cdS T (cdS T s).2).1 then (⟨0, 0, 0, 0⟩, 281, (cdS T (cdS T s).2).2)
  else (baseV (cdS T (cdS T s).2).1.toNat, 0, (cdS T (cdS T s).2).2)
theorem cdS_bd (T : List Bool) (s : Rs) : 0 ≤ (cdS T s).1 ∧ (cdS T s).2.a ≤ s.a + 63 ∧ (cdS T s).2.o ≤ s.o + 63 := by
  unfold cdS
  split
  · exact ⟨Int.le_refl _, Nat.le_add_right _ _, Nat.le_add_right _ _⟩
  · have h1 := goG_place T 31 s.a 1
    have h2 := goG_bd31 T s.a
    have h3 := ovL_bd T s.a s.o ((goG T s.a 1 31).2.2 - s.a)
    dsimp only
    exact ⟨h2.1, by omega, by omega⟩
theorem Blk.frozens {w : World} {g : Nat} {t : TypeId} {cs : Array Value} (h : Blk w g t cs) : w.frozen? ⟨g, 0, none⟩ = false ∧ w.frozen? ⟨g, 1, none⟩ = false ∧ w.frozen? ⟨g, 2, none⟩ = false ∧ w.frozen? ⟨g, 3, none⟩ = false := ⟨h.frozen 0, h.frozen 1, h.frozen 2, h.frozen 3⟩
set_option maxRecDepth 100000 in
set_option maxHeartbeats 6400000 in
theorem sbegun_a (B s g : Nat) (xs : List Int) (st s1 s2 : Rs) (v1 n : Int) (w : World) (h : SrcI w B s g xs st) (h8 : Byte8 xs) (hl : xs.length ≤ 1000000) (ha : st.a ≤ 400000) (ho : st.o ≤ 400000) (hc1 : cdS (unp xs) st = (v1, s1)) (he : s1.e = 0) (hv : v1 ≠ 1) : Calls Try.prog 30 #[.pointer (some ⟨s, 0, none⟩)] w fun e w' => e = .returned (.tuple #[vid 0 0 0 0, .int .i64 281]) ∧ SrcI w' B s g xs s1 ∧ ButQ (fun j => j = s ∨ j = g) w w' := by
  have h9 := fun w h => scode_c B s g xs st w h h8 hl (by omega) (by omega)
  have hb1 := cdS_bd (unp xs) st
  rw [hc1] at h9 hb1
  dsimp only at h9 hb1
  have H9 := Lib.hid h9
  clear h9 hc1
  have SR := Lib.hid (h.kept_ (below_alloc_ (Below.refl _ _) (.cells #[.int .i64 0, .int .i64 0, .int .i64 0, .int .i64 0] 23)))
  have hlt := h.lts
  have HQ := Lib.hid (ButQ.of_below (Q := fun j => j = s ∨ j = g) (below_alloc_ (Below.refl w.heap.size w) (.cells #[.int .i64 0, .int .i64 0, .int .i64 0, .int .i64 0] 23)))
  have BR := Lib.hid (Blk.new w 23 #[.int .i64 0, .int .i64 0, .int .i64 0, .int .i64 0])
  clear h
  obtain ⟨s1a, s1o, s1e⟩ := s1
  dsimp only at *
  subst he
  have t1 : (v1 != 1) = true := by simpa using hv
  go_enter Try.func30, Try.ntmps30
  go_wp2_with fail
  generalize w.alloc (.cells #[.int .i64 0, .int .i64 0, .int .i64 0, .int .i64 0] 23) = w1 at *
  refine (H9.out _ SR.out).mono ?_
  rintro e w2 ⟨rfl, hs_, hq_⟩
  have SR := Lib.hid hs_
  have HQ := Lib.hid (HQ.out.trans hq_)
  have BR := Lib.hid (hq_.blk BR.out (by rintro (h | h) <;> omega))
  clear hs_ hq_
  have z0 := SR.out.1.cell 0
  have z1 := SR.out.1.cell 1
  have f0 := BR.out.frozens
  obtain ⟨f0, f1, f2, f3⟩ := f0
  obtain ⟨y0, y1, y2, y3⟩ := BR.out.cells4
  go_wp2_with fail
  have g8 := ret_four' BR.out (.int .i64 0) (.int .i64 0) (.int .i64 0) (.int .i64 0)
  refine bodyPost_ret (results_row_tmp rfl _ _ w.heap.size 23 #[.int .i64 0, .int .i64 0, .int .i64 0, .int .i64 0] (0, 0) _ rfl g8 Try.underlying23 rfl (by kernel_rfl)) rfl ?_
  exact ⟨rfl, ((((SR.out.setv (i := 0) BR.out (.int .i64 0)).setv (i := 1) (BR.out.set_ 0 (.int .i64 0)) (.int .i64 0)).setv (i := 2) ((BR.out.set_ 0 (.int .i64 0)).set_ 1 (.int .i64 0)) (.int .i64 0)).setv (i := 3) (((BR.out.set_ 0 (.int .i64 0)).set_ 1 (.int .i64 0)).set_ 2 (.int .i64 0)) (.int .i64 0)), ((((HQ.out.setn (p := ⟨w.heap.size, 0, none⟩) (Nat.le_refl _) (.int .i64 0)).setn (p := ⟨w.heap.size, 1, none⟩) (Nat.le_refl _) (.int .i64 0)).setn (p := ⟨w.heap.size, 2, none⟩) (Nat.le_refl _) (.int .i64 0)).setn (p := ⟨w.heap.size, 3, none⟩) (Nat.le_refl _) (.int .i64 0))⟩
set_option maxRecDepth 100000 in
set_option maxHeartbeats 6400000 in
theorem sbegun_e (B s g : Nat) (xs : List Int) (st s1 s2 : Rs) (v1 n : Int) (w : World) (h : SrcI w B s g xs st) (h8 : Byte8 xs) (hl : xs.length ≤ 1000000) (ha : st.a ≤ 400000) (ho : st.o ≤ 400000) (hc1 : cdS (unp xs) st = (v1, s1)) (hc2 : cdS (unp xs) s1 = (n, s2)) (he1 : s1.e ≠ 0) (he2 : s2.e ≠ 0) : Calls Try.prog 30 #[.pointer (some ⟨s, 0, none⟩)] w fun e w' => e = .returned (.tuple #[vid 0 0 0 0, .int .i64 s2.e]) ∧ SrcI w' B s g xs s2 ∧ ButQ (fun j => j = s ∨ j = g) w w' := by
  have h9 := fun w h => scode_c B s g xs st w h h8 hl (by omega) (by omega)
  have hb1 := cdS_bd (unp xs) st
  rw [hc1] at h9 hb1
  dsimp only at h9 hb1
  have H9 := Lib.hid h9
  clear h9 hc1
  have h9 := fun w h => scode_c B s g xs s1 w h h8 hl (by omega) (by omega)
  have hb2 := cdS_bd (unp xs) s1
  rw [hc2] at h9 hb2
  dsimp only at h9 hb2
  have H10 := Lib.hid h9
  clear h9 hc2
  have SR := Lib.hid (h.kept_ (below_alloc_ (Below.refl _ _) (.cells #[.int .i64 0, .int .i64 0, .int .i64 0, .int .i64 0] 23)))
  have hlt := h.lts
  have HQ := Lib.hid (ButQ.of_below (Q := fun j => j = s ∨ j = g) (below_alloc_ (Below.refl w.heap.size w) (.cells #[.int .i64 0, .int .i64 0, .int .i64 0, .int .i64 0] 23)))
  have BR := Lib.hid (Blk.new w 23 #[.int .i64 0, .int .i64 0, .int .i64 0, .int .i64 0])
  clear h
  have t1 : (s1.e == 0) = false := by simpa using he1
  have t2 : (s2.e != 0) = true := by simpa using he2
  go_enter Try.func30, Try.ntmps30
  go_wp2_with fail
  generalize w.alloc (.cells #[.int .i64 0, .int .i64 0, .int .i64 0, .int .i64 0] 23) = w1 at *
  refine (H9.out _ SR.out).mono ?_
  rintro e w2 ⟨rfl, hs_, hq_⟩
  have SR := Lib.hid hs_
  have HQ := Lib.hid (HQ.out.trans hq_)
  have BR := Lib.hid (hq_.blk BR.out (by rintro (h | h) <;> omega))
  clear hs_ hq_
  have z0 := SR.out.1.cell 0
  have z1 := SR.out.1.cell 1
  go_wp2_with fail
  clear z0 z1
  refine (ptable_c _).mono ?_
  rintro e w3 ⟨rfl, hb'⟩
  have SR := Lib.hid (SR.out.kept_ hb')
  have BR := Lib.hid (BR.out.below hb' BR.out.lt)
  have HQ := Lib.hid (HQ.out.trans (ButQ.of_below hb'))
  clear hb'
  go_upto_region 5 with (refine wpList_store_new rfl _ _ _ rfl 42 _ tabV rfl rfl rfl (by kernel_rfl) tab_one ?_)
  have hl5_ := SR.out.lts
  have hba := below_alloc_ (Below.refl w3.heap.size w3) (.cells tabV 42)
  have SR := Lib.hid (SR.out.kept_ hba)
  have BR := Lib.hid (BR.out.below hba BR.out.lt)
  have HQ := Lib.hid (HQ.out.trans (ButQ.of_below hba))
  have B5 := Lib.hid (Blk.new w3 42 tabV)
  have hl5 : s < w3.heap.size ∧ g < w3.heap.size := hl5_
  clear hba
  generalize w3.alloc (.cells tabV 42) = w4 at *
  go_wp2_with fail
  refine (H10.out _ SR.out).mono ?_
  rintro e w5 ⟨rfl, hs_, hq_⟩
  have SR := Lib.hid hs_
  have HQ := Lib.hid (HQ.out.trans hq_)
  have BR := Lib.hid (hq_.blk BR.out (by rintro (h | h) <;> omega))
  have B5 := Lib.hid (hq_.blk B5.out (by rintro (h | h) <;> omega))
  clear hs_ hq_
  have z0 := SR.out.1.cell 0
  have z1 := SR.out.1.cell 1
  go_upto_region 7 with fail
  clear z0 z1
  have HS := Lib.hid SR.out.1
  obtain ⟨f0, f1, f2, f3⟩ := BR.out.frozens
  have HS0 := HS
  have BR0 := BR
  have HS := Lib.hid ((HS.out).drew)
  have BR := Lib.hid ((BR.out).drew)
  refine wp_region_held_drew (S := (fun w' => w'.cell? ⟨s, 0, none⟩ = some (.pointer (some ⟨g, 0, none⟩)) ∧ w'.cell? ⟨s, 1, none⟩ = some (.int .i64 s2.e))) (by kernel_rfl) ?hS0 (fun hHeld => ?_)
  case hS0 => exact ⟨(HS.out).cell 0, (HS.out).cell 1⟩
  refine wpAnyH_take (i := 0) (oi := ⟨some 28, _, _, _, _, _⟩) (v := ?v1) rfl (by kernel_rfl) (by kernel_rfl) (by kernel_rfl) (fun _ _ _ h => h) (Or.inl ⟨by rfl, ?h1⟩) (by assumption) ?r1
  case h1 => (intro w hSw; (try dsimp only at hSw); go_simp; try with_reducible rfl)
  try simp only [Act.put, List.setIfInBounds_toArray, List.set_cons_zero, List.set_cons_succ]
  refine wpAnyH_take (i := 1) (oi := ⟨some 29, _, _, _, _, _⟩) (v := ?v2) rfl (by kernel_rfl) (by kernel_rfl) (by kernel_rfl) (fun _ _ _ h => h) (Or.inl ⟨by rfl, ?h2⟩) (by assumption) ?r2
  case h2 => (intro w hSw; (try dsimp only at hSw); go_simp; try with_reducible rfl)
  try simp only [Act.put, List.setIfInBounds_toArray, List.set_cons_zero, List.set_cons_succ]
  refine wpAnyH_take (i := 2) (oi := ⟨some 30, _, _, _, _, _⟩) (v := ?v3) rfl (by kernel_rfl) (by kernel_rfl) (by kernel_rfl) (fun _ _ _ h => h) (Or.inl ⟨by rfl, ?h3⟩) (by assumption) ?r3
  case h3 => (intro w hSw; (try dsimp only at hSw); go_simp; try with_reducible rfl)
  try simp only [Act.put, List.setIfInBounds_toArray, List.set_cons_zero, List.set_cons_succ]
  refine wpAnyH_take (i := 3) (oi := ⟨some 31, _, _, _, _, _⟩) (v := ?v4) rfl (by kernel_rfl) (by kernel_rfl) (by kernel_rfl) (fun _ _ _ h => h) (Or.inl ⟨by rfl, ?h4⟩) (by assumption) ?r4
  case h4 => (intro w hSw; (try dsimp only at hSw); go_simp; try with_reducible rfl)
  try simp only [Act.put, List.setIfInBounds_toArray, List.set_cons_zero, List.set_cons_succ]
  refine wpAnyH_take (i := 4) (oi := ⟨some 32, _, _, _, _, _⟩) (v := ?v5) rfl (by kernel_rfl) (by kernel_rfl) (by kernel_rfl) (fun _ _ _ h => h) (Or.inl ⟨by rfl, ?h5⟩) (by assumption) ?r5
  case h5 => (intro w hSw; (try dsimp only at hSw); go_simp; try with_reducible rfl)
  try simp only [Act.put, List.setIfInBounds_toArray, List.set_cons_zero, List.set_cons_succ]
  refine wpAnyH_ready (rs := [5]) (by kernel_rfl) (by simp) ?_
  refine (AllReadyH.cons (o := ⟨none, _, _, _, _, _⟩) rfl (fun K hK => ?_) AllReadyH.nil)
  obtain ⟨f0, f1, f2, f3⟩ := BR0.out.frozens
  obtain ⟨y0, y1, y2, y3⟩ := BR0.out.cells4
  go_simp
  clear f0 f1 f2 f3 y0 y1 y2 y3
  have SR := Lib.hid (SrcI.kept_ ((((SR.out.setv (i := 0) BR0.out (.int .i64 0)).setv (i := 1) (BR0.out.set_ 0 (.int .i64 0)) (.int .i64 0)).setv (i := 2) ((BR0.out.set_ 0 (.int .i64 0)).set_ 1 (.int .i64 0)) (.int .i64 0)).setv (i := 3) (((BR0.out.set_ 0 (.int .i64 0)).set_ 1 (.int .i64 0)).set_ 2 (.int .i64 0)) (.int .i64 0)) (Below.drew (Below.refl _ _)))
  have HQ := Lib.hid (ButQ.trans ((((HQ.out.setn (p := ⟨w.heap.size, 0, none⟩) (Nat.le_refl _) (.int .i64 0)).setn (p := ⟨w.heap.size, 1, none⟩) (Nat.le_refl _) (.int .i64 0)).setn (p := ⟨w.heap.size, 2, none⟩) (Nat.le_refl _) (.int .i64 0)).setn (p := ⟨w.heap.size, 3, none⟩) (Nat.le_refl _) (.int .i64 0)) (ButQ.of_below (Below.drew (Below.refl _ _))))
  have HS := Lib.hid (Blk.drew ((((HS0.out.far (p := ⟨w.heap.size, 0, none⟩) (HS0.out.ne_ BR0.out (by decide)) (.int .i64 0)).far (p := ⟨w.heap.size, 1, none⟩) (HS0.out.ne_ BR0.out (by decide)) (.int .i64 0)).far (p := ⟨w.heap.size, 2, none⟩) (HS0.out.ne_ BR0.out (by decide)) (.int .i64 0)).far (p := ⟨w.heap.size, 3, none⟩) (HS0.out.ne_ BR0.out (by decide)) (.int .i64 0)))
  have BR := Lib.hid (Blk.drew (ret_four' BR0.out (.int .i64 0) (.int .i64 0) (.int .i64 0) (.int .i64 0)))
  clear HS0 BR0
  generalize ((((w5.setCell ⟨w.heap.size, 0, none⟩ (.int .i64 0)).setCell ⟨w.heap.size, 1, none⟩ (.int .i64 0)).setCell ⟨w.heap.size, 2, none⟩ (.int .i64 0)).setCell ⟨w.heap.size, 3, none⟩ (.int .i64 0)).drew = w6 at *
  refine hK.out _ _ ?hS6 (fun hHeld => ?_)
  case hS6 => exact ⟨(HS.out).cell 0, (HS.out).cell 1⟩
  clear hK K
  try simp only [Act.put, List.setIfInBounds_toArray, List.set_cons_zero, List.set_cons_succ]
  refine wpAnyH_take (i := 6) (oi := ⟨some 3, _, _, _, _, _⟩) (v := ?v7) rfl (by kernel_rfl) (by kernel_rfl) (by kernel_rfl) (fun _ _ _ h => h) (Or.inl ⟨by rfl, ?h7⟩) (by assumption) ?r7
  case h7 => (intro w hSw; (try dsimp only at hSw); go_simp; try with_reducible rfl)
  try simp only [Act.put, List.setIfInBounds_toArray, List.set_cons_zero, List.set_cons_succ]
  refine wpAnyH_done (by kernel_rfl) ?_ _
  clear hHeld
  go_wp2_with fail
  refine bodyPost_ret (results_row_tmp rfl _ _ w.heap.size 23 #[.int .i64 0, .int .i64 0, .int .i64 0, .int .i64 0] (0, 0) _ rfl BR.out Try.underlying23 rfl (by kernel_rfl)) rfl ?_
  exact ⟨rfl, SR.out, HQ.out⟩
set_option maxRecDepth 100000 in
set_option maxHeartbeats 6400000 in
theorem sbegun_2 (B s g : Nat) (xs : List Int) (st s1 s2 : Rs) (v1 n : Int) (w : World) (h : SrcI w B s g xs st) (h8 : Byte8 xs) (hl : xs.length ≤ 1000000) (ha : st.a ≤ 400000) (ho : st.o ≤ 400000) (hc1 : cdS (unp xs) st = (v1, s1)) (hc2 : cdS (unp xs) s1 = (n, s2)) (he1 : s1.e = 0) (hv : v1 = 1) (he2 : s2.e ≠ 0) : Calls Try.prog 30 #[.pointer (some ⟨s, 0, none⟩)] w fun e w' => e = .returned (.tuple #[vid 0 0 0 0, .int .i64 s2.e]) ∧ SrcI w' B s g xs s2 ∧ ButQ (fun j => j = s ∨ j = g) w w' := by
  have h9 := fun w h => scode_c B s g xs st w h h8 hl (by omega) (by omega)
  have hb1 := cdS_bd (unp xs) st
  rw [hc1] at h9 hb1
  dsimp only at h9 hb1
  have H9 := Lib.hid h9
  clear h9 hc1
  have h9 := fun w h => scode_c B s g xs s1 w h h8 hl (by omega) (by omega)
  have hb2 := cdS_bd (unp xs) s1
  rw [hc2] at h9 hb2
  dsimp only at h9 hb2
  have H10 := Lib.hid h9
  clear h9 hc2
  have SR := Lib.hid (h.kept_ (below_alloc_ (Below.refl _ _) (.cells #[.int .i64 0, .int .i64 0, .int .i64 0, .int .i64 0] 23)))
  have hlt := h.lts
  have HQ := Lib.hid (ButQ.of_below (Q := fun j => j = s ∨ j = g) (below_alloc_ (Below.refl w.heap.size w) (.cells #[.int .i64 0, .int .i64 0, .int .i64 0, .int .i64 0] 23)))
  have BR := Lib.hid (Blk.new w 23 #[.int .i64 0, .int .i64 0, .int .i64 0, .int .i64 0])
  clear h
  have q1 := he1
  have q2 := he2
  obtain ⟨s1a, s1o, s1e⟩ := s1
  obtain ⟨s2a, s2o, s2e⟩ := s2
  dsimp only at *
  subst hv
  subst he1
  clear q1 q2
  have t2 : (s2e != 0) = true := by simpa using he2
  go_enter Try.func30, Try.ntmps30
  go_wp2_with fail
  generalize w.alloc (.cells #[.int .i64 0, .int .i64 0, .int .i64 0, .int .i64 0] 23) = w1 at *
  refine (H9.out _ SR.out).mono ?_
  rintro e w2 ⟨rfl, hs_, hq_⟩
  have SR := Lib.hid hs_
  have HQ := Lib.hid (HQ.out.trans hq_)
  have BR := Lib.hid (hq_.blk BR.out (by rintro (h | h) <;> omega))
  clear hs_ hq_
  have z0 := SR.out.1.cell 0
  have z1 := SR.out.1.cell 1
  go_wp2_with fail
  clear z0 z1
  refine (ptable_c _).mono ?_
  rintro e w3 ⟨rfl, hb'⟩
  have SR := Lib.hid (SR.out.kept_ hb')
  have BR := Lib.hid (BR.out.below hb' BR.out.lt)
  have HQ := Lib.hid (HQ.out.trans (ButQ.of_below hb'))
  clear hb'
  go_upto_region 5 with (refine wpList_store_new rfl _ _ _ rfl 42 _ tabV rfl rfl rfl (by kernel_rfl) tab_one ?_)
  have hl5_ := SR.out.lts
  have hba := below_alloc_ (Below.refl w3.heap.size w3) (.cells tabV 42)
  have SR := Lib.hid (SR.out.kept_ hba)
  have BR := Lib.hid (BR.out.below hba BR.out.lt)
  have HQ := Lib.hid (HQ.out.trans (ButQ.of_below hba))
  have B5 := Lib.hid (Blk.new w3 42 tabV)
  have hl5 : s < w3.heap.size ∧ g < w3.heap.size := hl5_
  clear hba
  generalize w3.alloc (.cells tabV 42) = w4 at *
  go_wp2_with fail
  refine (H10.out _ SR.out).mono ?_
  rintro e w5 ⟨rfl, hs_, hq_⟩
  have SR := Lib.hid hs_
  have HQ := Lib.hid (HQ.out.trans hq_)
  have BR := Lib.hid (hq_.blk BR.out (by rintro (h | h) <;> omega))
  have B5 := Lib.hid (hq_.blk B5.out (by rintro (h | h) <;> omega))
  clear hs_ hq_
  have z0 := SR.out.1.cell 0
  have z1 := SR.out.1.cell 1
  go_upto_region 7 with fail
  clear z0 z1
  have HS := Lib.hid SR.out.1
  obtain ⟨f0, f1, f2, f3⟩ := BR.out.frozens
  have HS0 := HS
  have BR0 := BR
  have HS := Lib.hid ((HS.out).drew)
  have BR := Lib.hid ((BR.out).drew)
  refine wp_region_held_drew (S := (fun w' => w'.cell? ⟨s, 0, none⟩ = some (.pointer (some ⟨g, 0, none⟩)) ∧ w'.cell? ⟨s, 1, none⟩ = some (.int .i64 s2e))) (by kernel_rfl) ?hS0 (fun hHeld => ?_)
  case hS0 => exact ⟨(HS.out).cell 0, (HS.out).cell 1⟩
  refine wpAnyH_take (i := 0) (oi := ⟨some 28, _, _, _, _, _⟩) (v := ?v8) rfl (by kernel_rfl) (by kernel_rfl) (by kernel_rfl) (fun _ _ _ h => h) (Or.inl ⟨by rfl, ?h8⟩) (by assumption) ?r8
  case h8 => (intro w hSw; (try dsimp only at hSw); go_simp; try with_reducible rfl)
  try simp only [Act.put, List.setIfInBounds_toArray, List.set_cons_zero, List.set_cons_succ]
  refine wpAnyH_take (i := 1) (oi := ⟨some 29, _, _, _, _, _⟩) (v := ?v9) rfl (by kernel_rfl) (by kernel_rfl) (by kernel_rfl) (fun _ _ _ h => h) (Or.inl ⟨by rfl, ?h9⟩) (by assumption) ?r9
  case h9 => (intro w hSw; (try dsimp only at hSw); go_simp; try with_reducible rfl)
  try simp only [Act.put, List.setIfInBounds_toArray, List.set_cons_zero, List.set_cons_succ]
  refine wpAnyH_take (i := 2) (oi := ⟨some 30, _, _, _, _, _⟩) (v := ?v10) rfl (by kernel_rfl) (by kernel_rfl) (by kernel_rfl) (fun _ _ _ h => h) (Or.inl ⟨by rfl, ?h10⟩) (by assumption) ?r10
  case h10 => (intro w hSw; (try dsimp only at hSw); go_simp; try with_reducible rfl)
  try simp only [Act.put, List.setIfInBounds_toArray, List.set_cons_zero, List.set_cons_succ]
  refine wpAnyH_take (i := 3) (oi := ⟨some 31, _, _, _, _, _⟩) (v := ?v11) rfl (by kernel_rfl) (by kernel_rfl) (by kernel_rfl) (fun _ _ _ h => h) (Or.inl ⟨by rfl, ?h11⟩) (by assumption) ?r11
  case h11 => (intro w hSw; (try dsimp only at hSw); go_simp; try with_reducible rfl)
  try simp only [Act.put, List.setIfInBounds_toArray, List.set_cons_zero, List.set_cons_succ]
  refine wpAnyH_take (i := 4) (oi := ⟨some 32, _, _, _, _, _⟩) (v := ?v12) rfl (by kernel_rfl) (by kernel_rfl) (by kernel_rfl) (fun _ _ _ h => h) (Or.inl ⟨by rfl, ?h12⟩) (by assumption) ?r12
  case h12 => (intro w hSw; (try dsimp only at hSw); go_simp; try with_reducible rfl)
  try simp only [Act.put, List.setIfInBounds_toArray, List.set_cons_zero, List.set_cons_succ]
  refine wpAnyH_ready (rs := [5]) (by kernel_rfl) (by simp) ?_
  refine (AllReadyH.cons (o := ⟨none, _, _, _, _, _⟩) rfl (fun K hK => ?_) AllReadyH.nil)
  obtain ⟨f0, f1, f2, f3⟩ := BR0.out.frozens
  obtain ⟨y0, y1, y2, y3⟩ := BR0.out.cells4
  go_simp
  clear f0 f1 f2 f3 y0 y1 y2 y3
  have SR := Lib.hid (SrcI.kept_ ((((SR.out.setv (i := 0) BR0.out (.int .i64 0)).setv (i := 1) (BR0.out.set_ 0 (.int .i64 0)) (.int .i64 0)).setv (i := 2) ((BR0.out.set_ 0 (.int .i64 0)).set_ 1 (.int .i64 0)) (.int .i64 0)).setv (i := 3) (((BR0.out.set_ 0 (.int .i64 0)).set_ 1 (.int .i64 0)).set_ 2 (.int .i64 0)) (.int .i64 0)) (Below.drew (Below.refl _ _)))
  have HQ := Lib.hid (ButQ.trans ((((HQ.out.setn (p := ⟨w.heap.size, 0, none⟩) (Nat.le_refl _) (.int .i64 0)).setn (p := ⟨w.heap.size, 1, none⟩) (Nat.le_refl _) (.int .i64 0)).setn (p := ⟨w.heap.size, 2, none⟩) (Nat.le_refl _) (.int .i64 0)).setn (p := ⟨w.heap.size, 3, none⟩) (Nat.le_refl _) (.int .i64 0)) (ButQ.of_below (Below.drew (Below.refl _ _))))
  have HS := Lib.hid (Blk.drew ((((HS0.out.far (p := ⟨w.heap.size, 0, none⟩) (HS0.out.ne_ BR0.out (by decide)) (.int .i64 0)).far (p := ⟨w.heap.size, 1, none⟩) (HS0.out.ne_ BR0.out (by decide)) (.int .i64 0)).far (p := ⟨w.heap.size, 2, none⟩) (HS0.out.ne_ BR0.out (by decide)) (.int .i64 0)).far (p := ⟨w.heap.size, 3, none⟩) (HS0.out.ne_ BR0.out (by decide)) (.int .i64 0)))
  have BR := Lib.hid (Blk.drew (ret_four' BR0.out (.int .i64 0) (.int .i64 0) (.int .i64 0) (.int .i64 0)))
  clear HS0 BR0
  generalize ((((w5.setCell ⟨w.heap.size, 0, none⟩ (.int .i64 0)).setCell ⟨w.heap.size, 1, none⟩ (.int .i64 0)).setCell ⟨w.heap.size, 2, none⟩ (.int .i64 0)).setCell ⟨w.heap.size, 3, none⟩ (.int .i64 0)).drew = w6 at *
  refine hK.out _ _ ?hS13 (fun hHeld => ?_)
  case hS13 => exact ⟨(HS.out).cell 0, (HS.out).cell 1⟩
  clear hK K
  try simp only [Act.put, List.setIfInBounds_toArray, List.set_cons_zero, List.set_cons_succ]
  refine wpAnyH_take (i := 6) (oi := ⟨some 3, _, _, _, _, _⟩) (v := ?v14) rfl (by kernel_rfl) (by kernel_rfl) (by kernel_rfl) (fun _ _ _ h => h) (Or.inl ⟨by rfl, ?h14⟩) (by assumption) ?r14
  case h14 => (intro w hSw; (try dsimp only at hSw); go_simp; try with_reducible rfl)
  try simp only [Act.put, List.setIfInBounds_toArray, List.set_cons_zero, List.set_cons_succ]
  refine wpAnyH_done (by kernel_rfl) ?_ _
  clear hHeld
  go_wp2_with fail
  refine bodyPost_ret (results_row_tmp rfl _ _ w.heap.size 23 #[.int .i64 0, .int .i64 0, .int .i64 0, .int .i64 0] (0, 0) _ rfl BR.out Try.underlying23 rfl (by kernel_rfl)) rfl ?_
  exact ⟨rfl, SR.out, HQ.out⟩
set_option maxRecDepth 100000 in
set_option maxHeartbeats 6400000 in
theorem sbegun_3 (B s g : Nat) (xs : List Int) (st s1 s2 : Rs) (v1 n : Int) (w : World) (h : SrcI w B s g xs st) (h8 : Byte8 xs) (hl : xs.length ≤ 1000000) (ha : st.a ≤ 400000) (ho : st.o ≤ 400000) (hc1 : cdS (unp xs) st = (v1, s1)) (hc2 : cdS (unp xs) s1 = (n, s2)) (he1 : s1.e = 0) (hv : v1 = 1) (he2 : s2.e = 0) (hn : 5 ≤ n) : Calls Try.prog 30 #[.pointer (some ⟨s, 0, none⟩)] w fun e w' => e = .returned (.tuple #[vid 0 0 0 0, .int .i64 281]) ∧ SrcI w' B s g xs s2 ∧ ButQ (fun j => j = s ∨ j = g) w w' := by
  have h9 := fun w h => scode_c B s g xs st w h h8 hl (by omega) (by omega)
  have hb1 := cdS_bd (unp xs) st
  rw [hc1] at h9 hb1
  dsimp only at h9 hb1
  have H9 := Lib.hid h9
  clear h9 hc1
  have h9 := fun w h => scode_c B s g xs s1 w h h8 hl (by omega) (by omega)
  have hb2 := cdS_bd (unp xs) s1
  rw [hc2] at h9 hb2
  dsimp only at h9 hb2
  have H10 := Lib.hid h9
  clear h9 hc2
  have SR := Lib.hid (h.kept_ (below_alloc_ (Below.refl _ _) (.cells #[.int .i64 0, .int .i64 0, .int .i64 0, .int .i64 0] 23)))
  have hlt := h.lts
  have HQ := Lib.hid (ButQ.of_below (Q := fun j => j = s ∨ j = g) (below_alloc_ (Below.refl w.heap.size w) (.cells #[.int .i64 0, .int .i64 0, .int .i64 0, .int .i64 0] 23)))
  have BR := Lib.hid (Blk.new w 23 #[.int .i64 0, .int .i64 0, .int .i64 0, .int .i64 0])
  clear h
  have q1 := he1
  have q2 := he2
  obtain ⟨s1a, s1o, s1e⟩ := s1
  obtain ⟨s2a, s2o, s2e⟩ := s2
  dsimp only at *
  subst hv
  subst he1
  clear q1 q2
  subst he2
  go_enter Try.func30, Try.ntmps30
  go_wp2_with fail
  generalize w.alloc (.cells #[.int .i64 0, .int .i64 0, .int .i64 0, .int .i64 0] 23) = w1 at *
  refine (H9.out _ SR.out).mono ?_
  rintro e w2 ⟨rfl, hs_, hq_⟩
  have SR := Lib.hid hs_
  have HQ := Lib.hid (HQ.out.trans hq_)
  have BR := Lib.hid (hq_.blk BR.out (by rintro (h | h) <;> omega))
  clear hs_ hq_
  have z0 := SR.out.1.cell 0
  have z1 := SR.out.1.cell 1
  go_wp2_with fail
  clear z0 z1
  refine (ptable_c _).mono ?_
  rintro e w3 ⟨rfl, hb'⟩
  have SR := Lib.hid (SR.out.kept_ hb')
  have BR := Lib.hid (BR.out.below hb' BR.out.lt)
  have HQ := Lib.hid (HQ.out.trans (ButQ.of_below hb'))
  clear hb'
  go_upto_region 5 with (refine wpList_store_new rfl _ _ _ rfl 42 _ tabV rfl rfl rfl (by kernel_rfl) tab_one ?_)
  have hl5_ := SR.out.lts
  have hba := below_alloc_ (Below.refl w3.heap.size w3) (.cells tabV 42)
  have SR := Lib.hid (SR.out.kept_ hba)
  have BR := Lib.hid (BR.out.below hba BR.out.lt)
  have HQ := Lib.hid (HQ.out.trans (ButQ.of_below hba))
  have B5 := Lib.hid (Blk.new w3 42 tabV)
  have hl5 : s < w3.heap.size ∧ g < w3.heap.size := hl5_
  clear hba
  generalize w3.alloc (.cells tabV 42) = w4 at *
  go_wp2_with fail
  refine (H10.out _ SR.out).mono ?_
  rintro e w5 ⟨rfl, hs_, hq_⟩
  have SR := Lib.hid hs_
  have HQ := Lib.hid (HQ.out.trans hq_)
  have BR := Lib.hid (hq_.blk BR.out (by rintro (h | h) <;> omega))
  have B5 := Lib.hid (hq_.blk B5.out (by rintro (h | h) <;> omega))
  clear hs_ hq_
  have n5 : decide (5 ≤ n) = true := by simp; omega
  have z0 := SR.out.1.cell 0
  have z1 := SR.out.1.cell 1
  have f0 := BR.out.frozens
  obtain ⟨f0, f1, f2, f3⟩ := f0
  obtain ⟨y0, y1, y2, y3⟩ := BR.out.cells4
  go_wp2_with fail
  have g8 := ret_four' BR.out (.int .i64 0) (.int .i64 0) (.int .i64 0) (.int .i64 0)
  refine bodyPost_ret (results_row_tmp rfl _ _ w.heap.size 23 #[.int .i64 0, .int .i64 0, .int .i64 0, .int .i64 0] (0, 0) _ rfl g8 Try.underlying23 rfl (by kernel_rfl)) rfl ?_
  exact ⟨rfl, ((((SR.out.setv (i := 0) BR.out (.int .i64 0)).setv (i := 1) (BR.out.set_ 0 (.int .i64 0)) (.int .i64 0)).setv (i := 2) ((BR.out.set_ 0 (.int .i64 0)).set_ 1 (.int .i64 0)) (.int .i64 0)).setv (i := 3) (((BR.out.set_ 0 (.int .i64 0)).set_ 1 (.int .i64 0)).set_ 2 (.int .i64 0)) (.int .i64 0)), ((((HQ.out.setn (p := ⟨w.heap.size, 0, none⟩) (Nat.le_refl _) (.int .i64 0)).setn (p := ⟨w.heap.size, 1, none⟩) (Nat.le_refl _) (.int .i64 0)).setn (p := ⟨w.heap.size, 2, none⟩) (Nat.le_refl _) (.int .i64 0)).setn (p := ⟨w.heap.size, 3, none⟩) (Nat.le_refl _) (.int .i64 0))⟩
set_option maxRecDepth 100000 in
set_option maxHeartbeats 6400000 in
theorem sbegun_4 (B s g : Nat) (xs : List Int) (st s1 s2 : Rs) (v1 n : Int) (w : World) (h : SrcI w B s g xs st) (h8 : Byte8 xs) (hl : xs.length ≤ 1000000) (ha : st.a ≤ 400000) (ho : st.o ≤ 400000) (hc1 : cdS (unp xs) st = (v1, s1)) (hc2 : cdS (unp xs) s1 = (n, s2)) (he1 : s1.e = 0) (hv : v1 = 1) (he2 : s2.e = 0) (hn : n < 5) : Calls Try.prog 30 #[.pointer (some ⟨s, 0, none⟩)] w fun e w' => e = .returned (.tuple #[vdV (baseV n.toNat), .int .i64 0]) ∧ SrcI w' B s g xs s2 ∧ ButQ (fun j => j = s ∨ j = g) w w' := by
  have h9 := fun w h => scode_c B s g xs st w h h8 hl (by omega) (by omega)
  have hb1 := cdS_bd (unp xs) st
  rw [hc1] at h9 hb1
  dsimp only at h9 hb1
  have H9 := Lib.hid h9
  clear h9 hc1
  have h9 := fun w h => scode_c B s g xs s1 w h h8 hl (by omega) (by omega)
  have hb2 := cdS_bd (unp xs) s1
  rw [hc2] at h9 hb2
  dsimp only at h9 hb2
  have H10 := Lib.hid h9
  clear h9 hc2
  have SR := Lib.hid (h.kept_ (below_alloc_ (Below.refl _ _) (.cells #[.int .i64 0, .int .i64 0, .int .i64 0, .int .i64 0] 23)))
  have hlt := h.lts
  have HQ := Lib.hid (ButQ.of_below (Q := fun j => j = s ∨ j = g) (below_alloc_ (Below.refl w.heap.size w) (.cells #[.int .i64 0, .int .i64 0, .int .i64 0, .int .i64 0] 23)))
  have BR := Lib.hid (Blk.new w 23 #[.int .i64 0, .int .i64 0, .int .i64 0, .int .i64 0])
  clear h
  have q1 := he1
  have q2 := he2
  obtain ⟨s1a, s1o, s1e⟩ := s1
  obtain ⟨s2a, s2o, s2e⟩ := s2
  dsimp only at *
  subst hv
  subst he1
  clear q1 q2
  subst he2
  obtain ⟨k, rfl⟩ := Int.eq_ofNat_of_zero_le hb2.1
  have k5 : k < 5 := by omega
  simp only [Int.toNat_natCast]
  obtain ⟨b, hb⟩ : ∃ b, b = baseV k := ⟨_, rfl⟩
  rw [← hb]
  have HBK := Lib.hid hb
  clear hb
  go_enter Try.func30, Try.ntmps30
  go_wp2_with fail
  generalize w.alloc (.cells #[.int .i64 0, .int .i64 0, .int .i64 0, .int .i64 0] 23) = w1 at *
  refine (H9.out _ SR.out).mono ?_
  rintro e w2 ⟨rfl, hs_, hq_⟩
  have SR := Lib.hid hs_
  have HQ := Lib.hid (HQ.out.trans hq_)
  have BR := Lib.hid (hq_.blk BR.out (by rintro (h | h) <;> omega))
  clear hs_ hq_
  have z0 := SR.out.1.cell 0
  have z1 := SR.out.1.cell 1
  go_wp2_with fail
  clear z0 z1
  refine (ptable_c _).mono ?_
  rintro e w3 ⟨rfl, hb'⟩
  have SR := Lib.hid (SR.out.kept_ hb')
  have BR := Lib.hid (BR.out.below hb' BR.out.lt)
  have HQ := Lib.hid (HQ.out.trans (ButQ.of_below hb'))
  clear hb'
  go_upto_region 5 with (refine wpList_store_new rfl _ _ _ rfl 42 _ tabV rfl rfl rfl (by kernel_rfl) tab_one ?_)
  have hl5_ := SR.out.lts
  have hba := below_alloc_ (Below.refl w3.heap.size w3) (.cells tabV 42)
  have SR := Lib.hid (SR.out.kept_ hba)
  have BR := Lib.hid (BR.out.below hba BR.out.lt)
  have HQ := Lib.hid (HQ.out.trans (ButQ.of_below hba))
  have B5 := Lib.hid (Blk.new w3 42 tabV)
  have hl5 : s < w3.heap.size ∧ g < w3.heap.size := hl5_
  clear hba
  generalize w3.alloc (.cells tabV 42) = w4 at *
  go_wp2_with fail
  refine (H10.out _ SR.out).mono ?_
  rintro e w5 ⟨rfl, hs_, hq_⟩
  have SR := Lib.hid hs_
  have HQ := Lib.hid (HQ.out.trans hq_)
  have BR := Lib.hid (hq_.blk BR.out (by rintro (h | h) <;> omega))
  have B5 := Lib.hid (hq_.blk B5.out (by rintro (h | h) <;> omega))
  clear hs_ hq_
  obtain ⟨y0_, y1_, y2_, y3_⟩ := tab_cells B5.out k5
  rw [← HBK.out] at y0_ y1_ y2_ y3_
  have n5 : decide (5 ≤ (k : Int)) = false := by simp; omega
  have n6 : (k : Int) < 5 := by omega
  have n7 : (0 : Int) ≤ (k : Int) := by omega
  skip
  have z0 := SR.out.1.cell 0
  have z1 := SR.out.1.cell 1
  have f0 := BR.out.frozens
  obtain ⟨f0, f1, f2, f3⟩ := f0
  obtain ⟨y0, y1, y2, y3⟩ := BR.out.cells4
  go_wp2_with fail
  have g8 := ret_four' BR.out (.int .i64 b.W) (.int .i64 b.H) (.int .i64 b.C) (.int .i64 b.B)
  refine bodyPost_ret (results_row_tmp rfl _ _ w.heap.size 23 #[.int .i64 b.W, .int .i64 b.H, .int .i64 b.C, .int .i64 b.B] (0, 0) _ rfl g8 Try.underlying23 rfl (by kernel_rfl)) rfl ?_
  exact ⟨rfl, ((((SR.out.setv (i := 0) BR.out (.int .i64 b.W)).setv (i := 1) (BR.out.set_ 0 (.int .i64 b.W)) (.int .i64 b.H)).setv (i := 2) ((BR.out.set_ 0 (.int .i64 b.W)).set_ 1 (.int .i64 b.H)) (.int .i64 b.C)).setv (i := 3) (((BR.out.set_ 0 (.int .i64 b.W)).set_ 1 (.int .i64 b.H)).set_ 2 (.int .i64 b.C)) (.int .i64 b.B)), ((((HQ.out.setn (p := ⟨w.heap.size, 0, none⟩) (Nat.le_refl _) (.int .i64 b.W)).setn (p := ⟨w.heap.size, 1, none⟩) (Nat.le_refl _) (.int .i64 b.H)).setn (p := ⟨w.heap.size, 2, none⟩) (Nat.le_refl _) (.int .i64 b.C)).setn (p := ⟨w.heap.size, 3, none⟩) (Nat.le_refl _) (.int .i64 b.B))⟩
theorem cdS_stays {T : List Bool} {s : Rs} (h : s.e ≠ 0) : cdS T s = (0, s) := by unfold cdS; rw [if_pos h]
theorem sbegun_c (B s g : Nat) (xs : List Int) (st : Rs) (w : World) (h : SrcI w B s g xs st) (h8 : Byte8 xs) (hl : xs.length ≤ 1000000) (ha : st.a ≤ 400000) (ho : st.o ≤ 400000) :
    Calls Try.prog 30 #[.pointer (some ⟨s, 0, none⟩)] w fun e w' => e = .returned (.tuple #[vdV (bgS (unp xs) st).1, .int .i64 (bgS (unp xs) st).2.1]) ∧ SrcI w' B s g xs (bgS (unp xs) st).2.2 ∧ ButQ (fun j => j = s ∨ j = g) w w' := by
  unfold bgS
  rcases hc1 : cdS (unp xs) st with ⟨v1, s1⟩
  dsimp only
  rcases hc2 : cdS (unp xs) s1 with ⟨n, s2⟩
  dsimp only
  by_cases he1 : s1.e = 0
  · by_cases hv : v1 = 1
    · rw [if_neg (fun h => h.2 hv)]
      by_cases he2 : s2.e = 0
      · rw [if_neg (fun h => h he2)]
        by_cases hn : 5 ≤ n
        · rw [if_pos hn]
          exact sbegun_3 B s g xs st s1 s2 v1 n w h h8 hl ha ho hc1 hc2 he1 hv he2 hn
        · rw [if_neg hn]
          exact sbegun_4 B s g xs st s1 s2 v1 n w h h8 hl ha ho hc1 hc2 he1 hv he2 (by omega)
      · rw [if_pos he2]
        exact sbegun_2 B s g xs st s1 s2 v1 n w h h8 hl ha ho hc1 hc2 he1 hv he2
    · rw [if_pos ⟨he1, hv⟩]
      exact sbegun_a B s g xs st s1 s2 v1 n w h h8 hl ha ho hc1 he1 hv
  · have he2 : s2.e ≠ 0 := by
      have := cdS_stays (T := unp xs) he1
      rw [hc2] at this
      injection this with _ this
      rw [this]
      exact he1
    rw [if_neg (fun h => he1 h.1), if_pos he2]
    exact sbegun_e B s g xs st s1 s2 v1 n w h h8 hl ha ho hc1 hc2 he1 he2

end Go.Proofs.Ytgdlleoefncikaa
