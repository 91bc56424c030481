/- Params: which groups of a video are other than a base's. -/
import Derived.Test.YtgdlleoefncikaaPar2
import Derived.Test.YtgdlleoefncikaaMono4
import Derived.Deep.DeepCutAuto
import Derived.Deep.RegionWith
import Derived.StillTailTactics
import Derived.IntWalk
namespace Go.Proofs.Ytgdlleoefncikaa
open Go.RowKit
set_option linter.unusedVariables false
set_option linter.unusedSimpArgs false

theorem run_size {t : TypeId} {n : Nat} (h : (Try.prog.info? t).map (·.size) = some n) (w : World) : (sizeOf t).run Try.prog w = .ok n w := by
  cases hq : Try.prog.info? t with
  | none => simp [hq] at h
  | some i =>
    have : i.size = n := by simpa [hq] using h
    simp [sizeOf, typeInfo, hq, this]
theorem run_agg {t : TypeId} {d : TypeDesc} (h : Try.prog.underlying t = some d) (w : World) : (isAgg t).run Try.prog w = .ok (match d with | .struct _ | .array _ _ => true | _ => false) w := by
  unfold isAgg
  rw [Sem.run_bind, run_underlying h w]
  cases d <;> simp
theorem idx_grp (a b c : Value) (w : World) : (Instr.index 46 (.agg #[a, b, c]) (.int .i64 0)).run Try.prog w = .ok a w ∧
    (Instr.index 46 (.agg #[a, b, c]) (.int .i64 1)).run Try.prog w = .ok b w ∧ (Instr.index 46 (.agg #[a, b, c]) (.int .i64 2)).run Try.prog w = .ok c w := by
  refine ⟨?_, ?_, ?_⟩ <;>
    simp [Instr.index, run_underlying Try.underlying46, asIntOf, go_sem, run_size (t := 45) (n := 1) (by kernel_rfl), run_agg Try.underlying45]
theorem idx_bool (a b c : Value) (w : World) : (Instr.index 49 (.agg #[a, b, c]) (.int .i64 0)).run Try.prog w = .ok a w ∧
    (Instr.index 49 (.agg #[a, b, c]) (.int .i64 1)).run Try.prog w = .ok b w ∧ (Instr.index 49 (.agg #[a, b, c]) (.int .i64 2)).run Try.prog w = .ok c w := by
  refine ⟨?_, ?_, ?_⟩ <;>
    simp [Instr.index, run_underlying Try.underlying49, asIntOf, go_sem, run_size (t := 4) (n := 1) (by kernel_rfl), run_agg Try.underlying4]
theorem idx_tab (w : World) : (Instr.index 42 (.agg tabV) (.int .i64 0)).run Try.prog w = .ok (vid 16 16 2 8) w ∧ (Instr.index 42 (.agg tabV) (.int .i64 1)).run Try.prog w = .ok (vid 32 24 2 8) w ∧
    (Instr.index 42 (.agg tabV) (.int .i64 2)).run Try.prog w = .ok (vid 48 32 1 8) w ∧ (Instr.index 42 (.agg tabV) (.int .i64 3)).run Try.prog w = .ok (vid 64 48 1 10) w ∧
    (Instr.index 42 (.agg tabV) (.int .i64 4)).run Try.prog w = .ok (vid 128 96 0 16) w := by
  refine ⟨?_, ?_, ?_, ?_, ?_⟩ <;>
    simp [Instr.index, run_underlying Try.underlying42, asIntOf, go_sem, run_size (t := 23) (n := 4) (by kernel_rfl), run_agg Try.underlying23]

theorem wpStill_skip_eq {P : Program} {ops : Array Oper} {w : World} {Q : Act → Prop} {a : Act} {o : Oper} {rest : List Oper} (hw : Region.wanted o (yielded ops a.tmps) = false) :
    wpStill P ops w Q (o :: rest) a = wpStill P ops w Q rest (a.put o.dst undef) := by
  rw [wpStill, if_neg (by rw [hw]; decide)]
set_option maxRecDepth 100000 in
set_option maxHeartbeats 6400000 in
theorem pothers_e (W H C B H' C' B' : Int) (w : World) :
    Calls Try.prog 20 #[vid W H C B, vid W H' C' B'] w fun e w' => e = .returned (.agg #[.bool (H != H'), .bool (C != C'), .bool (B != B')]) ∧ Below w.heap.size w w' := by
  have HB := Lib.hid (Below.refl w.heap.size w)
  have eW : (W != W) = false := by simp
  have HW := Lib.hid eW
  clear eW
  go_enter Try.func20, Try.ntmps20
  go_wp2_with fail
  have HB := Lib.hid (below_alloc_ (below_alloc_ (below_alloc_ (below_alloc_ (HB.out) (.cells #[.int .i64 W, .int .i64 H, .int .i64 C, .int .i64 B] 23)) (.cells #[.int .i64 W, .int .i64 H', .int .i64 C', .int .i64 B'] 23)) (.cells #[.bool false, .bool false, .bool false] 49)) (.cells #[.bool false, .bool false, .bool false] 49))
  have hzw : ((((w.alloc (.cells #[.int .i64 W, .int .i64 H, .int .i64 C, .int .i64 B] 23)).alloc (.cells #[.int .i64 W, .int .i64 H', .int .i64 C', .int .i64 B'] 23)).alloc (.cells #[.bool false, .bool false, .bool false] 49)).alloc (.cells #[.bool false, .bool false, .bool false] 49)).heap.size = w.heap.size + 4 := by simp only [World.size_alloc]
  have B0 := (((Blk.new (w) 23 #[.int .i64 W, .int .i64 H, .int .i64 C, .int .i64 B]).alloc (.cells #[.int .i64 W, .int .i64 H', .int .i64 C', .int .i64 B'] 23)).alloc (.cells #[.bool false, .bool false, .bool false] 49)).alloc (.cells #[.bool false, .bool false, .bool false] 49)
  skip
  have B0 := Lib.hid B0
  have B1 := ((Blk.new (w.alloc (.cells #[.int .i64 W, .int .i64 H, .int .i64 C, .int .i64 B] 23)) 23 #[.int .i64 W, .int .i64 H', .int .i64 C', .int .i64 B']).alloc (.cells #[.bool false, .bool false, .bool false] 49)).alloc (.cells #[.bool false, .bool false, .bool false] 49)
  rw [show (w.alloc (.cells #[.int .i64 W, .int .i64 H, .int .i64 C, .int .i64 B] 23)).heap.size = w.heap.size + 1 by simp only [World.size_alloc]] at B1
  have B1 := Lib.hid B1
  have BR := (Blk.new ((w.alloc (.cells #[.int .i64 W, .int .i64 H, .int .i64 C, .int .i64 B] 23)).alloc (.cells #[.int .i64 W, .int .i64 H', .int .i64 C', .int .i64 B'] 23)) 49 #[.bool false, .bool false, .bool false]).alloc (.cells #[.bool false, .bool false, .bool false] 49)
  rw [show ((w.alloc (.cells #[.int .i64 W, .int .i64 H, .int .i64 C, .int .i64 B] 23)).alloc (.cells #[.int .i64 W, .int .i64 H', .int .i64 C', .int .i64 B'] 23)).heap.size = w.heap.size + 1 + 1 by simp only [World.size_alloc]] at BR
  have BR := Lib.hid BR
  have BO := Blk.new (((w.alloc (.cells #[.int .i64 W, .int .i64 H, .int .i64 C, .int .i64 B] 23)).alloc (.cells #[.int .i64 W, .int .i64 H', .int .i64 C', .int .i64 B'] 23)).alloc (.cells #[.bool false, .bool false, .bool false] 49)) 49 #[.bool false, .bool false, .bool false]
  rw [show (((w.alloc (.cells #[.int .i64 W, .int .i64 H, .int .i64 C, .int .i64 B] 23)).alloc (.cells #[.int .i64 W, .int .i64 H', .int .i64 C', .int .i64 B'] 23)).alloc (.cells #[.bool false, .bool false, .bool false] 49)).heap.size = w.heap.size + 1 + 1 + 1 by simp only [World.size_alloc]] at BO
  have BO := Lib.hid BO
  generalize (((w.alloc (.cells #[.int .i64 W, .int .i64 H, .int .i64 C, .int .i64 B] 23)).alloc (.cells #[.int .i64 W, .int .i64 H', .int .i64 C', .int .i64 B'] 23)).alloc (.cells #[.bool false, .bool false, .bool false] 49)).alloc (.cells #[.bool false, .bool false, .bool false] 49) = w1 at *
  have HZ := Lib.hid hzw
  clear hzw
  refine (pgroups_c _ _).mono ?_
  rintro e w2 ⟨g1, g2, g3, rfl, _, _, _, q1, q2, q3, hb'⟩
  have HB := Lib.hid ((HB.out).trans (hb'.mono (HB.out).size))
  have B0 := Lib.hid ((B0.out).below hb' (B0.out).lt)
  have B1 := Lib.hid ((B1.out).below hb' (B1.out).lt)
  have BR := Lib.hid ((BR.out).below hb' (BR.out).lt)
  have BO := Lib.hid ((BO.out).below hb' (BO.out).lt)
  have G1 := Lib.hid q1
  have G2 := Lib.hid q2
  have G3 := Lib.hid q3
  clear q1 q2 q3 hb'
  go_wp2_with fail
  refine (pgroups_c _ _).mono ?_
  rintro e w3 ⟨h1, h2, h3, rfl, _, _, _, q1, q2, q3, hb'⟩
  have HB := Lib.hid ((HB.out).trans (hb'.mono (HB.out).size))
  have B0 := Lib.hid ((B0.out).below hb' (B0.out).lt)
  have B1 := Lib.hid ((B1.out).below hb' (B1.out).lt)
  have BR := Lib.hid ((BR.out).below hb' (BR.out).lt)
  have BO := Lib.hid ((BO.out).below hb' (BO.out).lt)
  have G1 := Lib.hid ((G1.out).below hb' (G1.out).lt)
  have G2 := Lib.hid ((G2.out).below hb' (G2.out).lt)
  have G3 := Lib.hid ((G3.out).below hb' (G3.out).lt)
  have H1 := Lib.hid q1
  have H2 := Lib.hid q2
  have H3 := Lib.hid q3
  clear q1 q2 q3 hb'
  go_upto_region 3 with fail
  have HB := Lib.hid (below_alloc_ (below_alloc_ (HB.out) (.cells #[.slice (some ⟨g1, 0, none⟩) 2 2, .slice (some ⟨g2, 0, none⟩) 1 1, .slice (some ⟨g3, 0, none⟩) 1 1] 46)) (.cells #[.slice (some ⟨h1, 0, none⟩) 2 2, .slice (some ⟨h2, 0, none⟩) 1 1, .slice (some ⟨h3, 0, none⟩) 1 1] 46))
  have B0 := Lib.hid (((B0.out).alloc (.cells #[.slice (some ⟨g1, 0, none⟩) 2 2, .slice (some ⟨g2, 0, none⟩) 1 1, .slice (some ⟨g3, 0, none⟩) 1 1] 46)).alloc (.cells #[.slice (some ⟨h1, 0, none⟩) 2 2, .slice (some ⟨h2, 0, none⟩) 1 1, .slice (some ⟨h3, 0, none⟩) 1 1] 46))
  have B1 := Lib.hid (((B1.out).alloc (.cells #[.slice (some ⟨g1, 0, none⟩) 2 2, .slice (some ⟨g2, 0, none⟩) 1 1, .slice (some ⟨g3, 0, none⟩) 1 1] 46)).alloc (.cells #[.slice (some ⟨h1, 0, none⟩) 2 2, .slice (some ⟨h2, 0, none⟩) 1 1, .slice (some ⟨h3, 0, none⟩) 1 1] 46))
  have BR := Lib.hid (((BR.out).alloc (.cells #[.slice (some ⟨g1, 0, none⟩) 2 2, .slice (some ⟨g2, 0, none⟩) 1 1, .slice (some ⟨g3, 0, none⟩) 1 1] 46)).alloc (.cells #[.slice (some ⟨h1, 0, none⟩) 2 2, .slice (some ⟨h2, 0, none⟩) 1 1, .slice (some ⟨h3, 0, none⟩) 1 1] 46))
  have BO := Lib.hid (((BO.out).alloc (.cells #[.slice (some ⟨g1, 0, none⟩) 2 2, .slice (some ⟨g2, 0, none⟩) 1 1, .slice (some ⟨g3, 0, none⟩) 1 1] 46)).alloc (.cells #[.slice (some ⟨h1, 0, none⟩) 2 2, .slice (some ⟨h2, 0, none⟩) 1 1, .slice (some ⟨h3, 0, none⟩) 1 1] 46))
  have G1 := Lib.hid (((G1.out).alloc (.cells #[.slice (some ⟨g1, 0, none⟩) 2 2, .slice (some ⟨g2, 0, none⟩) 1 1, .slice (some ⟨g3, 0, none⟩) 1 1] 46)).alloc (.cells #[.slice (some ⟨h1, 0, none⟩) 2 2, .slice (some ⟨h2, 0, none⟩) 1 1, .slice (some ⟨h3, 0, none⟩) 1 1] 46))
  have G2 := Lib.hid (((G2.out).alloc (.cells #[.slice (some ⟨g1, 0, none⟩) 2 2, .slice (some ⟨g2, 0, none⟩) 1 1, .slice (some ⟨g3, 0, none⟩) 1 1] 46)).alloc (.cells #[.slice (some ⟨h1, 0, none⟩) 2 2, .slice (some ⟨h2, 0, none⟩) 1 1, .slice (some ⟨h3, 0, none⟩) 1 1] 46))
  have G3 := Lib.hid (((G3.out).alloc (.cells #[.slice (some ⟨g1, 0, none⟩) 2 2, .slice (some ⟨g2, 0, none⟩) 1 1, .slice (some ⟨g3, 0, none⟩) 1 1] 46)).alloc (.cells #[.slice (some ⟨h1, 0, none⟩) 2 2, .slice (some ⟨h2, 0, none⟩) 1 1, .slice (some ⟨h3, 0, none⟩) 1 1] 46))
  have H1 := Lib.hid (((H1.out).alloc (.cells #[.slice (some ⟨g1, 0, none⟩) 2 2, .slice (some ⟨g2, 0, none⟩) 1 1, .slice (some ⟨g3, 0, none⟩) 1 1] 46)).alloc (.cells #[.slice (some ⟨h1, 0, none⟩) 2 2, .slice (some ⟨h2, 0, none⟩) 1 1, .slice (some ⟨h3, 0, none⟩) 1 1] 46))
  have H2 := Lib.hid (((H2.out).alloc (.cells #[.slice (some ⟨g1, 0, none⟩) 2 2, .slice (some ⟨g2, 0, none⟩) 1 1, .slice (some ⟨g3, 0, none⟩) 1 1] 46)).alloc (.cells #[.slice (some ⟨h1, 0, none⟩) 2 2, .slice (some ⟨h2, 0, none⟩) 1 1, .slice (some ⟨h3, 0, none⟩) 1 1] 46))
  have H3 := Lib.hid (((H3.out).alloc (.cells #[.slice (some ⟨g1, 0, none⟩) 2 2, .slice (some ⟨g2, 0, none⟩) 1 1, .slice (some ⟨g3, 0, none⟩) 1 1] 46)).alloc (.cells #[.slice (some ⟨h1, 0, none⟩) 2 2, .slice (some ⟨h2, 0, none⟩) 1 1, .slice (some ⟨h3, 0, none⟩) 1 1] 46))
  have hzw : ((w3.alloc (.cells #[.slice (some ⟨g1, 0, none⟩) 2 2, .slice (some ⟨g2, 0, none⟩) 1 1, .slice (some ⟨g3, 0, none⟩) 1 1] 46)).alloc (.cells #[.slice (some ⟨h1, 0, none⟩) 2 2, .slice (some ⟨h2, 0, none⟩) 1 1, .slice (some ⟨h3, 0, none⟩) 1 1] 46)).heap.size = w3.heap.size + 2 := by simp only [World.size_alloc]
  have B6 := (Blk.new (w3) 46 #[.slice (some ⟨g1, 0, none⟩) 2 2, .slice (some ⟨g2, 0, none⟩) 1 1, .slice (some ⟨g3, 0, none⟩) 1 1]).alloc (.cells #[.slice (some ⟨h1, 0, none⟩) 2 2, .slice (some ⟨h2, 0, none⟩) 1 1, .slice (some ⟨h3, 0, none⟩) 1 1] 46)
  skip
  have B6 := Lib.hid B6
  have BT := Blk.new (w3.alloc (.cells #[.slice (some ⟨g1, 0, none⟩) 2 2, .slice (some ⟨g2, 0, none⟩) 1 1, .slice (some ⟨g3, 0, none⟩) 1 1] 46)) 46 #[.slice (some ⟨h1, 0, none⟩) 2 2, .slice (some ⟨h2, 0, none⟩) 1 1, .slice (some ⟨h3, 0, none⟩) 1 1]
  rw [show (w3.alloc (.cells #[.slice (some ⟨g1, 0, none⟩) 2 2, .slice (some ⟨g2, 0, none⟩) 1 1, .slice (some ⟨g3, 0, none⟩) 1 1] 46)).heap.size = w3.heap.size + 1 by simp only [World.size_alloc]] at BT
  have BT := Lib.hid BT
  generalize (w3.alloc (.cells #[.slice (some ⟨g1, 0, none⟩) 2 2, .slice (some ⟨g2, 0, none⟩) 1 1, .slice (some ⟨g3, 0, none⟩) 1 1] 46)).alloc (.cells #[.slice (some ⟨h1, 0, none⟩) 2 2, .slice (some ⟨h2, 0, none⟩) 1 1, .slice (some ⟨h3, 0, none⟩) 1 1] 46) = w4 at *
  clear hzw
  obtain ⟨z0, z1, z2⟩ := B6.out.cells3
  go_wp2_with fail
  clear z0 z1 z2 B6
  have i0 := Lib.hid (fun a b c w => (idx_grp a b c w).1)
  have i1 := Lib.hid (fun a b c w => (idx_grp a b c w).2.1)
  have i2 := Lib.hid (fun a b c w => (idx_grp a b c w).2.2)
  refine wp_loop_rounds 4 ?_
  rw [rounds_succ]
  have ii := i0.out
  go_wp2_with fail
  clear ii
  refine wp_loop_rounds 3 ?_
  rw [rounds_succ]
  have zB00 := B0.out.cell 0
  have zB01 := B0.out.cell 1
  have zB02 := B0.out.cell 2
  have zB03 := B0.out.cell 3
  have zB10 := B1.out.cell 0
  have zB11 := B1.out.cell 1
  have zB12 := B1.out.cell 2
  have zB13 := B1.out.cell 3
  have zBO0 := BO.out.cell 0
  have zBO1 := BO.out.cell 1
  have zBO2 := BO.out.cell 2
  have zBT0 := BT.out.cell 0
  have zBT1 := BT.out.cell 1
  have zBT2 := BT.out.cell 2
  have zG10 := G1.out.cell 0
  have zG11 := G1.out.cell 1
  have zG20 := G2.out.cell 0
  have zG30 := G3.out.cell 0
  have zH10 := H1.out.cell 0
  have zH11 := H1.out.cell 1
  have zH20 := H2.out.cell 0
  have zH30 := H3.out.cell 0
  go_upto_region 9 with fail
  have hw := HW.out
  refine wp_region_still_tail 19 (by kernel_rfl) (by kernel_rfl) ?_
  repeat still_step
  change wpList _ _ _ _ _ w4.drew
  clear zB00 zB01 zB02 zB03 zB10 zB11 zB12 zB13 zBO0 zBO1 zBO2 zBT0 zBT1 zBT2 zG10 zG11 zG20 zG30 zH10 zH11 zH20 zH30
  clear hw
  obtain ⟨w5, hwd⟩ : ∃ q, q = w4.drew := ⟨_, rfl⟩
  rw [← hwd]
  have HB := Lib.hid (show Below w.heap.size w w5 from by rw [hwd]; exact Below.drew HB.out)
  have B0 := Lib.hid (show Blk w5 (w.heap.size) 23 _ from by rw [hwd]; exact B0.out)
  have B1 := Lib.hid (show Blk w5 (w.heap.size + 1) 23 _ from by rw [hwd]; exact B1.out)
  have BR := Lib.hid (show Blk w5 (w.heap.size + 1 + 1) 49 _ from by rw [hwd]; exact BR.out)
  have BO := Lib.hid (show Blk w5 (w.heap.size + 1 + 1 + 1) 49 _ from by rw [hwd]; exact BO.out)
  have G1 := Lib.hid (show Blk w5 (g1) 57 _ from by rw [hwd]; exact G1.out)
  have G2 := Lib.hid (show Blk w5 (g2) 57 _ from by rw [hwd]; exact G2.out)
  have G3 := Lib.hid (show Blk w5 (g3) 57 _ from by rw [hwd]; exact G3.out)
  have H1 := Lib.hid (show Blk w5 (h1) 57 _ from by rw [hwd]; exact H1.out)
  have H2 := Lib.hid (show Blk w5 (h2) 57 _ from by rw [hwd]; exact H2.out)
  have H3 := Lib.hid (show Blk w5 (h3) 57 _ from by rw [hwd]; exact H3.out)
  have BT := Lib.hid (show Blk w5 (_) 46 _ from by rw [hwd]; exact BT.out)
  clear hwd
  have zB00 := B0.out.cell 0
  have zB01 := B0.out.cell 1
  have zB02 := B0.out.cell 2
  have zB03 := B0.out.cell 3
  have zB10 := B1.out.cell 0
  have zB11 := B1.out.cell 1
  have zB12 := B1.out.cell 2
  have zB13 := B1.out.cell 3
  have zBO0 := BO.out.cell 0
  have zBO1 := BO.out.cell 1
  have zBO2 := BO.out.cell 2
  have zBT0 := BT.out.cell 0
  have zBT1 := BT.out.cell 1
  have zBT2 := BT.out.cell 2
  have zG10 := G1.out.cell 0
  have zG11 := G1.out.cell 1
  have zG20 := G2.out.cell 0
  have zG30 := G3.out.cell 0
  have zH10 := H1.out.cell 0
  have zH11 := H1.out.cell 1
  have zH20 := H2.out.cell 0
  have zH30 := H3.out.cell 0
  have ff := BO.out.frozen 0
  go_upto_region 10 with fail
  clear ff
  clear zB00 zB01 zB02 zB03 zB10 zB11 zB12 zB13 zBO0 zBO1 zBO2 zBT0 zBT1 zBT2 zG10 zG11 zG20 zG30 zH10 zH11 zH20 zH30
  have HB := Lib.hid (HB.out.setCell (p := ⟨w.heap.size + 1 + 1 + 1, 0, none⟩) (by dsimp only; omega) (.bool false))
  have B0 := Lib.hid (B0.out.far (p := ⟨w.heap.size + 1 + 1 + 1, 0, none⟩) (B0.out.ne_ BO.out (by decide)) (.bool false))
  have B1 := Lib.hid (B1.out.far (p := ⟨w.heap.size + 1 + 1 + 1, 0, none⟩) (B1.out.ne_ BO.out (by decide)) (.bool false))
  have BR := Lib.hid (BR.out.far (p := ⟨w.heap.size + 1 + 1 + 1, 0, none⟩) (by dsimp only; omega) (.bool false))
  have G1 := Lib.hid (G1.out.far (p := ⟨w.heap.size + 1 + 1 + 1, 0, none⟩) (G1.out.ne_ BO.out (by decide)) (.bool false))
  have G2 := Lib.hid (G2.out.far (p := ⟨w.heap.size + 1 + 1 + 1, 0, none⟩) (G2.out.ne_ BO.out (by decide)) (.bool false))
  have G3 := Lib.hid (G3.out.far (p := ⟨w.heap.size + 1 + 1 + 1, 0, none⟩) (G3.out.ne_ BO.out (by decide)) (.bool false))
  have H1 := Lib.hid (H1.out.far (p := ⟨w.heap.size + 1 + 1 + 1, 0, none⟩) (H1.out.ne_ BO.out (by decide)) (.bool false))
  have H2 := Lib.hid (H2.out.far (p := ⟨w.heap.size + 1 + 1 + 1, 0, none⟩) (H2.out.ne_ BO.out (by decide)) (.bool false))
  have H3 := Lib.hid (H3.out.far (p := ⟨w.heap.size + 1 + 1 + 1, 0, none⟩) (H3.out.ne_ BO.out (by decide)) (.bool false))
  have BT := Lib.hid (BT.out.far (p := ⟨w.heap.size + 1 + 1 + 1, 0, none⟩) (BT.out.ne_ BO.out (by decide)) (.bool false))
  have hs_ : Blk (w5.setCell ⟨w.heap.size + 1 + 1 + 1, 0, none⟩ (.bool false)) (w.heap.size + 1 + 1 + 1) 49 #[.bool false, .bool false, .bool false] := BO.out.set_ 0 (.bool false)
  have BO := Lib.hid hs_
  clear hs_
  generalize w5.setCell ⟨w.heap.size + 1 + 1 + 1, 0, none⟩ (.bool false) = w6 at *
  go_wp2_with fail
  rw [rounds_succ]
  have zB00 := B0.out.cell 0
  have zB01 := B0.out.cell 1
  have zB02 := B0.out.cell 2
  have zB03 := B0.out.cell 3
  have zB10 := B1.out.cell 0
  have zB11 := B1.out.cell 1
  have zB12 := B1.out.cell 2
  have zB13 := B1.out.cell 3
  have zBO0 := BO.out.cell 0
  have zBO1 := BO.out.cell 1
  have zBO2 := BO.out.cell 2
  have zBT0 := BT.out.cell 0
  have zBT1 := BT.out.cell 1
  have zBT2 := BT.out.cell 2
  have zG10 := G1.out.cell 0
  have zG11 := G1.out.cell 1
  have zG20 := G2.out.cell 0
  have zG30 := G3.out.cell 0
  have zH10 := H1.out.cell 0
  have zH11 := H1.out.cell 1
  have zH20 := H2.out.cell 0
  have zH30 := H3.out.cell 0
  go_upto_region 9 with fail
  have hw := HW.out
  refine wp_region_still_tail 19 (by kernel_rfl) (by kernel_rfl) ?_
  repeat still_step
  change wpList _ _ _ _ _ w6.drew
  clear zB00 zB01 zB02 zB03 zB10 zB11 zB12 zB13 zBO0 zBO1 zBO2 zBT0 zBT1 zBT2 zG10 zG11 zG20 zG30 zH10 zH11 zH20 zH30
  clear hw
  obtain ⟨w7, hwd⟩ : ∃ q, q = w6.drew := ⟨_, rfl⟩
  rw [← hwd]
  have HB := Lib.hid (show Below w.heap.size w w7 from by rw [hwd]; exact Below.drew HB.out)
  have B0 := Lib.hid (show Blk w7 (w.heap.size) 23 _ from by rw [hwd]; exact B0.out)
  have B1 := Lib.hid (show Blk w7 (w.heap.size + 1) 23 _ from by rw [hwd]; exact B1.out)
  have BR := Lib.hid (show Blk w7 (w.heap.size + 1 + 1) 49 _ from by rw [hwd]; exact BR.out)
  have BO := Lib.hid (show Blk w7 (w.heap.size + 1 + 1 + 1) 49 _ from by rw [hwd]; exact BO.out)
  have G1 := Lib.hid (show Blk w7 (g1) 57 _ from by rw [hwd]; exact G1.out)
  have G2 := Lib.hid (show Blk w7 (g2) 57 _ from by rw [hwd]; exact G2.out)
  have G3 := Lib.hid (show Blk w7 (g3) 57 _ from by rw [hwd]; exact G3.out)
  have H1 := Lib.hid (show Blk w7 (h1) 57 _ from by rw [hwd]; exact H1.out)
  have H2 := Lib.hid (show Blk w7 (h2) 57 _ from by rw [hwd]; exact H2.out)
  have H3 := Lib.hid (show Blk w7 (h3) 57 _ from by rw [hwd]; exact H3.out)
  have BT := Lib.hid (show Blk w7 (_) 46 _ from by rw [hwd]; exact BT.out)
  clear hwd
  have zB00 := B0.out.cell 0
  have zB01 := B0.out.cell 1
  have zB02 := B0.out.cell 2
  have zB03 := B0.out.cell 3
  have zB10 := B1.out.cell 0
  have zB11 := B1.out.cell 1
  have zB12 := B1.out.cell 2
  have zB13 := B1.out.cell 3
  have zBO0 := BO.out.cell 0
  have zBO1 := BO.out.cell 1
  have zBO2 := BO.out.cell 2
  have zBT0 := BT.out.cell 0
  have zBT1 := BT.out.cell 1
  have zBT2 := BT.out.cell 2
  have zG10 := G1.out.cell 0
  have zG11 := G1.out.cell 1
  have zG20 := G2.out.cell 0
  have zG30 := G3.out.cell 0
  have zH10 := H1.out.cell 0
  have zH11 := H1.out.cell 1
  have zH20 := H2.out.cell 0
  have zH30 := H3.out.cell 0
  have ff := BO.out.frozen 0
  go_upto_region 10 with fail
  clear ff
  clear zB00 zB01 zB02 zB03 zB10 zB11 zB12 zB13 zBO0 zBO1 zBO2 zBT0 zBT1 zBT2 zG10 zG11 zG20 zG30 zH10 zH11 zH20 zH30
  have HB := Lib.hid (HB.out.setCell (p := ⟨w.heap.size + 1 + 1 + 1, 0, none⟩) (by dsimp only; omega) (.bool (H != H')))
  have B0 := Lib.hid (B0.out.far (p := ⟨w.heap.size + 1 + 1 + 1, 0, none⟩) (B0.out.ne_ BO.out (by decide)) (.bool (H != H')))
  have B1 := Lib.hid (B1.out.far (p := ⟨w.heap.size + 1 + 1 + 1, 0, none⟩) (B1.out.ne_ BO.out (by decide)) (.bool (H != H')))
  have BR := Lib.hid (BR.out.far (p := ⟨w.heap.size + 1 + 1 + 1, 0, none⟩) (by dsimp only; omega) (.bool (H != H')))
  have G1 := Lib.hid (G1.out.far (p := ⟨w.heap.size + 1 + 1 + 1, 0, none⟩) (G1.out.ne_ BO.out (by decide)) (.bool (H != H')))
  have G2 := Lib.hid (G2.out.far (p := ⟨w.heap.size + 1 + 1 + 1, 0, none⟩) (G2.out.ne_ BO.out (by decide)) (.bool (H != H')))
  have G3 := Lib.hid (G3.out.far (p := ⟨w.heap.size + 1 + 1 + 1, 0, none⟩) (G3.out.ne_ BO.out (by decide)) (.bool (H != H')))
  have H1 := Lib.hid (H1.out.far (p := ⟨w.heap.size + 1 + 1 + 1, 0, none⟩) (H1.out.ne_ BO.out (by decide)) (.bool (H != H')))
  have H2 := Lib.hid (H2.out.far (p := ⟨w.heap.size + 1 + 1 + 1, 0, none⟩) (H2.out.ne_ BO.out (by decide)) (.bool (H != H')))
  have H3 := Lib.hid (H3.out.far (p := ⟨w.heap.size + 1 + 1 + 1, 0, none⟩) (H3.out.ne_ BO.out (by decide)) (.bool (H != H')))
  have BT := Lib.hid (BT.out.far (p := ⟨w.heap.size + 1 + 1 + 1, 0, none⟩) (BT.out.ne_ BO.out (by decide)) (.bool (H != H')))
  have hs_ : Blk (w7.setCell ⟨w.heap.size + 1 + 1 + 1, 0, none⟩ (.bool (H != H'))) (w.heap.size + 1 + 1 + 1) 49 #[.bool (H != H'), .bool false, .bool false] := BO.out.set_ 0 (.bool (H != H'))
  have BO := Lib.hid hs_
  clear hs_
  generalize w7.setCell ⟨w.heap.size + 1 + 1 + 1, 0, none⟩ (.bool (H != H')) = w8 at *
  go_wp2_with fail
  rw [rounds_succ]
  go_wp2_with fail
  rw [rounds_succ]
  have ii := i1.out
  go_wp2_with fail
  clear ii
  refine wp_loop_rounds 2 ?_
  rw [rounds_succ]
  have zB00 := B0.out.cell 0
  have zB01 := B0.out.cell 1
  have zB02 := B0.out.cell 2
  have zB03 := B0.out.cell 3
  have zB10 := B1.out.cell 0
  have zB11 := B1.out.cell 1
  have zB12 := B1.out.cell 2
  have zB13 := B1.out.cell 3
  have zBO0 := BO.out.cell 0
  have zBO1 := BO.out.cell 1
  have zBO2 := BO.out.cell 2
  have zBT0 := BT.out.cell 0
  have zBT1 := BT.out.cell 1
  have zBT2 := BT.out.cell 2
  have zG10 := G1.out.cell 0
  have zG11 := G1.out.cell 1
  have zG20 := G2.out.cell 0
  have zG30 := G3.out.cell 0
  have zH10 := H1.out.cell 0
  have zH11 := H1.out.cell 1
  have zH20 := H2.out.cell 0
  have zH30 := H3.out.cell 0
  go_upto_region 9 with fail
  refine wp_region_still_tail 19 (by kernel_rfl) (by kernel_rfl) ?_
  repeat still_step
  change wpList _ _ _ _ _ w8.drew
  clear zB00 zB01 zB02 zB03 zB10 zB11 zB12 zB13 zBO0 zBO1 zBO2 zBT0 zBT1 zBT2 zG10 zG11 zG20 zG30 zH10 zH11 zH20 zH30
  obtain ⟨w9, hwd⟩ : ∃ q, q = w8.drew := ⟨_, rfl⟩
  rw [← hwd]
  have HB := Lib.hid (show Below w.heap.size w w9 from by rw [hwd]; exact Below.drew HB.out)
  have B0 := Lib.hid (show Blk w9 (w.heap.size) 23 _ from by rw [hwd]; exact B0.out)
  have B1 := Lib.hid (show Blk w9 (w.heap.size + 1) 23 _ from by rw [hwd]; exact B1.out)
  have BR := Lib.hid (show Blk w9 (w.heap.size + 1 + 1) 49 _ from by rw [hwd]; exact BR.out)
  have BO := Lib.hid (show Blk w9 (w.heap.size + 1 + 1 + 1) 49 _ from by rw [hwd]; exact BO.out)
  have G1 := Lib.hid (show Blk w9 (g1) 57 _ from by rw [hwd]; exact G1.out)
  have G2 := Lib.hid (show Blk w9 (g2) 57 _ from by rw [hwd]; exact G2.out)
  have G3 := Lib.hid (show Blk w9 (g3) 57 _ from by rw [hwd]; exact G3.out)
  have H1 := Lib.hid (show Blk w9 (h1) 57 _ from by rw [hwd]; exact H1.out)
  have H2 := Lib.hid (show Blk w9 (h2) 57 _ from by rw [hwd]; exact H2.out)
  have H3 := Lib.hid (show Blk w9 (h3) 57 _ from by rw [hwd]; exact H3.out)
  have BT := Lib.hid (show Blk w9 (_) 46 _ from by rw [hwd]; exact BT.out)
  clear hwd
  have zB00 := B0.out.cell 0
  have zB01 := B0.out.cell 1
  have zB02 := B0.out.cell 2
  have zB03 := B0.out.cell 3
  have zB10 := B1.out.cell 0
  have zB11 := B1.out.cell 1
  have zB12 := B1.out.cell 2
  have zB13 := B1.out.cell 3
  have zBO0 := BO.out.cell 0
  have zBO1 := BO.out.cell 1
  have zBO2 := BO.out.cell 2
  have zBT0 := BT.out.cell 0
  have zBT1 := BT.out.cell 1
  have zBT2 := BT.out.cell 2
  have zG10 := G1.out.cell 0
  have zG11 := G1.out.cell 1
  have zG20 := G2.out.cell 0
  have zG30 := G3.out.cell 0
  have zH10 := H1.out.cell 0
  have zH11 := H1.out.cell 1
  have zH20 := H2.out.cell 0
  have zH30 := H3.out.cell 0
  have ff := BO.out.frozen 1
  go_upto_region 10 with fail
  clear ff
  clear zB00 zB01 zB02 zB03 zB10 zB11 zB12 zB13 zBO0 zBO1 zBO2 zBT0 zBT1 zBT2 zG10 zG11 zG20 zG30 zH10 zH11 zH20 zH30
  have HB := Lib.hid (HB.out.setCell (p := ⟨w.heap.size + 1 + 1 + 1, 1, none⟩) (by dsimp only; omega) (.bool (C != C')))
  have B0 := Lib.hid (B0.out.far (p := ⟨w.heap.size + 1 + 1 + 1, 1, none⟩) (B0.out.ne_ BO.out (by decide)) (.bool (C != C')))
  have B1 := Lib.hid (B1.out.far (p := ⟨w.heap.size + 1 + 1 + 1, 1, none⟩) (B1.out.ne_ BO.out (by decide)) (.bool (C != C')))
  have BR := Lib.hid (BR.out.far (p := ⟨w.heap.size + 1 + 1 + 1, 1, none⟩) (by dsimp only; omega) (.bool (C != C')))
  have G1 := Lib.hid (G1.out.far (p := ⟨w.heap.size + 1 + 1 + 1, 1, none⟩) (G1.out.ne_ BO.out (by decide)) (.bool (C != C')))
  have G2 := Lib.hid (G2.out.far (p := ⟨w.heap.size + 1 + 1 + 1, 1, none⟩) (G2.out.ne_ BO.out (by decide)) (.bool (C != C')))
  have G3 := Lib.hid (G3.out.far (p := ⟨w.heap.size + 1 + 1 + 1, 1, none⟩) (G3.out.ne_ BO.out (by decide)) (.bool (C != C')))
  have H1 := Lib.hid (H1.out.far (p := ⟨w.heap.size + 1 + 1 + 1, 1, none⟩) (H1.out.ne_ BO.out (by decide)) (.bool (C != C')))
  have H2 := Lib.hid (H2.out.far (p := ⟨w.heap.size + 1 + 1 + 1, 1, none⟩) (H2.out.ne_ BO.out (by decide)) (.bool (C != C')))
  have H3 := Lib.hid (H3.out.far (p := ⟨w.heap.size + 1 + 1 + 1, 1, none⟩) (H3.out.ne_ BO.out (by decide)) (.bool (C != C')))
  have BT := Lib.hid (BT.out.far (p := ⟨w.heap.size + 1 + 1 + 1, 1, none⟩) (BT.out.ne_ BO.out (by decide)) (.bool (C != C')))
  have hs_ : Blk (w9.setCell ⟨w.heap.size + 1 + 1 + 1, 1, none⟩ (.bool (C != C'))) (w.heap.size + 1 + 1 + 1) 49 #[.bool (H != H'), .bool (C != C'), .bool false] := BO.out.set_ 1 (.bool (C != C'))
  have BO := Lib.hid hs_
  clear hs_
  generalize w9.setCell ⟨w.heap.size + 1 + 1 + 1, 1, none⟩ (.bool (C != C')) = w10 at *
  go_wp2_with fail
  rw [rounds_succ]
  go_wp2_with fail
  rw [rounds_succ]
  have ii := i2.out
  go_wp2_with fail
  clear ii
  refine wp_loop_rounds 2 ?_
  rw [rounds_succ]
  have zB00 := B0.out.cell 0
  have zB01 := B0.out.cell 1
  have zB02 := B0.out.cell 2
  have zB03 := B0.out.cell 3
  have zB10 := B1.out.cell 0
  have zB11 := B1.out.cell 1
  have zB12 := B1.out.cell 2
  have zB13 := B1.out.cell 3
  have zBO0 := BO.out.cell 0
  have zBO1 := BO.out.cell 1
  have zBO2 := BO.out.cell 2
  have zBT0 := BT.out.cell 0
  have zBT1 := BT.out.cell 1
  have zBT2 := BT.out.cell 2
  have zG10 := G1.out.cell 0
  have zG11 := G1.out.cell 1
  have zG20 := G2.out.cell 0
  have zG30 := G3.out.cell 0
  have zH10 := H1.out.cell 0
  have zH11 := H1.out.cell 1
  have zH20 := H2.out.cell 0
  have zH30 := H3.out.cell 0
  go_upto_region 9 with fail
  refine wp_region_still_tail 19 (by kernel_rfl) (by kernel_rfl) ?_
  repeat still_step
  change wpList _ _ _ _ _ w10.drew
  clear zB00 zB01 zB02 zB03 zB10 zB11 zB12 zB13 zBO0 zBO1 zBO2 zBT0 zBT1 zBT2 zG10 zG11 zG20 zG30 zH10 zH11 zH20 zH30
  obtain ⟨w11, hwd⟩ : ∃ q, q = w10.drew := ⟨_, rfl⟩
  rw [← hwd]
  have HB := Lib.hid (show Below w.heap.size w w11 from by rw [hwd]; exact Below.drew HB.out)
  have B0 := Lib.hid (show Blk w11 (w.heap.size) 23 _ from by rw [hwd]; exact B0.out)
  have B1 := Lib.hid (show Blk w11 (w.heap.size + 1) 23 _ from by rw [hwd]; exact B1.out)
  have BR := Lib.hid (show Blk w11 (w.heap.size + 1 + 1) 49 _ from by rw [hwd]; exact BR.out)
  have BO := Lib.hid (show Blk w11 (w.heap.size + 1 + 1 + 1) 49 _ from by rw [hwd]; exact BO.out)
  have G1 := Lib.hid (show Blk w11 (g1) 57 _ from by rw [hwd]; exact G1.out)
  have G2 := Lib.hid (show Blk w11 (g2) 57 _ from by rw [hwd]; exact G2.out)
  have G3 := Lib.hid (show Blk w11 (g3) 57 _ from by rw [hwd]; exact G3.out)
  have H1 := Lib.hid (show Blk w11 (h1) 57 _ from by rw [hwd]; exact H1.out)
  have H2 := Lib.hid (show Blk w11 (h2) 57 _ from by rw [hwd]; exact H2.out)
  have H3 := Lib.hid (show Blk w11 (h3) 57 _ from by rw [hwd]; exact H3.out)
  have BT := Lib.hid (show Blk w11 (_) 46 _ from by rw [hwd]; exact BT.out)
  clear hwd
  have zB00 := B0.out.cell 0
  have zB01 := B0.out.cell 1
  have zB02 := B0.out.cell 2
  have zB03 := B0.out.cell 3
  have zB10 := B1.out.cell 0
  have zB11 := B1.out.cell 1
  have zB12 := B1.out.cell 2
  have zB13 := B1.out.cell 3
  have zBO0 := BO.out.cell 0
  have zBO1 := BO.out.cell 1
  have zBO2 := BO.out.cell 2
  have zBT0 := BT.out.cell 0
  have zBT1 := BT.out.cell 1
  have zBT2 := BT.out.cell 2
  have zG10 := G1.out.cell 0
  have zG11 := G1.out.cell 1
  have zG20 := G2.out.cell 0
  have zG30 := G3.out.cell 0
  have zH10 := H1.out.cell 0
  have zH11 := H1.out.cell 1
  have zH20 := H2.out.cell 0
  have zH30 := H3.out.cell 0
  have ff := BO.out.frozen 2
  go_upto_region 10 with fail
  clear ff
  clear zB00 zB01 zB02 zB03 zB10 zB11 zB12 zB13 zBO0 zBO1 zBO2 zBT0 zBT1 zBT2 zG10 zG11 zG20 zG30 zH10 zH11 zH20 zH30
  have HB := Lib.hid (HB.out.setCell (p := ⟨w.heap.size + 1 + 1 + 1, 2, none⟩) (by dsimp only; omega) (.bool (B != B')))
  have B0 := Lib.hid (B0.out.far (p := ⟨w.heap.size + 1 + 1 + 1, 2, none⟩) (B0.out.ne_ BO.out (by decide)) (.bool (B != B')))
  have B1 := Lib.hid (B1.out.far (p := ⟨w.heap.size + 1 + 1 + 1, 2, none⟩) (B1.out.ne_ BO.out (by decide)) (.bool (B != B')))
  have BR := Lib.hid (BR.out.far (p := ⟨w.heap.size + 1 + 1 + 1, 2, none⟩) (by dsimp only; omega) (.bool (B != B')))
  have G1 := Lib.hid (G1.out.far (p := ⟨w.heap.size + 1 + 1 + 1, 2, none⟩) (G1.out.ne_ BO.out (by decide)) (.bool (B != B')))
  have G2 := Lib.hid (G2.out.far (p := ⟨w.heap.size + 1 + 1 + 1, 2, none⟩) (G2.out.ne_ BO.out (by decide)) (.bool (B != B')))
  have G3 := Lib.hid (G3.out.far (p := ⟨w.heap.size + 1 + 1 + 1, 2, none⟩) (G3.out.ne_ BO.out (by decide)) (.bool (B != B')))
  have H1 := Lib.hid (H1.out.far (p := ⟨w.heap.size + 1 + 1 + 1, 2, none⟩) (H1.out.ne_ BO.out (by decide)) (.bool (B != B')))
  have H2 := Lib.hid (H2.out.far (p := ⟨w.heap.size + 1 + 1 + 1, 2, none⟩) (H2.out.ne_ BO.out (by decide)) (.bool (B != B')))
  have H3 := Lib.hid (H3.out.far (p := ⟨w.heap.size + 1 + 1 + 1, 2, none⟩) (H3.out.ne_ BO.out (by decide)) (.bool (B != B')))
  have BT := Lib.hid (BT.out.far (p := ⟨w.heap.size + 1 + 1 + 1, 2, none⟩) (BT.out.ne_ BO.out (by decide)) (.bool (B != B')))
  have hs_ : Blk (w11.setCell ⟨w.heap.size + 1 + 1 + 1, 2, none⟩ (.bool (B != B'))) (w.heap.size + 1 + 1 + 1) 49 #[.bool (H != H'), .bool (C != C'), .bool (B != B')] := BO.out.set_ 2 (.bool (B != B'))
  have BO := Lib.hid hs_
  clear hs_
  generalize w11.setCell ⟨w.heap.size + 1 + 1 + 1, 2, none⟩ (.bool (B != B')) = w12 at *
  go_wp2_with fail
  rw [rounds_succ]
  go_wp2_with fail
  rw [rounds_succ]
  have z0 := BO.out.cell 0
  have y0 := BR.out.cell 0
  have f0 := BR.out.frozen 0
  have z1 := BO.out.cell 1
  have y1 := BR.out.cell 1
  have f1 := BR.out.frozen 1
  have z2 := BO.out.cell 2
  have y2 := BR.out.cell 2
  have f2 := BR.out.frozen 2
  go_wp2_with fail
  have hrow := ((BR.out.set_ 0 (.bool (H != H'))).set_ 1 (.bool (C != C'))).set_ 2 (.bool (B != B'))
  refine bodyPost_ret (results_cell_row rfl _ _ _ 49 _ (0, 0) _ rfl hrow Try.underlying49 rfl (by kernel_rfl)) rfl ?_
  have lb : w.heap.size ≤ w.heap.size + 1 + 1 := by omega
  exact ⟨rfl, ((HB.out.setCell (p := ⟨w.heap.size + 1 + 1, 0, none⟩) lb _).setCell (p := ⟨w.heap.size + 1 + 1, 1, none⟩) lb _).setCell (p := ⟨w.heap.size + 1 + 1, 2, none⟩) lb _⟩
set_option maxRecDepth 100000 in
set_option maxHeartbeats 6400000 in
theorem pothers_n (W H C B W' H' C' B' : Int) (w : World) (hW : (W != W') = true) :
    Calls Try.prog 20 #[vid W H C B, vid W' H' C' B'] w fun e w' => e = .returned (.agg #[.bool true, .bool (C != C'), .bool (B != B')]) ∧ Below w.heap.size w w' := by
  have HB := Lib.hid (Below.refl w.heap.size w)
  have HW := Lib.hid hW
  clear hW
  go_enter Try.func20, Try.ntmps20
  go_wp2_with fail
  have HB := Lib.hid (below_alloc_ (below_alloc_ (below_alloc_ (below_alloc_ (HB.out) (.cells #[.int .i64 W, .int .i64 H, .int .i64 C, .int .i64 B] 23)) (.cells #[.int .i64 W', .int .i64 H', .int .i64 C', .int .i64 B'] 23)) (.cells #[.bool false, .bool false, .bool false] 49)) (.cells #[.bool false, .bool false, .bool false] 49))
  have hzw : ((((w.alloc (.cells #[.int .i64 W, .int .i64 H, .int .i64 C, .int .i64 B] 23)).alloc (.cells #[.int .i64 W', .int .i64 H', .int .i64 C', .int .i64 B'] 23)).alloc (.cells #[.bool false, .bool false, .bool false] 49)).alloc (.cells #[.bool false, .bool false, .bool false] 49)).heap.size = w.heap.size + 4 := by simp only [World.size_alloc]
  have B0 := (((Blk.new (w) 23 #[.int .i64 W, .int .i64 H, .int .i64 C, .int .i64 B]).alloc (.cells #[.int .i64 W', .int .i64 H', .int .i64 C', .int .i64 B'] 23)).alloc (.cells #[.bool false, .bool false, .bool false] 49)).alloc (.cells #[.bool false, .bool false, .bool false] 49)
  skip
  have B0 := Lib.hid B0
  have B1 := ((Blk.new (w.alloc (.cells #[.int .i64 W, .int .i64 H, .int .i64 C, .int .i64 B] 23)) 23 #[.int .i64 W', .int .i64 H', .int .i64 C', .int .i64 B']).alloc (.cells #[.bool false, .bool false, .bool false] 49)).alloc (.cells #[.bool false, .bool false, .bool false] 49)
  rw [show (w.alloc (.cells #[.int .i64 W, .int .i64 H, .int .i64 C, .int .i64 B] 23)).heap.size = w.heap.size + 1 by simp only [World.size_alloc]] at B1
  have B1 := Lib.hid B1
  have BR := (Blk.new ((w.alloc (.cells #[.int .i64 W, .int .i64 H, .int .i64 C, .int .i64 B] 23)).alloc (.cells #[.int .i64 W', .int .i64 H', .int .i64 C', .int .i64 B'] 23)) 49 #[.bool false, .bool false, .bool false]).alloc (.cells #[.bool false, .bool false, .bool false] 49)
  rw [show ((w.alloc (.cells #[.int .i64 W, .int .i64 H, .int .i64 C, .int .i64 B] 23)).alloc (.cells #[.int .i64 W', .int .i64 H', .int .i64 C', .int .i64 B'] 23)).heap.size = w.heap.size + 1 + 1 by simp only [World.size_alloc]] at BR
  have BR := Lib.hid BR
  have BO := Blk.new (((w.alloc (.cells #[.int .i64 W, .int .i64 H, .int .i64 C, .int .i64 B] 23)).alloc (.cells #[.int .i64 W', .int .i64 H', .int .i64 C', .int .i64 B'] 23)).alloc (.cells #[.bool false, .bool false, .bool false] 49)) 49 #[.bool false, .bool false, .bool false]
  rw [show (((w.alloc (.cells #[.int .i64 W, .int .i64 H, .int .i64 C, .int .i64 B] 23)).alloc (.cells #[.int .i64 W', .int .i64 H', .int .i64 C', .int .i64 B'] 23)).alloc (.cells #[.bool false, .bool false, .bool false] 49)).heap.size = w.heap.size + 1 + 1 + 1 by simp only [World.size_alloc]] at BO
  have BO := Lib.hid BO
  generalize (((w.alloc (.cells #[.int .i64 W, .int .i64 H, .int .i64 C, .int .i64 B] 23)).alloc (.cells #[.int .i64 W', .int .i64 H', .int .i64 C', .int .i64 B'] 23)).alloc (.cells #[.bool false, .bool false, .bool false] 49)).alloc (.cells #[.bool false, .bool false, .bool false] 49) = w1 at *
  have HZ := Lib.hid hzw
  clear hzw
  refine (pgroups_c _ _).mono ?_
  rintro e w2 ⟨g1, g2, g3, rfl, _, _, _, q1, q2, q3, hb'⟩
  have HB := Lib.hid ((HB.out).trans (hb'.mono (HB.out).size))
  have B0 := Lib.hid ((B0.out).below hb' (B0.out).lt)
  have B1 := Lib.hid ((B1.out).below hb' (B1.out).lt)
  have BR := Lib.hid ((BR.out).below hb' (BR.out).lt)
  have BO := Lib.hid ((BO.out).below hb' (BO.out).lt)
  have G1 := Lib.hid q1
  have G2 := Lib.hid q2
  have G3 := Lib.hid q3
  clear q1 q2 q3 hb'
  go_wp2_with fail
  refine (pgroups_c _ _).mono ?_
  rintro e w3 ⟨h1, h2, h3, rfl, _, _, _, q1, q2, q3, hb'⟩
  have HB := Lib.hid ((HB.out).trans (hb'.mono (HB.out).size))
  have B0 := Lib.hid ((B0.out).below hb' (B0.out).lt)
  have B1 := Lib.hid ((B1.out).below hb' (B1.out).lt)
  have BR := Lib.hid ((BR.out).below hb' (BR.out).lt)
  have BO := Lib.hid ((BO.out).below hb' (BO.out).lt)
  have G1 := Lib.hid ((G1.out).below hb' (G1.out).lt)
  have G2 := Lib.hid ((G2.out).below hb' (G2.out).lt)
  have G3 := Lib.hid ((G3.out).below hb' (G3.out).lt)
  have H1 := Lib.hid q1
  have H2 := Lib.hid q2
  have H3 := Lib.hid q3
  clear q1 q2 q3 hb'
  go_upto_region 3 with fail
  have HB := Lib.hid (below_alloc_ (below_alloc_ (HB.out) (.cells #[.slice (some ⟨g1, 0, none⟩) 2 2, .slice (some ⟨g2, 0, none⟩) 1 1, .slice (some ⟨g3, 0, none⟩) 1 1] 46)) (.cells #[.slice (some ⟨h1, 0, none⟩) 2 2, .slice (some ⟨h2, 0, none⟩) 1 1, .slice (some ⟨h3, 0, none⟩) 1 1] 46))
  have B0 := Lib.hid (((B0.out).alloc (.cells #[.slice (some ⟨g1, 0, none⟩) 2 2, .slice (some ⟨g2, 0, none⟩) 1 1, .slice (some ⟨g3, 0, none⟩) 1 1] 46)).alloc (.cells #[.slice (some ⟨h1, 0, none⟩) 2 2, .slice (some ⟨h2, 0, none⟩) 1 1, .slice (some ⟨h3, 0, none⟩) 1 1] 46))
  have B1 := Lib.hid (((B1.out).alloc (.cells #[.slice (some ⟨g1, 0, none⟩) 2 2, .slice (some ⟨g2, 0, none⟩) 1 1, .slice (some ⟨g3, 0, none⟩) 1 1] 46)).alloc (.cells #[.slice (some ⟨h1, 0, none⟩) 2 2, .slice (some ⟨h2, 0, none⟩) 1 1, .slice (some ⟨h3, 0, none⟩) 1 1] 46))
  have BR := Lib.hid (((BR.out).alloc (.cells #[.slice (some ⟨g1, 0, none⟩) 2 2, .slice (some ⟨g2, 0, none⟩) 1 1, .slice (some ⟨g3, 0, none⟩) 1 1] 46)).alloc (.cells #[.slice (some ⟨h1, 0, none⟩) 2 2, .slice (some ⟨h2, 0, none⟩) 1 1, .slice (some ⟨h3, 0, none⟩) 1 1] 46))
  have BO := Lib.hid (((BO.out).alloc (.cells #[.slice (some ⟨g1, 0, none⟩) 2 2, .slice (some ⟨g2, 0, none⟩) 1 1, .slice (some ⟨g3, 0, none⟩) 1 1] 46)).alloc (.cells #[.slice (some ⟨h1, 0, none⟩) 2 2, .slice (some ⟨h2, 0, none⟩) 1 1, .slice (some ⟨h3, 0, none⟩) 1 1] 46))
  have G1 := Lib.hid (((G1.out).alloc (.cells #[.slice (some ⟨g1, 0, none⟩) 2 2, .slice (some ⟨g2, 0, none⟩) 1 1, .slice (some ⟨g3, 0, none⟩) 1 1] 46)).alloc (.cells #[.slice (some ⟨h1, 0, none⟩) 2 2, .slice (some ⟨h2, 0, none⟩) 1 1, .slice (some ⟨h3, 0, none⟩) 1 1] 46))
  have G2 := Lib.hid (((G2.out).alloc (.cells #[.slice (some ⟨g1, 0, none⟩) 2 2, .slice (some ⟨g2, 0, none⟩) 1 1, .slice (some ⟨g3, 0, none⟩) 1 1] 46)).alloc (.cells #[.slice (some ⟨h1, 0, none⟩) 2 2, .slice (some ⟨h2, 0, none⟩) 1 1, .slice (some ⟨h3, 0, none⟩) 1 1] 46))
  have G3 := Lib.hid (((G3.out).alloc (.cells #[.slice (some ⟨g1, 0, none⟩) 2 2, .slice (some ⟨g2, 0, none⟩) 1 1, .slice (some ⟨g3, 0, none⟩) 1 1] 46)).alloc (.cells #[.slice (some ⟨h1, 0, none⟩) 2 2, .slice (some ⟨h2, 0, none⟩) 1 1, .slice (some ⟨h3, 0, none⟩) 1 1] 46))
  have H1 := Lib.hid (((H1.out).alloc (.cells #[.slice (some ⟨g1, 0, none⟩) 2 2, .slice (some ⟨g2, 0, none⟩) 1 1, .slice (some ⟨g3, 0, none⟩) 1 1] 46)).alloc (.cells #[.slice (some ⟨h1, 0, none⟩) 2 2, .slice (some ⟨h2, 0, none⟩) 1 1, .slice (some ⟨h3, 0, none⟩) 1 1] 46))
  have H2 := Lib.hid (((H2.out).alloc (.cells #[.slice (some ⟨g1, 0, none⟩) 2 2, .slice (some ⟨g2, 0, none⟩) 1 1, .slice (some ⟨g3, 0, none⟩) 1 1] 46)).alloc (.cells #[.slice (some ⟨h1, 0, none⟩) 2 2, .slice (some ⟨h2, 0, none⟩) 1 1, .slice (some ⟨h3, 0, none⟩) 1 1] 46))
  have H3 := Lib.hid (((H3.out).alloc (.cells #[.slice (some ⟨g1, 0, none⟩) 2 2, .slice (some ⟨g2, 0, none⟩) 1 1, .slice (some ⟨g3, 0, none⟩) 1 1] 46)).alloc (.cells #[.slice (some ⟨h1, 0, none⟩) 2 2, .slice (some ⟨h2, 0, none⟩) 1 1, .slice (some ⟨h3, 0, none⟩) 1 1] 46))
  have hzw : ((w3.alloc (.cells #[.slice (some ⟨g1, 0, none⟩) 2 2, .slice (some ⟨g2, 0, none⟩) 1 1, .slice (some ⟨g3, 0, none⟩) 1 1] 46)).alloc (.cells #[.slice (some ⟨h1, 0, none⟩) 2 2, .slice (some ⟨h2, 0, none⟩) 1 1, .slice (some ⟨h3, 0, none⟩) 1 1] 46)).heap.size = w3.heap.size + 2 := by simp only [World.size_alloc]
  have B6 := (Blk.new (w3) 46 #[.slice (some ⟨g1, 0, none⟩) 2 2, .slice (some ⟨g2, 0, none⟩) 1 1, .slice (some ⟨g3, 0, none⟩) 1 1]).alloc (.cells #[.slice (some ⟨h1, 0, none⟩) 2 2, .slice (some ⟨h2, 0, none⟩) 1 1, .slice (some ⟨h3, 0, none⟩) 1 1] 46)
  skip
  have B6 := Lib.hid B6
  have BT := Blk.new (w3.alloc (.cells #[.slice (some ⟨g1, 0, none⟩) 2 2, .slice (some ⟨g2, 0, none⟩) 1 1, .slice (some ⟨g3, 0, none⟩) 1 1] 46)) 46 #[.slice (some ⟨h1, 0, none⟩) 2 2, .slice (some ⟨h2, 0, none⟩) 1 1, .slice (some ⟨h3, 0, none⟩) 1 1]
  rw [show (w3.alloc (.cells #[.slice (some ⟨g1, 0, none⟩) 2 2, .slice (some ⟨g2, 0, none⟩) 1 1, .slice (some ⟨g3, 0, none⟩) 1 1] 46)).heap.size = w3.heap.size + 1 by simp only [World.size_alloc]] at BT
  have BT := Lib.hid BT
  generalize (w3.alloc (.cells #[.slice (some ⟨g1, 0, none⟩) 2 2, .slice (some ⟨g2, 0, none⟩) 1 1, .slice (some ⟨g3, 0, none⟩) 1 1] 46)).alloc (.cells #[.slice (some ⟨h1, 0, none⟩) 2 2, .slice (some ⟨h2, 0, none⟩) 1 1, .slice (some ⟨h3, 0, none⟩) 1 1] 46) = w4 at *
  clear hzw
  obtain ⟨z0, z1, z2⟩ := B6.out.cells3
  go_wp2_with fail
  clear z0 z1 z2 B6
  have i0 := Lib.hid (fun a b c w => (idx_grp a b c w).1)
  have i1 := Lib.hid (fun a b c w => (idx_grp a b c w).2.1)
  have i2 := Lib.hid (fun a b c w => (idx_grp a b c w).2.2)
  refine wp_loop_rounds 4 ?_
  rw [rounds_succ]
  have ii := i0.out
  go_wp2_with fail
  clear ii
  refine wp_loop_rounds 3 ?_
  rw [rounds_succ]
  have zB00 := B0.out.cell 0
  have zB01 := B0.out.cell 1
  have zB02 := B0.out.cell 2
  have zB03 := B0.out.cell 3
  have zB10 := B1.out.cell 0
  have zB11 := B1.out.cell 1
  have zB12 := B1.out.cell 2
  have zB13 := B1.out.cell 3
  have zBO0 := BO.out.cell 0
  have zBO1 := BO.out.cell 1
  have zBO2 := BO.out.cell 2
  have zBT0 := BT.out.cell 0
  have zBT1 := BT.out.cell 1
  have zBT2 := BT.out.cell 2
  have zG10 := G1.out.cell 0
  have zG11 := G1.out.cell 1
  have zG20 := G2.out.cell 0
  have zG30 := G3.out.cell 0
  have zH10 := H1.out.cell 0
  have zH11 := H1.out.cell 1
  have zH20 := H2.out.cell 0
  have zH30 := H3.out.cell 0
  go_upto_region 9 with fail
  have hw := HW.out
  refine wp_region_still_tail 19 (by kernel_rfl) (by kernel_rfl) ?_
  repeat still_step
  change wpList _ _ _ _ _ w4.drew
  clear zB00 zB01 zB02 zB03 zB10 zB11 zB12 zB13 zBO0 zBO1 zBO2 zBT0 zBT1 zBT2 zG10 zG11 zG20 zG30 zH10 zH11 zH20 zH30
  clear hw
  obtain ⟨w5, hwd⟩ : ∃ q, q = w4.drew := ⟨_, rfl⟩
  rw [← hwd]
  have HB := Lib.hid (show Below w.heap.size w w5 from by rw [hwd]; exact Below.drew HB.out)
  have B0 := Lib.hid (show Blk w5 (w.heap.size) 23 _ from by rw [hwd]; exact B0.out)
  have B1 := Lib.hid (show Blk w5 (w.heap.size + 1) 23 _ from by rw [hwd]; exact B1.out)
  have BR := Lib.hid (show Blk w5 (w.heap.size + 1 + 1) 49 _ from by rw [hwd]; exact BR.out)
  have BO := Lib.hid (show Blk w5 (w.heap.size + 1 + 1 + 1) 49 _ from by rw [hwd]; exact BO.out)
  have G1 := Lib.hid (show Blk w5 (g1) 57 _ from by rw [hwd]; exact G1.out)
  have G2 := Lib.hid (show Blk w5 (g2) 57 _ from by rw [hwd]; exact G2.out)
  have G3 := Lib.hid (show Blk w5 (g3) 57 _ from by rw [hwd]; exact G3.out)
  have H1 := Lib.hid (show Blk w5 (h1) 57 _ from by rw [hwd]; exact H1.out)
  have H2 := Lib.hid (show Blk w5 (h2) 57 _ from by rw [hwd]; exact H2.out)
  have H3 := Lib.hid (show Blk w5 (h3) 57 _ from by rw [hwd]; exact H3.out)
  have BT := Lib.hid (show Blk w5 (_) 46 _ from by rw [hwd]; exact BT.out)
  clear hwd
  have zB00 := B0.out.cell 0
  have zB01 := B0.out.cell 1
  have zB02 := B0.out.cell 2
  have zB03 := B0.out.cell 3
  have zB10 := B1.out.cell 0
  have zB11 := B1.out.cell 1
  have zB12 := B1.out.cell 2
  have zB13 := B1.out.cell 3
  have zBO0 := BO.out.cell 0
  have zBO1 := BO.out.cell 1
  have zBO2 := BO.out.cell 2
  have zBT0 := BT.out.cell 0
  have zBT1 := BT.out.cell 1
  have zBT2 := BT.out.cell 2
  have zG10 := G1.out.cell 0
  have zG11 := G1.out.cell 1
  have zG20 := G2.out.cell 0
  have zG30 := G3.out.cell 0
  have zH10 := H1.out.cell 0
  have zH11 := H1.out.cell 1
  have zH20 := H2.out.cell 0
  have zH30 := H3.out.cell 0
  have ff := BO.out.frozen 0
  go_upto_region 10 with fail
  clear ff
  clear zB00 zB01 zB02 zB03 zB10 zB11 zB12 zB13 zBO0 zBO1 zBO2 zBT0 zBT1 zBT2 zG10 zG11 zG20 zG30 zH10 zH11 zH20 zH30
  have HB := Lib.hid (HB.out.setCell (p := ⟨w.heap.size + 1 + 1 + 1, 0, none⟩) (by dsimp only; omega) (.bool true))
  have B0 := Lib.hid (B0.out.far (p := ⟨w.heap.size + 1 + 1 + 1, 0, none⟩) (B0.out.ne_ BO.out (by decide)) (.bool true))
  have B1 := Lib.hid (B1.out.far (p := ⟨w.heap.size + 1 + 1 + 1, 0, none⟩) (B1.out.ne_ BO.out (by decide)) (.bool true))
  have BR := Lib.hid (BR.out.far (p := ⟨w.heap.size + 1 + 1 + 1, 0, none⟩) (by dsimp only; omega) (.bool true))
  have G1 := Lib.hid (G1.out.far (p := ⟨w.heap.size + 1 + 1 + 1, 0, none⟩) (G1.out.ne_ BO.out (by decide)) (.bool true))
  have G2 := Lib.hid (G2.out.far (p := ⟨w.heap.size + 1 + 1 + 1, 0, none⟩) (G2.out.ne_ BO.out (by decide)) (.bool true))
  have G3 := Lib.hid (G3.out.far (p := ⟨w.heap.size + 1 + 1 + 1, 0, none⟩) (G3.out.ne_ BO.out (by decide)) (.bool true))
  have H1 := Lib.hid (H1.out.far (p := ⟨w.heap.size + 1 + 1 + 1, 0, none⟩) (H1.out.ne_ BO.out (by decide)) (.bool true))
  have H2 := Lib.hid (H2.out.far (p := ⟨w.heap.size + 1 + 1 + 1, 0, none⟩) (H2.out.ne_ BO.out (by decide)) (.bool true))
  have H3 := Lib.hid (H3.out.far (p := ⟨w.heap.size + 1 + 1 + 1, 0, none⟩) (H3.out.ne_ BO.out (by decide)) (.bool true))
  have BT := Lib.hid (BT.out.far (p := ⟨w.heap.size + 1 + 1 + 1, 0, none⟩) (BT.out.ne_ BO.out (by decide)) (.bool true))
  have hs_ : Blk (w5.setCell ⟨w.heap.size + 1 + 1 + 1, 0, none⟩ (.bool true)) (w.heap.size + 1 + 1 + 1) 49 #[.bool true, .bool false, .bool false] := BO.out.set_ 0 (.bool true)
  have BO := Lib.hid hs_
  clear hs_
  generalize w5.setCell ⟨w.heap.size + 1 + 1 + 1, 0, none⟩ (.bool true) = w6 at *
  go_wp2_with fail
  rw [rounds_succ]
  have zB00 := B0.out.cell 0
  have zB01 := B0.out.cell 1
  have zB02 := B0.out.cell 2
  have zB03 := B0.out.cell 3
  have zB10 := B1.out.cell 0
  have zB11 := B1.out.cell 1
  have zB12 := B1.out.cell 2
  have zB13 := B1.out.cell 3
  have zBO0 := BO.out.cell 0
  have zBO1 := BO.out.cell 1
  have zBO2 := BO.out.cell 2
  have zBT0 := BT.out.cell 0
  have zBT1 := BT.out.cell 1
  have zBT2 := BT.out.cell 2
  have zG10 := G1.out.cell 0
  have zG11 := G1.out.cell 1
  have zG20 := G2.out.cell 0
  have zG30 := G3.out.cell 0
  have zH10 := H1.out.cell 0
  have zH11 := H1.out.cell 1
  have zH20 := H2.out.cell 0
  have zH30 := H3.out.cell 0
  go_upto_region 9 with fail
  have hw := HW.out
  refine wp_region_still_tail 19 (by kernel_rfl) (by kernel_rfl) ?_
  simp only [List.take_succ_cons, List.take_zero, List.drop_succ_cons, List.drop_zero]
  iterate 5 still_step
  rw [wpStill_skip_eq]
  rotate_left 1
  · kernel_rfl
  try simp only [Act.put, List.setIfInBounds_toArray, List.set_cons_zero, List.set_cons_succ]
  rw [wpStill_skip_eq]
  rotate_left 1
  · kernel_rfl
  try simp only [Act.put, List.setIfInBounds_toArray, List.set_cons_zero, List.set_cons_succ]
  rw [wpStill_skip_eq]
  rotate_left 1
  · kernel_rfl
  try simp only [Act.put, List.setIfInBounds_toArray, List.set_cons_zero, List.set_cons_succ]
  rw [wpStill_skip_eq]
  rotate_left 1
  · kernel_rfl
  try simp only [Act.put, List.setIfInBounds_toArray, List.set_cons_zero, List.set_cons_succ]
  rw [wpStill_skip_eq]
  rotate_left 1
  · kernel_rfl
  try simp only [Act.put, List.setIfInBounds_toArray, List.set_cons_zero, List.set_cons_succ]
  rw [wpStill_skip_eq]
  rotate_left 1
  · kernel_rfl
  try simp only [Act.put, List.setIfInBounds_toArray, List.set_cons_zero, List.set_cons_succ]
  rw [wpStill_skip_eq]
  rotate_left 1
  · kernel_rfl
  try simp only [Act.put, List.setIfInBounds_toArray, List.set_cons_zero, List.set_cons_succ]
  rw [wpStill_skip_eq]
  rotate_left 1
  · kernel_rfl
  try simp only [Act.put, List.setIfInBounds_toArray, List.set_cons_zero, List.set_cons_succ]
  rw [wpStill_skip_eq]
  rotate_left 1
  · kernel_rfl
  try simp only [Act.put, List.setIfInBounds_toArray, List.set_cons_zero, List.set_cons_succ]
  rw [wpStill_skip_eq]
  rotate_left 1
  · kernel_rfl
  try simp only [Act.put, List.setIfInBounds_toArray, List.set_cons_zero, List.set_cons_succ]
  rw [wpStill_skip_eq]
  rotate_left 1
  · kernel_rfl
  try simp only [Act.put, List.setIfInBounds_toArray, List.set_cons_zero, List.set_cons_succ]
  rw [wpStill_skip_eq]
  rotate_left 1
  · kernel_rfl
  try simp only [Act.put, List.setIfInBounds_toArray, List.set_cons_zero, List.set_cons_succ]
  iterate 2 still_step
  change wpList _ _ _ _ _ w6.drew
  clear hw
  obtain ⟨w7, hwd⟩ : ∃ q, q = w6.drew := ⟨_, rfl⟩
  rw [← hwd]
  have HB := Lib.hid (show Below w.heap.size w w7 from by rw [hwd]; exact Below.drew HB.out)
  have B0 := Lib.hid (show Blk w7 (w.heap.size) 23 _ from by rw [hwd]; exact B0.out)
  have B1 := Lib.hid (show Blk w7 (w.heap.size + 1) 23 _ from by rw [hwd]; exact B1.out)
  have BR := Lib.hid (show Blk w7 (w.heap.size + 1 + 1) 49 _ from by rw [hwd]; exact BR.out)
  have BO := Lib.hid (show Blk w7 (w.heap.size + 1 + 1 + 1) 49 _ from by rw [hwd]; exact BO.out)
  have G1 := Lib.hid (show Blk w7 (g1) 57 _ from by rw [hwd]; exact G1.out)
  have G2 := Lib.hid (show Blk w7 (g2) 57 _ from by rw [hwd]; exact G2.out)
  have G3 := Lib.hid (show Blk w7 (g3) 57 _ from by rw [hwd]; exact G3.out)
  have H1 := Lib.hid (show Blk w7 (h1) 57 _ from by rw [hwd]; exact H1.out)
  have H2 := Lib.hid (show Blk w7 (h2) 57 _ from by rw [hwd]; exact H2.out)
  have H3 := Lib.hid (show Blk w7 (h3) 57 _ from by rw [hwd]; exact H3.out)
  have BT := Lib.hid (show Blk w7 (_) 46 _ from by rw [hwd]; exact BT.out)
  clear hwd
  have zB00 := B0.out.cell 0
  have zB01 := B0.out.cell 1
  have zB02 := B0.out.cell 2
  have zB03 := B0.out.cell 3
  have zB10 := B1.out.cell 0
  have zB11 := B1.out.cell 1
  have zB12 := B1.out.cell 2
  have zB13 := B1.out.cell 3
  have zBO0 := BO.out.cell 0
  have zBO1 := BO.out.cell 1
  have zBO2 := BO.out.cell 2
  have zBT0 := BT.out.cell 0
  have zBT1 := BT.out.cell 1
  have zBT2 := BT.out.cell 2
  have zG10 := G1.out.cell 0
  have zG11 := G1.out.cell 1
  have zG20 := G2.out.cell 0
  have zG30 := G3.out.cell 0
  have zH10 := H1.out.cell 0
  have zH11 := H1.out.cell 1
  have zH20 := H2.out.cell 0
  have zH30 := H3.out.cell 0
  have ff := BO.out.frozen 0
  go_upto_region 10 with fail
  clear ff
  clear zB00 zB01 zB02 zB03 zB10 zB11 zB12 zB13 zBO0 zBO1 zBO2 zBT0 zBT1 zBT2 zG10 zG11 zG20 zG30 zH10 zH11 zH20 zH30
  have HB := Lib.hid (HB.out.setCell (p := ⟨w.heap.size + 1 + 1 + 1, 0, none⟩) (by dsimp only; omega) (.bool true))
  have B0 := Lib.hid (B0.out.far (p := ⟨w.heap.size + 1 + 1 + 1, 0, none⟩) (B0.out.ne_ BO.out (by decide)) (.bool true))
  have B1 := Lib.hid (B1.out.far (p := ⟨w.heap.size + 1 + 1 + 1, 0, none⟩) (B1.out.ne_ BO.out (by decide)) (.bool true))
  have BR := Lib.hid (BR.out.far (p := ⟨w.heap.size + 1 + 1 + 1, 0, none⟩) (by dsimp only; omega) (.bool true))
  have G1 := Lib.hid (G1.out.far (p := ⟨w.heap.size + 1 + 1 + 1, 0, none⟩) (G1.out.ne_ BO.out (by decide)) (.bool true))
  have G2 := Lib.hid (G2.out.far (p := ⟨w.heap.size + 1 + 1 + 1, 0, none⟩) (G2.out.ne_ BO.out (by decide)) (.bool true))
  have G3 := Lib.hid (G3.out.far (p := ⟨w.heap.size + 1 + 1 + 1, 0, none⟩) (G3.out.ne_ BO.out (by decide)) (.bool true))
  have H1 := Lib.hid (H1.out.far (p := ⟨w.heap.size + 1 + 1 + 1, 0, none⟩) (H1.out.ne_ BO.out (by decide)) (.bool true))
  have H2 := Lib.hid (H2.out.far (p := ⟨w.heap.size + 1 + 1 + 1, 0, none⟩) (H2.out.ne_ BO.out (by decide)) (.bool true))
  have H3 := Lib.hid (H3.out.far (p := ⟨w.heap.size + 1 + 1 + 1, 0, none⟩) (H3.out.ne_ BO.out (by decide)) (.bool true))
  have BT := Lib.hid (BT.out.far (p := ⟨w.heap.size + 1 + 1 + 1, 0, none⟩) (BT.out.ne_ BO.out (by decide)) (.bool true))
  have hs_ : Blk (w7.setCell ⟨w.heap.size + 1 + 1 + 1, 0, none⟩ (.bool true)) (w.heap.size + 1 + 1 + 1) 49 #[.bool true, .bool false, .bool false] := BO.out.set_ 0 (.bool true)
  have BO := Lib.hid hs_
  clear hs_
  generalize w7.setCell ⟨w.heap.size + 1 + 1 + 1, 0, none⟩ (.bool true) = w8 at *
  go_wp2_with fail
  rw [rounds_succ]
  go_wp2_with fail
  rw [rounds_succ]
  have ii := i1.out
  go_wp2_with fail
  clear ii
  refine wp_loop_rounds 2 ?_
  rw [rounds_succ]
  have zB00 := B0.out.cell 0
  have zB01 := B0.out.cell 1
  have zB02 := B0.out.cell 2
  have zB03 := B0.out.cell 3
  have zB10 := B1.out.cell 0
  have zB11 := B1.out.cell 1
  have zB12 := B1.out.cell 2
  have zB13 := B1.out.cell 3
  have zBO0 := BO.out.cell 0
  have zBO1 := BO.out.cell 1
  have zBO2 := BO.out.cell 2
  have zBT0 := BT.out.cell 0
  have zBT1 := BT.out.cell 1
  have zBT2 := BT.out.cell 2
  have zG10 := G1.out.cell 0
  have zG11 := G1.out.cell 1
  have zG20 := G2.out.cell 0
  have zG30 := G3.out.cell 0
  have zH10 := H1.out.cell 0
  have zH11 := H1.out.cell 1
  have zH20 := H2.out.cell 0
  have zH30 := H3.out.cell 0
  go_upto_region 9 with fail
  refine wp_region_still_tail 19 (by kernel_rfl) (by kernel_rfl) ?_
  repeat still_step
  change wpList _ _ _ _ _ w8.drew
  clear zB00 zB01 zB02 zB03 zB10 zB11 zB12 zB13 zBO0 zBO1 zBO2 zBT0 zBT1 zBT2 zG10 zG11 zG20 zG30 zH10 zH11 zH20 zH30
  obtain ⟨w9, hwd⟩ : ∃ q, q = w8.drew := ⟨_, rfl⟩
  rw [← hwd]
  have HB := Lib.hid (show Below w.heap.size w w9 from by rw [hwd]; exact Below.drew HB.out)
  have B0 := Lib.hid (show Blk w9 (w.heap.size) 23 _ from by rw [hwd]; exact B0.out)
  have B1 := Lib.hid (show Blk w9 (w.heap.size + 1) 23 _ from by rw [hwd]; exact B1.out)
  have BR := Lib.hid (show Blk w9 (w.heap.size + 1 + 1) 49 _ from by rw [hwd]; exact BR.out)
  have BO := Lib.hid (show Blk w9 (w.heap.size + 1 + 1 + 1) 49 _ from by rw [hwd]; exact BO.out)
  have G1 := Lib.hid (show Blk w9 (g1) 57 _ from by rw [hwd]; exact G1.out)
  have G2 := Lib.hid (show Blk w9 (g2) 57 _ from by rw [hwd]; exact G2.out)
  have G3 := Lib.hid (show Blk w9 (g3) 57 _ from by rw [hwd]; exact G3.out)
  have H1 := Lib.hid (show Blk w9 (h1) 57 _ from by rw [hwd]; exact H1.out)
  have H2 := Lib.hid (show Blk w9 (h2) 57 _ from by rw [hwd]; exact H2.out)
  have H3 := Lib.hid (show Blk w9 (h3) 57 _ from by rw [hwd]; exact H3.out)
  have BT := Lib.hid (show Blk w9 (_) 46 _ from by rw [hwd]; exact BT.out)
  clear hwd
  have zB00 := B0.out.cell 0
  have zB01 := B0.out.cell 1
  have zB02 := B0.out.cell 2
  have zB03 := B0.out.cell 3
  have zB10 := B1.out.cell 0
  have zB11 := B1.out.cell 1
  have zB12 := B1.out.cell 2
  have zB13 := B1.out.cell 3
  have zBO0 := BO.out.cell 0
  have zBO1 := BO.out.cell 1
  have zBO2 := BO.out.cell 2
  have zBT0 := BT.out.cell 0
  have zBT1 := BT.out.cell 1
  have zBT2 := BT.out.cell 2
  have zG10 := G1.out.cell 0
  have zG11 := G1.out.cell 1
  have zG20 := G2.out.cell 0
  have zG30 := G3.out.cell 0
  have zH10 := H1.out.cell 0
  have zH11 := H1.out.cell 1
  have zH20 := H2.out.cell 0
  have zH30 := H3.out.cell 0
  have ff := BO.out.frozen 1
  go_upto_region 10 with fail
  clear ff
  clear zB00 zB01 zB02 zB03 zB10 zB11 zB12 zB13 zBO0 zBO1 zBO2 zBT0 zBT1 zBT2 zG10 zG11 zG20 zG30 zH10 zH11 zH20 zH30
  have HB := Lib.hid (HB.out.setCell (p := ⟨w.heap.size + 1 + 1 + 1, 1, none⟩) (by dsimp only; omega) (.bool (C != C')))
  have B0 := Lib.hid (B0.out.far (p := ⟨w.heap.size + 1 + 1 + 1, 1, none⟩) (B0.out.ne_ BO.out (by decide)) (.bool (C != C')))
  have B1 := Lib.hid (B1.out.far (p := ⟨w.heap.size + 1 + 1 + 1, 1, none⟩) (B1.out.ne_ BO.out (by decide)) (.bool (C != C')))
  have BR := Lib.hid (BR.out.far (p := ⟨w.heap.size + 1 + 1 + 1, 1, none⟩) (by dsimp only; omega) (.bool (C != C')))
  have G1 := Lib.hid (G1.out.far (p := ⟨w.heap.size + 1 + 1 + 1, 1, none⟩) (G1.out.ne_ BO.out (by decide)) (.bool (C != C')))
  have G2 := Lib.hid (G2.out.far (p := ⟨w.heap.size + 1 + 1 + 1, 1, none⟩) (G2.out.ne_ BO.out (by decide)) (.bool (C != C')))
  have G3 := Lib.hid (G3.out.far (p := ⟨w.heap.size + 1 + 1 + 1, 1, none⟩) (G3.out.ne_ BO.out (by decide)) (.bool (C != C')))
  have H1 := Lib.hid (H1.out.far (p := ⟨w.heap.size + 1 + 1 + 1, 1, none⟩) (H1.out.ne_ BO.out (by decide)) (.bool (C != C')))
  have H2 := Lib.hid (H2.out.far (p := ⟨w.heap.size + 1 + 1 + 1, 1, none⟩) (H2.out.ne_ BO.out (by decide)) (.bool (C != C')))
  have H3 := Lib.hid (H3.out.far (p := ⟨w.heap.size + 1 + 1 + 1, 1, none⟩) (H3.out.ne_ BO.out (by decide)) (.bool (C != C')))
  have BT := Lib.hid (BT.out.far (p := ⟨w.heap.size + 1 + 1 + 1, 1, none⟩) (BT.out.ne_ BO.out (by decide)) (.bool (C != C')))
  have hs_ : Blk (w9.setCell ⟨w.heap.size + 1 + 1 + 1, 1, none⟩ (.bool (C != C'))) (w.heap.size + 1 + 1 + 1) 49 #[.bool true, .bool (C != C'), .bool false] := BO.out.set_ 1 (.bool (C != C'))
  have BO := Lib.hid hs_
  clear hs_
  generalize w9.setCell ⟨w.heap.size + 1 + 1 + 1, 1, none⟩ (.bool (C != C')) = w10 at *
  go_wp2_with fail
  rw [rounds_succ]
  go_wp2_with fail
  rw [rounds_succ]
  have ii := i2.out
  go_wp2_with fail
  clear ii
  refine wp_loop_rounds 2 ?_
  rw [rounds_succ]
  have zB00 := B0.out.cell 0
  have zB01 := B0.out.cell 1
  have zB02 := B0.out.cell 2
  have zB03 := B0.out.cell 3
  have zB10 := B1.out.cell 0
  have zB11 := B1.out.cell 1
  have zB12 := B1.out.cell 2
  have zB13 := B1.out.cell 3
  have zBO0 := BO.out.cell 0
  have zBO1 := BO.out.cell 1
  have zBO2 := BO.out.cell 2
  have zBT0 := BT.out.cell 0
  have zBT1 := BT.out.cell 1
  have zBT2 := BT.out.cell 2
  have zG10 := G1.out.cell 0
  have zG11 := G1.out.cell 1
  have zG20 := G2.out.cell 0
  have zG30 := G3.out.cell 0
  have zH10 := H1.out.cell 0
  have zH11 := H1.out.cell 1
  have zH20 := H2.out.cell 0
  have zH30 := H3.out.cell 0
  go_upto_region 9 with fail
  refine wp_region_still_tail 19 (by kernel_rfl) (by kernel_rfl) ?_
  repeat still_step
  change wpList _ _ _ _ _ w10.drew
  clear zB00 zB01 zB02 zB03 zB10 zB11 zB12 zB13 zBO0 zBO1 zBO2 zBT0 zBT1 zBT2 zG10 zG11 zG20 zG30 zH10 zH11 zH20 zH30
  obtain ⟨w11, hwd⟩ : ∃ q, q = w10.drew := ⟨_, rfl⟩
  rw [← hwd]
  have HB := Lib.hid (show Below w.heap.size w w11 from by rw [hwd]; exact Below.drew HB.out)
  have B0 := Lib.hid (show Blk w11 (w.heap.size) 23 _ from by rw [hwd]; exact B0.out)
  have B1 := Lib.hid (show Blk w11 (w.heap.size + 1) 23 _ from by rw [hwd]; exact B1.out)
  have BR := Lib.hid (show Blk w11 (w.heap.size + 1 + 1) 49 _ from by rw [hwd]; exact BR.out)
  have BO := Lib.hid (show Blk w11 (w.heap.size + 1 + 1 + 1) 49 _ from by rw [hwd]; exact BO.out)
  have G1 := Lib.hid (show Blk w11 (g1) 57 _ from by rw [hwd]; exact G1.out)
  have G2 := Lib.hid (show Blk w11 (g2) 57 _ from by rw [hwd]; exact G2.out)
  have G3 := Lib.hid (show Blk w11 (g3) 57 _ from by rw [hwd]; exact G3.out)
  have H1 := Lib.hid (show Blk w11 (h1) 57 _ from by rw [hwd]; exact H1.out)
  have H2 := Lib.hid (show Blk w11 (h2) 57 _ from by rw [hwd]; exact H2.out)
  have H3 := Lib.hid (show Blk w11 (h3) 57 _ from by rw [hwd]; exact H3.out)
  have BT := Lib.hid (show Blk w11 (_) 46 _ from by rw [hwd]; exact BT.out)
  clear hwd
  have zB00 := B0.out.cell 0
  have zB01 := B0.out.cell 1
  have zB02 := B0.out.cell 2
  have zB03 := B0.out.cell 3
  have zB10 := B1.out.cell 0
  have zB11 := B1.out.cell 1
  have zB12 := B1.out.cell 2
  have zB13 := B1.out.cell 3
  have zBO0 := BO.out.cell 0
  have zBO1 := BO.out.cell 1
  have zBO2 := BO.out.cell 2
  have zBT0 := BT.out.cell 0
  have zBT1 := BT.out.cell 1
  have zBT2 := BT.out.cell 2
  have zG10 := G1.out.cell 0
  have zG11 := G1.out.cell 1
  have zG20 := G2.out.cell 0
  have zG30 := G3.out.cell 0
  have zH10 := H1.out.cell 0
  have zH11 := H1.out.cell 1
  have zH20 := H2.out.cell 0
  have zH30 := H3.out.cell 0
  have ff := BO.out.frozen 2
  go_upto_region 10 with fail
  clear ff
  clear zB00 zB01 zB02 zB03 zB10 zB11 zB12 zB13 zBO0 zBO1 zBO2 zBT0 zBT1 zBT2 zG10 zG11 zG20 zG30 zH10 zH11 zH20 zH30
  have HB := Lib.hid (HB.out.setCell (p := ⟨w.heap.size + 1 + 1 + 1, 2, none⟩) (by dsimp only; omega) (.bool (B != B')))
  have B0 := Lib.hid (B0.out.far (p := ⟨w.heap.size + 1 + 1 + 1, 2, none⟩) (B0.out.ne_ BO.out (by decide)) (.bool (B != B')))
  have B1 := Lib.hid (B1.out.far (p := ⟨w.heap.size + 1 + 1 + 1, 2, none⟩) (B1.out.ne_ BO.out (by decide)) (.bool (B != B')))
  have BR := Lib.hid (BR.out.far (p := ⟨w.heap.size + 1 + 1 + 1, 2, none⟩) (by dsimp only; omega) (.bool (B != B')))
  have G1 := Lib.hid (G1.out.far (p := ⟨w.heap.size + 1 + 1 + 1, 2, none⟩) (G1.out.ne_ BO.out (by decide)) (.bool (B != B')))
  have G2 := Lib.hid (G2.out.far (p := ⟨w.heap.size + 1 + 1 + 1, 2, none⟩) (G2.out.ne_ BO.out (by decide)) (.bool (B != B')))
  have G3 := Lib.hid (G3.out.far (p := ⟨w.heap.size + 1 + 1 + 1, 2, none⟩) (G3.out.ne_ BO.out (by decide)) (.bool (B != B')))
  have H1 := Lib.hid (H1.out.far (p := ⟨w.heap.size + 1 + 1 + 1, 2, none⟩) (H1.out.ne_ BO.out (by decide)) (.bool (B != B')))
  have H2 := Lib.hid (H2.out.far (p := ⟨w.heap.size + 1 + 1 + 1, 2, none⟩) (H2.out.ne_ BO.out (by decide)) (.bool (B != B')))
  have H3 := Lib.hid (H3.out.far (p := ⟨w.heap.size + 1 + 1 + 1, 2, none⟩) (H3.out.ne_ BO.out (by decide)) (.bool (B != B')))
  have BT := Lib.hid (BT.out.far (p := ⟨w.heap.size + 1 + 1 + 1, 2, none⟩) (BT.out.ne_ BO.out (by decide)) (.bool (B != B')))
  have hs_ : Blk (w11.setCell ⟨w.heap.size + 1 + 1 + 1, 2, none⟩ (.bool (B != B'))) (w.heap.size + 1 + 1 + 1) 49 #[.bool true, .bool (C != C'), .bool (B != B')] := BO.out.set_ 2 (.bool (B != B'))
  have BO := Lib.hid hs_
  clear hs_
  generalize w11.setCell ⟨w.heap.size + 1 + 1 + 1, 2, none⟩ (.bool (B != B')) = w12 at *
  go_wp2_with fail
  rw [rounds_succ]
  go_wp2_with fail
  rw [rounds_succ]
  have z0 := BO.out.cell 0
  have y0 := BR.out.cell 0
  have f0 := BR.out.frozen 0
  have z1 := BO.out.cell 1
  have y1 := BR.out.cell 1
  have f1 := BR.out.frozen 1
  have z2 := BO.out.cell 2
  have y2 := BR.out.cell 2
  have f2 := BR.out.frozen 2
  go_wp2_with fail
  have hrow := ((BR.out.set_ 0 (.bool true)).set_ 1 (.bool (C != C'))).set_ 2 (.bool (B != B'))
  refine bodyPost_ret (results_cell_row rfl _ _ _ 49 _ (0, 0) _ rfl hrow Try.underlying49 rfl (by kernel_rfl)) rfl ?_
  have lb : w.heap.size ≤ w.heap.size + 1 + 1 := by omega
  exact ⟨rfl, ((HB.out.setCell (p := ⟨w.heap.size + 1 + 1, 0, none⟩) lb _).setCell (p := ⟨w.heap.size + 1 + 1, 1, none⟩) lb _).setCell (p := ⟨w.heap.size + 1 + 1, 2, none⟩) lb _⟩

end Go.Proofs.Ytgdlleoefncikaa
