/- What FieldTells does at each unit. -/
import Derived.Test.YtiedjeholmoccaaFdLw
namespace Go.Proofs.Ytiedjeholmoccaa
open Go.RowKit Go.Sort
set_option linter.unusedVariables false
set_option linter.unusedSimpArgs false
/-- All blocks but those of Q lie as they lay. -/
structure ButQ (Q : Nat → Prop) (w w' : World) : Prop where
  os : w'.os = w.os
  tape : w'.tape = w.tape
  output : w'.output = w.output
  size : w.heap.size ≤ w'.heap.size
  block : ∀ k, k < w.heap.size → ¬ Q k → w'.heap[k]? = w.heap[k]?
theorem ButQ.of_below {Q : Nat → Prop} {w w' : World} (h : Below w.heap.size w w') : ButQ Q w w' := ⟨h.os, h.tape, h.output, h.size, fun k hk _ => h.block k hk⟩
theorem ButQ.set_ {Q : Nat → Prop} {w w' : World} (h : ButQ Q w w') {p : Addr} (hp : Q p.block) (u : Value) : ButQ Q w (w'.setCell p u) :=
  ⟨h.os, h.tape, h.output, by simpa [World.setCell] using h.size, fun k hk h1 => (Below.heap_setCell _ _ _ _ (by rintro rfl; exact h1 hp)).trans (h.block k hk h1)⟩
theorem ButQ.below {Q : Nat → Prop} {w w' W : World} (h : ButQ Q w w') {B : Nat} (hb : Below B W w) (hB : B ≤ w.heap.size) (hQ : ∀ k, Q k → B ≤ k) : Below B W w' :=
  ⟨h.os.trans hb.os, h.tape.trans hb.tape, h.output.trans hb.output, Nat.le_trans hb.size h.size, fun k hk => (h.block k (by omega) (fun q => by have := hQ k q; omega)).trans (hb.block k hk)⟩
theorem ButQ.keep {Q : Nat → Prop} {w w' : World} (h : ButQ Q w w') {K : Nat → Prop} (hK : ∀ k, K k → k < w.heap.size ∧ ¬ Q k) : KeepB K w w' := ⟨h.size, fun k hk => h.block k (hK k hk).1 (hK k hk).2⟩
set_option maxRecDepth 100000 in
set_option maxHeartbeats 6400000 in
theorem tells1_c (gn gg gl bx bf bs k N i ux uy s l a : Nat) (dv sv kv : Value) (ad : Addr) (us : List Un) (cx : Nat) (s0 s1 : Int) (w : World) (hn : Blk w gn 3 #[.int .i64 k]) (hg : Blk w gg 4 #[.bool true]) (hl : Blk w gl 3 #[.int .i64 l]) (hx : Blk w bx 29 #[.slice (some ad) N cx]) (hf : Blk w bf 25 #[.int .i64 a, dv, sv, kv]) (hs : Blk w bs 26 #[.int .i64 s0, .int .i64 s1]) (nnl : gn ≠ gl) (hu : ReadsE EU w (some ad) us) (hN : us.length = N) (hk : k < N) (hN2 : N ≤ 65536) (hunit : us[k]'(by omega) = ⟨(ux : Int), (uy : Int), (s : Int)⟩) (hil : l ≤ i) (hi : i = uy / 4 * a + ux / 4) (ha : a ≤ 64) (hux : ux ≤ 256) (huy : uy ≤ 256) :
    Calls Try.prog 21 #[.int .i64 (i : Int), unV ⟨(ux : Int), (uy : Int), (s : Int)⟩, .pointer (some ⟨gg, 0, none⟩), .pointer (some ⟨gn, 0, none⟩), .pointer (some ⟨bx, 0, none⟩), .pointer (some ⟨gl, 0, none⟩), .pointer (some ⟨bf, 0, none⟩), .pointer (some ⟨bs, 0, none⟩)] w fun e w' => e = .returned (.bool (((k : Int) + 1) != s0)) ∧ Blk w' gn 3 #[.int .i64 ((k : Int) + 1)] ∧ Blk w' gg 4 #[.bool true] ∧ Blk w' gl 3 #[.int .i64 (i : Int)] ∧ ButQ (fun j => j = gn ∨ j = gg ∨ j = gl) w w' := by
  have BN := Lib.hid hn
  have BG := Lib.hid hg
  have BL := Lib.hid hl
  have BX := Lib.hid hx
  have BF := Lib.hid hf
  have BS := Lib.hid hs
  have RU := Lib.hid hu
  have HB := Lib.hid (Below.refl w.heap.size w)
  have ngl : gg ≠ gl := hg.ne_ hl (by decide)
  have nng : gn ≠ gg := hn.ne_ hg (by decide)
  have nsn : bs ≠ gn := hs.ne_ hn (by decide)
  have nsg : bs ≠ gg := hs.ne_ hg (by decide)
  have nsl : bs ≠ gl := hs.ne_ hl (by decide)
  have hlt : k < us.length := by omega
  obtain ⟨qy, hqy⟩ : ∃ q, q = uy / 4 := ⟨_, rfl⟩
  obtain ⟨qx, hqx⟩ : ∃ q, q = ux / 4 := ⟨_, rfl⟩
  rw [← hqy, ← hqx] at hi
  have D1 : (uy : Int).tdiv 4 = (qy : Int) := by rw [Int.tdiv_eq_ediv_of_nonneg (by omega), hqy]; exact (Int.natCast_ediv _ _).symm
  have D2 : (ux : Int).tdiv 4 = (qx : Int) := by rw [Int.tdiv_eq_ediv_of_nonneg (by omega), hqx]; exact (Int.natCast_ediv _ _).symm
  have E1 : (qy : Int) * (a : Int) = ((qy * a : Nat) : Int) := (Int.natCast_mul _ _).symm
  have hqa : qy * a ≤ 64 * 64 := Nat.mul_le_mul (by omega) (by omega)
  have W1 : IntKind.i64.wrap ((qy : Int) * (a : Int)) = (qy : Int) * (a : Int) := IntWalk.i64_in _ (by omega)
  have W2 : IntKind.i64.wrap ((qy : Int) * (a : Int) + (qx : Int)) = (i : Int) := by rw [E1, ← Int.natCast_add, ← hi]; exact IntWalk.i64_in _ (by omega)
  have W3 : IntKind.i64.wrap (qy : Int) = (qy : Int) := IntWalk.i64_in _ (by omega)
  have W4 : IntKind.i64.wrap (qx : Int) = (qx : Int) := IntWalk.i64_in _ (by omega)
  have W5 : IntKind.i64.wrap ((k : Int) + 1) = ((k : Int) + 1) := IntWalk.i64_in _ (by omega)
  have T1 : decide ((k : Int) < (N : Int)) = true := by simp; omega
  have T2 : decide ((l : Int) ≤ (i : Int)) = true := by simp; omega
  have i1 : (0 : Int) ≤ (k : Int) := by omega
  have i2 : (k : Int) < (N : Int) := by omega
  have HUK := Lib.hid hunit
  clear hn hg hl hx hf hs hu hi hqy hqx E1 hqa hunit
  go_enter Try.func21, Try.ntmps21
  go_wp2_with fail
  have BN := Lib.hid ((BN.out).alloc (.cells #[.int .i64 (ux : Int), .int .i64 (uy : Int), .int .i64 (s : Int)] 34))
  have BG := Lib.hid ((BG.out).alloc (.cells #[.int .i64 (ux : Int), .int .i64 (uy : Int), .int .i64 (s : Int)] 34))
  have BL := Lib.hid ((BL.out).alloc (.cells #[.int .i64 (ux : Int), .int .i64 (uy : Int), .int .i64 (s : Int)] 34))
  have BX := Lib.hid ((BX.out).alloc (.cells #[.int .i64 (ux : Int), .int .i64 (uy : Int), .int .i64 (s : Int)] 34))
  have BF := Lib.hid ((BF.out).alloc (.cells #[.int .i64 (ux : Int), .int .i64 (uy : Int), .int .i64 (s : Int)] 34))
  have BS := Lib.hid ((BS.out).alloc (.cells #[.int .i64 (ux : Int), .int .i64 (uy : Int), .int .i64 (s : Int)] 34))
  have RU := Lib.hid ((RU.out).alloc (.cells #[.int .i64 (ux : Int), .int .i64 (uy : Int), .int .i64 (s : Int)] 34))
  have HB := Lib.hid (below_alloc_ (HB.out) (.cells #[.int .i64 (ux : Int), .int .i64 (uy : Int), .int .i64 (s : Int)] 34))
  have hzw : (w.alloc (.cells #[.int .i64 (ux : Int), .int .i64 (uy : Int), .int .i64 (s : Int)] 34)).heap.size = w.heap.size + 1 := by simp only [World.size_alloc]
  have BU := Blk.new (w) 34 #[.int .i64 (ux : Int), .int .i64 (uy : Int), .int .i64 (s : Int)]
  skip
  have BU := Lib.hid BU
  generalize w.alloc (.cells #[.int .i64 (ux : Int), .int .i64 (uy : Int), .int .i64 (s : Int)] 34) = w1 at *
  clear hzw
  obtain ⟨ad', eA, l1, y0, y1, y2⟩ := ReadsE.un RU.out hlt
  injection eA with eA
  subst eA
  rw [HUK.out] at y0 y1 y2
  dsimp only at y0 y1 y2
  have zBN := BN.out.cells1
  have zBG := BG.out.cells1
  have zBL := BL.out.cells1
  have zBX := BX.out.cells1
  obtain ⟨zBF0, zBF1, zBF2, zBF3⟩ := BF.out.cells4
  obtain ⟨zBS0, zBS1⟩ := BS.out.cells2
  obtain ⟨zBU0, zBU1, zBU2⟩ := BU.out.cells3
  refine wp_region_still_tail 34 (by kernel_rfl) (by kernel_rfl) ?_
  repeat still_step
  change wpList _ _ _ _ _ w1.drew
  clear zBN zBG zBL zBX zBF0 zBF1 zBF2 zBF3 zBS0 zBS1 zBU0 zBU1 zBU2
  clear y0 y1 y2 l1 D1 D2 W1 W2 W3 W4 T1 T2 i1 i2
  obtain ⟨wd, hwd⟩ : ∃ q, q = w1.drew := ⟨_, rfl⟩
  rw [← hwd]
  have BN := Lib.hid (show Blk wd gn 3 #[.int .i64 k] by rw [hwd]; exact BN.out)
  have BG := Lib.hid (show Blk wd gg 4 #[.bool true] by rw [hwd]; exact BG.out)
  have BL := Lib.hid (show Blk wd gl 3 #[.int .i64 l] by rw [hwd]; exact BL.out)
  have BX := Lib.hid (show Blk wd bx 29 #[.slice (some ad) N cx] by rw [hwd]; exact BX.out)
  have BF := Lib.hid (show Blk wd bf 25 #[.int .i64 a, dv, sv, kv] by rw [hwd]; exact BF.out)
  have BS := Lib.hid (show Blk wd bs 26 #[.int .i64 s0, .int .i64 s1] by rw [hwd]; exact BS.out)
  have BU := Lib.hid (show Blk wd w.heap.size 34 #[.int .i64 (ux : Int), .int .i64 (uy : Int), .int .i64 (s : Int)] by rw [hwd]; exact BU.out)
  have HQ := Lib.hid (show ButQ (fun j => j = gn ∨ j = gg ∨ j = gl) w wd by rw [hwd]; exact ButQ.of_below (Below.drew HB.out))
  clear hwd RU HB
  have zBN := BN.out.cells1
  have zBG := BG.out.cells1
  have zBL := BL.out.cells1
  have zBX := BX.out.cells1
  obtain ⟨zBF0, zBF1, zBF2, zBF3⟩ := BF.out.cells4
  obtain ⟨zBS0, zBS1⟩ := BS.out.cells2
  obtain ⟨zBU0, zBU1, zBU2⟩ := BU.out.cells3
  have ff := BG.out.frozen 0
  go_upto_region 2 with fail
  clear zBN zBG zBL zBX zBF0 zBF1 zBF2 zBF3 zBS0 zBS1 zBU0 zBU1 zBU2
  clear ff
  have BN := Lib.hid (BN.out.far (p := ⟨gg, 0, none⟩) (by dsimp only; omega) (.bool true))
  have BL := Lib.hid (BL.out.far (p := ⟨gg, 0, none⟩) (by dsimp only; omega) (.bool true))
  have BS := Lib.hid (BS.out.far (p := ⟨gg, 0, none⟩) (by dsimp only; omega) (.bool true))
  clear BX
  clear BF
  clear BU
  have hs_ : Blk (wd.setCell ⟨gg, 0, none⟩ (.bool true)) gg 4 #[.bool true] := BG.out.set_ 0 (.bool true)
  have BG := Lib.hid hs_
  clear hs_
  have HQ := Lib.hid (HQ.out.set_ (p := ⟨gg, 0, none⟩) (.inr (.inl rfl)) (.bool true))
  generalize wd.setCell ⟨gg, 0, none⟩ (.bool true) = w2 at *
  have zBN := BN.out.cells1
  have zBG := BG.out.cells1
  have zBL := BL.out.cells1
  obtain ⟨zBS0, zBS1⟩ := BS.out.cells2
  have ff := BL.out.frozen 0
  go_upto_region 3 with fail
  clear zBN zBG zBL zBS0 zBS1
  clear ff
  have BN := Lib.hid (BN.out.far (p := ⟨gl, 0, none⟩) (by dsimp only; omega) (.int .i64 (i : Int)))
  have BG := Lib.hid (BG.out.far (p := ⟨gl, 0, none⟩) (by dsimp only; omega) (.int .i64 (i : Int)))
  have BS := Lib.hid (BS.out.far (p := ⟨gl, 0, none⟩) (by dsimp only; omega) (.int .i64 (i : Int)))
  have hs_ : Blk (w2.setCell ⟨gl, 0, none⟩ (.int .i64 (i : Int))) gl 3 #[.int .i64 (i : Int)] := BL.out.set_ 0 (.int .i64 (i : Int))
  have BL := Lib.hid hs_
  clear hs_
  have HQ := Lib.hid (HQ.out.set_ (p := ⟨gl, 0, none⟩) (.inr (.inr rfl)) (.int .i64 (i : Int)))
  generalize w2.setCell ⟨gl, 0, none⟩ (.int .i64 (i : Int)) = w3 at *
  have zBN := BN.out.cells1
  have zBG := BG.out.cells1
  have zBL := BL.out.cells1
  obtain ⟨zBS0, zBS1⟩ := BS.out.cells2
  have ff := BN.out.frozen 0
  go_upto_region 4 with fail
  clear zBN zBG zBL zBS0 zBS1
  clear ff
  have BG := Lib.hid (BG.out.far (p := ⟨gn, 0, none⟩) (by dsimp only; omega) (.int .i64 ((k : Int) + 1)))
  have BL := Lib.hid (BL.out.far (p := ⟨gn, 0, none⟩) (by dsimp only; omega) (.int .i64 ((k : Int) + 1)))
  have BS := Lib.hid (BS.out.far (p := ⟨gn, 0, none⟩) (by dsimp only; omega) (.int .i64 ((k : Int) + 1)))
  have hs_ : Blk (w3.setCell ⟨gn, 0, none⟩ (.int .i64 ((k : Int) + 1))) gn 3 #[.int .i64 ((k : Int) + 1)] := BN.out.set_ 0 (.int .i64 ((k : Int) + 1))
  have BN := Lib.hid hs_
  clear hs_
  have HQ := Lib.hid (HQ.out.set_ (p := ⟨gn, 0, none⟩) (.inl rfl) (.int .i64 ((k : Int) + 1)))
  generalize w3.setCell ⟨gn, 0, none⟩ (.int .i64 ((k : Int) + 1)) = w4 at *
  have zBN := BN.out.cells1
  have zBG := BG.out.cells1
  have zBL := BL.out.cells1
  obtain ⟨zBS0, zBS1⟩ := BS.out.cells2
  go_wp2_with fail
  go_ret
  exact ⟨rfl, BN.out, BG.out, BL.out, HQ.out⟩

end Go.Proofs.Ytiedjeholmoccaa
