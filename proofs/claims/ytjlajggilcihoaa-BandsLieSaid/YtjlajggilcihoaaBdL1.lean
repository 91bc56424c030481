/- What the function does that the law BandsLie hands to All. -/
import Derived.Test.YtjlajggilcihoaaBdF
import Derived.Test.YtjlajggilcihoaaBut
namespace Go.Proofs.Ytjlajggilcihoaa
open Go.RowKit Go.Sort Go.Shelf
set_option linter.unusedVariables false
set_option linter.unusedSimpArgs false


/-- Six cells from a place on hold a band. -/
def Six (w : World) (a : Addr) (b : Bd) : Prop := w.cell? a = some (.int .i64 b.l) ∧ w.cell? ⟨a.block, a.off + 1, none⟩ = some (.int .i64 b.o) ∧ w.cell? ⟨a.block, a.off + 2, none⟩ = some (.int .i64 b.x) ∧ w.cell? ⟨a.block, a.off + 3, none⟩ = some (.int .i64 b.y) ∧ w.cell? ⟨a.block, a.off + 4, none⟩ = some (.int .i64 b.w) ∧ w.cell? ⟨a.block, a.off + 5, none⟩ = some (.int .i64 b.h)
theorem Six.kept {w w' : World} {a : Addr} {b : Bd} (h : Six w a b) (hb : Below w.heap.size w w') : Six w' a b := by
  obtain ⟨h0, h1, h2, h3, h4, h5⟩ := h
  have hl := block_lt_of_cell h0
  exact ⟨(hb.cell hl).trans h0, (hb.cell (p := ⟨a.block, a.off + 1, none⟩) hl).trans h1, (hb.cell (p := ⟨a.block, a.off + 2, none⟩) hl).trans h2, (hb.cell (p := ⟨a.block, a.off + 3, none⟩) hl).trans h3, (hb.cell (p := ⟨a.block, a.off + 4, none⟩) hl).trans h4, (hb.cell (p := ⟨a.block, a.off + 5, none⟩) hl).trans h5⟩
theorem Six.drew {w : World} {a : Addr} {b : Bd} (h : Six w a b) : Six w.drew a b := h
theorem Six.alloc {w : World} {a : Addr} {b : Bd} (h : Six w a b) (o : Obj) : Six (w.alloc o) a b := h.kept ((Below.refl _ _).alloc (Nat.le_refl _) o)
theorem Six.set_ {w : World} {a : Addr} {b : Bd} (h : Six w a b) {g i : Nat} (hne : a.block ≠ g) (u : Value) : Six (w.setCell ⟨g, i, none⟩ u) a b := by
  obtain ⟨h0, h1, h2, h3, h4, h5⟩ := h
  have hq : ∀ p : Addr, p.block = a.block → (w.setCell ⟨g, i, none⟩ u).cell? p = w.cell? p := fun p hp => World.cell?_setCell_other w ⟨g, i, none⟩ p u (fun e => hne (by rw [← hp, ← e]))
  exact ⟨(hq a rfl).trans h0, (hq ⟨a.block, a.off + 1, none⟩ rfl).trans h1, (hq ⟨a.block, a.off + 2, none⟩ rfl).trans h2, (hq ⟨a.block, a.off + 3, none⟩ rfl).trans h3, (hq ⟨a.block, a.off + 4, none⟩ rfl).trans h4, (hq ⟨a.block, a.off + 5, none⟩ rfl).trans h5⟩
theorem Blk.of_drew {w : World} {g : Nat} {t : TypeId} {cs : Array Value} (h : Blk w.drew g t cs) : Blk w g t cs := h
set_option maxRecDepth 100000 in
set_option maxHeartbeats 16000000 in
theorem lie1_c (bo bn bl bs k m : Nat) (b : Bd) (ad : Addr) (c : Nat) (stop : Int) (n1 : Nat) (w : World) (hk : k < m) (hm : m ≤ 1000000)
    (ho : Blk w bo 4 #[.bool true]) (hn : Blk w bn 3 #[.int .i64 k]) (hl : Blk w bl 24 #[.slice (some ad) m c]) (hs : Blk w bs 3 #[.int .i64 stop]) (hns : bs ≠ bn) (h6 : Six w (ad.add (k * 6)) b) (hdo : ad.block ≠ bo) (hdn : ad.block ≠ bn) (hw1 : n1 ≤ w.heap.size) :
    Calls Try.prog 12 #[.int .i64 (k : Int), bdV b, .pointer (some ⟨bo, 0, none⟩), .pointer (some ⟨bn, 0, none⟩), .pointer (some ⟨bl, 0, none⟩), .pointer (some ⟨bs, 0, none⟩)] w fun e w' =>
      e = .returned (.bool (((k : Int) + 1) != stop)) ∧ Blk w' bo 4 #[.bool true] ∧ Blk w' bn 3 #[.int .i64 ((k + 1 : Nat) : Int)] ∧ ButTwo n1 bo bn w w' := by
  have BO := Lib.hid ho
  have BN := Lib.hid hn
  have BL := Lib.hid hl
  have BS := Lib.hid hs
  have S6 := Lib.hid h6
  have HT := Lib.hid (ButTwo.refl n1 bo bn w)
  have hon := Blk.ne_ ho hn (by decide)
  have hln := Blk.ne_ hl ho (by decide)
  have hsn := Blk.ne_ hs ho (by decide)
  have hl2 := Blk.ne_ hl hn (by decide)
  have hob := ho.lt
  have hnb := hn.lt
  have hlb := hl.lt
  have hsb := hs.lt
  have i1 : (0 : Int) ≤ (k : Int) := by omega
  have i2 : (k : Int) < (m : Int) := by omega
  have k2 : ((k : Int) == (k : Int)) = true := by simp
  have W1 : IntKind.i64.wrap ((k : Int) + 1) = (k : Int) + 1 := IntWalk.i64_in _ (by omega)
  clear ho hn hl hs h6
  go_enter Try.func12, Try.ntmps12
  go_wp2_with fail
  have HT := Lib.hid (show ButTwo n1 bo bn w (w.alloc (.cells #[.int .i64 b.l, .int .i64 b.o, .int .i64 b.x, .int .i64 b.y, .int .i64 b.w, .int .i64 b.h] 31)) from HT.out.trans_ ((Below.refl _ _).alloc (Nat.le_refl _) _) hw1)
  have BO := Lib.hid ((BO.out).alloc (.cells #[.int .i64 b.l, .int .i64 b.o, .int .i64 b.x, .int .i64 b.y, .int .i64 b.w, .int .i64 b.h] 31))
  have BN := Lib.hid ((BN.out).alloc (.cells #[.int .i64 b.l, .int .i64 b.o, .int .i64 b.x, .int .i64 b.y, .int .i64 b.w, .int .i64 b.h] 31))
  have BL := Lib.hid ((BL.out).alloc (.cells #[.int .i64 b.l, .int .i64 b.o, .int .i64 b.x, .int .i64 b.y, .int .i64 b.w, .int .i64 b.h] 31))
  have BS := Lib.hid ((BS.out).alloc (.cells #[.int .i64 b.l, .int .i64 b.o, .int .i64 b.x, .int .i64 b.y, .int .i64 b.w, .int .i64 b.h] 31))
  have S6 := Lib.hid ((S6.out).alloc (.cells #[.int .i64 b.l, .int .i64 b.o, .int .i64 b.x, .int .i64 b.y, .int .i64 b.w, .int .i64 b.h] 31))
  have hzw : (w.alloc (.cells #[.int .i64 b.l, .int .i64 b.o, .int .i64 b.x, .int .i64 b.y, .int .i64 b.w, .int .i64 b.h] 31)).heap.size = w.heap.size + 1 := by simp only [World.size_alloc]
  have B7 := Blk.new (w) 31 #[.int .i64 b.l, .int .i64 b.o, .int .i64 b.x, .int .i64 b.y, .int .i64 b.w, .int .i64 b.h]
  skip
  have B7 := Lib.hid B7
  generalize w.alloc (.cells #[.int .i64 b.l, .int .i64 b.o, .int .i64 b.x, .int .i64 b.y, .int .i64 b.w, .int .i64 b.h] 31) = w1 at *
  have h7o : w.heap.size ≠ bo := by omega
  have h7n : w.heap.size ≠ bn := by omega
  clear hzw
  have HT := Lib.hid (show ButTwo n1 bo bn w w1.drew from ⟨HT.out.os, HT.out.tape, HT.out.output, HT.out.size, HT.out.block⟩)
  have BO := Lib.hid ((BO.out).drew)
  have BN := Lib.hid ((BN.out).drew)
  have BL := Lib.hid ((BL.out).drew)
  have BS := Lib.hid ((BS.out).drew)
  have S6 := Lib.hid ((S6.out).drew)
  have B7 := Lib.hid ((B7.out).drew)
  refine wp_region_held_drew (S := (fun w' => w'.cell? ⟨bn, 0, none⟩ = some (.int .i64 k) ∧ w'.cell? ⟨bl, 0, none⟩ = some (.slice (some ad) m c) ∧ w'.cell? ⟨w.heap.size, 0, none⟩ = some (.int .i64 b.l) ∧ w'.cell? ⟨w.heap.size, 1, none⟩ = some (.int .i64 b.o) ∧ w'.cell? ⟨w.heap.size, 2, none⟩ = some (.int .i64 b.x) ∧ w'.cell? ⟨w.heap.size, 3, none⟩ = some (.int .i64 b.y) ∧ w'.cell? ⟨w.heap.size, 4, none⟩ = some (.int .i64 b.w) ∧ w'.cell? ⟨w.heap.size, 5, none⟩ = some (.int .i64 b.h) ∧ w'.cell? (ad.add (k * 6)) = some (.int .i64 b.l) ∧ w'.cell? ⟨(ad.add (k * 6)).block, (ad.add (k * 6)).off + 1, none⟩ = some (.int .i64 b.o) ∧ w'.cell? ⟨(ad.add (k * 6)).block, (ad.add (k * 6)).off + 2, none⟩ = some (.int .i64 b.x) ∧ w'.cell? ⟨(ad.add (k * 6)).block, (ad.add (k * 6)).off + 3, none⟩ = some (.int .i64 b.y) ∧ w'.cell? ⟨(ad.add (k * 6)).block, (ad.add (k * 6)).off + 4, none⟩ = some (.int .i64 b.w) ∧ w'.cell? ⟨(ad.add (k * 6)).block, (ad.add (k * 6)).off + 5, none⟩ = some (.int .i64 b.h))) (by kernel_rfl) ?hS0 (fun hHeld => ?_)
  case hS0 => exact ⟨BN.out.cell 0, BL.out.cell 0, B7.out.cell 0, B7.out.cell 1, B7.out.cell 2, B7.out.cell 3, B7.out.cell 4, B7.out.cell 5, S6.out⟩
  refine wpAnyH_ready (rs := [0]) (by kernel_rfl) (by simp) ?_
  refine (AllReadyH.cons (o := ⟨some 9, _, _, _, _, _⟩) rfl (fun K hK => ?_) AllReadyH.nil)
  have zo := BO.out.cells1
  go_simp
  clear zo
  refine hK.out _ _ ?hS1 (fun hHeld => ?_)
  case hS1 => exact ⟨BN.out.cell 0, BL.out.cell 0, B7.out.cell 0, B7.out.cell 1, B7.out.cell 2, B7.out.cell 3, B7.out.cell 4, B7.out.cell 5, S6.out⟩
  clear hK K
  try simp only [Act.put, List.setIfInBounds_toArray, List.set_cons_zero, List.set_cons_succ]
  refine wpAnyH_take (i := 1) (oi := ⟨some 10, _, _, _, _, _⟩) (v := ?v2) rfl (by kernel_rfl) (by kernel_rfl) (by kernel_rfl) (fun _ _ _ h => h) (Or.inl ⟨by rfl, ?h2⟩) (by assumption) ?r2
  case h2 => (intro w hSw; (try dsimp only at hSw); go_simp; try with_reducible rfl)
  try simp only [Act.put, List.setIfInBounds_toArray, List.set_cons_zero, List.set_cons_succ]
  refine wpAnyH_take (i := 2) (oi := ⟨some 11, _, _, _, _, _⟩) (v := ?v3) rfl (by kernel_rfl) (by kernel_rfl) (by kernel_rfl) (fun _ _ _ h => h) (Or.inl ⟨by rfl, ?h3⟩) (by assumption) ?r3
  case h3 => (intro w hSw; (try dsimp only at hSw); go_simp; try with_reducible rfl)
  try simp only [Act.put, List.setIfInBounds_toArray, List.set_cons_zero, List.set_cons_succ]
  refine wpAnyH_take (i := 3) (oi := ⟨some 12, _, _, _, _, _⟩) (v := ?v4) rfl (by kernel_rfl) (by kernel_rfl) (by kernel_rfl) (fun _ _ _ h => h) (Or.inl ⟨by rfl, ?h4⟩) (by assumption) ?r4
  case h4 => (intro w hSw; (try dsimp only at hSw); go_simp; try with_reducible rfl)
  try simp only [Act.put, List.setIfInBounds_toArray, List.set_cons_zero, List.set_cons_succ]
  refine wpAnyH_take (i := 4) (oi := ⟨some 13, _, _, _, _, _⟩) (v := ?v5) rfl (by kernel_rfl) (by kernel_rfl) (by kernel_rfl) (fun _ _ _ h => h) (Or.inl ⟨by rfl, ?h5⟩) (by assumption) ?r5
  case h5 => (intro w hSw; (try dsimp only at hSw); go_simp; try with_reducible rfl)
  try simp only [Act.put, List.setIfInBounds_toArray, List.set_cons_zero, List.set_cons_succ]
  refine wpAnyH_take (i := 5) (oi := ⟨some 14, _, _, _, _, _⟩) (v := ?v6) rfl (by kernel_rfl) (by kernel_rfl) (by kernel_rfl) (fun _ _ _ h => h) (Or.inl ⟨by rfl, ?h6⟩) (by assumption) ?r6
  case h6 => (intro w hSw; (try dsimp only at hSw); go_simp; try with_reducible rfl)
  try simp only [Act.put, List.setIfInBounds_toArray, List.set_cons_zero, List.set_cons_succ]
  refine wpAnyH_take (i := 6) (oi := ⟨some 15, _, _, _, _, _⟩) (v := ?v7) rfl (by kernel_rfl) (by kernel_rfl) (by kernel_rfl) (fun _ _ _ h => h) (Or.inl ⟨by rfl, ?h7⟩) (by assumption) ?r7
  case h7 => (intro w hSw; (try dsimp only at hSw); go_simp; try with_reducible rfl)
  try simp only [Act.put, List.setIfInBounds_toArray, List.set_cons_zero, List.set_cons_succ]
  refine wpAnyH_take (i := 7) (oi := ⟨some 16, _, _, _, _, _⟩) (v := ?v8) rfl (by kernel_rfl) (by kernel_rfl) (by kernel_rfl) (fun _ _ _ h => h) (Or.inl ⟨by rfl, ?h8⟩) (by assumption) ?r8
  case h8 => (intro w hSw; (try dsimp only at hSw); go_simp; try with_reducible rfl)
  try simp only [Act.put, List.setIfInBounds_toArray, List.set_cons_zero, List.set_cons_succ]
  refine wpAnyH_take (i := 8) (oi := ⟨some 17, _, _, _, _, _⟩) (v := ?v9) rfl (by kernel_rfl) (by kernel_rfl) (by kernel_rfl) (fun _ _ _ h => h) (Or.inl ⟨by rfl, ?h9⟩) (by assumption) ?r9
  case h9 => (intro w hSw; (try dsimp only at hSw); go_simp; try with_reducible rfl)
  try simp only [Act.put, List.setIfInBounds_toArray, List.set_cons_zero, List.set_cons_succ]
  refine wpAnyH_take (i := 9) (oi := ⟨some 18, _, _, _, _, _⟩) (v := ?v10) rfl (by kernel_rfl) (by kernel_rfl) (by kernel_rfl) (fun _ _ _ h => h) (Or.inl ⟨by rfl, ?h10⟩) (by assumption) ?r10
  case h10 => (intro w hSw; (try dsimp only at hSw); go_simp; try with_reducible rfl)
  try simp only [Act.put, List.setIfInBounds_toArray, List.set_cons_zero, List.set_cons_succ]
  refine wpAnyH_take (i := 10) (oi := ⟨some 19, _, _, _, _, _⟩) (v := ?v11) rfl (by kernel_rfl) (by kernel_rfl) (by kernel_rfl) (fun _ _ _ h => h) (Or.inl ⟨by rfl, ?h11⟩) (by assumption) ?r11
  case h11 => (intro w hSw; (try dsimp only at hSw); go_simp; try with_reducible rfl)
  try simp only [Act.put, List.setIfInBounds_toArray, List.set_cons_zero, List.set_cons_succ]
  refine wpAnyH_take (i := 11) (oi := ⟨some 20, _, _, _, _, _⟩) (v := ?v12) rfl (by kernel_rfl) (by kernel_rfl) (by kernel_rfl) (fun _ _ _ h => h) (Or.inl ⟨by rfl, ?h12⟩) (by assumption) ?r12
  case h12 => (intro w hSw; (try dsimp only at hSw); go_simp; try with_reducible rfl)
  try simp only [Act.put, List.setIfInBounds_toArray, List.set_cons_zero, List.set_cons_succ]
  refine wpAnyH_take (i := 12) (oi := ⟨some 21, _, _, _, _, _⟩) (v := ?v13) rfl (by kernel_rfl) (by kernel_rfl) (by kernel_rfl) (fun _ _ _ h => h) (Or.inl ⟨by rfl, ?h13⟩) (by assumption) ?r13
  case h13 => (intro w hSw; (try dsimp only at hSw); go_simp; try with_reducible rfl)
  try simp only [Act.put, List.setIfInBounds_toArray, List.set_cons_zero, List.set_cons_succ]
  refine wpAnyH_take (i := 13) (oi := ⟨some 22, _, _, _, _, _⟩) (v := ?v14) rfl (by kernel_rfl) (by kernel_rfl) (by kernel_rfl) (fun _ _ _ h => h) (Or.inl ⟨by rfl, ?h14⟩) (by assumption) ?r14
  case h14 => (intro w hSw; (try dsimp only at hSw); go_simp; try with_reducible rfl)
  try simp only [Act.put, List.setIfInBounds_toArray, List.set_cons_zero, List.set_cons_succ]
  refine wpAnyH_take (i := 14) (oi := ⟨some 23, _, _, _, _, _⟩) (v := ?v15) rfl (by kernel_rfl) (by kernel_rfl) (by kernel_rfl) (fun _ _ _ h => h) (Or.inl ⟨by rfl, ?h15⟩) (by assumption) ?r15
  case h15 => (intro w hSw; (try dsimp only at hSw); go_simp; try with_reducible rfl)
  try simp only [Act.put, List.setIfInBounds_toArray, List.set_cons_zero, List.set_cons_succ]
  refine wpAnyH_take (i := 15) (oi := ⟨some 24, _, _, _, _, _⟩) (v := ?v16) rfl (by kernel_rfl) (by kernel_rfl) (by kernel_rfl) (fun _ _ _ h => h) (Or.inl ⟨by rfl, ?h16⟩) (by assumption) ?r16
  case h16 => (intro w hSw; (try dsimp only at hSw); go_simp; try with_reducible rfl)
  try simp only [Act.put, List.setIfInBounds_toArray, List.set_cons_zero, List.set_cons_succ]
  refine wpAnyH_take (i := 16) (oi := ⟨some 25, _, _, _, _, _⟩) (v := ?v17) rfl (by kernel_rfl) (by kernel_rfl) (by kernel_rfl) (fun _ _ _ h => h) (Or.inl ⟨by rfl, ?h17⟩) (by assumption) ?r17
  case h17 => (intro w hSw; (try dsimp only at hSw); go_simp; try with_reducible rfl)
  try simp only [Act.put, List.setIfInBounds_toArray, List.set_cons_zero, List.set_cons_succ]
  refine wpAnyH_take (i := 17) (oi := ⟨some 26, _, _, _, _, _⟩) (v := ?v18) rfl (by kernel_rfl) (by kernel_rfl) (by kernel_rfl) (fun _ _ _ h => h) (Or.inl ⟨by rfl, ?h18⟩) (by assumption) ?r18
  case h18 => (intro w hSw; (try dsimp only at hSw); go_simp; try with_reducible rfl)
  try simp only [Act.put, List.setIfInBounds_toArray, List.set_cons_zero, List.set_cons_succ]
  refine wpAnyH_take (i := 18) (oi := ⟨some 27, _, _, _, _, _⟩) (v := ?v19) rfl (by kernel_rfl) (by kernel_rfl) (by kernel_rfl) (fun _ _ _ h => h) (Or.inl ⟨by rfl, ?h19⟩) (by assumption) ?r19
  case h19 => (intro w hSw; (try dsimp only at hSw); go_simp; try with_reducible rfl)
  try simp only [Act.put, List.setIfInBounds_toArray, List.set_cons_zero, List.set_cons_succ]
  refine wpAnyH_take (i := 19) (oi := ⟨some 28, _, _, _, _, _⟩) (v := ?v20) rfl (by kernel_rfl) (by kernel_rfl) (by kernel_rfl) (fun _ _ _ h => h) (Or.inl ⟨by rfl, ?h20⟩) (by assumption) ?r20
  case h20 => (intro w hSw; (try dsimp only at hSw); go_simp; try with_reducible rfl)
  try simp only [Act.put, List.setIfInBounds_toArray, List.set_cons_zero, List.set_cons_succ]
  refine wpAnyH_ready (rs := [20]) (by kernel_rfl) (by simp) ?_
  refine (AllReadyH.cons (o := ⟨none, _, _, _, _, _⟩) rfl (fun K hK => ?_) AllReadyH.nil)
  have zo := BO.out.cells1
  have zf := BO.out.frozen 0
  go_simp
  clear zo zf
  have BN := Lib.hid (BN.out.far (p := ⟨bo, 0, none⟩) (Ne.symm hon) (.bool true))
  have BL := Lib.hid (BL.out.far (p := ⟨bo, 0, none⟩) hln (.bool true))
  have BS := Lib.hid (BS.out.far (p := ⟨bo, 0, none⟩) hsn (.bool true))
  have B7 := Lib.hid (B7.out.far (p := ⟨bo, 0, none⟩) h7o (.bool true))
  have S6 := Lib.hid (S6.out.set_ (g := bo) (i := 0) (by rw [block_of_add]; exact hdo) (.bool true))
  have hbo := BO.out.set_ 0 (.bool true)
  simp at hbo
  have BO := Lib.hid hbo
  have HT := Lib.hid (HT.out.set_ (p := ⟨bo, 0, none⟩) (.inl rfl) (.bool true))
  clear hbo
  have BN := Lib.hid (show Blk (w1.setCell ⟨bo, 0, none⟩ (.bool true)).drew bn _ _ from BN.out)
  have BL := Lib.hid (show Blk (w1.setCell ⟨bo, 0, none⟩ (.bool true)).drew bl _ _ from BL.out)
  have BS := Lib.hid (show Blk (w1.setCell ⟨bo, 0, none⟩ (.bool true)).drew bs _ _ from BS.out)
  have B7 := Lib.hid (show Blk (w1.setCell ⟨bo, 0, none⟩ (.bool true)).drew w.heap.size _ _ from B7.out)
  have BO := Lib.hid (show Blk (w1.setCell ⟨bo, 0, none⟩ (.bool true)).drew bo _ _ from BO.out)
  have S6 := Lib.hid (show Six (w1.setCell ⟨bo, 0, none⟩ (.bool true)).drew _ _ from S6.out)
  have HT := Lib.hid (show ButTwo n1 bo bn w (w1.setCell ⟨bo, 0, none⟩ (.bool true)).drew from HT.out)
  generalize (w1.setCell ⟨bo, 0, none⟩ (.bool true)).drew = w2 at *
  refine hK.out _ _ ?hS21 (fun hHeld => ?_)
  case hS21 => exact ⟨BN.out.cell 0, BL.out.cell 0, B7.out.cell 0, B7.out.cell 1, B7.out.cell 2, B7.out.cell 3, B7.out.cell 4, B7.out.cell 5, S6.out⟩
  clear hK K
  try simp only [Act.put, List.setIfInBounds_toArray, List.set_cons_zero, List.set_cons_succ]
  refine wpAnyH_done (by kernel_rfl) ?_ _
  clear hHeld
  have zn := BN.out.cells1
  have fn := BN.out.frozen 0
  have zs := BS.out.cells1
  go_wp2_with fail
  go_ret
  refine ⟨rfl, ?_, ?_, HT.out.set_ (.inr (.inl rfl)) _⟩
  · exact BO.out.far (p := ⟨bn, 0, none⟩) hon _
  · have h9 := BN.out.set_ 0 (.int .i64 ((k : Int) + 1))
    simpa using h9


end Go.Proofs.Ytjlajggilcihoaa
