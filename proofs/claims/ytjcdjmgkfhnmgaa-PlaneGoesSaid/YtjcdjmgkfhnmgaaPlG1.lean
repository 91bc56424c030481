/- What the two functions of the law PlaneGoes do. -/
import Derived.Test.YtjcdjmgkfhnmgaaPl9
import Derived.Test.YtjcdjmgkfhnmgaaPlF
namespace Go.Proofs.Ytjcdjmgkfhnmgaa
open Go.RowKit Go.Shelf
set_option linter.unusedVariables false
set_option linter.unusedSimpArgs false

/-- Below n1 all blocks but i and j lie as they lay. -/
structure ButTwo (n1 i j : Nat) (w w' : World) : Prop where
  os : w'.os = w.os
  tape : w'.tape = w.tape
  output : w'.output = w.output
  size : w.heap.size ≤ w'.heap.size
  block : ∀ k, k < n1 → k ≠ i → k ≠ j → w'.heap[k]? = w.heap[k]?
section
variable {n1 i j : Nat} {w w' x : World}
theorem ButTwo.refl (n1 i j : Nat) (w : World) : ButTwo n1 i j w w := ⟨rfl, rfl, rfl, Nat.le_refl _, fun _ _ _ _ => rfl⟩
theorem ButTwo.set_ (h : ButTwo n1 i j w w') {p : Addr} (hp : p.block = i ∨ p.block = j ∨ n1 ≤ p.block) (u : Value) : ButTwo n1 i j w (w'.setCell p u) :=
  ⟨h.os, h.tape, h.output, by simpa [World.setCell] using h.size, fun k hk h1 h2 => (Below.heap_setCell _ _ _ _ (by rintro rfl; rcases hp with hp | hp | hp <;> omega)).trans (h.block k hk h1 h2)⟩
theorem ButTwo.trans (h : ButTwo n1 i j w w') (k : ButTwo n1 i j w' x) : ButTwo n1 i j w x := ⟨k.os.trans h.os, k.tape.trans h.tape, k.output.trans h.output, Nat.le_trans h.size k.size, fun q a b c => (k.block q a b c).trans (h.block q a b c)⟩
theorem ButTwo.trans_ (h : ButTwo n1 i j w w') (k : Below w'.heap.size w' x) (hn : n1 ≤ w'.heap.size) : ButTwo n1 i j w x := ⟨k.os.trans h.os, k.tape.trans h.tape, k.output.trans h.output, Nat.le_trans h.size k.size, fun q a b c => (k.block q (by omega)).trans (h.block q a b c)⟩
theorem row_in {a b k n : Nat} (hk : k < b) (hl : n = a * b) : k * a + a ≤ n := by rw [hl]; have := Nat.mul_le_mul_right a (show k + 1 ≤ b from hk); rw [Nat.mul_comm a b]; rw [Nat.succ_mul] at this; exact this
theorem ButTwo.blk (h : ButTwo n1 i j w w') {g : Nat} {t : TypeId} {cs : Array Value} (hb : Blk w g t cs) (hg : g < n1) (h1 : g ≠ i) (h2 : g ≠ j) : Blk w' g t cs := (h.block g hg h1 h2).trans hb
theorem ButTwo.below (h : ButTwo n1 i j w w') {B : Nat} (hB : B ≤ n1) (h1 : B ≤ i) (h2 : B ≤ j) : Below B w w' := ⟨h.os, h.tape, h.output, h.size, fun k hk => h.block k (by omega) (by omega) (by omega)⟩
theorem ButTwo.cell (h : ButTwo n1 i j w w') {p : Addr} (hg : p.block < n1) (h1 : p.block ≠ i) (h2 : p.block ≠ j) : w'.cell? p = w.cell? p := World.cell?_of_block (w := w) (h.block p.block hg h1 h2)
end

set_option maxHeartbeats 3200000 in
theorem goes1_c (bok bn bp bs k a : Nat) (H : Int) (v : Value) (stop : Int) (n1 : Nat) (w : World) (h1 : 1 ≤ a) (h2 : a ≤ 1024) (hk : k ≤ 2000000)
    (ho : Blk w bok 4 #[.bool true]) (hn : Blk w bn 3 #[.int .i64 k]) (hp : Blk w bp 24 #[.int .i64 a, .int .i64 H, v]) (hs : Blk w bs 3 #[.int .i64 stop]) (hne : bs ≠ bn) :
    Calls Try.prog 22 #[.int .i64 ((k % a : Nat) : Int), .int .i64 ((k / a : Nat) : Int), .pointer (some ⟨bok, 0, none⟩), .pointer (some ⟨bn, 0, none⟩), .pointer (some ⟨bp, 0, none⟩), .pointer (some ⟨bs, 0, none⟩)] w fun e w' =>
      e = .returned (.bool (((k : Int) + 1) != stop)) ∧ Blk w' bok 4 #[.bool true] ∧ Blk w' bn 3 #[.int .i64 ((k + 1 : Nat) : Int)] ∧ ButTwo n1 bok bn w w' := by
  have hon := ho.ne_ hn (by decide)
  have hop := hp.ne_ ho (by decide)
  have hnp := hp.ne_ hn (by decide)
  have hso := hs.ne_ ho (by decide)
  have c1 := ho.cells1
  have f1 := ho.frozen 0
  have c2 := hn.cells1
  have f2 := hn.frozen 0
  obtain ⟨c3, _, _⟩ := hp.cells3
  have c4 := hs.cells1
  have HO := Lib.hid ho
  have HN := Lib.hid hn
  clear ho hn hp hs
  have E1 : (k : Int) % (a : Int) = ((k % a : Nat) : Int) := by omega
  have E2 : (k : Int) / (a : Int) = ((k / a : Nat) : Int) := by omega
  have E3 : (k : Int).tmod (a : Int) = ((k % a : Nat) : Int) := by rw [Int.tmod_eq_emod_of_nonneg (by omega)]; omega
  have E4 : (k : Int).tdiv (a : Int) = ((k / a : Nat) : Int) := by rw [Int.tdiv_eq_ediv_of_nonneg (by omega)]; omega
  have hy : k / a ≤ 2000000 := Nat.le_trans (Nat.div_le_self _ _) hk
  generalize k % a = x at *
  generalize k / a = y at *
  have E5 : wrap64 (y : Int) = (y : Int) := by unfold wrap64; omega
  go_enter Try.func22, Try.ntmps22
  go_wp2_with fail
  go_ret
  refine ⟨rfl, ?_, ?_, ?_⟩
  · have := (HO.out.set_ 0 (.bool true)).far (p := ⟨bn, 0, none⟩) hon (.int .i64 ((k : Int) + 1))
    simpa [E5] using this
  · have := (HN.out.far (p := ⟨bok, 0, none⟩) (Ne.symm hon) (.bool true)).set_ 0 (.int .i64 ((k : Int) + 1))
    simpa [E5] using this
  · exact ((ButTwo.refl n1 bok bn w).set_ (.inl rfl) _).set_ (.inr (.inl rfl)) _

set_option maxRecDepth 100000 in
set_option maxHeartbeats 6400000 in
theorem goes2_c (bok bn bp bs k a b : Nat) (ad : Addr) (V : List Int) (c : Nat) (vr : Value) (stop : Int) (n1 : Nat) (w : World) (h1 : 1 ≤ a) (h2 : a ≤ 1024) (hk : k ≤ 2000000) (hle : k * a + a ≤ V.length) (hm : V.length ≤ 2000000)
    (ho : Blk w bok 4 #[.bool true]) (hn : Blk w bn 3 #[.int .i64 k]) (hp : Blk w bp 24 #[.int .i64 a, .int .i64 b, .slice (some ad) V.length c]) (hs : Blk w bs 3 #[.int .i64 stop]) (hne : bs ≠ bn)
    (hr : OwnI w n1 vr (rowL a V k)) (hR : ReadsI w (some ad) V) (l1 : bok < n1) (l2 : bn < n1) (l3 : bp < n1) (l4 : bs < n1) (l5 : ad.block < n1) (m1 : ad.block ≠ bok) (m2 : ad.block ≠ bn) :
    Calls Try.prog 24 #[.int .i64 (k : Int), vr, .pointer (some ⟨bok, 0, none⟩), .pointer (some ⟨bn, 0, none⟩), .pointer (some ⟨bp, 0, none⟩), .pointer (some ⟨bs, 0, none⟩)] w fun e w' =>
      e = .returned (.bool (((k : Int) + 1) != stop)) ∧ Blk w' bok 4 #[.bool true] ∧ Blk w' bn 3 #[.int .i64 ((k + 1 : Nat) : Int)] ∧ ButTwo n1 bok bn w w' := by
  have hon := ho.ne_ hn (by decide)
  have hop := hp.ne_ ho (by decide)
  have hnp := hp.ne_ hn (by decide)
  have hso := hs.ne_ ho (by decide)
  have hrl := rowL_length (V := V) (k := k) hle
  obtain ⟨g, cc, rfl, hg, hgl, _, _⟩ := hr.formr (by rw [hrl]; omega)
  rw [hrl] at hr ⊢
  have c1 := ho.cells1
  have f1 := ho.frozen 0
  have c2 := hn.cells1
  obtain ⟨c3, _, _⟩ := hp.cells3
  have HO := Lib.hid ho
  have HN := Lib.hid hn
  have HP := Lib.hid hp
  have HS := Lib.hid hs
  have HR := Lib.hid hR
  have HRW := Lib.hid hr
  have HRL := Lib.hid hrl
  have E1 : (k : Int) * (a : Int) = ((k * a : Nat) : Int) := (Int.natCast_mul k a).symm
  clear ho hn hp hs hR hr hrl
  generalize hlo : k * a = lo at *
  have HLO := Lib.hid hlo
  clear hlo
  go_enter Try.func24, Try.ntmps24
  go_wp2_with fail
  clear c1 f1 c2 c3
  go_loopw [26] (fun u wr => ∃ (x : Nat) (rs : List Int), x ≤ a ∧ u = .int .i64 x ∧ rs.length = a ∧ (∀ j, x ≤ j → j < a → rdn rs j = rdn (rowL a V k) j) ∧ OwnI wr n1 (.slice (some ⟨g, 0, none⟩) a cc) rs ∧ Blk wr bok 4 #[.bool true] ∧ ButTwo n1 bok bn w wr ∧ Blk wr bn 3 #[.int .i64 k]) (fun u _ => a - (intOf u).toNat)
  case atStart =>
    refine ⟨0, rowL a V k, Nat.zero_le _, rfl, HRL.out, fun j _ _ => rfl, ?_, HO.out.set_ 0 (.bool true), (ButTwo.refl n1 bok bn w).set_ (.inl rfl) _, HN.out.far (p := ⟨bok, 0, none⟩) (Ne.symm hon) _⟩
    exact OwnI.grown HRW.out (only_setCell (World.grownBy.refl w (some bok)) (.inl rfl) _) (.inr (own_blk_ne HRW.out HO.out (by decide)))
  case round =>
    obtain ⟨x, rs, hx, rfl, hrs, hrj, hrow, hok, hbt, hn⟩ := hrel
    by_cases hlt : x < a
    · have d1 := hok.cells1
      have g1 := hok.frozen 0
      have d2 := hn.cells1
      have d3 : wr.cell? ⟨bp, 0, none⟩ = some (.int .i64 a) := (hbt.cell l3 hop hnp).trans (HP.out.cell 0)
      have d4 : wr.cell? ⟨bp, 2, none⟩ = some (.slice (some ad) V.length c) := (hbt.cell l3 hop hnp).trans (HP.out.cell 2)
      have hrd := hrj x (Nat.le_refl _) hlt
      rw [rdn_rowL hlt, HLO.out] at hrd
      have d5 := hrow.cellr (i := x) (by omega)
      have g5 := hrow.frozenr x
      rw [hrd] at d5
      have d6 : wr.cell? (ad.add (lo + x)) = some (.int .i64 (rdn V (lo + x))) := (hbt.cell (by rw [block_of_add]; exact l5) (by rw [block_of_add]; exact m1) (by rw [block_of_add]; exact m2)).trans (HR.out.cellv (by omega))
      have E2 : (lo : Int) + (x : Int) = ((lo + x : Nat) : Int) := by omega
      have i1 : (0 : Int) ≤ (x : Int) := by omega
      have i2 : (x : Int) < (a : Int) := by omega
      have i3 : ((lo + x : Nat) : Int) < (V.length : Int) := by omega
      have n1' := own_blk_ne hrow hok (by decide)
      have hgo : g ≠ bok := fun e => n1' (by simp [Value.ownBlock, e])
      have HRJ := Lib.hid hrj
      have HRW2 := Lib.hid hrow
      have HOK := Lib.hid hok
      have HBT := Lib.hid hbt
      have HN2 := Lib.hid hn
      have HRS := Lib.hid hrs
      clear hrj hrow hok hbt hn hrd n1' hrs
      generalize hlx : lo + x = lx at *
      have HLX := Lib.hid hlx
      clear hlx
      generalize rdn V lx = z at *
      go_wp2_with fail
      go_roundw
      case rel =>
        have hb1 : Blk (wr.setCell ⟨bok, 0, none⟩ (.bool true)) bok 4 #[.bool true] := by have := HOK.out.set_ 0 (.bool true); simpa using this
        have hr1 : OwnI (wr.setCell ⟨bok, 0, none⟩ (.bool true)) n1 (.slice (some ⟨g, 0, none⟩) a cc) rs := OwnI.grown HRW2.out (only_setCell (World.grownBy.refl wr (some bok)) (.inl rfl) _) (.inr (own_blk_ne HRW2.out HOK.out (by decide)))
        refine ⟨x + 1, rs.set x (wrap64 (z + 1)), by omega, by go_num, by rw [List.length_set]; exact HRS.out, fun j h1 h2 => ?_, hr1.put x _, hb1.far (p := ⟨g, x, none⟩) (Ne.symm hgo) _, (HBT.out.set_ (.inl rfl) _).set_ (.inr (.inr hg)) _, (HN2.out.far (p := ⟨bok, 0, none⟩) (Ne.symm hon) _).far (p := ⟨g, x, none⟩) (fun e => by have : bn = g := e; omega) _⟩
        rw [rdn_set _ _ _ _ (by rw [HRS.out]; exact hlt), if_neg (by omega)]
        exact HRJ.out j (by omega) h2
      case measure => simp [intOf]; omega
    · obtain rfl : x = a := by omega
      have d2 := hn.cells1
      have g2 := hn.frozen 0
      have d4 : wr.cell? ⟨bs, 0, none⟩ = some (.int .i64 stop) := (hbt.cell l4 hso hne).trans (HS.out.cell 0)
      have HOK := Lib.hid hok
      have HBT := Lib.hid hbt
      have HN2 := Lib.hid hn
      clear hrj hrow hok hbt hn
      go_wp2_with fail
      go_ret
      exact ⟨rfl, HOK.out.far (p := ⟨bn, 0, none⟩) hon _, by have := HN2.out.set_ 0 (.int .i64 ((k : Int) + 1)); simpa using this, HBT.out.set_ (.inr (.inl rfl)) _⟩

end Go.Proofs.Ytjcdjmgkfhnmgaa
