/- Bands: the list of all. -/
import Derived.Test.YtjlajggilcihoaaBdM
import Derived.Test.YtjlajggilcihoaaRng2
import Derived.Test.YtjlajggilcihoaaPl5
namespace Go.Proofs.Ytjlajggilcihoaa
open Go.RowKit Go.Shelf
set_option linter.unusedVariables false
set_option linter.unusedSimpArgs false
attribute [local go_sem] Oper.semAt_some

def bandsK (w h d : Int) (n : Nat) : List Bd := (List.range n).map (bandK w h d)
theorem bandsK_length (w h d : Int) (n : Nat) : (bandsK w h d n).length = n := by simp [bandsK]
theorem bandsK_succ (w h d : Int) (n : Nat) : bandsK w h d (n + 1) = bandsK w h d n ++ [bandK w h d n] := by simp [bandsK, List.range_succ]
def bandsI (w h d : Int) : List Bd := if okF w h d = true then bandsK w h d (3 * d.toNat + 1) else []
theorem bandsI_len (w h d : Int) : (bandsI w h d).length ≤ 19 := by
  unfold bandsI
  split
  · rename_i e
    have := okF_t e
    rw [bandsK_length]
    omega
  · simp
set_option maxRecDepth 100000 in
set_option maxHeartbeats 6400000 in
theorem blist_yes (w h d : Int) (W : World) (hok : okF w h d = true) :
    Calls Try.prog 10 #[.int .i64 w, .int .i64 h, .int .i64 d] W fun e W' => ∃ v, e = .returned v ∧ OwnB W' W.heap.size v (bandsI w h d) ∧ Below W.heap.size W W' := by
  have hw : ∃ wl, wl = (((W.alloc (.cells #[.slice none 0 0] 24)).alloc (.cells #[.int .i64 w] 3)).alloc (.cells #[.int .i64 h] 3)).alloc (.cells #[.int .i64 d] 3) := ⟨_, rfl⟩
  obtain ⟨wl, hwl⟩ := hw
  have hz : wl.heap.size = W.heap.size + 4 := by rw [hwl]; simp only [World.size_alloc]
  have g7 : Blk wl W.heap.size 24 #[.slice none 0 0] := by rw [hwl]; exact (((Blk.new W 24 #[.slice none 0 0]).alloc _).alloc _).alloc _
  have g1 : Blk wl (W.heap.size + 1) 3 #[.int .i64 w] := by rw [hwl]; have h := Blk.new (W.alloc (.cells #[.slice none 0 0] 24)) 3 #[.int .i64 w]; rw [World.size_alloc] at h; exact (h.alloc _).alloc _
  have g2 : Blk wl (W.heap.size + 1 + 1) 3 #[.int .i64 h] := by rw [hwl]; have h := Blk.new ((W.alloc (.cells #[.slice none 0 0] 24)).alloc (.cells #[.int .i64 w] 3)) 3 #[.int .i64 h]; rw [World.size_alloc, World.size_alloc] at h; exact h.alloc _
  have g3 : Blk wl (W.heap.size + 1 + 1 + 1) 3 #[.int .i64 d] := by rw [hwl]; have h := Blk.new (((W.alloc (.cells #[.slice none 0 0] 24)).alloc (.cells #[.int .i64 w] 3)).alloc (.cells #[.int .i64 h] 3)) 3 #[.int .i64 d]; rw [World.size_alloc, World.size_alloc, World.size_alloc] at h; exact h
  have hbl : Below W.heap.size W wl := by rw [hwl]; exact below_alloc_ (below_alloc_ (below_alloc_ (below_alloc_ (Below.refl _ _) _) _) _) _
  have HW := Lib.hid hwl
  have G7 := Lib.hid g7
  have LB := Lib.hid hbl
  have HK := Lib.hid hok
  have HS := Lib.hid (ball_yes w h d _ _ _ wl hok g1 g2 g3)
  clear hwl g7 g1 g2 g3 hbl hok
  refine calls_marks Try.func10 rfl ?_
  simp only [Try.ntmps10, List.size_toArray, List.length_cons, List.length_nil, Nat.reduceAdd, Nat.reduceSub, Array.replicate_succ, Array.replicate_zero, List.push_toArray, List.append_toArray, List.nil_append, List.cons_append]
  go_wp2_with fail
  refine (ball_c w h d _).mono ?_
  rintro e w2 ⟨rfl, rfl⟩
  rw [← HW.out]
  simp only [World.size_alloc]
  go_wp2_with fail
  refine wp_range (N := 3 * d.toNat + 1) rfl (enters_of Try.func24 (by kernel_rfl) rfl) HS.out (Below.refl _ _) (fun k hk => by rcases hk with hk | hk | hk <;> omega)
    (fun k args X hh => by rw [show args = _ from hh]; rfl)
    (fun k X => ∃ v, Blk X W.heap.size 24 #[v] ∧ OwnB X wl.heap.size v (bandsK w h d k) ∧ Below W.heap.size W X)
    (fun _ _ => False)
    (fun k args a' X => (∃ v, Blk X W.heap.size 24 #[v] ∧ OwnB X wl.heap.size v (bandsK w h d k) ∧ Below W.heap.size W X) ∧ ∃ b9, Blk X b9 31 #[.int .i64 (bandK w h d k).l, .int .i64 (bandK w h d k).o, .int .i64 (bandK w h d k).x, .int .i64 (bandK w h d k).y, .int .i64 (bandK w h d k).w, .int .i64 (bandK w h d k).h] ∧ wl.heap.size ≤ b9 ∧ a' = { tmps := #[.int .i64 w, .int .i64 h, .int .i64 d, undef, undef, undef, .slice none 0 0, .pointer (some ⟨W.heap.size, 0, none⟩), undef, .pointer (some ⟨b9, 0, none⟩), .int .i64 w, .int .i64 h, .int .i64 d, .func (.func 24) #[] #[.pointer (some ⟨W.heap.size + 1, 0, none⟩), .pointer (some ⟨W.heap.size + 1 + 1, 0, none⟩), .pointer (some ⟨W.heap.size + 1 + 1 + 1, 0, none⟩)], .int .i64 (k : Int), bdV (bandK w h d k), undef, undef, undef, undef, undef], defers := [] })
    ?hI ?hIx ?hM ?h0 ?hassign ?hbody ?hdone ?hstop
  case hI =>
    rintro k A B ⟨v, i1, i2, i3⟩ q
    exact ⟨v, i1.qt q, own_qt i2 q, below_qt i3 (Nat.le_refl _) (by omega) q⟩
  case hIx => exact fun _ _ _ h _ => h
  case hM =>
    rintro k args a' A B ⟨⟨v, i1, i2, i3⟩, b9, j1, j2, e⟩ q
    exact ⟨⟨v, i1.qt q, own_qt i2 q, below_qt i3 (Nat.le_refl _) (by omega) q⟩, b9, j1.qt q, j2, e⟩
  case h0 => exact ⟨_, G7.out, OwnB.nil _ _, LB.out⟩
  case hassign =>
    intro n l k args X hk hi hkb hs hel
    obtain rfl := hel
    obtain ⟨v, i1, i2, i3⟩ := hi
    have I1 := Lib.hid i1
    have I2 := Lib.hid i2
    have I3 := Lib.hid i3
    clear i1 i2 i3 hkb
    gi_wp2_with fail
    have hb := below_alloc_ (Below.refl X.heap.size X) (.cells #[.int .i64 (bandK w h d k).l, .int .i64 (bandK w h d k).o, .int .i64 (bandK w h d k).x, .int .i64 (bandK w h d k).y, .int .i64 (bandK w h d k).w, .int .i64 (bandK w h d k).h] 31)
    exact ⟨keepsFrom_qt_of hb, KeepB.of_below hb (fun k hk => by rcases hk with hk | hk | hk <;> omega), ⟨v, I1.out.alloc _, I2.out.alloc _, I3.out.trans (hb.mono I3.out.size)⟩, X.heap.size, Blk.new _ _ _, by omega, rfl⟩
  case hbody =>
    rintro n l k args a' X hk hl ⟨⟨v, i1, i2, i3⟩, b9, j1, j2, rfl⟩ hs
    obtain ⟨A1, c1, rfl, _⟩ := i2.slice
    obtain ⟨n5, hn5⟩ : ∃ n, n = (bandsK w h d k).length := ⟨_, rfl⟩
    rw [← hn5] at i1 i2
    clear hn5
    have I1 := Lib.hid i1
    have I2 := Lib.hid i2
    have I3 := Lib.hid i3
    have J1 := Lib.hid j1
    have LX := Lib.hid i1.lt
    have hkn := okF_t HK.out
    have HN := Lib.hid (bandsK_succ w h d k)
    have HL := Lib.hid (show (bandsK w h d k).length + 1 ≤ 1000000 by rw [bandsK_length]; omega)
    have z7 := i1.cells1
    obtain ⟨z0, z1, z2, z3, z4, z5⟩ := j1.cells6
    obtain ⟨bk, hbk⟩ : ∃ b, b = bandK w h d k := ⟨_, rfl⟩
    rw [← hbk] at z0 z1 z2 z3 z4 z5 HN J1 ⊢
    clear i1 i2 i3 j1 hbk hkn
    have hb := below_alloc_ (Below.refl X.heap.size X) (.cells (bdC bk).toArray 31)
    have LI := Lib.hid I3.out.size
    have HBB := Lib.hid hb
    have I2b := Lib.hid (I2.out.kept hb)
    have I1b := Lib.hid (I1.out.below hb LX.out)
    have hsz := Lib.hid hb.size
    clear hb
    refine wpIn_block ?_
    refine wpIn_region_plain (by kernel_rfl) rnd_noOut1 ?_
    go_wp2_with (
      at_builtin
      refine wpList_appB rfl (.tmp 16) (.tmp 18) 24 rfl Try.underlying24 (.slice A1 n5 c1) (bandsK w h d k) rfl wl.heap.size I2b.out (some ⟨X.heap.size, 0, none⟩) (X.heap.size + 1) 1 1 [bk] rfl rfl (Blk.readsAll (Blk.new X 31 (bdC bk).toArray) rfl) HL.out (Nat.le_trans hs hsz.out) ?_
      intro v2 X2 ho2 hg2 hat
      rw [← HN.out] at ho2
      obtain ⟨A2, c2, rfl, _⟩ := ho2.slice
      generalize hnn : (bandsK w h d (k + 1)).length = nn at *
      clear hnn
      have q1 := Blk.appB I1b.out I2b.out (by decide) hg2
      have zc := q1.cells1
      have zf := q1.frozen 0
      have Q1 := Lib.hid q1
      have O2 := Lib.hid ho2
      have HG := Lib.hid hg2
      clear q1 ho2 hg2 z0 z1 z2 z3 z4 z5 z7)
    have I2c := I2b.out
    have hbW := OwnB.below (I2b.out.lower (B' := W.heap.size) (by omega)) (I3.out.trans (HBB.out.mono I3.out.size)) (by have := I3.out.size; have := HBB.out.size; omega) HG.out
    have hkf := (keepsFrom_qt_of (B := wl.heap.size) HBB.out).trans ((keepsFrom_grown HG.out (own_cells I2b.out)).trans ((KeepsOthers.setCell X2 ⟨W.heap.size, 0, none⟩ (.slice A2 nn c2)).from _))
    have hs3 := Q1.out.set_ 0 (.slice A2 nn c2)
    simp at hs3
    refine ⟨hkf, ?_, _, hs3, O2.out.set_ Q1.out (by decide) _, hbW.setCell (Nat.le_refl _) _⟩
    refine KeepB.setCell ?_ (fun e => by have e : W.heap.size = W.heap.size + 1 ∨ W.heap.size = W.heap.size + 1 + 1 ∨ W.heap.size = W.heap.size + 1 + 1 + 1 := e; omega) _
    exact (KeepB.of_below HBB.out (fun k hk => by rcases hk with hk | hk | hk <;> omega)).trans (KeepB.of_grown HG.out (fun k hk => by have := hsz.out; refine ⟨by rcases hk with hk | hk | hk <;> omega, fun e => ?_⟩; have := (I2b.out.blk_lt _ e).1; rcases hk with hk | hk | hk <;> omega))
  case hdone =>
    rintro D X hD ⟨v, i1, i2, i3⟩ hK
    have z7 := i1.cells1
    have I2 := Lib.hid i2
    have I3 := Lib.hid i3
    have HD := Lib.hid hK
    clear i1 i2 i3 hK
    go_wp2_with fail
    refine leave_mark HD.out (fun w' q => ⟨_, results_tmp rfl _ _ _, ?_⟩)
    exact ⟨v, rfl, by unfold bandsI; rw [if_pos HK.out]; exact OwnB.lower (own_qt I2.out q) (by omega), below_qt I3.out (Nat.le_refl _) (by omega) q⟩
  case hstop => exact fun _ _ _ _ h _ => h.elim
set_option maxRecDepth 100000 in
set_option maxHeartbeats 6400000 in
theorem blist_no (w h d : Int) (W : World) (hok : okF w h d = false) :
    Calls Try.prog 10 #[.int .i64 w, .int .i64 h, .int .i64 d] W fun e W' => ∃ v, e = .returned v ∧ OwnB W' W.heap.size v (bandsI w h d) ∧ Below W.heap.size W W' := by
  have hw : ∃ wl, wl = (((W.alloc (.cells #[.slice none 0 0] 24)).alloc (.cells #[.int .i64 w] 3)).alloc (.cells #[.int .i64 h] 3)).alloc (.cells #[.int .i64 d] 3) := ⟨_, rfl⟩
  obtain ⟨wl, hwl⟩ := hw
  have hz : wl.heap.size = W.heap.size + 4 := by rw [hwl]; simp only [World.size_alloc]
  have g7 : Blk wl W.heap.size 24 #[.slice none 0 0] := by rw [hwl]; exact (((Blk.new W 24 #[.slice none 0 0]).alloc _).alloc _).alloc _
  have g1 : Blk wl (W.heap.size + 1) 3 #[.int .i64 w] := by rw [hwl]; have h := Blk.new (W.alloc (.cells #[.slice none 0 0] 24)) 3 #[.int .i64 w]; rw [World.size_alloc] at h; exact (h.alloc _).alloc _
  have g2 : Blk wl (W.heap.size + 1 + 1) 3 #[.int .i64 h] := by rw [hwl]; have h := Blk.new ((W.alloc (.cells #[.slice none 0 0] 24)).alloc (.cells #[.int .i64 w] 3)) 3 #[.int .i64 h]; rw [World.size_alloc, World.size_alloc] at h; exact h.alloc _
  have g3 : Blk wl (W.heap.size + 1 + 1 + 1) 3 #[.int .i64 d] := by rw [hwl]; have h := Blk.new (((W.alloc (.cells #[.slice none 0 0] 24)).alloc (.cells #[.int .i64 w] 3)).alloc (.cells #[.int .i64 h] 3)) 3 #[.int .i64 d]; rw [World.size_alloc, World.size_alloc, World.size_alloc] at h; exact h
  have hbl : Below W.heap.size W wl := by rw [hwl]; exact below_alloc_ (below_alloc_ (below_alloc_ (below_alloc_ (Below.refl _ _) _) _) _) _
  have HW := Lib.hid hwl
  have G7 := Lib.hid g7
  have LB := Lib.hid hbl
  have HK := Lib.hid hok
  have HS := Lib.hid (ball_no w h d _ _ _ (fun _ args _ => args.size = 2) wl hok g1 g2 g3)
  clear hwl g7 g1 g2 g3 hbl hok
  refine calls_marks Try.func10 rfl ?_
  simp only [Try.ntmps10, List.size_toArray, List.length_cons, List.length_nil, Nat.reduceAdd, Nat.reduceSub, Array.replicate_succ, Array.replicate_zero, List.push_toArray, List.append_toArray, List.nil_append, List.cons_append]
  go_wp2_with fail
  refine (ball_c w h d _).mono ?_
  rintro e w2 ⟨rfl, rfl⟩
  rw [← HW.out]
  simp only [World.size_alloc]
  go_wp2_with fail
  refine wp_range (N := 0) rfl (enters_of Try.func24 (by kernel_rfl) rfl) (El := fun _ args _ => args.size = 2) (K := (fun k => k = W.heap.size + 1 ∨ k = W.heap.size + 1 + 1 ∨ k = W.heap.size + 1 + 1 + 1)) ?hs (Below.refl _ _) (fun k hk => by rcases hk with hk | hk | hk <;> omega)
    (fun k args X hh => hh)
    (fun k X => X.heap[W.heap.size]? = wl.heap[W.heap.size]? ∧ Below W.heap.size W X)
    (fun _ _ => False)
    (fun _ _ _ _ => True)
    ?hI ?hIx ?hM ?h0 ?hassign ?hbody ?hdone ?hstop
  case hs => exact HS.out
  case hI =>
    rintro k A B ⟨i1, i3⟩ q
    have g7 : Blk A W.heap.size 24 #[.slice none 0 0] := i1.trans G7.out
    exact ⟨(show Blk B W.heap.size 24 _ from g7.qt q).trans G7.out.symm, below_qt i3 (Nat.le_refl _) (by omega) q⟩
  case hIx => exact fun _ _ _ h _ => h
  case hM => exact fun _ _ _ _ _ _ _ => trivial
  case h0 => exact ⟨rfl, LB.out⟩
  case hassign => exact fun _ _ k _ _ hk => absurd hk (Nat.not_lt_zero _)
  case hbody => exact fun _ _ k _ _ _ hk => absurd hk (Nat.not_lt_zero _)
  case hdone =>
    rintro D X hD ⟨i1, i3⟩ hK
    have g7 : Blk X W.heap.size 24 #[.slice none 0 0] := i1.trans G7.out
    have z7 := g7.cells1
    have I3 := Lib.hid i3
    have HD := Lib.hid hK
    clear i1 i3 hK g7
    go_wp2_with fail
    refine leave_mark HD.out (fun w' q => ⟨_, results_tmp rfl _ _ _, ?_⟩)
    exact ⟨_, rfl, by unfold bandsI; rw [if_neg (by rw [HK.out]; decide)]; exact OwnB.nil _ _, below_qt I3.out (Nat.le_refl _) (by omega) q⟩
  case hstop => exact fun _ _ _ _ h _ => h.elim

end Go.Proofs.Ytjlajggilcihoaa
