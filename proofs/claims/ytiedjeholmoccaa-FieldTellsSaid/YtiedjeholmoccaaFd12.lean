/- Fields: the list of all units. -/
import Derived.Test.YtiedjeholmoccaaFd11
import Derived.Test.YtiedjeholmoccaaRng2
namespace Go.Proofs.Ytiedjeholmoccaa
open Go.RowKit Go.Shelf
set_option linter.unusedVariables false
set_option linter.unusedSimpArgs false
attribute [local go_sem] Oper.semAt_some

theorem unsL_length (a : Nat) (S : List Int) : (unsL a S).length = cntU S S.length := by
  unfold unsL
  rw [List.length_map, unsP_length]
theorem unsL_get {a : Nat} {S : List Int} {k : Nat} {p : Nat × Un} (h : (unsP a S S.length)[k]? = some p) : (unsL a S)[k]? = some p.2 := by
  unfold unsL
  rw [List.getElem?_map, h]
  rfl
theorem take_next {us : List Un} {k : Nat} {u : Un} (h : us[k]? = some u) : us.take (k + 1) = us.take k ++ [u] := by
  obtain ⟨hk, e⟩ := List.getElem?_eq_some_iff.1 h
  rw [List.take_succ_eq_append_getElem hk, e]
/-- The units of whatever field. -/
def unsF (a d : Int) (S : List Int) (K : List Bk) : List Un := if okFl a d S K = true then unsL a.toNat S else []
theorem unsF_len (a d : Int) (S : List Int) (K : List Bk) : (unsF a d S K).length ≤ 65536 := by
  unfold unsF
  split
  · rename_i h
    obtain ⟨A, D, rfl, rfl, a1, a2, d1, d2, hl, hkl, hS, hK⟩ := okFl_nat h
    rw [Int.toNat_natCast, unsL_length]
    have h1 := cntU_le hS (Nat.le_refl _)
    have h2 := Nat.mul_le_mul a2 d2
    omega
  · simp
set_option maxRecDepth 100000 in
set_option maxHeartbeats 6400000 in
theorem flist_yes (a d : Nat) (S : List Int) (sa : Addr) (cs : Nat) (K : List Bk) (Ak : Option Addr) (ck : Nat) (W : World) (hok : okFl a d S K = true) (hS : ReadsI W (some sa) S) (hK : ReadsE EK W Ak K) :
    Calls Try.prog 10 #[flV a d (.slice (some sa) S.length cs) (.slice Ak K.length ck)] W fun e W' => ∃ v, e = .returned v ∧ OwnE EU W' W.heap.size v (unsL a S) ∧ Below W.heap.size W W' := by
  obtain ⟨wl, hwl⟩ : ∃ wl, wl = ((W.alloc (.cells #[.int .i64 a, .int .i64 d, .slice (some sa) S.length cs, .slice Ak K.length ck] 25)).alloc (.cells #[.slice none 0 0] 29)).alloc (.cells #[.int .i64 a, .int .i64 d, .slice (some sa) S.length cs, .slice Ak K.length ck] 25) := ⟨_, rfl⟩
  have hz : wl.heap.size = W.heap.size + 3 := by rw [hwl]; simp only [World.size_alloc]
  have g7 : Blk wl (W.heap.size + 1) 29 #[.slice none 0 0] := by rw [hwl]; have h := Blk.new (W.alloc (.cells #[.int .i64 a, .int .i64 d, .slice (some sa) S.length cs, .slice Ak K.length ck] 25)) 29 #[.slice none 0 0]; rw [World.size_alloc] at h; exact h.alloc _
  have g1 : Blk wl (W.heap.size + 1 + 1) 25 #[.int .i64 a, .int .i64 d, .slice (some sa) S.length cs, .slice Ak K.length ck] := by rw [hwl]; have h := Blk.new ((W.alloc (.cells #[.int .i64 a, .int .i64 d, .slice (some sa) S.length cs, .slice Ak K.length ck] 25)).alloc (.cells #[.slice none 0 0] 29)) 25 #[.int .i64 a, .int .i64 d, .slice (some sa) S.length cs, .slice Ak K.length ck]; rw [World.size_alloc, World.size_alloc] at h; exact h
  have hbl : Below W.heap.size W wl := by rw [hwl]; exact below_alloc_ (below_alloc_ (below_alloc_ (Below.refl _ _) _) _) _
  have HW := Lib.hid hwl
  have G7 := Lib.hid g7
  have LB := Lib.hid hbl
  have RSl := hS.kept hbl
  have RKl := hK.kept hbl
  have HS := Lib.hid (funits_yes a d S sa cs K Ak ck (W.heap.size + 1 + 1) wl hok g1 RSl RKl)
  obtain ⟨A_, D_, ea, ed, a1, a2, d1, d2, hl, hkl, hS1, hK1⟩ := okFl_nat hok
  have ea := Int.ofNat.inj ea
  have ed := Int.ofNat.inj ed
  subst ea
  subst ed
  have LS : sa.block < W.heap.size := by obtain ⟨ad', e, h, _⟩ := hS.2 (by rw [hl]; exact Nat.mul_pos a1 d1); injection e with e; rw [e]; exact h
  have HLEN := Lib.hid (show (unsL a S).length ≤ 65536 by rw [unsL_length]; have h1 := cntU_le hS1 (Nat.le_refl _); have h2 := Nat.mul_le_mul a2 d2; omega)
  clear hl hkl hS1 hK1
  clear hwl g7 g1 hbl hok RSl RKl hS hK
  refine calls_marks Try.func10 rfl ?_
  simp only [Try.ntmps10, List.size_toArray, List.length_cons, List.length_nil, Nat.reduceAdd, Nat.reduceSub, Array.replicate_succ, Array.replicate_zero, List.push_toArray, List.append_toArray, List.nil_append, List.cons_append]
  go_wp2_with fail
  refine (funits_c _ _ _ _ _).mono ?_
  rintro e w2 ⟨rfl, rfl⟩
  rw [← HW.out]
  simp only [World.size_alloc]
  go_wp2_with fail
  refine wp_range (N := cntU S S.length) rfl (enters_of Try.func41 (by kernel_rfl) rfl) HS.out (Below.refl _ _) (fun k hk => by rcases hk with hk | hk <;> omega)
    (fun k args X hh => by obtain ⟨_, _, hh⟩ := hh; rw [hh]; rfl)
    (fun k X => ∃ v, Blk X (W.heap.size + 1) 29 #[v] ∧ OwnE EU X wl.heap.size v ((unsL a S).take k) ∧ Below W.heap.size W X)
    (fun _ _ => False)
    (fun k args a' X => (∃ v, Blk X (W.heap.size + 1) 29 #[v] ∧ OwnE EU X wl.heap.size v ((unsL a S).take k) ∧ Below W.heap.size W X) ∧ ∃ b9 q, (unsP a S S.length)[k]? = some q ∧ Blk X b9 34 #[.int .i64 q.2.x, .int .i64 q.2.y, .int .i64 q.2.s] ∧ wl.heap.size ≤ b9 ∧ a' = { tmps := #[.agg #[.int .i64 a, .int .i64 d, .slice (some sa) S.length cs, .slice Ak K.length ck], .pointer (some ⟨W.heap.size, 0, none⟩), .slice none 0 0, .pointer (some ⟨W.heap.size + 1, 0, none⟩), undef, .pointer (some ⟨b9, 0, none⟩), .agg #[.int .i64 a, .int .i64 d, .slice (some sa) S.length cs, .slice Ak K.length ck], .func (.func 41) #[] #[.pointer (some ⟨W.heap.size + 1 + 1, 0, none⟩)], .int .i64 (q.1 : Int), unV q.2, undef, undef, undef, undef, undef], defers := [] })
    ?hI ?hIx ?hM ?h0 ?hassign ?hbody ?hdone ?hstop
  case hI =>
    rintro k A B ⟨v, i1, i2, i3⟩ q
    exact ⟨v, i1.qt q, own_qt i2 q, below_qt i3 (Nat.le_refl _) (by omega) q⟩
  case hIx => exact fun _ _ _ h _ => h
  case hM =>
    rintro k args a' A B ⟨⟨v, i1, i2, i3⟩, b9, u, hu, j1, j2, e⟩ q
    exact ⟨⟨v, i1.qt q, own_qt i2 q, below_qt i3 (Nat.le_refl _) (by omega) q⟩, b9, u, hu, j1.qt q, j2, e⟩
  case h0 => exact ⟨_, G7.out, OwnE.nil _ _, LB.out⟩
  case hassign =>
    intro n l k args X hk hi hkb hs hel
    obtain ⟨q, hq, rfl⟩ := hel
    have HQ := Lib.hid hq
    obtain ⟨v, i1, i2, i3⟩ := hi
    have I1 := Lib.hid i1
    have I2 := Lib.hid i2
    have I3 := Lib.hid i3
    clear i1 i2 i3 hkb hq
    gi_wp2_with fail
    have hb := below_alloc_ (Below.refl X.heap.size X) (.cells #[.int .i64 q.2.x, .int .i64 q.2.y, .int .i64 q.2.s] 34)
    exact ⟨keepsFrom_qt_of hb, KeepB.of_below hb (fun k hk => by rcases hk with hk | hk <;> omega), ⟨v, I1.out.alloc _, I2.out.alloc _, I3.out.trans (hb.mono I3.out.size)⟩, X.heap.size, q, HQ.out, Blk.new _ _ _, by omega, rfl⟩
  case hbody =>
    rintro n l k args a' X hk hl ⟨⟨v, i1, i2, i3⟩, b9, q, hq, j1, j2, rfl⟩ hs
    obtain ⟨A1, c1, rfl, _⟩ := i2.slice
    obtain ⟨n5, hn5⟩ : ∃ n, n = ((unsL a S).take k).length := ⟨_, rfl⟩
    rw [← hn5] at i1 i2
    clear hn5
    have I1 := Lib.hid i1
    have I2 := Lib.hid i2
    have I3 := Lib.hid i3
    have J1 := Lib.hid j1
    have LX := Lib.hid i1.lt
    have HN := Lib.hid (take_next (unsL_get hq))
    have HL := Lib.hid (show ((unsL a S).take k).length + 1 ≤ 10000000 by rw [List.length_take]; have := HLEN.out; omega)
    have z7 := i1.cells1
    obtain ⟨z0, z1, z2⟩ := j1.cells3
    obtain ⟨qi, bk⟩ := q
    dsimp only at z0 z1 z2 HN J1 ⊢
    clear i1 i2 i3 j1 hq
    have hb := below_alloc_ (Below.refl X.heap.size X) (.cells (unC bk).toArray 34)
    have LI := Lib.hid I3.out.size
    have HBB := Lib.hid hb
    have I2b := Lib.hid (I2.out.kept hb)
    have I1b := Lib.hid (I1.out.below hb LX.out)
    have hsz := Lib.hid hb.size
    clear hb
    refine wpIn_block ?_
    refine wpIn_region_plain (by kernel_rfl) rnd_noOut1 ?_
    go_wp2_with (
      at_builtin
      refine wpList_appE (E := EU) rfl (.tmp 10) (.tmp 12) 29 rfl Try.underlying29 (.slice A1 n5 c1) ((unsL a S).take k) rfl wl.heap.size I2b.out (some ⟨X.heap.size, 0, none⟩) (X.heap.size + 1) 1 1 [bk] rfl rfl (by rw [flE_one]; exact Blk.readsN (Blk.new X 34 (unC bk).toArray) rfl) HL.out (Nat.le_trans hs hsz.out) ?_
      intro v2 X2 ho2 hg2 hat
      rw [← HN.out] at ho2
      obtain ⟨A2, c2, rfl, _⟩ := ho2.slice
      generalize hnn : ((unsL a S).take (k + 1)).length = nn at *
      clear hnn
      have q1 := Blk.appE I1b.out I2b.out (by decide) hg2
      have zc := q1.cells1
      have zf := q1.frozen 0
      have Q1 := Lib.hid q1
      have O2 := Lib.hid ho2
      have HG := Lib.hid hg2
      clear q1 ho2 hg2 z0 z1 z2 z7)
    have hbW := OwnE.below (I2b.out.lower (B' := W.heap.size) (by omega)) (I3.out.trans (HBB.out.mono I3.out.size)) (by have := I3.out.size; have := HBB.out.size; omega) HG.out
    have hkf := (keepsFrom_qt_of (B := wl.heap.size) HBB.out).trans ((keepsFrom_grown HG.out (own_cells I2b.out)).trans ((KeepsOthers.setCell X2 ⟨W.heap.size + 1, 0, none⟩ (.slice A2 nn c2)).from _))
    have hs3 := Q1.out.set_ 0 (.slice A2 nn c2)
    simp at hs3
    refine ⟨hkf, ?_, _, hs3, O2.out.set_ Q1.out (by decide) _, hbW.setCell (by simp) _⟩
    refine KeepB.setCell ?_ (fun e => by have e : W.heap.size + 1 = W.heap.size + 1 + 1 ∨ W.heap.size + 1 = sa.block := e; omega) _
    exact (KeepB.of_below HBB.out (fun k hk => by rcases hk with hk | hk <;> omega)).trans (KeepB.of_grown HG.out (fun k hk => by have := hsz.out; refine ⟨by rcases hk with hk | hk <;> omega, fun e => ?_⟩; have := (I2b.out.blk_lt _ e).1; rcases hk with hk | hk <;> omega))
  case hdone =>
    rintro D X hD ⟨v, i1, i2, i3⟩ hK
    have z7 := i1.cells1
    rw [← unsL_length a S, List.take_length] at i2
    have I2 := Lib.hid i2
    have I3 := Lib.hid i3
    have HD := Lib.hid hK
    clear i1 i2 i3 hK
    go_wp2_with fail
    refine leave_mark HD.out (fun w' q => ⟨_, results_tmp rfl _ _ _, ?_⟩)
    exact ⟨v, rfl, OwnE.lower (own_qt I2.out q) (by omega), below_qt I3.out (Nat.le_refl _) (by omega) q⟩
  case hstop => exact fun _ _ _ _ h _ => h.elim
set_option maxRecDepth 100000 in
set_option maxHeartbeats 6400000 in
theorem flist_no (a d : Int) (S : List Int) (As : Option Addr) (cs : Nat) (K : List Bk) (Ak : Option Addr) (ck : Nat) (W : World) (hok : okFl a d S K = false) (hS : ReadsI W As S) (hK : ReadsE EK W Ak K) (hn : S.length ≤ 9223372036854775807) (hm : K.length ≤ 9223372036854775807) :
    Calls Try.prog 10 #[flV a d (.slice As S.length cs) (.slice Ak K.length ck)] W fun e W' => ∃ v, e = .returned v ∧ OwnE EU W' W.heap.size v [] ∧ Below W.heap.size W W' := by
  obtain ⟨wl, hwl⟩ : ∃ wl, wl = ((W.alloc (.cells #[.int .i64 a, .int .i64 d, .slice As S.length cs, .slice Ak K.length ck] 25)).alloc (.cells #[.slice none 0 0] 29)).alloc (.cells #[.int .i64 a, .int .i64 d, .slice As S.length cs, .slice Ak K.length ck] 25) := ⟨_, rfl⟩
  have hz : wl.heap.size = W.heap.size + 3 := by rw [hwl]; simp only [World.size_alloc]
  have g7 : Blk wl (W.heap.size + 1) 29 #[.slice none 0 0] := by rw [hwl]; have h := Blk.new (W.alloc (.cells #[.int .i64 a, .int .i64 d, .slice As S.length cs, .slice Ak K.length ck] 25)) 29 #[.slice none 0 0]; rw [World.size_alloc] at h; exact h.alloc _
  have g1 : Blk wl (W.heap.size + 1 + 1) 25 #[.int .i64 a, .int .i64 d, .slice As S.length cs, .slice Ak K.length ck] := by rw [hwl]; have h := Blk.new ((W.alloc (.cells #[.int .i64 a, .int .i64 d, .slice As S.length cs, .slice Ak K.length ck] 25)).alloc (.cells #[.slice none 0 0] 29)) 25 #[.int .i64 a, .int .i64 d, .slice As S.length cs, .slice Ak K.length ck]; rw [World.size_alloc, World.size_alloc] at h; exact h
  have hbl : Below W.heap.size W wl := by rw [hwl]; exact below_alloc_ (below_alloc_ (below_alloc_ (Below.refl _ _) _) _) _
  have HW := Lib.hid hwl
  have G7 := Lib.hid g7
  have LB := Lib.hid hbl
  have RSl := hS.kept hbl
  have RKl := hK.kept hbl
  have HS := Lib.hid (funits_no a d S As cs K Ak ck (W.heap.size + 1 + 1) (fun _ args _ => args.size = 2) wl hok hn hm g1 RSl RKl)
  clear hwl g7 g1 hbl hok RSl RKl hS hK
  refine calls_marks Try.func10 rfl ?_
  simp only [Try.ntmps10, List.size_toArray, List.length_cons, List.length_nil, Nat.reduceAdd, Nat.reduceSub, Array.replicate_succ, Array.replicate_zero, List.push_toArray, List.append_toArray, List.nil_append, List.cons_append]
  go_wp2_with fail
  refine (funits_c _ _ _ _ _).mono ?_
  rintro e w2 ⟨rfl, rfl⟩
  rw [← HW.out]
  simp only [World.size_alloc]
  go_wp2_with fail
  refine wp_range (N := 0) rfl (enters_of Try.func41 (by kernel_rfl) rfl) (El := fun _ args _ => args.size = 2) (K := fun k => k = W.heap.size + 1 + 1) ?hs (Below.refl _ _) (fun k hk => by omega)
    (fun k args X hh => hh)
    (fun k X => X.heap[W.heap.size + 1]? = wl.heap[W.heap.size + 1]? ∧ Below W.heap.size W X)
    (fun _ _ => False)
    (fun _ _ _ _ => True)
    ?hI ?hIx ?hM ?h0 ?hassign ?hbody ?hdone ?hstop
  case hs => exact HS.out
  case hI =>
    rintro k A B ⟨i1, i3⟩ q
    have g7 : Blk A (W.heap.size + 1) 29 #[.slice none 0 0] := i1.trans G7.out
    exact ⟨(show Blk B (W.heap.size + 1) 29 _ from g7.qt q).trans G7.out.symm, below_qt i3 (Nat.le_refl _) (by omega) q⟩
  case hIx => exact fun _ _ _ h _ => h
  case hM => exact fun _ _ _ _ _ _ _ => trivial
  case h0 => exact ⟨rfl, LB.out⟩
  case hassign => exact fun _ _ k _ _ hk => absurd hk (Nat.not_lt_zero _)
  case hbody => exact fun _ _ k _ _ _ hk => absurd hk (Nat.not_lt_zero _)
  case hdone =>
    rintro D X hD ⟨i1, i3⟩ hK
    have g7 : Blk X (W.heap.size + 1) 29 #[.slice none 0 0] := i1.trans G7.out
    have z7 := g7.cells1
    have I3 := Lib.hid i3
    have HD := Lib.hid hK
    clear i1 i3 hK g7
    go_wp2_with fail
    refine leave_mark HD.out (fun w' q => ⟨_, results_tmp rfl _ _ _, ?_⟩)
    exact ⟨_, rfl, OwnE.nil _ _, below_qt I3.out (Nat.le_refl _) (by omega) q⟩
  case hstop => exact fun _ _ _ _ h _ => h.elim
theorem flist_c (a d : Int) (S : List Int) (As : Option Addr) (cs : Nat) (K : List Bk) (Ak : Option Addr) (ck : Nat) (W : World) (hS : ReadsI W As S) (hK : ReadsE EK W Ak K) (hn : S.length ≤ 9223372036854775807) (hm : K.length ≤ 9223372036854775807) :
    Calls Try.prog 10 #[flV a d (.slice As S.length cs) (.slice Ak K.length ck)] W fun e W' => ∃ v, e = .returned v ∧ OwnE EU W' W.heap.size v (unsF a d S K) ∧ Below W.heap.size W W' := by
  unfold unsF
  cases hok : okFl a d S K with
  | false => exact flist_no a d S As cs K Ak ck W hok hS hK hn hm
  | true =>
    obtain ⟨A, D, rfl, rfl, a1, a2, d1, d2, hl, hkl, hS1, hK1⟩ := okFl_nat hok
    obtain ⟨sa, rfl, _⟩ := hS.2 (by rw [hl]; exact Nat.mul_pos a1 d1)
    rw [if_pos rfl, Int.toNat_natCast]
    exact flist_yes A D S sa cs K Ak ck W hok hS hK

end Go.Proofs.Ytiedjeholmoccaa
