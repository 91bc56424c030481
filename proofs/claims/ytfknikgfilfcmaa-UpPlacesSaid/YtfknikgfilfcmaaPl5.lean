/- Planes: their places and rows, told one by one. -/
import Derived.Test.YtfknikgfilfcmaaPl4
import Derived.Test.YtfknikgfilfcmaaRng
import Derived.Deep.DeepCutAuto
import Derived.Deep.CutBlock
namespace Go.Proofs.Ytfknikgfilfcmaa
open Go.RowKit Go.Shelf
set_option linter.unusedVariables false
set_option linter.unusedSimpArgs false
attribute [local go_sem] Oper.semAt_some

theorem ppoints_c (W H : Int) (v : Value) (w : World) :
    Calls Try.prog 45 #[plV W H v] w fun e w' => e = .returned (.func (.func 47) #[] #[.pointer (some ⟨w.heap.size, 0, none⟩)]) ∧ w' = w.alloc (.cells #[.int .i64 W, .int .i64 H, v] 24) := by
  go_enter Try.func45, Try.ntmps45
  go_wp2_with fail
  go_ret
  exact ⟨rfl, rfl⟩

/-- The k-th place of a plane that is a wide. -/
def PtEl (a : Nat) (k : Nat) (args : Array Value) (_ : World) : Prop := args = #[.int .i64 ((k % a : Nat) : Int), .int .i64 ((k / a : Nat) : Int)]
set_option maxRecDepth 100000 in
set_option maxHeartbeats 6400000 in
theorem ppoints_yes (a b : Nat) (A : Option Addr) (n c B : Nat) (w : World) (h1 : 1 ≤ a) (h2 : a ≤ 1024) (h3 : 1 ≤ b) (h4 : b ≤ 1024) (hn : n = a * b)
    (hb : Blk w B 24 #[.int .i64 a, .int .i64 b, .slice A n c]) :
    Sq Try.prog 47 #[.pointer (some ⟨B, 0, none⟩)] (fun k => k = B) (a * b) (PtEl a) w := by
  intro n' l J Jx W hW hJ hY h0
  have hok : okB a b n = true := by rw [hn]; exact okB_mk h1 h2 h3 h4
  have Hok := Lib.hid hok
  have ha := area_bd (W := a) (H := b) (by omega) (by omega) (by omega) (by omega)
  have hN : ((a * b : Nat) : Int) = (a : Int) * (b : Int) := Int.natCast_mul a b
  have hnn : n ≤ 1048576 := by omega
  have HN := Lib.hid hn
  have hbW := hb.below hW hb.lt
  have HbW := Lib.hid hbW
  have HY := Lib.hid hY
  have HJ := Lib.hid hJ
  have H0 := Lib.hid h0
  clear hn hN ha hok hb hW hY h0 hJ
  obtain ⟨⟨c0, c1, c2⟩, _⟩ := hbW.three
  clear hbW
  show Calls Try.prog _ #[.func (.yield l) #[] #[], .pointer (some ⟨B, 0, none⟩)] W _
  go_enter Try.func47, Try.ntmps47
  go_wp2_with fail
  try go_step3
  go_wp2_with fail
  refine (pright_c a b A n c _ (by omega)).mono ?_
  rintro e w1 ⟨rfl, hb1⟩
  rw [Hok.out]
  have hWW := Lib.hid hb1
  have hw1 := hb1.size
  have b1 := HbW.out.below hb1 HbW.out.lt
  obtain ⟨⟨d0, d1, d2⟩, _⟩ := b1.three
  have J0 := Lib.hid (HJ.out 0 _ _ H0.out hb1)
  clear c0 c1 c2 hb1 b1
  go_wp2_with fail
  go_step3
  go_wp2_with fail
  go_loopw [10] (fun v wr => ∃ y : Nat, y ≤ b ∧ v = .int .i64 y ∧ J (y * a) wr ∧ KeepB (fun k => k = B) W wr ∧ W.heap.size ≤ wr.heap.size) (fun v _ => b - (intOf v).toNat)
  case atStart => exact ⟨0, Nat.zero_le _, rfl, by rw [Nat.zero_mul]; exact J0.out, KeepB.of_below hWW.out (fun k hk => hk ▸ HbW.out.lt), hw1⟩
  case round =>
    obtain ⟨y, hy, rfl, hj, hb, hs⟩ := hrel
    have HJ1 := Lib.hid hj
    have HB := Lib.hid hb
    have e0 : wr.cell? ⟨B, 0, none⟩ = some (.int .i64 a) := (hb.cell rfl).trans (HbW.out.cell 0)
    clear hj hb d0 d1 d2 J0 hWW hw1
    obtain ⟨wo, ewo⟩ : ∃ wo, wo = wr := ⟨_, rfl⟩
    subst ewo
    by_cases hlt : y < b
    · go_wp2_with fail
      go_loopw [15] (fun v wr => ∃ x : Nat, x ≤ a ∧ v = .int .i64 x ∧ J (y * a + x) wr ∧ KeepB (fun k => k = B) W wr ∧ W.heap.size ≤ wr.heap.size) (fun v _ => a - (intOf v).toNat)
      case atStart => exact ⟨0, Nat.zero_le _, rfl, HJ1.out, HB.out, hs⟩
      case round =>
        obtain ⟨x, hx, rfl, hj2, hb2, hs2⟩ := hrel
        have HJ2 := Lib.hid hj2
        have HB2 := Lib.hid hb2
        clear hj2 hb2 e0
        by_cases hxl : x < a
        · have hk : y * a + x < a * b := by
            have : (y + 1) * a ≤ b * a := Nat.mul_le_mul_right a (by omega)
            rw [Nat.mul_comm b a, Nat.add_mul] at this
            omega
          have hel : PtEl a (y * a + x) #[.int .i64 x, .int .i64 y] wr := by
            unfold PtEl
            rw [show (y * a + x) % a = x by rw [Nat.add_comm, Nat.add_mul_mod_self_right, Nat.mod_eq_of_lt hxl], show (y * a + x) / a = y by rw [Nat.add_comm, Nat.add_mul_div_right _ _ (by omega), Nat.div_eq_of_lt hxl, Nat.zero_add]]
          obtain ⟨fn, tmps, assign, body, hyy, hR⟩ := HY.out _ _ wr hk HJ2.out HB2.out hs2 hel
          clear hk hel
          go_upto_region 7 with fail
          refine (wpIn_wide (n := n' + 1)).1 ?_
          gi_wp2_with fail
          refine hR.mono ?_
          clear hR hyy
          rintro e W3 (⟨rfl, hJ3, hk3⟩ | ⟨rfl, hJx3⟩)
          · have HJ3 := Lib.hid hJ3
            have HK3 := Lib.hid hk3
            clear hJ3 hk3
            gi_wp2_with fail
            go_wp2_with fail
            go_roundw
            case rel => exact ⟨x + 1, by omega, by go_num, HJ3.out, HB2.out.trans HK3.out, Nat.le_trans hs2 HK3.out.size⟩
            case measure => simp [intOf]; omega
          · have HX3 := Lib.hid hJx3
            clear hJx3
            gi_wp2_with fail
            go_wp2_with fail
            rw [Exit.noGoto_normal]
            go_end0
            exact ⟨⟨_, rfl⟩, .inr HX3.out⟩
        · obtain rfl : x = a := by omega
          go_wp2_with fail
          go_roundw
          case rel => exact ⟨y + 1, by omega, by go_num, by rw [Nat.add_mul, Nat.one_mul]; exact HJ2.out, HB2.out, hs2⟩
          case measure => simp [intOf]; omega
    · obtain rfl : y = b := by omega
      go_wp2_with fail
      rw [Exit.noGoto_normal]
      go_end0
      exact ⟨⟨_, rfl⟩, .inl (by rw [Nat.mul_comm]; exact HJ1.out)⟩

theorem ppoints_no (W H : Int) (A : Option Addr) (n c B : Nat) (El : Nat → Array Value → World → Prop) (w : World) (hn : n ≤ 9223372036854775807) (hok : okB W H n = false)
    (hb : Blk w B 24 #[.int .i64 W, .int .i64 H, .slice A n c]) :
    Sq Try.prog 47 #[.pointer (some ⟨B, 0, none⟩)] (fun k => k = B) 0 El w := by
  intro n' l J Jx W1 hW hJ hY h0
  have Hok := Lib.hid hok
  have hbW := hb.below hW hb.lt
  have HJ := Lib.hid hJ
  have H0 := Lib.hid h0
  clear hok hb hW hY h0 hJ
  obtain ⟨⟨c0, c1, c2⟩, _⟩ := hbW.three
  clear hbW
  show Calls Try.prog _ #[.func (.yield l) #[] #[], .pointer (some ⟨B, 0, none⟩)] W1 _
  go_enter Try.func47, Try.ntmps47
  go_wp2_with fail
  go_step3
  go_wp2_with fail
  refine (pright_c W H A n c _ (by omega)).mono ?_
  rintro e w1 ⟨rfl, hb1⟩
  rw [Hok.out]
  have J0 := Lib.hid (HJ.out 0 _ _ H0.out hb1)
  clear hb1
  go_wp2_with fail
  rw [Exit.noGoto_ret]
  refine bodyPost_ret (results_none rfl _ _ _) rfl ?_
  exact ⟨⟨_, rfl⟩, .inl J0.out⟩

/-- The closure cf of a plane made: what it tells of each place. -/
def Tells (F : Nat) (pb : Value) (f : Int → Int → Int) (w : World) : Prop := ∀ W x y, Below w.heap.size w W → Calls Try.prog F #[.int .i64 x, .int .i64 y, pb] W fun e w' => e = .returned (.int .i64 (f x y)) ∧ Below W.heap.size W w'
def madeL (a b : Nat) (f : Int → Int → Int) (k : Nat) : List Int := fillL (a * b) (fun k => f ((k % a : Nat) : Int) ((k / a : Nat) : Int)) k

set_option maxRecDepth 100000 in
set_option maxHeartbeats 6400000 in
theorem pmade_yes (F : Nat) (pb : Value) (f : Int → Int → Int) (a b : Nat) (w : World) (h1 : 1 ≤ a) (h2 : a ≤ 1024) (h3 : 1 ≤ b) (h4 : b ≤ 1024)
    (hcf : ∀ (args : Array Value) (W : World), (callFunc F args).run Try.prog W = .ok (.enter F args) W) (hF : Tells F pb f w) :
    Calls Try.prog 42 #[.int .i64 a, .int .i64 b, .func (.func F) #[] #[pb]] w fun e w' =>
      ∃ g, e = .returned (plV a b (.slice (some ⟨g, 0, none⟩) (a * b) (a * b))) ∧ w.heap.size ≤ g ∧ RowI w' g (madeL a b f (a * b)) ∧ Below w.heap.size w w' := by
  have HF := Lib.hid hF
  clear hF
  have e0 := (((Below.refl w.heap.size w).alloc (Nat.le_refl _) (.cells #[.int .i64 a] 3)).alloc (by simp) (.cells #[.func (.func F) #[] #[pb]] 30)).alloc (by simp; omega) (.cells #[.int .i64 0, .int .i64 0, .slice none 0 0] 24)
  have ⟨e1, e2⟩ := two_new w (.cells #[.int .i64 a] 3) (.cells #[.func (.func F) #[] #[pb]] 30)
  have e1 := Blk.alloc (t := 3) e1 (.cells #[.int .i64 0, .int .i64 0, .slice none 0 0] 24)
  have e2 := Blk.alloc (t := 30) e2 (.cells #[.int .i64 0, .int .i64 0, .slice none 0 0] 24)
  have e3 := Blk.new ((w.alloc (.cells #[.int .i64 a] 3)).alloc (.cells #[.func (.func F) #[] #[pb]] 30)) 24 #[.int .i64 0, .int .i64 0, .slice none 0 0]
  have hz0 : (((w.alloc (.cells #[.int .i64 a] 3)).alloc (.cells #[.func (.func F) #[] #[pb]] 30)).alloc (.cells #[.int .i64 0, .int .i64 0, .slice none 0 0] 24)).heap.size = w.heap.size + 1 + 1 + 1 := by simp only [World.size_alloc]
  simp only [World.size_alloc] at e3
  have E0 := Lib.hid e0
  have E1 := Lib.hid e1
  have E2 := Lib.hid e2
  have E3 := Lib.hid e3
  have HZ := Lib.hid hz0
  clear e0 e1 e2 e3 hz0
  refine calls_marks Try.func42 rfl ?_
  simp only [Try.ntmps42, List.size_toArray, List.length_cons, List.length_nil, Nat.reduceAdd, Nat.reduceSub, Array.replicate_succ, Array.replicate_zero, List.push_toArray, List.append_toArray, List.nil_append, List.cons_append]
  go_wp2_with fail
  refine (pnew_yes a b _ h1 h2 h3 h4).mono ?_
  generalize ((w.alloc (.cells #[.int .i64 a] 3)).alloc (.cells #[.func (.func F) #[] #[pb]] 30)).alloc (.cells #[.int .i64 0, .int .i64 0, .slice none 0 0] 24) = w0 at *
  rintro e w1 ⟨g, rfl, hg, hrow, hb1⟩
  have hz := HZ.out
  have hz1 := hb1.size
  have D1 := Lib.hid (E1.out.below hb1 (by omega))
  have D2 := Lib.hid (E2.out.below hb1 (by omega))
  have D3 := Lib.hid (E3.out.below hb1 (by omega))
  have DB := Lib.hid (E0.out.trans (hb1.mono (by omega)))
  have D4 := Lib.hid hrow
  clear E0 E1 E2 E3 hb1 hrow
  go_wp2_with fail
  refine (ppoints_c a b _ _).mono ?_
  rintro e w2 ⟨rfl, rfl⟩
  have hgl := D4.out.lt
  have ⟨f1, f2⟩ := two_new w1 (.cells #[.int .i64 a, .int .i64 b, .slice (some ⟨g, 0, none⟩) (a * b) (a * b)] 24) (.cells #[.int .i64 a, .int .i64 b, .slice (some ⟨g, 0, none⟩) (a * b) (a * b)] 24)
  have L1 := Lib.hid ((D1.out.alloc (.cells #[.int .i64 a, .int .i64 b, .slice (some ⟨g, 0, none⟩) (a * b) (a * b)] 24)).alloc (.cells #[.int .i64 a, .int .i64 b, .slice (some ⟨g, 0, none⟩) (a * b) (a * b)] 24))
  have L2 := Lib.hid ((D2.out.alloc (.cells #[.int .i64 a, .int .i64 b, .slice (some ⟨g, 0, none⟩) (a * b) (a * b)] 24)).alloc (.cells #[.int .i64 a, .int .i64 b, .slice (some ⟨g, 0, none⟩) (a * b) (a * b)] 24))
  have L3 := Lib.hid ((D3.out.alloc (.cells #[.int .i64 a, .int .i64 b, .slice (some ⟨g, 0, none⟩) (a * b) (a * b)] 24)).alloc (.cells #[.int .i64 a, .int .i64 b, .slice (some ⟨g, 0, none⟩) (a * b) (a * b)] 24))
  have L4 := Lib.hid ((Blk.alloc D4.out (.cells #[.int .i64 a, .int .i64 b, .slice (some ⟨g, 0, none⟩) (a * b) (a * b)] 24)).alloc (.cells #[.int .i64 a, .int .i64 b, .slice (some ⟨g, 0, none⟩) (a * b) (a * b)] 24))
  have L5 := Lib.hid (show Blk _ _ 24 _ from f1)
  have L6 := Lib.hid (show Blk _ _ 24 _ from f2)
  have LB := Lib.hid ((DB.out.alloc DB.out.size (.cells #[.int .i64 a, .int .i64 b, .slice (some ⟨g, 0, none⟩) (a * b) (a * b)] 24)).alloc (by have := DB.out.size; simp; omega) (.cells #[.int .i64 a, .int .i64 b, .slice (some ⟨g, 0, none⟩) (a * b) (a * b)] 24))
  have LZ := Lib.hid (show ((w1.alloc (.cells #[.int .i64 a, .int .i64 b, .slice (some ⟨g, 0, none⟩) (a * b) (a * b)] 24)).alloc (.cells #[.int .i64 a, .int .i64 b, .slice (some ⟨g, 0, none⟩) (a * b) (a * b)] 24)).heap.size = w1.heap.size + 1 + 1 by simp only [World.size_alloc])
  clear f1 f2 D1 D2 D3 D4 DB
  go_wp2_with fail
  generalize (w1.alloc (.cells #[.int .i64 a, .int .i64 b, .slice (some ⟨g, 0, none⟩) (a * b) (a * b)] 24)).alloc (.cells #[.int .i64 a, .int .i64 b, .slice (some ⟨g, 0, none⟩) (a * b) (a * b)] 24) = wl at *
  have hlz := LZ.out
  refine wp_range (N := a * b) rfl (enters_of Try.func47 (by kernel_rfl) rfl) (ppoints_yes a b _ _ _ _ wl h1 h2 h3 h4 rfl L6.out) (Below.refl _ _) (fun k hk => by omega)
    (fun k args W h => by rw [show args = _ from h]; rfl)
    (fun k W => Blk W w.heap.size 3 #[.int .i64 a] ∧ Blk W (w.heap.size + 1) 30 #[.func (.func F) #[] #[pb]] ∧ Blk W (w.heap.size + 1 + 1) 24 #[.int .i64 0, .int .i64 0, .slice none 0 0] ∧
      RowI W g (madeL a b f k) ∧ Blk W w1.heap.size 24 #[.int .i64 a, .int .i64 b, .slice (some ⟨g, 0, none⟩) (a * b) (a * b)] ∧ Below w.heap.size w W)
    (fun _ _ => False)
    (fun k args a' W => (Blk W w.heap.size 3 #[.int .i64 a] ∧ Blk W (w.heap.size + 1) 30 #[.func (.func F) #[] #[pb]] ∧ Blk W (w.heap.size + 1 + 1) 24 #[.int .i64 0, .int .i64 0, .slice none 0 0] ∧
      RowI W g (madeL a b f k) ∧ Blk W w1.heap.size 24 #[.int .i64 a, .int .i64 b, .slice (some ⟨g, 0, none⟩) (a * b) (a * b)] ∧ Below w.heap.size w W) ∧
      a' = { tmps := #[.int .i64 a, .int .i64 b, .func (.func F) #[] #[pb], .pointer (some ⟨w.heap.size, 0, none⟩), undef, .pointer (some ⟨w.heap.size + 1, 0, none⟩), .pointer (some ⟨w.heap.size + 1 + 1, 0, none⟩), .pointer (some ⟨w1.heap.size, 0, none⟩),
        .int .i64 ((k % a : Nat) : Int), .int .i64 ((k / a : Nat) : Int), .int .i64 a, .int .i64 b, plV a b (.slice (some ⟨g, 0, none⟩) (a * b) (a * b)), plV a b (.slice (some ⟨g, 0, none⟩) (a * b) (a * b)),
        .func (.func 47) #[] #[.pointer (some ⟨w1.heap.size + 1, 0, none⟩)], .int .i64 ((k % a : Nat) : Int), .int .i64 ((k / a : Nat) : Int), undef, undef, undef, undef, undef, undef, undef, undef, undef, undef, undef, undef, undef], defers := [] })
    ?hI ?hIx ?hM ?h0 ?hassign ?hbody ?hdone ?hstop
  case hI =>
    rintro k A B ⟨i1, i2, i3, i4, i5, i6⟩ q
    exact ⟨i1.qt q, i2.qt q, i3.qt q, Blk.qt i4 q, i5.qt q, below_qt i6 (Nat.le_refl _) (by have := LB.out.size; omega) q⟩
  case hIx => exact fun _ _ _ h _ => h
  case hM =>
    rintro k args a' A B ⟨⟨i1, i2, i3, i4, i5, i6⟩, e⟩ q
    exact ⟨⟨i1.qt q, i2.qt q, i3.qt q, Blk.qt i4 q, i5.qt q, below_qt i6 (Nat.le_refl _) (by have := LB.out.size; omega) q⟩, e⟩
  case h0 => exact ⟨L1.out, L2.out, L3.out, by unfold madeL; rw [fillL_zero]; exact L4.out, L5.out, LB.out⟩
  case hassign =>
    intro n l k args W hk hi hkb hs hel
    obtain rfl := hel
    have HI := Lib.hid hi
    clear hi hkb
    gi_wp2_with fail
    exact ⟨KeepsFrom.refl _ _, KeepB.refl _ _, HI.out, rfl⟩
  case hbody =>
    rintro n l k args a' W hk hl ⟨⟨i1, i2, i3, i4, i5, i6⟩, rfl⟩ hs
    have hxy : k % a < a ∧ k = k / a * a + k % a := ⟨Nat.mod_lt _ (by omega), by rw [Nat.mul_comm]; exact (Nat.div_add_mod k a).symm⟩
    have ha := area_bd (W := a) (H := b) (by omega) (by omega) (by omega) (by omega)
    have hN : ((a * b : Nat) : Int) = (a : Int) * (b : Int) := Int.natCast_mul a b
    have hel := fillL_length (a * b) (fun k => f ((k % a : Nat) : Int) ((k / a : Nat) : Int)) k
    have hset : (madeL a b f k).set k (f ((k % a : Nat) : Int) ((k / a : Nat) : Int)) = madeL a b f (k + 1) := fillL_set _ _ _ hk
    generalize hx : k % a = x at *
    generalize hy : k / a = y at *
    have hK : ((y * a : Nat) : Int) = (y : Int) * (a : Int) := Int.natCast_mul y a
    generalize hm : a * b = m at *
    have F1 : IntKind.i64.wrap ((y : Int) * (a : Int)) = (y : Int) * (a : Int) := IntWalk.i64_in _ (by omega)
    have F2 : IntKind.i64.wrap ((y : Int) * (a : Int) + (x : Int)) = (k : Int) := by rw [IntWalk.i64_in _ (by omega)]; omega
    have g1 : (0 : Int) ≤ (k : Int) := by omega
    have g2 : (k : Int) < (m : Int) := by omega
    have I1 := Lib.hid i1
    have I2 := Lib.hid i2
    have I3 := Lib.hid i3
    have I4 := Lib.hid i4
    have I5 := Lib.hid i5
    have I6 := Lib.hid i6
    have HS := Lib.hid hset
    have HL := Lib.hid (show (madeL a b f k).length = m by unfold madeL; rw [hm, fillL_length])
    have c1 := i1.cell 0
    have c2 := i2.cell 0
    have c3 := i5.cell 2
    have c4 := i4.cell (i := k) (by rw [HL.out]; exact hk)
    have c5 := i4.frozen k
    have HA := Lib.hid (show ∀ w', Below W.heap.size W.drew w' → w'.cell? ⟨w.heap.size, 0, none⟩ = some (.int .i64 a) ∧ w'.cell? ⟨w.heap.size + 1, 0, none⟩ = some (.func (.func F) #[] #[pb]) ∧ w'.cell? ⟨w1.heap.size, 2, none⟩ = some (.slice (some ⟨g, 0, none⟩) m m) ∧
        w'.cell? ⟨g, k, none⟩ = some (.int .i64 ((madeL a b f k).getD k 0)) ∧ w'.frozen? ⟨g, k, none⟩ = false from fun w' hbd => have hb := Below.of_drew hbd
      ⟨(i1.below hb i1.lt).cell 0, (i2.below hb i2.lt).cell 0, (i5.below hb i5.lt).cell 2, RowI.cell (RowI.kept i4 hb) (by rw [HL.out]; exact hk), RowI.frozen (RowI.kept i4 hb) k⟩)
    have HC := Lib.hid (HF.out W.drew (x : Int) (y : Int) i6.drew)
    clear i1 i2 i3 i4 i5 i6 hset hN hel hx hy hK hm ha hxy
    simp at c1 c2 c3
    have hrb : Blk W g 3 _ := I4.out
    have N1 : (⟨w.heap.size, 0, none⟩ : Addr) ≠ ⟨g, k, none⟩ := fun e => by injection e with e; omega
    have N2 : (⟨w.heap.size + 1, 0, none⟩ : Addr) ≠ ⟨g, k, none⟩ := fun e => by injection e with e; omega
    have N3 : (⟨w1.heap.size, 2, none⟩ : Addr) ≠ ⟨g, k, none⟩ := fun e => by injection e with e; omega
    have NN := Lib.hid (And.intro N1 (And.intro N2 N3))
    clear N1 N2 N3 hrb
    refine wpIn_block ?_
    refine wpIn_region_heldR (S := (fun w' => w'.cell? ⟨w.heap.size, 0, none⟩ = some (.int .i64 a) ∧ w'.cell? ⟨w.heap.size + 1, 0, none⟩ = some (.func (.func F) #[] #[pb]) ∧ w'.cell? ⟨w1.heap.size, 2, none⟩ = some (.slice (some ⟨g, 0, none⟩) m m))) (by kernel_rfl) (by kernel_rfl) rnd_noOut1 ?hS0 (fun hHeld => ?_)
    case hS0 => exact ⟨c1, c2, c3⟩
    refine wpAnyH_take (i := 0) (v := ?v0) rfl (by kernel_rfl) (by kernel_rfl) (by kernel_rfl) (fun _ _ _ h => h) (Or.inl ⟨by rfl, ?h0⟩) (by assumption) ?r0
    case h0 => (intro w hSw; (try dsimp only at hSw); go_simp; try with_reducible rfl)
    try simp only [Act.put, List.setIfInBounds_toArray, List.set_cons_zero, List.set_cons_succ]
    refine wpAnyH_take (i := 1) (v := ?v1) rfl (by kernel_rfl) (by kernel_rfl) (by kernel_rfl) (fun _ _ _ h => h) (Or.inl ⟨by rfl, ?h1⟩) (by assumption) ?r1
    case h1 => (intro w hSw; (try dsimp only at hSw); go_simp; try with_reducible rfl)
    try simp only [Act.put, List.setIfInBounds_toArray, List.set_cons_zero, List.set_cons_succ]
    refine wpAnyH_take (i := 2) (v := ?v2) rfl (by kernel_rfl) (by kernel_rfl) (by kernel_rfl) (fun _ _ _ h => h) (Or.inl ⟨by rfl, ?h2⟩) (by assumption) ?r2
    case h2 => (intro w hSw; (try dsimp only at hSw); go_simp; try with_reducible rfl)
    try simp only [Act.put, List.setIfInBounds_toArray, List.set_cons_zero, List.set_cons_succ]
    refine wpAnyH_take (i := 3) (v := ?v3) rfl (by kernel_rfl) (by kernel_rfl) (by kernel_rfl) (fun _ _ _ h => h) (Or.inl ⟨by rfl, ?h3⟩) (by assumption) ?r3
    case h3 => (intro w hSw; (try dsimp only at hSw); go_simp; try with_reducible rfl)
    try simp only [Act.put, List.setIfInBounds_toArray, List.set_cons_zero, List.set_cons_succ]
    refine wpAnyH_take (i := 4) (v := ?v4) rfl (by kernel_rfl) (by kernel_rfl) (by kernel_rfl) (fun _ _ _ h => h) (Or.inl ⟨by rfl, ?h4⟩) (by assumption) ?r4
    case h4 => (intro w hSw; (try dsimp only at hSw); go_simp; try with_reducible rfl)
    try simp only [Act.put, List.setIfInBounds_toArray, List.set_cons_zero, List.set_cons_succ]
    refine wpAnyH_take (i := 5) (v := ?v5) rfl (by kernel_rfl) (by kernel_rfl) (by kernel_rfl) (fun _ _ _ h => h) (Or.inl ⟨by rfl, ?h5⟩) (by assumption) ?r5
    case h5 => (intro w hSw; (try dsimp only at hSw); go_simp; try with_reducible rfl)
    try simp only [Act.put, List.setIfInBounds_toArray, List.set_cons_zero, List.set_cons_succ]
    refine wpAnyH_take (i := 6) (v := ?v6) rfl (by kernel_rfl) (by kernel_rfl) (by kernel_rfl) (fun _ _ _ h => h) (Or.inl ⟨by rfl, ?h6⟩) (by assumption) ?r6
    case h6 => (intro w hSw; (try dsimp only at hSw); go_simp; try with_reducible rfl)
    try simp only [Act.put, List.setIfInBounds_toArray, List.set_cons_zero, List.set_cons_succ]
    refine wpAnyH_take (i := 7) (v := ?v7) rfl (by kernel_rfl) (by kernel_rfl) (by kernel_rfl) (fun _ _ _ h => h) (Or.inl ⟨by rfl, ?h7⟩) (by assumption) ?r7
    case h7 => (intro w hSw; (try dsimp only at hSw); go_simp; try with_reducible rfl)
    try simp only [Act.put, List.setIfInBounds_toArray, List.set_cons_zero, List.set_cons_succ]
    refine wpAnyH_take (i := 8) (v := ?v8) rfl (by kernel_rfl) (by kernel_rfl) (by kernel_rfl) (fun _ _ _ h => h) (Or.inl ⟨by rfl, ?h8⟩) (by assumption) ?r8
    case h8 => (intro w hSw; (try dsimp only at hSw); go_simp; try with_reducible rfl)
    try simp only [Act.put, List.setIfInBounds_toArray, List.set_cons_zero, List.set_cons_succ]
    refine wpAnyH_take (i := 9) (v := ?v9) rfl (by kernel_rfl) (by kernel_rfl) (by kernel_rfl) (fun _ _ _ h => h) (Or.inl ⟨by rfl, ?h9⟩) (by assumption) ?r9
    case h9 => (intro w hSw; (try dsimp only at hSw); go_simp; try with_reducible rfl)
    try simp only [Act.put, List.setIfInBounds_toArray, List.set_cons_zero, List.set_cons_succ]
    refine wpAnyH_ready (rs := [10]) (by kernel_rfl) (by simp) ?_
    refine AllReadyH.cons rfl (fun K hK => ?_) AllReadyH.nil
    go_simp
    refine HC.out.mono ?_
    rintro e w' ⟨rfl, hb'⟩
    obtain ⟨q1, q2, q3, q4, q5⟩ := HA.out _ hb'
    have HB' := Lib.hid hb'
    clear hb'
    refine hK.out _ _ ?hS10 (fun hHeld => ?_)
    case hS10 => exact ⟨q1, q2, q3⟩
    clear hK K
    try simp only [Act.put, List.setIfInBounds_toArray, List.set_cons_zero, List.set_cons_succ]
    refine wpAnyH_take (i := 11) (v := ?v11) rfl (by kernel_rfl) (by kernel_rfl) (by kernel_rfl) (fun _ _ _ h => h) (Or.inl ⟨by rfl, ?h11⟩) (by assumption) ?r11
    case h11 => (intro w hSw; (try dsimp only at hSw); go_simp; try with_reducible rfl)
    try simp only [Act.put, List.setIfInBounds_toArray, List.set_cons_zero, List.set_cons_succ]
    refine wpAnyH_ready (rs := [12]) (by kernel_rfl) (by simp) ?_
    refine AllReadyH.cons rfl (fun K hK => ?_) AllReadyH.nil
    go_simp
    refine hK.out _ _ ?hS12 (fun hHeld => ?_)
    case hS12 => exact ⟨(World.cell?_setCell_other w' ⟨g, k, none⟩ _ _ (Ne.symm NN.out.1)).trans q1, (World.cell?_setCell_other w' ⟨g, k, none⟩ _ _ (Ne.symm NN.out.2.1)).trans q2, (World.cell?_setCell_other w' ⟨g, k, none⟩ _ _ (Ne.symm NN.out.2.2)).trans q3⟩
    clear hK K
    try simp only [Act.put, List.setIfInBounds_toArray, List.set_cons_zero, List.set_cons_succ]
    refine wpAnyH_done (by kernel_rfl) ?_ _
    have hb0 : Below W.heap.size W w' := Below.of_drew HB'.out
    have hlz2 := LZ.out
    have j1 := I1.out.below hb0 I1.out.lt
    have j2 := I2.out.below hb0 I2.out.lt
    have j3 := I3.out.below hb0 I3.out.lt
    have j4 := RowI.kept I4.out hb0
    have j5 := I5.out.below hb0 I5.out.lt
    have hrb : Blk w' g 3 _ := j4
    exact ⟨(keepsFrom_qt_of hb0).trans ((KeepsOthers.setCell _ _ _).from _), (KeepB.of_below hb0 (fun k hk => by have : k = w1.heap.size + 1 := hk; omega)).setCell (fun e => absurd (show g = w1.heap.size + 1 from e) (by omega)) _, j1.far (show w.heap.size ≠ g by omega) _, j2.far (j2.ne_ hrb (by decide)) _, j3.far (j3.ne_ hrb (by decide)) _, by rw [← HS.out]; exact j4.set_ _ _, j5.far (j5.ne_ hrb (by decide)) _, ((I6.out.trans (hb0.mono I6.out.size)).setCell (show w.heap.size ≤ g by omega) _)⟩
  case hdone =>
    rintro D W hD ⟨i1, i2, i3, i4, i5, i6⟩ hK
    obtain ⟨⟨c0, c1, c2⟩, _⟩ := i5.three
    obtain ⟨⟨g0, g1, g2⟩, k0, k1, k2⟩ := i3.three
    have I3 := Lib.hid i3
    have I4 := Lib.hid i4
    have I6 := Lib.hid i6
    have HD := Lib.hid hK
    clear i1 i2 i3 i4 i5 i6 hK
    go_wp2_with fail
    obtain ⟨r1, r2, r3⟩ := ret_plane I3.out (.int .i64 a) (.int .i64 b) (.slice (some ⟨g, 0, none⟩) (a * b) (a * b))
    have hrb : Blk W g 3 _ := I4.out
    have hne := hrb.ne_ I3.out (by decide)
    refine leave_mark (def_setCell (def_setCell (def_setCell HD.out _ _) _ _) _ _) (fun w' q => ⟨_, results_cell_row rfl _ _ (w.heap.size + 1 + 1) 24 _ (0, 0) _ rfl (r1.qt q) Try.underlying24 rfl (by kernel_rfl), ?_⟩)
    exact ⟨g, rfl, by omega, (((hrb.far hne _).far hne _).far hne _).qt q, below_qt (r3 _ _ I6.out (by omega)) (Nat.le_refl _) (by have := LB.out.size; omega) q⟩
  case hstop => exact fun _ _ _ _ h _ => h.elim

end Go.Proofs.Ytfknikgfilfcmaa
