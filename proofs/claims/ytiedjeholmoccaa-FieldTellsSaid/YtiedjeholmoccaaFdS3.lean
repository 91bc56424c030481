/- Fields: laid, of the reference. -/
import Derived.Test.YtiedjeholmoccaaFdLw
namespace Go.Proofs.Ytiedjeholmoccaa
open Go.RowKit Go.Sort
set_option linter.unusedVariables false
set_option linter.unusedSimpArgs false
theorem fl_place' {a d ux uy s y x n : Nat} (hn : n = 16 * (a * d)) (hx : ux + s ≤ 4 * a) (hy : uy + s ≤ 4 * d) (h1 : x < s) (h2 : y < s) : (uy + y) * (4 * a) + ux + x < n := by
  have := lay_lt hn hx hy h1 h2
  omega
theorem mid_int (a uy y ux x pl : Nat) (h : pl = (uy + y) * (4 * a) + ux + x) : 4 * (a : Int) * ((uy + y : Nat) : Int) + ((ux + x : Nat) : Int) = (pl : Int) := by
  rw [h]
  push_cast
  rw [Int.mul_comm (4 * (a : Int))]
  omega
set_option maxRecDepth 100000 in
set_option maxHeartbeats 6400000 in
theorem r16laid_c (a d : Nat) (As : Option Addr) (n0 cs : Nat) (K : List Bk) (Ak : Option Addr) (ck ux uy us : Nat) (b : Bk) (w : World) (hK : ReadsE EK w Ak K) (a1 : 1 ≤ a) (a2 : a ≤ 64) (d1 : 1 ≤ d) (d2 : d ≤ 64) (hKl : K.length = 16 * (a * d)) (hux : ux + us ≤ 4 * a) (huy : uy + us ≤ 4 * d) :
    Calls Try.prog 29 #[flV a d (.slice As n0 cs) (.slice Ak K.length ck), .agg #[.int .i64 ux, .int .i64 uy, .int .i64 us], bkV b] w fun e w' => ∃ vk, e = .returned (flV a d (.slice As n0 cs) vk) ∧ OwnE EK w' w.heap.size vk (layL (4 * a) K ⟨ux, uy, us⟩ b) ∧ Below w.heap.size w w' := by
  have kp : 0 < K.length := by rw [hKl]; have := Nat.mul_pos a1 d1; omega
  obtain ⟨ad, rfl, _⟩ := hK.2 kp
  have RK := Lib.hid hK
  have HK := Lib.hid hKl
  have n1 : K.length ≤ 65536 := by rw [hKl]; have := Nat.mul_le_mul a2 d2; omega
  have HB1 := Lib.hid (Below.refl w.heap.size w)
  clear hK hKl
  go_enter Try.func29, Try.ntmps29
  go_upto_region 1 with fail
  have RK := Lib.hid (((((RK.out).alloc (.cells #[.int .i64 a, .int .i64 d, .slice As n0 cs, .slice (some ad) K.length ck] 25)).alloc (.cells #[.int .i64 ux, .int .i64 uy, .int .i64 us] 34)).alloc (.cells #[.int .i64 b.m, .bool b.g, .int .i64 b.x0, .int .i64 b.y0, .int .i64 b.x1, .int .i64 b.y1, .int .i64 b.d0, .int .i64 b.d1, .int .i64 b.d2] 40)).alloc (.cells #[.int .i64 0, .int .i64 0, .slice none 0 0, .slice none 0 0] 25))
  have HB1 := Lib.hid (below_alloc_ (below_alloc_ (below_alloc_ (below_alloc_ (HB1.out) (.cells #[.int .i64 a, .int .i64 d, .slice As n0 cs, .slice (some ad) K.length ck] 25)) (.cells #[.int .i64 ux, .int .i64 uy, .int .i64 us] 34)) (.cells #[.int .i64 b.m, .bool b.g, .int .i64 b.x0, .int .i64 b.y0, .int .i64 b.x1, .int .i64 b.y1, .int .i64 b.d0, .int .i64 b.d1, .int .i64 b.d2] 40)) (.cells #[.int .i64 0, .int .i64 0, .slice none 0 0, .slice none 0 0] 25))
  have hzw : ((((w.alloc (.cells #[.int .i64 a, .int .i64 d, .slice As n0 cs, .slice (some ad) K.length ck] 25)).alloc (.cells #[.int .i64 ux, .int .i64 uy, .int .i64 us] 34)).alloc (.cells #[.int .i64 b.m, .bool b.g, .int .i64 b.x0, .int .i64 b.y0, .int .i64 b.x1, .int .i64 b.y1, .int .i64 b.d0, .int .i64 b.d1, .int .i64 b.d2] 40)).alloc (.cells #[.int .i64 0, .int .i64 0, .slice none 0 0, .slice none 0 0] 25)).heap.size = w.heap.size + 4 := by simp only [World.size_alloc]
  have B3 := (((Blk.new (w) 25 #[.int .i64 a, .int .i64 d, .slice As n0 cs, .slice (some ad) K.length ck]).alloc (.cells #[.int .i64 ux, .int .i64 uy, .int .i64 us] 34)).alloc (.cells #[.int .i64 b.m, .bool b.g, .int .i64 b.x0, .int .i64 b.y0, .int .i64 b.x1, .int .i64 b.y1, .int .i64 b.d0, .int .i64 b.d1, .int .i64 b.d2] 40)).alloc (.cells #[.int .i64 0, .int .i64 0, .slice none 0 0, .slice none 0 0] 25)
  skip
  have B3 := Lib.hid B3
  have B4 := ((Blk.new (w.alloc (.cells #[.int .i64 a, .int .i64 d, .slice As n0 cs, .slice (some ad) K.length ck] 25)) 34 #[.int .i64 ux, .int .i64 uy, .int .i64 us]).alloc (.cells #[.int .i64 b.m, .bool b.g, .int .i64 b.x0, .int .i64 b.y0, .int .i64 b.x1, .int .i64 b.y1, .int .i64 b.d0, .int .i64 b.d1, .int .i64 b.d2] 40)).alloc (.cells #[.int .i64 0, .int .i64 0, .slice none 0 0, .slice none 0 0] 25)
  rw [show (w.alloc (.cells #[.int .i64 a, .int .i64 d, .slice As n0 cs, .slice (some ad) K.length ck] 25)).heap.size = w.heap.size + 1 by simp only [World.size_alloc]] at B4
  have B4 := Lib.hid B4
  have B5 := (Blk.new ((w.alloc (.cells #[.int .i64 a, .int .i64 d, .slice As n0 cs, .slice (some ad) K.length ck] 25)).alloc (.cells #[.int .i64 ux, .int .i64 uy, .int .i64 us] 34)) 40 #[.int .i64 b.m, .bool b.g, .int .i64 b.x0, .int .i64 b.y0, .int .i64 b.x1, .int .i64 b.y1, .int .i64 b.d0, .int .i64 b.d1, .int .i64 b.d2]).alloc (.cells #[.int .i64 0, .int .i64 0, .slice none 0 0, .slice none 0 0] 25)
  rw [show ((w.alloc (.cells #[.int .i64 a, .int .i64 d, .slice As n0 cs, .slice (some ad) K.length ck] 25)).alloc (.cells #[.int .i64 ux, .int .i64 uy, .int .i64 us] 34)).heap.size = w.heap.size + 1 + 1 by simp only [World.size_alloc]] at B5
  have B5 := Lib.hid B5
  have B6 := Blk.new (((w.alloc (.cells #[.int .i64 a, .int .i64 d, .slice As n0 cs, .slice (some ad) K.length ck] 25)).alloc (.cells #[.int .i64 ux, .int .i64 uy, .int .i64 us] 34)).alloc (.cells #[.int .i64 b.m, .bool b.g, .int .i64 b.x0, .int .i64 b.y0, .int .i64 b.x1, .int .i64 b.y1, .int .i64 b.d0, .int .i64 b.d1, .int .i64 b.d2] 40)) 25 #[.int .i64 0, .int .i64 0, .slice none 0 0, .slice none 0 0]
  rw [show (((w.alloc (.cells #[.int .i64 a, .int .i64 d, .slice As n0 cs, .slice (some ad) K.length ck] 25)).alloc (.cells #[.int .i64 ux, .int .i64 uy, .int .i64 us] 34)).alloc (.cells #[.int .i64 b.m, .bool b.g, .int .i64 b.x0, .int .i64 b.y0, .int .i64 b.x1, .int .i64 b.y1, .int .i64 b.d0, .int .i64 b.d1, .int .i64 b.d2] 40)).heap.size = w.heap.size + 1 + 1 + 1 by simp only [World.size_alloc]] at B6
  have B6 := Lib.hid B6
  generalize (((w.alloc (.cells #[.int .i64 a, .int .i64 d, .slice As n0 cs, .slice (some ad) K.length ck] 25)).alloc (.cells #[.int .i64 ux, .int .i64 uy, .int .i64 us] 34)).alloc (.cells #[.int .i64 b.m, .bool b.g, .int .i64 b.x0, .int .i64 b.y0, .int .i64 b.x1, .int .i64 b.y1, .int .i64 b.d0, .int .i64 b.d1, .int .i64 b.d2] 40)).alloc (.cells #[.int .i64 0, .int .i64 0, .slice none 0 0, .slice none 0 0] 25) = w1 at *
  have hsz1 := Lib.hid hzw
  clear hzw
  have HO := RowE.own (E := EK) (B := w1.heap.size) (RowE.new w1 []) (Nat.le_refl _) (by decide)
  have HO := Lib.hid (show OwnE EK (w1.alloc (.cells #[] 40)) w1.heap.size (.slice (some ⟨w1.heap.size, 0, none⟩) 0 0) [] from HO)
  have RKx := Lib.hid (RK.out.alloc (.cells #[] 40))
  have HB1x := Lib.hid (below_alloc_ HB1.out (.cells #[] 40))
  have B3x := Lib.hid (B3.out.alloc (.cells #[] 40))
  have B4x := Lib.hid (B4.out.alloc (.cells #[] 40))
  have B5x := Lib.hid (B5.out.alloc (.cells #[] 40))
  have B6x := Lib.hid (B6.out.alloc (.cells #[] 40))
  have hs1 := Lib.hid (World.size_alloc w1 (.cells #[] 40))
  obtain ⟨z0, z1, z2, z3⟩ := B3x.out.cells4
  go_wp2_with (
    at_builtin
    refine wpList_appE (E := EK) (by rfl) (.tmp 10) (.tmp 12) 23 (by rfl) Try.underlying23 (.slice (some ⟨w1.heap.size, 0, none⟩) 0 0) [] (by rfl) w1.heap.size HO.out (some ad) _ K.length ck K rfl (by rfl) RKx.out (by simp; omega) (by have := hs1.out; omega) ?_
    intro v2 w2 ho2 hg2 hat
    rw [List.nil_append] at ho2
    have OK := Lib.hid ho2
    have B3 := Lib.hid (B3x.out.grown hg2 (by simp only [Value.ownBlock]; intro h; injection h with h; have := B3.out.lt; omega))
    have B4 := Lib.hid (B4x.out.grown hg2 (by simp only [Value.ownBlock]; intro h; injection h with h; have := B4.out.lt; omega))
    have B5 := Lib.hid (B5x.out.grown hg2 (by simp only [Value.ownBlock]; intro h; injection h with h; have := B5.out.lt; omega))
    have B6 := Lib.hid (B6x.out.grown hg2 (by simp only [Value.ownBlock]; intro h; injection h with h; have := B6.out.lt; omega))
    have HB1 := Lib.hid (HB1x.out.grown hg2 (by have := hs1.out; have := HB1.out.size; omega) (fun k hk => by simp only [Value.ownBlock] at hk; injection hk with hk; have := HB1.out.size; omega))
    obtain ⟨gk, c2, rfl, gl, hlt⟩ := OwnE.form ho2 kp
    clear ho2 hg2 hat z0 z1 z2 z3 HB1x B3x B4x B5x B6x RKx HO hs1
    obtain ⟨u0, u1, u2⟩ := B4.out.cells3)
  clear u0 u1 u2
  have hz4 := hsz1.out
  have hk3 : gk ≠ w.heap.size := by omega
  have hk4 : gk ≠ w.heap.size + 1 := by omega
  have hk5 : gk ≠ w.heap.size + 1 + 1 := by omega
  have hk6 : gk ≠ w.heap.size + 1 + 1 + 1 := by omega
  have OK := Lib.hid (show OwnE EK w2 w1.heap.size (.slice (some ⟨gk, 0, none⟩) K.length c2) (midK (4 * a) K ux uy us b 0 0) from by rw [midK_zero]; exact OK.out)
  have GK := Lib.hid gl
  clear gl hz4
  have HG := Lib.hid (World.grownBy.refl w2 (some gk))
  go_loopw [8] (fun v wr => ∃ y : Nat, y ≤ us ∧ v = .int .i64 ((uy + y : Nat) : Int) ∧ w2.grownBy wr (some gk) ∧ OwnE EK wr w1.heap.size (.slice (some ⟨gk, 0, none⟩) K.length c2) (midK (4 * a) K ux uy us b y 0)) (fun v _ => uy + us - (intOf v).toNat)
  case atStart => exact ⟨0, Nat.zero_le _, rfl, HG.out, OK.out⟩
  case round =>
    clear HG OK
    obtain ⟨y, hy, rfl, hg, ho⟩ := hrel
    have HG := Lib.hid hg
    have OK := Lib.hid ho
    obtain ⟨wy, ewy⟩ : ∃ wy, wy = wr := ⟨_, rfl⟩
    subst ewy
    clear hg ho
    obtain ⟨yy, hyy⟩ : ∃ q, q = uy + y := ⟨_, rfl⟩
    rw [← hyy]
    have HY := Lib.hid hyy
    clear hyy
    have W9 : IntKind.i64.wrap ((uy : Int) + (us : Int)) = (uy : Int) + (us : Int) := IntWalk.i64_in _ (by omega)
    by_cases hyl : y < us
    · skip
      have c1 : (yy : Int) < (uy : Int) + (us : Int) := by have := HY.out; omega
      have B3x := B3.out.grown HG.out (by intro h; injection h with h; exact hk3 h.symm)
      obtain ⟨zB30, zB31, zB32, zB33⟩ := B3x.cells4
      clear B3x
      have B4x := B4.out.grown HG.out (by intro h; injection h with h; exact hk4 h.symm)
      obtain ⟨zB40, zB41, zB42⟩ := B4x.cells3
      clear B4x
      have B5x := B5.out.grown HG.out (by intro h; injection h with h; exact hk5 h.symm)
      obtain ⟨zB50, zB51, zB52, zB53, zB54, zB55, zB56, zB57, zB58⟩ := B5x.cells9
      clear B5x
      go_upto_region 6 with fail
      clear zB30 zB31 zB32 zB33
      clear zB40 zB41 zB42
      clear zB50 zB51 zB52 zB53 zB54 zB55 zB56 zB57 zB58
      clear W9 c1
      go_loopw [9] (fun v wr => ∃ x : Nat, x ≤ us ∧ v = .int .i64 ((ux + x : Nat) : Int) ∧ w2.grownBy wr (some gk) ∧ OwnE EK wr w1.heap.size (.slice (some ⟨gk, 0, none⟩) K.length c2) (midK (4 * a) K ux uy us b y x)) (fun v _ => ux + us - (intOf v).toNat)
      case atStart => exact ⟨0, Nat.zero_le _, rfl, HG.out, OK.out⟩
      case round =>
        clear HG OK
        obtain ⟨x, hx, rfl, hg, ho⟩ := hrel
        have HG := Lib.hid hg
        have OK := Lib.hid ho
        obtain ⟨wx, ewx⟩ : ∃ wx, wx = wr := ⟨_, rfl⟩
        subst ewx
        clear hg ho
        obtain ⟨xx, hxx⟩ : ∃ q, q = ux + x := ⟨_, rfl⟩
        rw [← hxx]
        have HX := Lib.hid hxx
        clear hxx
        have W9 : IntKind.i64.wrap ((ux : Int) + (us : Int)) = (ux : Int) + (us : Int) := IntWalk.i64_in _ (by omega)
        by_cases hxl : x < us
        · skip
          have c1 : (xx : Int) < (ux : Int) + (us : Int) := by have := HX.out; omega
          obtain ⟨pl, hpl⟩ : ∃ pl, pl = (uy + y) * (4 * a) + ux + x := ⟨_, rfl⟩
          have hin : pl < K.length := by rw [hpl]; exact fl_place' HK.out hux huy hxl hyl
          have hset := midK_set (K := K) b (W := 4 * a) (ux := ux) (uy := uy) (y := y) hxl hux
          rw [← hpl] at hset
          have HS := Lib.hid hset
          have hmi := mid_int a uy y ux x pl hpl
          rw [← HY.out, ← HX.out] at hmi
          have r0 : 0 ≤ 4 * (a : Int) * (yy : Int) := Int.mul_nonneg (by omega) (by omega)
          have W1 : IntKind.i64.wrap (4 * (a : Int)) = 4 * (a : Int) := IntWalk.i64_in _ (by omega)
          have W2 : IntKind.i64.wrap (4 * (a : Int) * (yy : Int)) = 4 * (a : Int) * (yy : Int) := IntWalk.i64_in _ (by omega)
          have W3 : IntKind.i64.wrap (4 * (a : Int) * (yy : Int) + (xx : Int)) = (pl : Int) := by rw [hmi]; exact IntWalk.i64_in _ (by omega)
          have W10 : IntKind.i64.wrap ((xx : Int) + 1) = (xx : Int) + 1 := IntWalk.i64_in _ (by have := HX.out; omega)
          have p0 : (0 : Int) ≤ (pl : Int) := by omega
          have p1 : (pl : Int) < (K.length : Int) := by omega
          obtain ⟨⟨c0, c1', c2', c3, c4, c5, c6, c7, c8⟩, f0, f1, f2, f3, f4, f5, f6, f7, f8⟩ := OwnE.cells9 OK.out (p := pl) (by rw [midK_length]; exact hin)
          clear hset hpl hmi r0
          have B3x := B3.out.grown HG.out (by intro h; injection h with h; exact hk3 h.symm)
          obtain ⟨zB30, zB31, zB32, zB33⟩ := B3x.cells4
          clear B3x
          have B4x := B4.out.grown HG.out (by intro h; injection h with h; exact hk4 h.symm)
          obtain ⟨zB40, zB41, zB42⟩ := B4x.cells3
          clear B4x
          have B5x := B5.out.grown HG.out (by intro h; injection h with h; exact hk5 h.symm)
          obtain ⟨zB50, zB51, zB52, zB53, zB54, zB55, zB56, zB57, zB58⟩ := B5x.cells9
          clear B5x
          go_wp2_with fail
          clear zB30 zB31 zB32 zB33
          clear zB40 zB41 zB42
          clear zB50 zB51 zB52 zB53 zB54 zB55 zB56 zB57 zB58
          clear c0 c1' c2' c3 c4 c5 c6 c7 c8 f0 f1 f2 f3 f4 f5 f6 f7 f8
          have hput := OwnE.put OK.out (i := pl) (by rw [midK_length]; exact hin) b
          rw [HS.out] at hput
          go_roundw
          case rel => exact ⟨x + 1, by omega, by have := HX.out; first | (rw [HX.out]; push_cast; congr 1; omega) | (congr 1; omega) | go_num, setCells_grown (vs := bkC b) HG.out, hput⟩
          case measure => have := HX.out; simp [intOf]; omega
        · skip
          obtain rfl : x = us := by omega
          have c1 : ¬ ((xx : Int) < (ux : Int) + (x : Int)) := by have := HX.out; omega
          have W10 : IntKind.i64.wrap ((yy : Int) + 1) = (yy : Int) + 1 := IntWalk.i64_in _ (by have := HY.out; omega)
          have B3x := B3.out.grown HG.out (by intro h; injection h with h; exact hk3 h.symm)
          obtain ⟨zB30, zB31, zB32, zB33⟩ := B3x.cells4
          clear B3x
          have B4x := B4.out.grown HG.out (by intro h; injection h with h; exact hk4 h.symm)
          obtain ⟨zB40, zB41, zB42⟩ := B4x.cells3
          clear B4x
          have B5x := B5.out.grown HG.out (by intro h; injection h with h; exact hk5 h.symm)
          obtain ⟨zB50, zB51, zB52, zB53, zB54, zB55, zB56, zB57, zB58⟩ := B5x.cells9
          clear B5x
          go_wp2_with fail
          clear zB30 zB31 zB32 zB33
          clear zB40 zB41 zB42
          clear zB50 zB51 zB52 zB53 zB54 zB55 zB56 zB57 zB58
          rw [midK_row] at OK
          go_roundw
          case rel => exact ⟨y + 1, by omega, by have := HY.out; first | (rw [HY.out]; push_cast; congr 1; omega) | (congr 1; omega) | go_num, HG.out, OK.out⟩
          case measure => have := HY.out; simp [intOf]; omega
    · skip
      obtain rfl : y = us := by omega
      have c1 : ¬ ((yy : Int) < (uy : Int) + (y : Int)) := by have := HY.out; omega
      rw [midK_end] at OK
      have B3 := Lib.hid (B3.out.grown HG.out (by intro h; injection h with h; exact hk3 h.symm))
      have B4 := Lib.hid (B4.out.grown HG.out (by intro h; injection h with h; exact hk4 h.symm))
      have B6 := Lib.hid (B6.out.grown HG.out (by intro h; injection h with h; exact hk6 h.symm))
      have HB1 := Lib.hid (HB1.out.grown HG.out HB1.out.size (fun g hg => by injection hg with hg; rw [← hg]; have := GK.out; have := hsz1.out; omega))
      obtain ⟨z0, z1, z2, z3⟩ := B3.out.cells4
      obtain ⟨f0, f1, f2, f3⟩ := B3.out.frozens
      obtain ⟨u0, u1, u2⟩ := B4.out.cells3
      go_upto_region 10 with fail
      clear z0 z1 z2 z3 f0 f1 f2 f3 u0 u1 u2
      have h3 : Blk (wy.setCell ⟨w.heap.size, 3, none⟩ (.slice (some ⟨gk, 0, none⟩) K.length c2)) w.heap.size 25 #[.int .i64 (a : Int), .int .i64 (d : Int), .slice As n0 cs, .slice (some ⟨gk, 0, none⟩) K.length c2] := B3.out.set_ 3 (.slice (some ⟨gk, 0, none⟩) K.length c2)
      have B6 := Lib.hid (B6.out.far (p := ⟨w.heap.size, 3, none⟩) (by dsimp only; omega) (.slice (some ⟨gk, 0, none⟩) K.length c2))
      have OK := Lib.hid (OK.out.set_ (i := 3) B3.out (by decide) (.slice (some ⟨gk, 0, none⟩) K.length c2))
      have HB1 := Lib.hid (HB1.out.setCell (p := ⟨w.heap.size, 3, none⟩) (Nat.le_refl _) (.slice (some ⟨gk, 0, none⟩) K.length c2))
      have B3 := Lib.hid h3
      clear h3
      generalize wy.setCell ⟨w.heap.size, 3, none⟩ (.slice (some ⟨gk, 0, none⟩) K.length c2) = w8 at *
      obtain ⟨z0, z1, z2, z3⟩ := B3.out.cells4
      obtain ⟨q0, q1, q2, q3⟩ := B6.out.cells4
      obtain ⟨f0, f1, f2, f3⟩ := B6.out.frozens
      go_wp2_with fail
      clear z0 z1 z2 z3 f0 f1 f2 f3 q0 q1 q2 q3
      have lb : w.heap.size ≤ w.heap.size + 1 + 1 + 1 := by omega
      have hrow := ret_four' B6.out (.int .i64 (a : Int)) (.int .i64 (d : Int)) (.slice As n0 cs) (.slice (some ⟨gk, 0, none⟩) K.length c2)
      have hO := ((((OK.out.set_ (i := 0) B6.out (by decide) (.int .i64 (a : Int))).set_ (i := 1) (B6.out.set_ 0 (.int .i64 (a : Int))) (by decide) (.int .i64 (d : Int))).set_ (i := 2) ((B6.out.set_ 0 (.int .i64 (a : Int))).set_ 1 (.int .i64 (d : Int))) (by decide) (.slice As n0 cs)).set_ (i := 3) (((B6.out.set_ 0 (.int .i64 (a : Int))).set_ 1 (.int .i64 (d : Int))).set_ 2 (.slice As n0 cs)) (by decide) (.slice (some ⟨gk, 0, none⟩) K.length c2))
      have hBB := ((((HB1.out.setCell (p := ⟨w.heap.size + 1 + 1 + 1, 0, none⟩) lb (.int .i64 (a : Int))).setCell (p := ⟨w.heap.size + 1 + 1 + 1, 1, none⟩) lb (.int .i64 (d : Int))).setCell (p := ⟨w.heap.size + 1 + 1 + 1, 2, none⟩) lb (.slice As n0 cs)).setCell (p := ⟨w.heap.size + 1 + 1 + 1, 3, none⟩) lb (.slice (some ⟨gk, 0, none⟩) K.length c2))
      refine bodyPost_ret (results_cell_row rfl _ _ (w.heap.size + 1 + 1 + 1) 25 _ (0, 0) _ rfl hrow Try.underlying25 rfl (by kernel_rfl)) rfl ?_
      exact ⟨_, rfl, hO.lower (by have := hsz1.out; omega), hBB⟩

end Go.Proofs.Ytiedjeholmoccaa
