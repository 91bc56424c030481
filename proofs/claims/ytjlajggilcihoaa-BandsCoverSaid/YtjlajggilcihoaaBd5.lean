/- Bands: a band cut out of a plane. -/
import Derived.Test.YtjlajggilcihoaaBd4
import Derived.Test.YtjlajggilcihoaaRows2
import Derived.Deep.DeepCutAuto
import Derived.Deep.CutBlock
namespace Go.Proofs.Ytjlajggilcihoaa
open Go.RowKit Go.Sort
set_option linter.unusedVariables false
set_option linter.unusedSimpArgs false

/-- The numbers of a band, row by row. -/
def cutL (V : List Int) (a x y bw n : Nat) : List Int := tab n (fun k => rdn V ((y + k / bw) * a + x + k % bw))
theorem cutL_length (V : List Int) (a x y bw n : Nat) : (cutL V a x y bw n).length = n := tab_length _ _
theorem cutL_row {V : List Int} {a x y bw k : Nat} (hb : 1 ≤ bw) (h : (y + k) * a + x + bw ≤ V.length) : cutL V a x y bw (k * bw) ++ partL V ((y + k) * a + x) bw = cutL V a x y bw ((k + 1) * bw) := by
  rw [partL_tab h]
  unfold cutL
  have e : (k + 1) * bw = k * bw + bw := by rw [Nat.add_mul, Nat.one_mul]
  rw [e, tab_append]
  congr 1
  refine tab_congr fun j hj => ?_
  rw [show (k * bw + j) / bw = k by rw [Nat.add_comm, Nat.add_mul_div_right _ _ (by omega), Nat.div_eq_of_lt hj, Nat.zero_add], show (k * bw + j) % bw = j by rw [Nat.add_comm, Nat.add_mul_mod_self_right, Nat.mod_eq_of_lt hj]]
theorem row_le {a b n y k bh x bw : Nat} (hn : n = a * b) (hk : k < bh) (hy : y + bh ≤ b) (hx : x + bw ≤ a) : (y + k) * a + x + bw ≤ n := by
  have : (y + k + 1) * a ≤ b * a := Nat.mul_le_mul_right a (by omega)
  rw [Nat.add_mul, Nat.one_mul, Nat.mul_comm b a] at this
  omega
/-- A band whose numbers are no less than nought. -/
structure BdN where
  l : Int
  o : Int
  x : Nat
  y : Nat
  w : Nat
  h : Nat
def BdN.bd (b : BdN) : Bd := ⟨b.l, b.o, b.x, b.y, b.w, b.h⟩
set_option maxRecDepth 100000 in
set_option maxHeartbeats 6400000 in
theorem bcut_yes (a b : Nat) (V : List Int) (ad : Addr) (c : Nat) (l o : Int) (x y bw bh : Nat) (w : World) (hR : ReadsI w (some ad) V) (a1 : 1 ≤ a) (a2 : a ≤ 1024) (b1 : 1 ≤ b) (b2 : b ≤ 1024) (hl : V.length = a * b) (hc : V.length ≤ c) (hc2 : c ≤ 9223372036854775807)
    (bw1 : 1 ≤ bw) (bh1 : 1 ≤ bh) (hx : x + bw ≤ a) (hy : y + bh ≤ b) :
    Calls Try.prog 16 #[plV a b (.slice (some ad) V.length c), .agg #[.int .i64 l, .int .i64 o, .int .i64 x, .int .i64 y, .int .i64 bw, .int .i64 bh]] w (PlRes ⟨bw, bh, cutL V a x y bw (bw * bh)⟩ w) := by
  have RP := Lib.hid hR
  have HIN := Lib.hid (show inB a b V.length ⟨l, o, x, y, bw, bh⟩ = true by unfold inB; rw [hl, okB_mk a1 a2 b1 b2]; simp; omega)
  have HL := Lib.hid hl
  have hn : V.length ≤ 1048576 := by have := area_bd (W := a) (H := b) (by omega) (by omega) (by omega) (by omega); have := Int.natCast_mul a b; omega
  have HB := Lib.hid (Below.refl w.heap.size w)
  clear hR hl
  go_enter Try.func16, Try.ntmps16
  go_wp2_with fail
  have RP := Lib.hid ((((RP.out).alloc (.cells #[.int .i64 a, .int .i64 b, .slice (some ad) V.length c] 39)).alloc (.cells #[.int .i64 l, .int .i64 o, .int .i64 x, .int .i64 y, .int .i64 bw, .int .i64 bh] 31)).alloc (.cells #[.int .i64 0, .int .i64 0, .slice none 0 0] 39))
  have HB := Lib.hid (below_alloc_ (below_alloc_ (below_alloc_ (HB.out) (.cells #[.int .i64 a, .int .i64 b, .slice (some ad) V.length c] 39)) (.cells #[.int .i64 l, .int .i64 o, .int .i64 x, .int .i64 y, .int .i64 bw, .int .i64 bh] 31)) (.cells #[.int .i64 0, .int .i64 0, .slice none 0 0] 39))
  have hzw : (((w.alloc (.cells #[.int .i64 a, .int .i64 b, .slice (some ad) V.length c] 39)).alloc (.cells #[.int .i64 l, .int .i64 o, .int .i64 x, .int .i64 y, .int .i64 bw, .int .i64 bh] 31)).alloc (.cells #[.int .i64 0, .int .i64 0, .slice none 0 0] 39)).heap.size = w.heap.size + 3 := by simp only [World.size_alloc]
  have B2 := ((Blk.new (w) 39 #[.int .i64 a, .int .i64 b, .slice (some ad) V.length c]).alloc (.cells #[.int .i64 l, .int .i64 o, .int .i64 x, .int .i64 y, .int .i64 bw, .int .i64 bh] 31)).alloc (.cells #[.int .i64 0, .int .i64 0, .slice none 0 0] 39)
  skip
  have B2 := Lib.hid B2
  have B3 := (Blk.new (w.alloc (.cells #[.int .i64 a, .int .i64 b, .slice (some ad) V.length c] 39)) 31 #[.int .i64 l, .int .i64 o, .int .i64 x, .int .i64 y, .int .i64 bw, .int .i64 bh]).alloc (.cells #[.int .i64 0, .int .i64 0, .slice none 0 0] 39)
  rw [show (w.alloc (.cells #[.int .i64 a, .int .i64 b, .slice (some ad) V.length c] 39)).heap.size = w.heap.size + 1 by simp only [World.size_alloc]] at B3
  have B3 := Lib.hid B3
  have B4 := Blk.new ((w.alloc (.cells #[.int .i64 a, .int .i64 b, .slice (some ad) V.length c] 39)).alloc (.cells #[.int .i64 l, .int .i64 o, .int .i64 x, .int .i64 y, .int .i64 bw, .int .i64 bh] 31)) 39 #[.int .i64 0, .int .i64 0, .slice none 0 0]
  rw [show ((w.alloc (.cells #[.int .i64 a, .int .i64 b, .slice (some ad) V.length c] 39)).alloc (.cells #[.int .i64 l, .int .i64 o, .int .i64 x, .int .i64 y, .int .i64 bw, .int .i64 bh] 31)).heap.size = w.heap.size + 1 + 1 by simp only [World.size_alloc]] at B4
  have B4 := Lib.hid B4
  generalize ((w.alloc (.cells #[.int .i64 a, .int .i64 b, .slice (some ad) V.length c] 39)).alloc (.cells #[.int .i64 l, .int .i64 o, .int .i64 x, .int .i64 y, .int .i64 bw, .int .i64 bh] 31)).alloc (.cells #[.int .i64 0, .int .i64 0, .slice none 0 0] 39) = w1 at *
  have hz4 := Lib.hid hzw
  clear hzw
  have HB1 := Lib.hid (Below.refl w1.heap.size w1)
  refine (bwithin_c a b (some ad) V.length c ⟨l, o, x, y, bw, bh⟩ _ (by omega)).mono ?_
  rintro e w2 ⟨rfl, hb'⟩
  have HB1 := Lib.hid ((HB1.out).trans (hb'.mono (HB1.out).size))
  clear hb'
  rw [HIN.out]
  obtain ⟨zB20, zB21, zB22⟩ := (B2.out.below HB1.out B2.out.lt).cells3
  obtain ⟨zB30, zB31, zB32, zB33, zB34, zB35⟩ := (B3.out.below HB1.out B3.out.lt).cells6
  go_upto_region 4 with fail
  clear zB20 zB21 zB22
  clear zB30 zB31 zB32 zB33 zB34 zB35
  have hlt := HB1.out.size
  have HB1 := Lib.hid (below_alloc_ (HB1.out) (.cells #[.int .i64 bw, .int .i64 bh, .slice none 0 0] 39))
  have hzw : (w2.alloc (.cells #[.int .i64 bw, .int .i64 bh, .slice none 0 0] 39)).heap.size = w2.heap.size + 1 := by simp only [World.size_alloc]
  have B5 := Blk.new (w2) 39 #[.int .i64 bw, .int .i64 bh, .slice none 0 0]
  skip
  have B5 := Lib.hid B5
  generalize w2.alloc (.cells #[.int .i64 bw, .int .i64 bh, .slice none 0 0] 39) = w3 at *
  obtain ⟨b5, hb5⟩ : ∃ n, n = w2.heap.size := ⟨_, rfl⟩
  rw [← hb5] at B5 hzw hlt ⊢
  have HLT := Lib.hid hlt
  clear hlt hzw hb5
  obtain ⟨zB20, zB21, zB22⟩ := (B2.out.below HB1.out B2.out.lt).cells3
  obtain ⟨zB30, zB31, zB32, zB33, zB34, zB35⟩ := (B3.out.below HB1.out B3.out.lt).cells6
  go_wp2_with fail
  clear zB20 zB21 zB22
  clear zB30 zB31 zB32 zB33 zB34 zB35
  go_loopw [19] (fun v wr => ∃ (k : Nat) (u : Value), k ≤ bh ∧ v = .int .i64 k ∧ Blk wr b5 39 #[.int .i64 bw, .int .i64 bh, u] ∧ OwnI wr w1.heap.size u (cutL V a x y bw (k * bw)) ∧ Below w1.heap.size w1 wr) (fun v _ => bh - (intOf v).toNat)
  case atStart => exact ⟨0, _, Nat.zero_le _, rfl, B5.out, by rw [Nat.zero_mul]; exact OwnI.nil _ _, HB1.out⟩
  case round =>
    obtain ⟨k, u, hk, rfl, h5, ho, hb⟩ := hrel
    obtain ⟨A1, c1, rfl, _⟩ := ho.slice
    obtain ⟨n5, hn5⟩ : ∃ n, n = (cutL V a x y bw (k * bw)).length := ⟨_, rfl⟩
    rw [← hn5] at h5 ho
    clear hn5
    have HB1 := Lib.hid hb
    have B5 := Lib.hid h5
    have O5 := Lib.hid ho
    obtain ⟨wo, ewo⟩ : ∃ wo, wo = wr := ⟨_, rfl⟩
    subst ewo
    clear hb h5 ho
    by_cases hlt : k < bh
    · skip
      have hle := row_le HL.out hlt hy hx
      have i1 : (0 : Int) ≤ (k : Int) := by omega
      have i2 : (k : Int) < (bh : Int) := by omega
      have HC := Lib.hid (cutL_row (V := V) (a := a) (x := x) (y := y) (bw := bw) (k := k) bw1 hle)
      have HLE := Lib.hid hle
      have hlen : (cutL V a x y bw (k * bw)).length ≤ 1048576 := by rw [cutL_length]; have h1 : k * bw ≤ 1024 * 1024 := Nat.mul_le_mul (by omega) (by omega); omega
      have HLEN := Lib.hid hlen
      clear hle hlen
      obtain ⟨zB20, zB21, zB22⟩ := (B2.out.below HB1.out B2.out.lt).cells3
      obtain ⟨zB30, zB31, zB32, zB33, zB34, zB35⟩ := (B3.out.below HB1.out B3.out.lt).cells6
      go_upto_region 7 with fail
      clear zB20 zB21 zB22
      clear zB30 zB31 zB32 zB33 zB34 zB35
      have HB1 := Lib.hid ((HB1.out).drew)
      have B5 := Lib.hid ((B5.out).drew)
      have O5 := Lib.hid ((O5.out).drew)
      refine wp_region_held_drew (S := (fun w' => w'.cell? ⟨w.heap.size, 0, none⟩ = some (.int .i64 a) ∧ w'.cell? ⟨w.heap.size, 1, none⟩ = some (.int .i64 b) ∧ w'.cell? ⟨w.heap.size, 2, none⟩ = some (.slice (some ad) V.length c) ∧ w'.cell? ⟨w.heap.size + 1, 0, none⟩ = some (.int .i64 l) ∧ w'.cell? ⟨w.heap.size + 1, 1, none⟩ = some (.int .i64 o) ∧ w'.cell? ⟨w.heap.size + 1, 2, none⟩ = some (.int .i64 x) ∧ w'.cell? ⟨w.heap.size + 1, 3, none⟩ = some (.int .i64 y) ∧ w'.cell? ⟨w.heap.size + 1, 4, none⟩ = some (.int .i64 bw) ∧ w'.cell? ⟨w.heap.size + 1, 5, none⟩ = some (.int .i64 bh))) (by kernel_rfl) ?hS0 (fun hHeld => ?_)
      case hS0 => exact ⟨(B2.out.below HB1.out B2.out.lt).cell 0, (B2.out.below HB1.out B2.out.lt).cell 1, (B2.out.below HB1.out B2.out.lt).cell 2, (B3.out.below HB1.out B3.out.lt).cell 0, (B3.out.below HB1.out B3.out.lt).cell 1, (B3.out.below HB1.out B3.out.lt).cell 2, (B3.out.below HB1.out B3.out.lt).cell 3, (B3.out.below HB1.out B3.out.lt).cell 4, (B3.out.below HB1.out B3.out.lt).cell 5⟩
      refine wpAnyH_take (i := 0) (oi := ⟨some 22, _, _, _, _, _⟩) (v := ?v1) rfl (by kernel_rfl) (by kernel_rfl) (by kernel_rfl) (fun _ _ _ h => h) (Or.inl ⟨by rfl, ?h1⟩) (by assumption) ?r1
      case h1 => (intro w hSw; (try dsimp only at hSw); go_simp; try with_reducible rfl)
      try simp only [Act.put, List.setIfInBounds_toArray, List.set_cons_zero, List.set_cons_succ]
      refine wpAnyH_take (i := 2) (oi := ⟨some 24, _, _, _, _, _⟩) (v := ?v2) rfl (by kernel_rfl) (by kernel_rfl) (by kernel_rfl) (fun _ _ _ h => h) (Or.inl ⟨by rfl, ?h2⟩) (by assumption) ?r2
      case h2 => (intro w hSw; (try dsimp only at hSw); go_simp; try with_reducible rfl)
      try simp only [Act.put, List.setIfInBounds_toArray, List.set_cons_zero, List.set_cons_succ]
      refine wpAnyH_take (i := 3) (oi := ⟨some 25, _, _, _, _, _⟩) (v := ?v3) rfl (by kernel_rfl) (by kernel_rfl) (by kernel_rfl) (fun _ _ _ h => h) (Or.inl ⟨by rfl, ?h3⟩) (by assumption) ?r3
      case h3 => (intro w hSw; (try dsimp only at hSw); go_simp; try with_reducible rfl)
      try simp only [Act.put, List.setIfInBounds_toArray, List.set_cons_zero, List.set_cons_succ]
      refine wpAnyH_take (i := 4) (oi := ⟨some 26, _, _, _, _, _⟩) (v := ?v4) rfl (by kernel_rfl) (by kernel_rfl) (by kernel_rfl) (fun _ _ _ h => h) (Or.inl ⟨by rfl, ?h4⟩) (by assumption) ?r4
      case h4 => (intro w hSw; (try dsimp only at hSw); go_simp; try with_reducible rfl)
      try simp only [Act.put, List.setIfInBounds_toArray, List.set_cons_zero, List.set_cons_succ]
      refine wpAnyH_ready (rs := [1, 5]) (by kernel_rfl) (by simp) ?_
      refine (AllReadyH.cons (o := ⟨some 23, _, _, _, _, _⟩) rfl (fun K hK => ?_) (AllReadyH.cons (o := ⟨some 27, _, _, _, _, _⟩) rfl (fun K hK => ?_) AllReadyH.nil))
      · skip
        have zc := B5.out.cell 2
        simp at zc
        go_simp
        clear zc
        refine hK.out _ _ ?hS5 (fun hHeld => ?_)
        case hS5 => exact ⟨(B2.out.below HB1.out B2.out.lt).cell 0, (B2.out.below HB1.out B2.out.lt).cell 1, (B2.out.below HB1.out B2.out.lt).cell 2, (B3.out.below HB1.out B3.out.lt).cell 0, (B3.out.below HB1.out B3.out.lt).cell 1, (B3.out.below HB1.out B3.out.lt).cell 2, (B3.out.below HB1.out B3.out.lt).cell 3, (B3.out.below HB1.out B3.out.lt).cell 4, (B3.out.below HB1.out B3.out.lt).cell 5⟩
        clear hK K
        try simp only [Act.put, List.setIfInBounds_toArray, List.set_cons_zero, List.set_cons_succ]
        refine wpAnyH_ready (rs := [5]) (by kernel_rfl) (by simp) ?_
        refine (AllReadyH.cons (o := ⟨some 27, _, _, _, _, _⟩) rfl (fun K hK => ?_) AllReadyH.nil)
        go_simp
        have HS1 := HB1
        refine (brow_c a b ad V.length c l o x y bw bh k _ a2 (by omega) (by omega) (by omega) bw1 HLE.out hc hc2).mono ?_
        rintro e w4 ⟨rfl, hb'⟩
        have HB1 := Lib.hid ((HB1.out).trans (hb'.mono (HB1.out).size))
        have B5 := Lib.hid ((B5.out).below hb' (B5.out).lt)
        have O5 := Lib.hid ((O5.out).kept hb')
        clear hb'
        refine hK.out _ _ ?hS6 (fun hHeld => ?_)
        case hS6 => exact ⟨(B2.out.below HB1.out B2.out.lt).cell 0, (B2.out.below HB1.out B2.out.lt).cell 1, (B2.out.below HB1.out B2.out.lt).cell 2, (B3.out.below HB1.out B3.out.lt).cell 0, (B3.out.below HB1.out B3.out.lt).cell 1, (B3.out.below HB1.out B3.out.lt).cell 2, (B3.out.below HB1.out B3.out.lt).cell 3, (B3.out.below HB1.out B3.out.lt).cell 4, (B3.out.below HB1.out B3.out.lt).cell 5⟩
        clear hK K
        try simp only [Act.put, List.setIfInBounds_toArray, List.set_cons_zero, List.set_cons_succ]
        refine wpAnyH_ready (rs := [6]) (by kernel_rfl) (by simp) ?_
        refine (AllReadyH.cons (o := ⟨some 28, _, _, _, _, _⟩) rfl (fun K hK => ?_) AllReadyH.nil)
        have hbs := HB1.out.size
        refine step_appR (by rfl) (.tmp 23) (.tmp 27) 37 (by rfl) Try.underlying37 (.slice A1 n5 c1) (cutL V a x y bw (k * bw)) (by rfl) w1.heap.size O5.out (some (ad.add ((y + k) * a + x))) bw (c - ((y + k) * a + x)) (partL V ((y + k) * a + x) bw) (partL_length HLE.out) (by rfl) (ReadsI.part (RP.out.kept HB1.out) bw1 HLE.out) (by have := HLEN.out; omega) hbs ?_
        intro u2 w5 ho2 hg2 _
        rw [HC.out] at ho2
        obtain ⟨A2, c2, rfl, _⟩ := ho2.slice
        generalize hnn : (cutL V a x y bw ((k + 1) * bw)).length = nn at *
        clear hnn
        have B5 := Lib.hid (Blk.app B5.out O5.out (by decide) hg2)
        have HB1 := Lib.hid (below_app HB1.out O5.out hbs hg2)
        have O5 := Lib.hid ho2
        clear ho2 hg2 hbs
        refine hK.out _ _ ?hS7 (fun hHeld => ?_)
        case hS7 => exact ⟨(B2.out.below HB1.out B2.out.lt).cell 0, (B2.out.below HB1.out B2.out.lt).cell 1, (B2.out.below HB1.out B2.out.lt).cell 2, (B3.out.below HB1.out B3.out.lt).cell 0, (B3.out.below HB1.out B3.out.lt).cell 1, (B3.out.below HB1.out B3.out.lt).cell 2, (B3.out.below HB1.out B3.out.lt).cell 3, (B3.out.below HB1.out B3.out.lt).cell 4, (B3.out.below HB1.out B3.out.lt).cell 5⟩
        clear hK K
        try simp only [Act.put, List.setIfInBounds_toArray, List.set_cons_zero, List.set_cons_succ]
        refine wpAnyH_take (i := 7) (oi := ⟨some 29, _, _, _, _, _⟩) (v := ?v8) rfl (by kernel_rfl) (by kernel_rfl) (by kernel_rfl) (fun _ _ _ h => h) (Or.inl ⟨by rfl, ?h8⟩) (by assumption) ?r8
        case h8 => (intro w hSw; (try dsimp only at hSw); go_simp; try with_reducible rfl)
        try simp only [Act.put, List.setIfInBounds_toArray, List.set_cons_zero, List.set_cons_succ]
        refine wpAnyH_ready (rs := [8]) (by kernel_rfl) (by simp) ?_
        refine (AllReadyH.cons (o := ⟨none, _, _, _, _, _⟩) rfl (fun K hK => ?_) AllReadyH.nil)
        have zc := B5.out.cell 2
        simp at zc
        have zf := B5.out.frozen 2
        go_simp
        clear zc zf
        have O5 := Lib.hid (O5.out.set_ (i := 2) B5.out (by decide) (.slice A2 nn c2))
        have hs5 := B5.out.set_ 2 (.slice A2 nn c2)
        simp at hs5
        have B5 := Lib.hid hs5
        have HB1 := Lib.hid (HB1.out.setCell (p := ⟨b5, 2, none⟩) HLT.out (.slice A2 nn c2))
        clear hs5
        refine hK.out _ _ ?hS9 (fun hHeld => ?_)
        case hS9 => exact ⟨(B2.out.below HB1.out B2.out.lt).cell 0, (B2.out.below HB1.out B2.out.lt).cell 1, (B2.out.below HB1.out B2.out.lt).cell 2, (B3.out.below HB1.out B3.out.lt).cell 0, (B3.out.below HB1.out B3.out.lt).cell 1, (B3.out.below HB1.out B3.out.lt).cell 2, (B3.out.below HB1.out B3.out.lt).cell 3, (B3.out.below HB1.out B3.out.lt).cell 4, (B3.out.below HB1.out B3.out.lt).cell 5⟩
        clear hK K
        try simp only [Act.put, List.setIfInBounds_toArray, List.set_cons_zero, List.set_cons_succ]
        refine wpAnyH_done (by kernel_rfl) ?_ _
        clear hHeld
        go_wp2_with fail
        go_roundw
        case rel => exact ⟨k + 1, _, by omega, by go_num, B5.out, O5.out, HB1.out⟩
        case measure => simp [intOf]; omega
      · skip
        go_simp
        have HS1 := HB1
        refine (brow_c a b ad V.length c l o x y bw bh k _ a2 (by omega) (by omega) (by omega) bw1 HLE.out hc hc2).mono ?_
        rintro e w4 ⟨rfl, hb'⟩
        have HB1 := Lib.hid ((HB1.out).trans (hb'.mono (HB1.out).size))
        have B5 := Lib.hid ((B5.out).below hb' (B5.out).lt)
        have O5 := Lib.hid ((O5.out).kept hb')
        clear hb'
        refine hK.out _ _ ?hS10 (fun hHeld => ?_)
        case hS10 => exact ⟨(B2.out.below HB1.out B2.out.lt).cell 0, (B2.out.below HB1.out B2.out.lt).cell 1, (B2.out.below HB1.out B2.out.lt).cell 2, (B3.out.below HB1.out B3.out.lt).cell 0, (B3.out.below HB1.out B3.out.lt).cell 1, (B3.out.below HB1.out B3.out.lt).cell 2, (B3.out.below HB1.out B3.out.lt).cell 3, (B3.out.below HB1.out B3.out.lt).cell 4, (B3.out.below HB1.out B3.out.lt).cell 5⟩
        clear hK K
        try simp only [Act.put, List.setIfInBounds_toArray, List.set_cons_zero, List.set_cons_succ]
        refine wpAnyH_ready (rs := [1]) (by kernel_rfl) (by simp) ?_
        refine (AllReadyH.cons (o := ⟨some 23, _, _, _, _, _⟩) rfl (fun K hK => ?_) AllReadyH.nil)
        have zc := B5.out.cell 2
        simp at zc
        go_simp
        clear zc
        refine hK.out _ _ ?hS11 (fun hHeld => ?_)
        case hS11 => exact ⟨(B2.out.below HB1.out B2.out.lt).cell 0, (B2.out.below HB1.out B2.out.lt).cell 1, (B2.out.below HB1.out B2.out.lt).cell 2, (B3.out.below HB1.out B3.out.lt).cell 0, (B3.out.below HB1.out B3.out.lt).cell 1, (B3.out.below HB1.out B3.out.lt).cell 2, (B3.out.below HB1.out B3.out.lt).cell 3, (B3.out.below HB1.out B3.out.lt).cell 4, (B3.out.below HB1.out B3.out.lt).cell 5⟩
        clear hK K
        try simp only [Act.put, List.setIfInBounds_toArray, List.set_cons_zero, List.set_cons_succ]
        refine wpAnyH_ready (rs := [6]) (by kernel_rfl) (by simp) ?_
        refine (AllReadyH.cons (o := ⟨some 28, _, _, _, _, _⟩) rfl (fun K hK => ?_) AllReadyH.nil)
        have hbs := HB1.out.size
        refine step_appR (by rfl) (.tmp 23) (.tmp 27) 37 (by rfl) Try.underlying37 (.slice A1 n5 c1) (cutL V a x y bw (k * bw)) (by rfl) w1.heap.size O5.out (some (ad.add ((y + k) * a + x))) bw (c - ((y + k) * a + x)) (partL V ((y + k) * a + x) bw) (partL_length HLE.out) (by rfl) (ReadsI.part (RP.out.kept HB1.out) bw1 HLE.out) (by have := HLEN.out; omega) hbs ?_
        intro u2 w5 ho2 hg2 _
        rw [HC.out] at ho2
        obtain ⟨A2, c2, rfl, _⟩ := ho2.slice
        generalize hnn : (cutL V a x y bw ((k + 1) * bw)).length = nn at *
        clear hnn
        have B5 := Lib.hid (Blk.app B5.out O5.out (by decide) hg2)
        have HB1 := Lib.hid (below_app HB1.out O5.out hbs hg2)
        have O5 := Lib.hid ho2
        clear ho2 hg2 hbs
        refine hK.out _ _ ?hS12 (fun hHeld => ?_)
        case hS12 => exact ⟨(B2.out.below HB1.out B2.out.lt).cell 0, (B2.out.below HB1.out B2.out.lt).cell 1, (B2.out.below HB1.out B2.out.lt).cell 2, (B3.out.below HB1.out B3.out.lt).cell 0, (B3.out.below HB1.out B3.out.lt).cell 1, (B3.out.below HB1.out B3.out.lt).cell 2, (B3.out.below HB1.out B3.out.lt).cell 3, (B3.out.below HB1.out B3.out.lt).cell 4, (B3.out.below HB1.out B3.out.lt).cell 5⟩
        clear hK K
        try simp only [Act.put, List.setIfInBounds_toArray, List.set_cons_zero, List.set_cons_succ]
        refine wpAnyH_take (i := 7) (oi := ⟨some 29, _, _, _, _, _⟩) (v := ?v13) rfl (by kernel_rfl) (by kernel_rfl) (by kernel_rfl) (fun _ _ _ h => h) (Or.inl ⟨by rfl, ?h13⟩) (by assumption) ?r13
        case h13 => (intro w hSw; (try dsimp only at hSw); go_simp; try with_reducible rfl)
        try simp only [Act.put, List.setIfInBounds_toArray, List.set_cons_zero, List.set_cons_succ]
        refine wpAnyH_ready (rs := [8]) (by kernel_rfl) (by simp) ?_
        refine (AllReadyH.cons (o := ⟨none, _, _, _, _, _⟩) rfl (fun K hK => ?_) AllReadyH.nil)
        have zc := B5.out.cell 2
        simp at zc
        have zf := B5.out.frozen 2
        go_simp
        clear zc zf
        have O5 := Lib.hid (O5.out.set_ (i := 2) B5.out (by decide) (.slice A2 nn c2))
        have hs5 := B5.out.set_ 2 (.slice A2 nn c2)
        simp at hs5
        have B5 := Lib.hid hs5
        have HB1 := Lib.hid (HB1.out.setCell (p := ⟨b5, 2, none⟩) HLT.out (.slice A2 nn c2))
        clear hs5
        refine hK.out _ _ ?hS14 (fun hHeld => ?_)
        case hS14 => exact ⟨(B2.out.below HB1.out B2.out.lt).cell 0, (B2.out.below HB1.out B2.out.lt).cell 1, (B2.out.below HB1.out B2.out.lt).cell 2, (B3.out.below HB1.out B3.out.lt).cell 0, (B3.out.below HB1.out B3.out.lt).cell 1, (B3.out.below HB1.out B3.out.lt).cell 2, (B3.out.below HB1.out B3.out.lt).cell 3, (B3.out.below HB1.out B3.out.lt).cell 4, (B3.out.below HB1.out B3.out.lt).cell 5⟩
        clear hK K
        try simp only [Act.put, List.setIfInBounds_toArray, List.set_cons_zero, List.set_cons_succ]
        refine wpAnyH_done (by kernel_rfl) ?_ _
        clear hHeld
        go_wp2_with fail
        go_roundw
        case rel => exact ⟨k + 1, _, by omega, by go_num, B5.out, O5.out, HB1.out⟩
        case measure => simp [intOf]; omega
    · skip
      obtain rfl : k = bh := by omega
      have B4 := Lib.hid (B4.out.below HB1.out B4.out.lt)
      obtain ⟨⟨q0, q1, q2⟩, _⟩ := B5.out.three
      obtain ⟨⟨r0, r1, r2⟩, f0, f1, f2⟩ := B4.out.three
      go_wp2_with fail
      obtain ⟨k1, k2, k3⟩ := ret_plane B4.out (.int .i64 bw) (.int .i64 k) (.slice A1 n5 c1)
      refine bodyPost_ret (results_cell_row rfl _ _ (w.heap.size + 1 + 1) 39 _ (0, 0) _ rfl k1 Try.underlying39 rfl (by kernel_rfl)) rfl ?_
      exact ⟨_, rfl, by rw [Nat.mul_comm bw k]; exact (k2 _ _ _ O5.out).lower HB.out.size, k3 _ _ (HB.out.trans (HB1.out.mono HB.out.size)) (by omega)⟩

set_option maxRecDepth 100000 in
set_option maxHeartbeats 6400000 in
theorem bcut_no (W H : Int) (A : Option Addr) (n c : Nat) (b : Bd) (w : World) (hn : n ≤ 9223372036854775807) (hi : inB W H n b = false) :
    Calls Try.prog 16 #[plV W H (.slice A n c), bdV b] w (PlRes Pl.none_ w) := by
  have HI := Lib.hid hi
  have HB1 := Lib.hid (Below.refl w.heap.size w)
  obtain ⟨l, o, x, y, bw, bh⟩ := b
  clear hi
  go_enter Try.func16, Try.ntmps16
  go_wp2_with fail
  have HB1 := Lib.hid (below_alloc_ (below_alloc_ (below_alloc_ (HB1.out) (.cells #[.int .i64 W, .int .i64 H, .slice A n c] 39)) (.cells #[.int .i64 l, .int .i64 o, .int .i64 x, .int .i64 y, .int .i64 bw, .int .i64 bh] 31)) (.cells #[.int .i64 0, .int .i64 0, .slice none 0 0] 39))
  have hzw : (((w.alloc (.cells #[.int .i64 W, .int .i64 H, .slice A n c] 39)).alloc (.cells #[.int .i64 l, .int .i64 o, .int .i64 x, .int .i64 y, .int .i64 bw, .int .i64 bh] 31)).alloc (.cells #[.int .i64 0, .int .i64 0, .slice none 0 0] 39)).heap.size = w.heap.size + 3 := by simp only [World.size_alloc]
  have B2 := ((Blk.new (w) 39 #[.int .i64 W, .int .i64 H, .slice A n c]).alloc (.cells #[.int .i64 l, .int .i64 o, .int .i64 x, .int .i64 y, .int .i64 bw, .int .i64 bh] 31)).alloc (.cells #[.int .i64 0, .int .i64 0, .slice none 0 0] 39)
  skip
  have B2 := Lib.hid B2
  have B3 := (Blk.new (w.alloc (.cells #[.int .i64 W, .int .i64 H, .slice A n c] 39)) 31 #[.int .i64 l, .int .i64 o, .int .i64 x, .int .i64 y, .int .i64 bw, .int .i64 bh]).alloc (.cells #[.int .i64 0, .int .i64 0, .slice none 0 0] 39)
  rw [show (w.alloc (.cells #[.int .i64 W, .int .i64 H, .slice A n c] 39)).heap.size = w.heap.size + 1 by simp only [World.size_alloc]] at B3
  have B3 := Lib.hid B3
  have B4 := Blk.new ((w.alloc (.cells #[.int .i64 W, .int .i64 H, .slice A n c] 39)).alloc (.cells #[.int .i64 l, .int .i64 o, .int .i64 x, .int .i64 y, .int .i64 bw, .int .i64 bh] 31)) 39 #[.int .i64 0, .int .i64 0, .slice none 0 0]
  rw [show ((w.alloc (.cells #[.int .i64 W, .int .i64 H, .slice A n c] 39)).alloc (.cells #[.int .i64 l, .int .i64 o, .int .i64 x, .int .i64 y, .int .i64 bw, .int .i64 bh] 31)).heap.size = w.heap.size + 1 + 1 by simp only [World.size_alloc]] at B4
  have B4 := Lib.hid B4
  generalize ((w.alloc (.cells #[.int .i64 W, .int .i64 H, .slice A n c] 39)).alloc (.cells #[.int .i64 l, .int .i64 o, .int .i64 x, .int .i64 y, .int .i64 bw, .int .i64 bh] 31)).alloc (.cells #[.int .i64 0, .int .i64 0, .slice none 0 0] 39) = w1 at *
  clear hzw
  refine (bwithin_c W H A n c ⟨l, o, x, y, bw, bh⟩ _ hn).mono ?_
  rintro e w2 ⟨rfl, hb'⟩
  have HB1 := Lib.hid ((HB1.out).trans (hb'.mono (HB1.out).size))
  have B2 := Lib.hid ((B2.out).below hb' (B2.out).lt)
  have B3 := Lib.hid ((B3.out).below hb' (B3.out).lt)
  have B4 := Lib.hid ((B4.out).below hb' (B4.out).lt)
  clear hb'
  rw [HI.out]
  obtain ⟨⟨r0, r1, r2⟩, f0, f1, f2⟩ := B4.out.three
  go_wp2_with fail
  obtain ⟨k1, k2, k3⟩ := ret_plane B4.out (.int .i64 0) (.int .i64 0) (.slice none 0 0)
  refine bodyPost_ret (results_cell_row rfl _ _ (w.heap.size + 1 + 1) 39 _ (0, 0) _ rfl k1 Try.underlying39 rfl (by kernel_rfl)) rfl ?_
  exact ⟨_, rfl, OwnI.nil _ _, k3 _ _ HB1.out (by omega)⟩


end Go.Proofs.Ytjlajggilcihoaa
