/- Bands: the reference's Laid. -/
import Derived.Test.YtjlajggilcihoaaBd10
import Derived.Deep.DeepCutAuto
import Derived.Deep.CutBlock
namespace Go.Proofs.Ytjlajggilcihoaa
open Go.RowKit
set_option linter.unusedVariables false
set_option linter.unusedSimpArgs false

theorem results_row_tmp {P : Program} {fn : Func} {p u : Tmp} {ty : TypeId} (h : fn.results = #[.cell p ty, .tmp u]) (tmps : Array Value) (w : World) (g : Nat) (t : TypeId) (cs : Array Value) (fr : Nat × Nat) (d : TypeDesc)
    (hp : tmps.getD p undef = .pointer (some ⟨g, 0, none⟩)) (hg : w.heap[g]? = some (.cells cs t fr))
    (hu : P.underlying ty = some d) (hd : (match d with | .struct _ | .array _ _ => true | _ => false) = true) (hi : (P.info? ty).map (·.size) = some cs.size) :
    (results fn tmps).run P w = .ok (.tuple #[.agg cs, tmps.getD u undef]) w := by
  have hp' : tmps[p]?.getD undef = .pointer (some ⟨g, 0, none⟩) := by simpa using hp
  simp [results, h, hp', asAddr, run_loadVar_row w g t ty cs fr d hg hu hd hi]
/-- Is the k-th place of a plane that is a wide in a band? -/
def inK (a x y bw bh k : Nat) : Bool := decide (x ≤ k % a) && decide (k % a < x + bw) && decide (y ≤ k / a) && decide (k / a < y + bh)
def laidK (V U : List Int) (a x y bw bh k : Nat) : Int := if inK a x y bw bh k = true then rdn U ((k / a - y) * bw + (k % a - x)) else rdn V k
/-- A plane's numbers, the first k of them with a band laid over. -/
def mixL (V U : List Int) (a x y bw bh n k : Nat) : List Int := tab n fun j => if j < k then laidK V U a x y bw bh j else rdn V j
def laidL (V U : List Int) (a x y bw bh n : Nat) : List Int := tab n (laidK V U a x y bw bh)
theorem mixL_length (V U : List Int) (a x y bw bh n k : Nat) : (mixL V U a x y bw bh n k).length = n := tab_length _ _
theorem mixL_zero (V U : List Int) (a x y bw bh : Nat) : mixL V U a x y bw bh V.length 0 = V := by
  unfold mixL
  rw [tab_congr (g := fun j => V.getD j 0) (fun j _ => by rw [if_neg (by omega)]; rfl)]
  exact tab_of V
theorem mixL_full (V U : List Int) (a x y bw bh n : Nat) : mixL V U a x y bw bh n n = laidL V U a x y bw bh n := tab_congr fun j hj => by rw [if_pos hj]
theorem mixL_set {V U : List Int} {a x y bw bh n k : Nat} (hk : k < n) : (mixL V U a x y bw bh n k).set k (laidK V U a x y bw bh k) = mixL V U a x y bw bh n (k + 1) := by
  unfold mixL
  rw [tab_set]
  refine tab_congr fun j hj => ?_
  by_cases e : j = k
  · subst e; rw [if_pos rfl, if_pos (by omega)]
  · rw [if_neg e]
    by_cases h : j < k
    · rw [if_pos h, if_pos (by omega)]
    · rw [if_neg h, if_neg (by omega)]
theorem mixL_same {V U : List Int} {a x y bw bh n k : Nat} (h : inK a x y bw bh k = false) : mixL V U a x y bw bh n k = mixL V U a x y bw bh n (k + 1) := by
  unfold mixL
  refine tab_congr fun j hj => ?_
  by_cases e : j = k
  · subst e
    rw [if_neg (by omega), if_pos (by omega)]
    unfold laidK
    rw [h]
    rfl
  · by_cases h : j < k
    · rw [if_pos h, if_pos (by omega)]
    · rw [if_neg h, if_neg (by omega)]
theorem made_self {a b : Nat} {V : List Int} (hok : okB a b V.length = true) (hl : V.length = a * b) : madeL a b (fun x y => atP a b V x y) (a * b) = V :=
  made_eq hl fun x y hx hy => atP_nat hok hx hy
set_option maxRecDepth 100000 in
set_option maxHeartbeats 6400000 in
theorem r10laid_yes (a b : Nat) (V : List Int) (A : Option Addr) (cp : Nat) (l o : Int) (x y bw bh : Nat) (U : List Int) (A' : Option Addr) (cq : Nat) (w : World) (hR : ReadsI w A V) (hR' : ReadsI w A' U) (a1 : 1 ≤ a) (a2 : a ≤ 1024) (b1 : 1 ≤ b) (b2 : b ≤ 1024) (hl : V.length = a * b) (hl2 : U.length = bw * bh)
    (bw1 : 1 ≤ bw) (bh1 : 1 ≤ bh) (hx : x + bw ≤ a) (hy : y + bh ≤ b) :
    Calls Try.prog 20 #[plV a b (.slice A V.length cp), .agg #[.int .i64 l, .int .i64 o, .int .i64 x, .int .i64 y, .int .i64 bw, .int .i64 bh], plV bw bh (.slice A' U.length cq)] w fun e w' => ∃ v, e = .returned (.tuple #[plV a b v, .bool true]) ∧ OwnI w' w.heap.size v (laidL V U a x y bw bh V.length) ∧ Below w.heap.size w w' := by
  have hn : V.length ≤ 9223372036854775807 := by have := area_bd (W := a) (H := b) (by omega) (by omega) (by omega) (by omega); have := Int.natCast_mul a b; omega
  have hu : U.length ≤ 9223372036854775807 := by have := area_bd (W := bw) (H := bh) (by omega) (by omega) (by omega) (by omega); have := Int.natCast_mul bw bh; omega
  have hok : okB a b V.length = true := by rw [hl]; exact okB_mk a1 a2 b1 b2
  have hoq : okB bw bh U.length = true := by rw [hl2]; exact okB_mk bw1 (by omega) bh1 (by omega)
  have HIN := Lib.hid (show inB a b V.length ⟨l, o, x, y, bw, bh⟩ = true by unfold inB; rw [hok]; simp; omega)
  have HOQ := Lib.hid hoq
  have HQN := Lib.hid (fun (i j : Nat) (hi : i < bw) (hj : j < bh) => atP_nat hoq hi hj)
  have HSE := Lib.hid (made_self hok hl)
  have HMZ := Lib.hid (mixL_zero V U a x y bw bh)
  have HL := Lib.hid hl
  have RP := Lib.hid hR
  have RQ := Lib.hid hR'
  have HB := Lib.hid (Below.refl w.heap.size w)
  have e1 : ((bw : Int) != (bw : Int)) = false := by simp
  have e2 : ((bh : Int) != (bh : Int)) = false := by simp
  clear hR hR' hl hl2 hok hoq
  go_enter Try.func20, Try.ntmps20
  go_wp2_with fail
  have RP := Lib.hid (((((RP.out).alloc (.cells #[.int .i64 a, .int .i64 b, .slice A V.length cp] 39)).alloc (.cells #[.int .i64 l, .int .i64 o, .int .i64 x, .int .i64 y, .int .i64 bw, .int .i64 bh] 31)).alloc (.cells #[.int .i64 bw, .int .i64 bh, .slice A' U.length cq] 39)).alloc (.cells #[.int .i64 0, .int .i64 0, .slice none 0 0] 39))
  have RQ := Lib.hid (((((RQ.out).alloc (.cells #[.int .i64 a, .int .i64 b, .slice A V.length cp] 39)).alloc (.cells #[.int .i64 l, .int .i64 o, .int .i64 x, .int .i64 y, .int .i64 bw, .int .i64 bh] 31)).alloc (.cells #[.int .i64 bw, .int .i64 bh, .slice A' U.length cq] 39)).alloc (.cells #[.int .i64 0, .int .i64 0, .slice none 0 0] 39))
  have HB := Lib.hid (below_alloc_ (below_alloc_ (below_alloc_ (below_alloc_ (HB.out) (.cells #[.int .i64 a, .int .i64 b, .slice A V.length cp] 39)) (.cells #[.int .i64 l, .int .i64 o, .int .i64 x, .int .i64 y, .int .i64 bw, .int .i64 bh] 31)) (.cells #[.int .i64 bw, .int .i64 bh, .slice A' U.length cq] 39)) (.cells #[.int .i64 0, .int .i64 0, .slice none 0 0] 39))
  have hzw : ((((w.alloc (.cells #[.int .i64 a, .int .i64 b, .slice A V.length cp] 39)).alloc (.cells #[.int .i64 l, .int .i64 o, .int .i64 x, .int .i64 y, .int .i64 bw, .int .i64 bh] 31)).alloc (.cells #[.int .i64 bw, .int .i64 bh, .slice A' U.length cq] 39)).alloc (.cells #[.int .i64 0, .int .i64 0, .slice none 0 0] 39)).heap.size = w.heap.size + 4 := by simp only [World.size_alloc]
  have B3 := (((Blk.new (w) 39 #[.int .i64 a, .int .i64 b, .slice A V.length cp]).alloc (.cells #[.int .i64 l, .int .i64 o, .int .i64 x, .int .i64 y, .int .i64 bw, .int .i64 bh] 31)).alloc (.cells #[.int .i64 bw, .int .i64 bh, .slice A' U.length cq] 39)).alloc (.cells #[.int .i64 0, .int .i64 0, .slice none 0 0] 39)
  skip
  have B3 := Lib.hid B3
  have B4 := ((Blk.new (w.alloc (.cells #[.int .i64 a, .int .i64 b, .slice A V.length cp] 39)) 31 #[.int .i64 l, .int .i64 o, .int .i64 x, .int .i64 y, .int .i64 bw, .int .i64 bh]).alloc (.cells #[.int .i64 bw, .int .i64 bh, .slice A' U.length cq] 39)).alloc (.cells #[.int .i64 0, .int .i64 0, .slice none 0 0] 39)
  rw [show (w.alloc (.cells #[.int .i64 a, .int .i64 b, .slice A V.length cp] 39)).heap.size = w.heap.size + 1 by simp only [World.size_alloc]] at B4
  have B4 := Lib.hid B4
  have B5 := (Blk.new ((w.alloc (.cells #[.int .i64 a, .int .i64 b, .slice A V.length cp] 39)).alloc (.cells #[.int .i64 l, .int .i64 o, .int .i64 x, .int .i64 y, .int .i64 bw, .int .i64 bh] 31)) 39 #[.int .i64 bw, .int .i64 bh, .slice A' U.length cq]).alloc (.cells #[.int .i64 0, .int .i64 0, .slice none 0 0] 39)
  rw [show ((w.alloc (.cells #[.int .i64 a, .int .i64 b, .slice A V.length cp] 39)).alloc (.cells #[.int .i64 l, .int .i64 o, .int .i64 x, .int .i64 y, .int .i64 bw, .int .i64 bh] 31)).heap.size = w.heap.size + 1 + 1 by simp only [World.size_alloc]] at B5
  have B5 := Lib.hid B5
  have B6 := Blk.new (((w.alloc (.cells #[.int .i64 a, .int .i64 b, .slice A V.length cp] 39)).alloc (.cells #[.int .i64 l, .int .i64 o, .int .i64 x, .int .i64 y, .int .i64 bw, .int .i64 bh] 31)).alloc (.cells #[.int .i64 bw, .int .i64 bh, .slice A' U.length cq] 39)) 39 #[.int .i64 0, .int .i64 0, .slice none 0 0]
  rw [show (((w.alloc (.cells #[.int .i64 a, .int .i64 b, .slice A V.length cp] 39)).alloc (.cells #[.int .i64 l, .int .i64 o, .int .i64 x, .int .i64 y, .int .i64 bw, .int .i64 bh] 31)).alloc (.cells #[.int .i64 bw, .int .i64 bh, .slice A' U.length cq] 39)).heap.size = w.heap.size + 1 + 1 + 1 by simp only [World.size_alloc]] at B6
  have B6 := Lib.hid B6
  generalize (((w.alloc (.cells #[.int .i64 a, .int .i64 b, .slice A V.length cp] 39)).alloc (.cells #[.int .i64 l, .int .i64 o, .int .i64 x, .int .i64 y, .int .i64 bw, .int .i64 bh] 31)).alloc (.cells #[.int .i64 bw, .int .i64 bh, .slice A' U.length cq] 39)).alloc (.cells #[.int .i64 0, .int .i64 0, .slice none 0 0] 39) = w1 at *
  clear hzw
  have HB1 := Lib.hid (Below.refl w1.heap.size w1)
  refine (r10within_c a b A V.length cp ⟨l, o, x, y, bw, bh⟩ _ hn).mono ?_
  rintro e w2 ⟨rfl, hb'⟩
  have HB1 := Lib.hid ((HB1.out).trans (hb'.mono (HB1.out).size))
  clear hb'
  rw [HIN.out]
  obtain ⟨zB30, zB31, zB32⟩ := (B3.out.below HB1.out B3.out.lt).cells3
  obtain ⟨zB40, zB41, zB42, zB43, zB44, zB45⟩ := (B4.out.below HB1.out B4.out.lt).cells6
  obtain ⟨zB50, zB51, zB52⟩ := (B5.out.below HB1.out B5.out.lt).cells3
  go_wp2_with fail
  clear zB30 zB31 zB32
  clear zB40 zB41 zB42 zB43 zB44 zB45
  clear zB50 zB51 zB52
  refine (rright_c bw bh A' U.length cq _ hu).mono ?_
  rintro e w3 ⟨rfl, hb'⟩
  have HB1 := Lib.hid ((HB1.out).trans (hb'.mono (HB1.out).size))
  clear hb'
  rw [HOQ.out]
  obtain ⟨zB30, zB31, zB32⟩ := (B3.out.below HB1.out B3.out.lt).cells3
  obtain ⟨zB40, zB41, zB42, zB43, zB44, zB45⟩ := (B4.out.below HB1.out B4.out.lt).cells6
  obtain ⟨zB50, zB51, zB52⟩ := (B5.out.below HB1.out B5.out.lt).cells3
  go_wp2_with fail
  clear zB30 zB31 zB32
  clear zB40 zB41 zB42 zB43 zB44 zB45
  clear zB50 zB51 zB52
  have HB1z := Lib.hid HB1.out.size
  refine (rsized_yes a b V A cp a b _ (RP.out.kept HB1.out) a1 a2 b1 b2 HL.out a1 a2 b1 b2).mono ?_
  rintro e w4 ⟨v, rfl, ho, hb'⟩
  have HB1 := Lib.hid ((HB1.out).trans (hb'.mono (HB1.out).size))
  clear hb'
  simp only [HSE.out] at ho
  obtain ⟨g, cc, rfl, hg, hgl, _⟩ := ho.formr (by rw [HL.out]; exact Nat.mul_pos a1 b1)
  have HG2 := Lib.hid (show w1.heap.size ≤ g by have := HB1z.out; omega)
  obtain ⟨N, hN⟩ : ∃ N, N = V.length := ⟨_, rfl⟩
  have HN := Lib.hid hN
  have hN2 : N ≤ 1048576 := by rw [hN, HL.out]; exact Nat.mul_le_mul a2 b2
  have O8 := Lib.hid (ho.lower (B' := w1.heap.size) HB1z.out)
  clear ho hg hN
  go_upto_region 4 with fail
  have hgl := (show g < w4.heap.size from by have := (O8.out.blk_lt g rfl).2; exact this)
  have HB1 := Lib.hid (below_alloc_ (HB1.out) (.cells #[.int .i64 a, .int .i64 b, .slice (some ⟨g, 0, none⟩) V.length cc] 39))
  have O8 := Lib.hid ((O8.out).alloc (.cells #[.int .i64 a, .int .i64 b, .slice (some ⟨g, 0, none⟩) V.length cc] 39))
  have hzw : (w4.alloc (.cells #[.int .i64 a, .int .i64 b, .slice (some ⟨g, 0, none⟩) V.length cc] 39)).heap.size = w4.heap.size + 1 := by simp only [World.size_alloc]
  have B7 := Blk.new (w4) 39 #[.int .i64 a, .int .i64 b, .slice (some ⟨g, 0, none⟩) V.length cc]
  skip
  have B7 := Lib.hid B7
  generalize w4.alloc (.cells #[.int .i64 a, .int .i64 b, .slice (some ⟨g, 0, none⟩) V.length cc] 39) = w5 at *
  obtain ⟨b7, hb7⟩ : ∃ n, n = w4.heap.size := ⟨_, rfl⟩
  rw [← hb7] at B7 hzw hgl ⊢
  have NE := Lib.hid (show b7 ≠ g by omega)
  clear hzw hb7 hgl
  obtain ⟨zB30, zB31, zB32⟩ := (B3.out.below HB1.out B3.out.lt).cells3
  obtain ⟨zB40, zB41, zB42, zB43, zB44, zB45⟩ := (B4.out.below HB1.out B4.out.lt).cells6
  obtain ⟨zB50, zB51, zB52⟩ := (B5.out.below HB1.out B5.out.lt).cells3
  go_wp2_with fail
  clear zB30 zB31 zB32
  clear zB40 zB41 zB42 zB43 zB44 zB45
  clear zB50 zB51 zB52
  go_loopw [9] (fun v wr => ∃ yy : Nat, yy ≤ b ∧ v = .int .i64 yy ∧ Blk wr b7 39 #[.int .i64 a, .int .i64 b, .slice (some ⟨g, 0, none⟩) V.length cc] ∧ OwnI wr w1.heap.size (.slice (some ⟨g, 0, none⟩) V.length cc) (mixL V U a x y bw bh V.length (yy * a)) ∧ Below w1.heap.size w1 wr) (fun v _ => b - (intOf v).toNat)
  case atStart => exact ⟨0, Nat.zero_le _, rfl, B7.out, by rw [Nat.zero_mul, HMZ.out]; exact O8.out, HB1.out⟩
  case round =>
    obtain ⟨yy, hyb, rfl, h7, ho, hb⟩ := hrel
    have HB1 := Lib.hid hb
    have B7 := Lib.hid h7
    have O8 := Lib.hid ho
    obtain ⟨wo, ewo⟩ : ∃ wo, wo = wr := ⟨_, rfl⟩
    subst ewo
    clear hb h7 ho
    by_cases hyd : yy < b
    · skip
      obtain ⟨zB30, zB31, zB32⟩ := (B3.out.below HB1.out B3.out.lt).cells3
      obtain ⟨zB40, zB41, zB42, zB43, zB44, zB45⟩ := (B4.out.below HB1.out B4.out.lt).cells6
      obtain ⟨zB50, zB51, zB52⟩ := (B5.out.below HB1.out B5.out.lt).cells3
      go_wp2_with fail
      clear zB30 zB31 zB32
      clear zB40 zB41 zB42 zB43 zB44 zB45
      clear zB50 zB51 zB52
      go_loopw [10] (fun v wr => ∃ xx : Nat, xx ≤ a ∧ v = .int .i64 xx ∧ Blk wr b7 39 #[.int .i64 a, .int .i64 b, .slice (some ⟨g, 0, none⟩) V.length cc] ∧ OwnI wr w1.heap.size (.slice (some ⟨g, 0, none⟩) V.length cc) (mixL V U a x y bw bh V.length (yy * a + xx)) ∧ Below w1.heap.size w1 wr) (fun v _ => a - (intOf v).toNat)
      case atStart => exact ⟨0, Nat.zero_le _, rfl, B7.out, O8.out, HB1.out⟩
      case round =>
        obtain ⟨xx, hxa, rfl, h7, ho, hb⟩ := hrel
        have HB1 := Lib.hid hb
        have B7 := Lib.hid h7
        have O8 := Lib.hid ho
        obtain ⟨wi, ewi⟩ : ∃ wi, wi = wr := ⟨_, rfl⟩
        subst ewi
        clear hb h7 ho
        by_cases hxc : xx < a
        · skip
          obtain ⟨kk, hkk⟩ : ∃ kk, kk = yy * a + xx := ⟨_, rfl⟩
          have hkN : kk < V.length := by rw [hkk, HL.out]; exact place_lt hxc hyd
          have hmod : kk % a = xx := by rw [hkk]; exact place_mod hxc
          have hdiv : kk / a = yy := by rw [hkk]; exact place_div hxc
          have HIK := Lib.hid (show inK a x y bw bh kk = (decide (x ≤ xx) && decide (xx < x + bw) && decide (y ≤ yy) && decide (yy < y + bh)) by unfold inK; rw [hmod, hdiv])
          have HLK := Lib.hid (show inK a x y bw bh kk = true → laidK V U a x y bw bh kk = rdn U ((yy - y) * bw + (xx - x)) from fun h => by unfold laidK; rw [if_pos h, hmod, hdiv])
          have hkk2 := Lib.hid hkk
          rw [← hkk] at O8
          have HM := Lib.hid hkN
          have X1 : IntKind.i64.wrap ((x : Int) + (bw : Int)) = (x : Int) + (bw : Int) := IntWalk.i64_in _ (by omega)
          have X2 : IntKind.i64.wrap ((y : Int) + (bh : Int)) = (y : Int) + (bh : Int) := IntWalk.i64_in _ (by omega)
          have hkn : kk < N := by rw [HN.out]; exact hkN
          by_cases k0 : x ≤ xx
          · skip
            by_cases k1 : xx < x + bw
            · skip
              by_cases k2 : y ≤ yy
              · skip
                by_cases k3 : yy < y + bh
                · skip
                  have HT := Lib.hid (show inK a x y bw bh kk = true by rw [HIK.out]; simp; omega)
                  have HQV := Lib.hid (show atP bw bh U ((xx : Int) - (x : Int)) ((yy : Int) - (y : Int)) = laidK V U a x y bw bh kk by rw [HLK.out HT.out, show (xx : Int) - (x : Int) = ((xx - x : Nat) : Int) by omega, show (yy : Int) - (y : Int) = ((yy - y : Nat) : Int) by omega]; exact HQN.out _ _ (by omega) (by omega))
                  have HS := Lib.hid (mixL_set (V := V) (U := U) (a := a) (x := x) (y := y) (bw := bw) (bh := bh) HM.out)
                  obtain ⟨vv, hvv⟩ : ∃ vv, vv = laidK V U a x y bw bh kk := ⟨_, rfl⟩
                  rw [← hvv] at HQV HS
                  clear hvv
                  obtain ⟨m, hm⟩ : ∃ m, m = yy * a := ⟨_, rfl⟩
                  have F1 : (yy : Int) * (a : Int) = (m : Int) := by rw [hm]; exact (Int.natCast_mul _ _).symm
                  have F2 : (m : Int) + (xx : Int) = (kk : Int) := by omega
                  have hml : m ≤ 1048576 := by omega
                  have WM : IntKind.i64.wrap (m : Int) = m := IntWalk.i64_in _ (by omega)
                  have WK : IntKind.i64.wrap (kk : Int) = kk := IntWalk.i64_in _ (by omega)
                  have WX : IntKind.i64.wrap ((xx : Int) - (x : Int)) = (xx : Int) - (x : Int) := IntWalk.i64_in _ (by omega)
                  have WY : IntKind.i64.wrap ((yy : Int) - (y : Int)) = (yy : Int) - (y : Int) := IntWalk.i64_in _ (by omega)
                  have i1 : (0 : Int) ≤ (kk : Int) := by omega
                  have i2 : (kk : Int) < (V.length : Int) := by omega
                  clear hm hkk
                  obtain ⟨zB30, zB31, zB32⟩ := (B3.out.below HB1.out B3.out.lt).cells3
                  obtain ⟨zB40, zB41, zB42, zB43, zB44, zB45⟩ := (B4.out.below HB1.out B4.out.lt).cells6
                  obtain ⟨zB50, zB51, zB52⟩ := (B5.out.below HB1.out B5.out.lt).cells3
                  go_upto_region 11 with fail
                  clear zB30 zB31 zB32
                  clear zB40 zB41 zB42 zB43 zB44 zB45
                  clear zB50 zB51 zB52
                  have HB1 := Lib.hid ((HB1.out).drew)
                  have B7 := Lib.hid ((B7.out).drew)
                  have O8 := Lib.hid ((O8.out).drew)
                  refine wp_region_held_drew (S := (fun w' => w'.cell? ⟨w.heap.size, 0, none⟩ = some (.int .i64 a) ∧ w'.cell? ⟨w.heap.size + 1, 2, none⟩ = some (.int .i64 x) ∧ w'.cell? ⟨w.heap.size + 1, 3, none⟩ = some (.int .i64 y) ∧ w'.cell? ⟨w.heap.size + 1 + 1, 0, none⟩ = some (.int .i64 bw) ∧ w'.cell? ⟨w.heap.size + 1 + 1, 1, none⟩ = some (.int .i64 bh) ∧ w'.cell? ⟨w.heap.size + 1 + 1, 2, none⟩ = some (.slice A' U.length cq) ∧ w'.cell? ⟨b7, 2, none⟩ = some (.slice (some ⟨g, 0, none⟩) V.length cc))) (by kernel_rfl) ?hS0 (fun hHeld => ?_)
                  case hS0 => exact ⟨(B3.out.below HB1.out B3.out.lt).cell 0, (B4.out.below HB1.out B4.out.lt).cell 2, (B4.out.below HB1.out B4.out.lt).cell 3, (B5.out.below HB1.out B5.out.lt).cell 0, (B5.out.below HB1.out B5.out.lt).cell 1, (B5.out.below HB1.out B5.out.lt).cell 2, B7.out.cell 2⟩
                  refine wpAnyH_take (i := 0) (oi := ⟨some 81, _, _, _, _, _⟩) (v := ?v1) rfl (by kernel_rfl) (by kernel_rfl) (by kernel_rfl) (fun _ _ _ h => h) (Or.inl ⟨by rfl, ?h1⟩) (by assumption) ?r1
                  case h1 => (intro w hSw; (try dsimp only at hSw); go_simp; try with_reducible rfl)
                  try simp only [Act.put, List.setIfInBounds_toArray, List.set_cons_zero, List.set_cons_succ]
                  refine wpAnyH_take (i := 1) (oi := ⟨some 82, _, _, _, _, _⟩) (v := ?v2) rfl (by kernel_rfl) (by kernel_rfl) (by kernel_rfl) (fun _ _ _ h => h) (Or.inl ⟨by rfl, ?h2⟩) (by assumption) ?r2
                  case h2 => (intro w hSw; (try dsimp only at hSw); go_simp; try with_reducible rfl)
                  try simp only [Act.put, List.setIfInBounds_toArray, List.set_cons_zero, List.set_cons_succ]
                  refine wpAnyH_take (i := 2) (oi := ⟨some 83, _, _, _, _, _⟩) (v := ?v3) rfl (by kernel_rfl) (by kernel_rfl) (by kernel_rfl) (fun _ _ _ h => h) (Or.inl ⟨by rfl, ?h3⟩) (by assumption) ?r3
                  case h3 => (intro w hSw; (try dsimp only at hSw); go_simp; try with_reducible rfl)
                  try simp only [Act.put, List.setIfInBounds_toArray, List.set_cons_zero, List.set_cons_succ]
                  refine wpAnyH_take (i := 3) (oi := ⟨some 84, _, _, _, _, _⟩) (v := ?v4) rfl (by kernel_rfl) (by kernel_rfl) (by kernel_rfl) (fun _ _ _ h => h) (Or.inl ⟨by rfl, ?h4⟩) (by assumption) ?r4
                  case h4 => (intro w hSw; (try dsimp only at hSw); go_simp; try with_reducible rfl)
                  try simp only [Act.put, List.setIfInBounds_toArray, List.set_cons_zero, List.set_cons_succ]
                  refine wpAnyH_take (i := 4) (oi := ⟨some 85, _, _, _, _, _⟩) (v := ?v5) rfl (by kernel_rfl) (by kernel_rfl) (by kernel_rfl) (fun _ _ _ h => h) (Or.inl ⟨by rfl, ?h5⟩) (by assumption) ?r5
                  case h5 => (intro w hSw; (try dsimp only at hSw); go_simp; try with_reducible rfl)
                  try simp only [Act.put, List.setIfInBounds_toArray, List.set_cons_zero, List.set_cons_succ]
                  refine wpAnyH_take (i := 5) (oi := ⟨some 86, _, _, _, _, _⟩) (v := ?v6) rfl (by kernel_rfl) (by kernel_rfl) (by kernel_rfl) (fun _ _ _ h => h) (Or.inl ⟨by rfl, ?h6⟩) (by assumption) ?r6
                  case h6 => (intro w hSw; (try dsimp only at hSw); go_simp; try with_reducible rfl)
                  try simp only [Act.put, List.setIfInBounds_toArray, List.set_cons_zero, List.set_cons_succ]
                  refine wpAnyH_take (i := 6) (oi := ⟨some 87, _, _, _, _, _⟩) (v := ?v7) rfl (by kernel_rfl) (by kernel_rfl) (by kernel_rfl) (fun _ _ _ h => h) (Or.inl ⟨by rfl, ?h7⟩) (by assumption) ?r7
                  case h7 => (intro w hSw; (try dsimp only at hSw); go_simp; try with_reducible rfl)
                  try simp only [Act.put, List.setIfInBounds_toArray, List.set_cons_zero, List.set_cons_succ]
                  refine wpAnyH_take (i := 7) (oi := ⟨some 88, _, _, _, _, _⟩) (v := ?v8) rfl (by kernel_rfl) (by kernel_rfl) (by kernel_rfl) (fun _ _ _ h => h) (Or.inl ⟨by rfl, ?h8⟩) (by assumption) ?r8
                  case h8 => (intro w hSw; (try dsimp only at hSw); go_simp; try with_reducible rfl)
                  try simp only [Act.put, List.setIfInBounds_toArray, List.set_cons_zero, List.set_cons_succ]
                  refine wpAnyH_take (i := 8) (oi := ⟨some 89, _, _, _, _, _⟩) (v := ?v9) rfl (by kernel_rfl) (by kernel_rfl) (by kernel_rfl) (fun _ _ _ h => h) (Or.inl ⟨by rfl, ?h9⟩) (by assumption) ?r9
                  case h9 => (intro w hSw; (try dsimp only at hSw); go_simp; try with_reducible rfl)
                  try simp only [Act.put, List.setIfInBounds_toArray, List.set_cons_zero, List.set_cons_succ]
                  refine wpAnyH_take (i := 9) (oi := ⟨some 90, _, _, _, _, _⟩) (v := ?v10) rfl (by kernel_rfl) (by kernel_rfl) (by kernel_rfl) (fun _ _ _ h => h) (Or.inl ⟨by rfl, ?h10⟩) (by assumption) ?r10
                  case h10 => (intro w hSw; (try dsimp only at hSw); go_simp; try with_reducible rfl)
                  try simp only [Act.put, List.setIfInBounds_toArray, List.set_cons_zero, List.set_cons_succ]
                  refine wpAnyH_take (i := 10) (oi := ⟨some 91, _, _, _, _, _⟩) (v := ?v11) rfl (by kernel_rfl) (by kernel_rfl) (by kernel_rfl) (fun _ _ _ h => h) (Or.inl ⟨by rfl, ?h11⟩) (by assumption) ?r11
                  case h11 => (intro w hSw; (try dsimp only at hSw); go_simp; try with_reducible rfl)
                  try simp only [Act.put, List.setIfInBounds_toArray, List.set_cons_zero, List.set_cons_succ]
                  refine wpAnyH_take (i := 11) (oi := ⟨some 92, _, _, _, _, _⟩) (v := ?v12) rfl (by kernel_rfl) (by kernel_rfl) (by kernel_rfl) (fun _ _ _ h => h) (Or.inl ⟨by rfl, ?h12⟩) (by assumption) ?r12
                  case h12 => (intro w hSw; (try dsimp only at hSw); go_simp; try with_reducible rfl)
                  try simp only [Act.put, List.setIfInBounds_toArray, List.set_cons_zero, List.set_cons_succ]
                  refine wpAnyH_take (i := 12) (oi := ⟨some 93, _, _, _, _, _⟩) (v := ?v13) rfl (by kernel_rfl) (by kernel_rfl) (by kernel_rfl) (fun _ _ _ h => h) (Or.inl ⟨by rfl, ?h13⟩) (by assumption) ?r13
                  case h13 => (intro w hSw; (try dsimp only at hSw); go_simp; try with_reducible rfl)
                  try simp only [Act.put, List.setIfInBounds_toArray, List.set_cons_zero, List.set_cons_succ]
                  refine wpAnyH_take (i := 13) (oi := ⟨some 94, _, _, _, _, _⟩) (v := ?v14) rfl (by kernel_rfl) (by kernel_rfl) (by kernel_rfl) (fun _ _ _ h => h) (Or.inl ⟨by rfl, ?h14⟩) (by assumption) ?r14
                  case h14 => (intro w hSw; (try dsimp only at hSw); go_simp; try with_reducible rfl)
                  try simp only [Act.put, List.setIfInBounds_toArray, List.set_cons_zero, List.set_cons_succ]
                  refine wpAnyH_take (i := 14) (oi := ⟨some 95, _, _, _, _, _⟩) (v := ?v15) rfl (by kernel_rfl) (by kernel_rfl) (by kernel_rfl) (fun _ _ _ h => h) (Or.inl ⟨by rfl, ?h15⟩) (by assumption) ?r15
                  case h15 => (intro w hSw; (try dsimp only at hSw); go_simp; try with_reducible rfl)
                  try simp only [Act.put, List.setIfInBounds_toArray, List.set_cons_zero, List.set_cons_succ]
                  refine wpAnyH_take (i := 15) (oi := ⟨some 96, _, _, _, _, _⟩) (v := ?v16) rfl (by kernel_rfl) (by kernel_rfl) (by kernel_rfl) (fun _ _ _ h => h) (Or.inl ⟨by rfl, ?h16⟩) (by assumption) ?r16
                  case h16 => (intro w hSw; (try dsimp only at hSw); go_simp; try with_reducible rfl)
                  try simp only [Act.put, List.setIfInBounds_toArray, List.set_cons_zero, List.set_cons_succ]
                  refine wpAnyH_take (i := 16) (oi := ⟨some 97, _, _, _, _, _⟩) (v := ?v17) rfl (by kernel_rfl) (by kernel_rfl) (by kernel_rfl) (fun _ _ _ h => h) (Or.inl ⟨by rfl, ?h17⟩) (by assumption) ?r17
                  case h17 => (intro w hSw; (try dsimp only at hSw); go_simp; try with_reducible rfl)
                  try simp only [Act.put, List.setIfInBounds_toArray, List.set_cons_zero, List.set_cons_succ]
                  refine wpAnyH_ready (rs := [17]) (by kernel_rfl) (by simp) ?_
                  refine (AllReadyH.cons (o := ⟨some 98, _, _, _, _, _⟩) rfl (fun K hK => ?_) AllReadyH.nil)
                  go_simp
                  have HS1 := HB1
                  refine (r7at_c bw bh U A' cq ((xx : Int) - (x : Int)) ((yy : Int) - (y : Int)) _ (RQ.out.kept HB1.out) hu).mono ?_
                  rintro e w6 ⟨rfl, hb'⟩
                  have HB1 := Lib.hid ((HB1.out).trans (hb'.mono (HB1.out).size))
                  have B7 := Lib.hid ((B7.out).below hb' (B7.out).lt)
                  have O8 := Lib.hid ((O8.out).kept hb')
                  clear hb'
                  rw [HQV.out]
                  refine hK.out _ _ ?hS18 (fun hHeld => ?_)
                  case hS18 => exact ⟨(B3.out.below HB1.out B3.out.lt).cell 0, (B4.out.below HB1.out B4.out.lt).cell 2, (B4.out.below HB1.out B4.out.lt).cell 3, (B5.out.below HB1.out B5.out.lt).cell 0, (B5.out.below HB1.out B5.out.lt).cell 1, (B5.out.below HB1.out B5.out.lt).cell 2, B7.out.cell 2⟩
                  clear hK K
                  try simp only [Act.put, List.setIfInBounds_toArray, List.set_cons_zero, List.set_cons_succ]
                  refine wpAnyH_take (i := 18) (oi := ⟨some 99, _, _, _, _, _⟩) (v := ?v19) rfl (by kernel_rfl) (by kernel_rfl) (by kernel_rfl) (fun _ _ _ h => h) (Or.inl ⟨by rfl, ?h19⟩) (by assumption) ?r19
                  case h19 => (intro w hSw; (try dsimp only at hSw); go_simp; try with_reducible rfl)
                  try simp only [Act.put, List.setIfInBounds_toArray, List.set_cons_zero, List.set_cons_succ]
                  refine wpAnyH_ready (rs := [19]) (by kernel_rfl) (by simp) ?_
                  refine (AllReadyH.cons (o := ⟨none, _, _, _, _, _⟩) rfl (fun K hK => ?_) AllReadyH.nil)
                  have zg := O8.out.cellr (i := kk) (by rw [mixL_length]; exact HM.out)
                  have fg := O8.out.frozenr kk
                  go_simp
                  clear zg fg
                  have hrs := OwnI.put O8.out kk vv
                  rw [HS.out] at hrs
                  have O8 := Lib.hid hrs
                  have B7 := Lib.hid (B7.out.far (p := ⟨g, kk, none⟩) NE.out (.int .i64 vv))
                  have HB1 := Lib.hid (HB1.out.setCell (p := ⟨g, kk, none⟩) HG2.out (.int .i64 vv))
                  clear hrs
                  refine hK.out _ _ ?hS20 (fun hHeld => ?_)
                  case hS20 => exact ⟨(B3.out.below HB1.out B3.out.lt).cell 0, (B4.out.below HB1.out B4.out.lt).cell 2, (B4.out.below HB1.out B4.out.lt).cell 3, (B5.out.below HB1.out B5.out.lt).cell 0, (B5.out.below HB1.out B5.out.lt).cell 1, (B5.out.below HB1.out B5.out.lt).cell 2, B7.out.cell 2⟩
                  clear hK K
                  try simp only [Act.put, List.setIfInBounds_toArray, List.set_cons_zero, List.set_cons_succ]
                  refine wpAnyH_done (by kernel_rfl) ?_ _
                  clear hHeld
                  go_wp2_with fail
                  go_roundw
                  case rel => exact ⟨xx + 1, by omega, by go_num, B7.out, by rw [show yy * a + (xx + 1) = kk + 1 by have := hkk2.out; omega]; exact O8.out, HB1.out⟩
                  case measure => simp [intOf]; omega
                · skip
                  have HT := Lib.hid (show inK a x y bw bh kk = false by rw [HIK.out]; simp; omega)
                  have O8 := Lib.hid (show OwnI wi _ _ _ from mixL_same (V := V) (U := U) (n := V.length) HT.out ▸ O8.out)
                  clear hkk
                  obtain ⟨zB30, zB31, zB32⟩ := (B3.out.below HB1.out B3.out.lt).cells3
                  obtain ⟨zB40, zB41, zB42, zB43, zB44, zB45⟩ := (B4.out.below HB1.out B4.out.lt).cells6
                  obtain ⟨zB50, zB51, zB52⟩ := (B5.out.below HB1.out B5.out.lt).cells3
                  go_wp2_with fail
                  clear zB30 zB31 zB32
                  clear zB40 zB41 zB42 zB43 zB44 zB45
                  clear zB50 zB51 zB52
                  go_roundw
                  case rel => exact ⟨xx + 1, by omega, by go_num, B7.out, by rw [show yy * a + (xx + 1) = kk + 1 by have := hkk2.out; omega]; exact O8.out, HB1.out⟩
                  case measure => simp [intOf]; omega
              · skip
                have HT := Lib.hid (show inK a x y bw bh kk = false by rw [HIK.out]; simp; omega)
                have O8 := Lib.hid (show OwnI wi _ _ _ from mixL_same (V := V) (U := U) (n := V.length) HT.out ▸ O8.out)
                clear hkk
                obtain ⟨zB30, zB31, zB32⟩ := (B3.out.below HB1.out B3.out.lt).cells3
                obtain ⟨zB40, zB41, zB42, zB43, zB44, zB45⟩ := (B4.out.below HB1.out B4.out.lt).cells6
                obtain ⟨zB50, zB51, zB52⟩ := (B5.out.below HB1.out B5.out.lt).cells3
                go_wp2_with fail
                clear zB30 zB31 zB32
                clear zB40 zB41 zB42 zB43 zB44 zB45
                clear zB50 zB51 zB52
                go_roundw
                case rel => exact ⟨xx + 1, by omega, by go_num, B7.out, by rw [show yy * a + (xx + 1) = kk + 1 by have := hkk2.out; omega]; exact O8.out, HB1.out⟩
                case measure => simp [intOf]; omega
            · skip
              have HT := Lib.hid (show inK a x y bw bh kk = false by rw [HIK.out]; simp; omega)
              have O8 := Lib.hid (show OwnI wi _ _ _ from mixL_same (V := V) (U := U) (n := V.length) HT.out ▸ O8.out)
              clear hkk
              obtain ⟨zB30, zB31, zB32⟩ := (B3.out.below HB1.out B3.out.lt).cells3
              obtain ⟨zB40, zB41, zB42, zB43, zB44, zB45⟩ := (B4.out.below HB1.out B4.out.lt).cells6
              obtain ⟨zB50, zB51, zB52⟩ := (B5.out.below HB1.out B5.out.lt).cells3
              go_wp2_with fail
              clear zB30 zB31 zB32
              clear zB40 zB41 zB42 zB43 zB44 zB45
              clear zB50 zB51 zB52
              go_roundw
              case rel => exact ⟨xx + 1, by omega, by go_num, B7.out, by rw [show yy * a + (xx + 1) = kk + 1 by have := hkk2.out; omega]; exact O8.out, HB1.out⟩
              case measure => simp [intOf]; omega
          · skip
            have HT := Lib.hid (show inK a x y bw bh kk = false by rw [HIK.out]; simp; omega)
            have O8 := Lib.hid (show OwnI wi _ _ _ from mixL_same (V := V) (U := U) (n := V.length) HT.out ▸ O8.out)
            clear hkk
            obtain ⟨zB30, zB31, zB32⟩ := (B3.out.below HB1.out B3.out.lt).cells3
            obtain ⟨zB40, zB41, zB42, zB43, zB44, zB45⟩ := (B4.out.below HB1.out B4.out.lt).cells6
            obtain ⟨zB50, zB51, zB52⟩ := (B5.out.below HB1.out B5.out.lt).cells3
            go_wp2_with fail
            clear zB30 zB31 zB32
            clear zB40 zB41 zB42 zB43 zB44 zB45
            clear zB50 zB51 zB52
            go_roundw
            case rel => exact ⟨xx + 1, by omega, by go_num, B7.out, by rw [show yy * a + (xx + 1) = kk + 1 by have := hkk2.out; omega]; exact O8.out, HB1.out⟩
            case measure => simp [intOf]; omega
        · skip
          obtain rfl : xx = a := by omega
          obtain ⟨zB30, zB31, zB32⟩ := (B3.out.below HB1.out B3.out.lt).cells3
          obtain ⟨zB40, zB41, zB42, zB43, zB44, zB45⟩ := (B4.out.below HB1.out B4.out.lt).cells6
          obtain ⟨zB50, zB51, zB52⟩ := (B5.out.below HB1.out B5.out.lt).cells3
          go_wp2_with fail
          clear zB30 zB31 zB32
          clear zB40 zB41 zB42 zB43 zB44 zB45
          clear zB50 zB51 zB52
          go_roundw
          case rel => exact ⟨yy + 1, by omega, by go_num, B7.out, by rw [Nat.add_mul, Nat.one_mul]; exact O8.out, HB1.out⟩
          case measure => simp [intOf]; omega
    · skip
      obtain rfl : yy = b := by omega
      have B6 := Lib.hid (B6.out.below HB1.out B6.out.lt)
      obtain ⟨⟨q0, q1, q2⟩, _⟩ := B7.out.three
      obtain ⟨⟨r0, r1, r2⟩, f0, f1, f2⟩ := B6.out.three
      obtain ⟨zB30, zB31, zB32⟩ := (B3.out.below HB1.out B3.out.lt).cells3
      obtain ⟨zB40, zB41, zB42, zB43, zB44, zB45⟩ := (B4.out.below HB1.out B4.out.lt).cells6
      obtain ⟨zB50, zB51, zB52⟩ := (B5.out.below HB1.out B5.out.lt).cells3
      go_wp2_with fail
      clear zB30 zB31 zB32
      clear zB40 zB41 zB42 zB43 zB44 zB45
      clear zB50 zB51 zB52
      obtain ⟨k1, k2, k3⟩ := ret_plane B6.out (.int .i64 a) (.int .i64 yy) (.slice (some ⟨g, 0, none⟩) V.length cc)
      refine bodyPost_ret (results_row_tmp rfl _ _ (w.heap.size + 1 + 1 + 1) 39 _ (0, 0) _ rfl k1 Try.underlying39 rfl (by kernel_rfl)) rfl ?_
      have hf : mixL V U a x y bw bh V.length (yy * a) = laidL V U a x y bw bh V.length := by rw [show yy * a = V.length by rw [HL.out, Nat.mul_comm]]; exact mixL_full _ _ _ _ _ _ _ _
      have ho := O8.out
      rw [hf] at ho
      exact ⟨_, rfl, (k2 _ _ _ ho).lower HB.out.size, k3 _ _ (HB.out.trans (HB1.out.mono HB.out.size)) (by omega)⟩


end Go.Proofs.Ytjlajggilcihoaa
