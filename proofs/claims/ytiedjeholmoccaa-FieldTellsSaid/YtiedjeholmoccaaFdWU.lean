/- Which fields are right, their units: the law's walk. -/
import Derived.Test.YtiedjeholmoccaaFdS1
import Derived.Test.YtiedjeholmoccaaFdT3
import Derived.Test.YtiedjeholmoccaaFdT4
import Derived.Test.YtiedjeholmoccaaOpenFd
namespace Go.Proofs.Ytiedjeholmoccaa
open Go.RowKit Go.Sort Go.Shelf
set_option linter.unusedVariables false
set_option linter.unusedSimpArgs false
theorem wpL_skip_eq {P : Program} {md : Region.Mode} {ops : Array Oper} {w0 : World} {Lq : Act → Known → Prop} {k : Nat} {Bs : List Brings} {o : Oper} {rest : List Oper} {a : Act} {s : Known} {B : Brings} (hw : Region.wanted o (yielded ops a.tmps) = false) :
    wpL P md ops w0 Lq k (B :: Bs) (o :: rest) a s = wpL P md ops w0 Lq (k + 1) Bs rest (a.put o.dst undef) s := by
  rw [wpL, if_neg (by rw [hw]; decide)]
/-- The squares' numbers grow. -/
theorem unsP_sorted (a : Nat) (S : List Int) (n : Nat) : (unsP a S n).Pairwise (fun p q => p.1 ≤ q.1) := by
  induction n with
  | zero => exact List.Pairwise.nil
  | succ n ih =>
    rw [unsP, List.pairwise_append]
    refine ⟨ih, ?_, ?_⟩
    · unfold unsSq
      rw [List.pairwise_map]
      exact List.pairwise_of_forall (fun _ _ => Nat.le_refl _)
    · intro p hp q hq
      obtain ⟨_, h, _⟩ := unsP_mem hp
      simp only [unsSq, List.mem_map, List.mem_range] at hq
      obtain ⟨_, _, rfl⟩ := hq
      exact Nat.le_of_lt h
/-- The square of the unit that came last. -/
def lastI (a : Nat) (S : List Int) : Nat → Nat
  | 0 => 0
  | k + 1 => (((unsP a S S.length)[k]?).map (·.1)).getD 0
theorem lastI_next {a : Nat} {S : List Int} {k : Nat} {p : Nat × Un} (h : (unsP a S S.length)[k]? = some p) : lastI a S (k + 1) = p.1 := by
  show (((unsP a S S.length)[k]?).map (·.1)).getD 0 = p.1
  rw [h]
  rfl
theorem lastI_le {a : Nat} {S : List Int} {k : Nat} {p : Nat × Un} (h : (unsP a S S.length)[k]? = some p) : lastI a S k ≤ p.1 := by
  cases k with
  | zero => exact Nat.zero_le _
  | succ k =>
    obtain ⟨h1, e1⟩ := List.getElem?_eq_some_iff.1 h
    rw [lastI_next (p := (unsP a S S.length)[k]) (List.getElem?_eq_getElem (by omega)), ← e1]
    exact (List.pairwise_iff_getElem.1 (unsP_sorted a S S.length)) k (k + 1) (by omega) h1 (Nat.lt_succ_self _)
theorem un_sq {a d : Nat} {S : List Int} (ha : 0 < a) (hl : S.length = a * d) (hS : ∀ k, k < S.length → 0 ≤ rdn S k ∧ rdn S k ≤ 2) {k : Nat} {p : Nat × Un} (h : (unsP a S S.length)[k]? = some p) :
    ∃ ux uy s : Nat, p.2 = ⟨ux, uy, s⟩ ∧ p.1 = uy / 4 * a + ux / 4 ∧ ux ≤ 4 * a ∧ uy ≤ 4 * d := by
  obtain ⟨h1, e1⟩ := List.getElem?_eq_some_iff.1 h
  obtain ⟨j, hi, hj, e⟩ := unsP_mem (e1 ▸ List.getElem_mem h1)
  have hs := hS p.1 hi
  have q1 : p.1 % a < a := Nat.mod_lt _ ha
  have q2 : p.1 / a < d := Nat.div_lt_of_lt_mul (by omega)
  have q3 := Nat.div_add_mod' p.1 a
  refine ⟨_, _, _, e, ?_, ?_, ?_⟩
  · have k1 : j % sqN (rdn S p.1) * (4 / sqN (rdn S p.1)) < 4 ∧ j / sqN (rdn S p.1) * (4 / sqN (rdn S p.1)) < 4 := by
      rcases sqN_in hs.1 hs.2 with ⟨z, _⟩ | ⟨z, _⟩ | ⟨z, _⟩ <;> rw [z] at hj ⊢ <;> omega
    generalize j % sqN (rdn S p.1) * (4 / sqN (rdn S p.1)) = u at *
    generalize j / sqN (rdn S p.1) * (4 / sqN (rdn S p.1)) = v at *
    rw [show (p.1 / a * 4 + v) / 4 = p.1 / a by omega, show (p.1 % a * 4 + u) / 4 = p.1 % a by omega]
    omega
  all_goals
    rcases sqN_in hs.1 hs.2 with ⟨z, _⟩ | ⟨z, _⟩ | ⟨z, _⟩ <;> rw [z] at hj ⊢ <;> omega
set_option maxRecDepth 100000 in
set_option maxHeartbeats 6400000 in
theorem tls_big (a d : Int) (S : List Int) (As : Option Addr) (cs : Nat) (K : List Bk) (Ak : Option Addr) (ck : Nat) (t0 t1 s0 s1 : Int) (w : World) (hS : ReadsI w As S) (hK : ReadsE EK w Ak K) (hn : S.length ≤ 9223372036854775807) (hm : K.length ≤ 9223372036854775807) (hg : bigB S.length K.length = true) :
    Calls Try.prog 3 #[flV a d (.slice As S.length cs) (.slice Ak K.length ck), .agg #[.int .i64 t0, .int .i64 t1], .agg #[.int .i64 s0, .int .i64 s1]] w fun e w' => e = .returned (.bool true) ∧ Below w.heap.size w w' := by
  have RS := Lib.hid hS
  have RK := Lib.hid hK
  have HB := Lib.hid (Below.refl w.heap.size w)
  have HG := Lib.hid hg
  clear hS hK hg
  have HB1 := Lib.hid (Below.refl w.heap.size w)
  go_enter Try.func3, Try.ntmps3
  go_wp2_with fail
  have HB1 := Lib.hid (below_alloc_ (below_alloc_ (below_alloc_ (HB1.out) (.cells #[.int .i64 a, .int .i64 d, .slice As S.length cs, .slice Ak K.length ck] 25)) (.cells #[.int .i64 t0, .int .i64 t1] 26)) (.cells #[.int .i64 s0, .int .i64 s1] 26))
  have hzw : (((w.alloc (.cells #[.int .i64 a, .int .i64 d, .slice As S.length cs, .slice Ak K.length ck] 25)).alloc (.cells #[.int .i64 t0, .int .i64 t1] 26)).alloc (.cells #[.int .i64 s0, .int .i64 s1] 26)).heap.size = w.heap.size + 3 := by simp only [World.size_alloc]
  have B1 := ((Blk.new (w) 25 #[.int .i64 a, .int .i64 d, .slice As S.length cs, .slice Ak K.length ck]).alloc (.cells #[.int .i64 t0, .int .i64 t1] 26)).alloc (.cells #[.int .i64 s0, .int .i64 s1] 26)
  skip
  have B1 := Lib.hid B1
  have B2 := (Blk.new (w.alloc (.cells #[.int .i64 a, .int .i64 d, .slice As S.length cs, .slice Ak K.length ck] 25)) 26 #[.int .i64 t0, .int .i64 t1]).alloc (.cells #[.int .i64 s0, .int .i64 s1] 26)
  rw [show (w.alloc (.cells #[.int .i64 a, .int .i64 d, .slice As S.length cs, .slice Ak K.length ck] 25)).heap.size = w.heap.size + 1 by simp only [World.size_alloc]] at B2
  have B2 := Lib.hid B2
  have B3 := Blk.new ((w.alloc (.cells #[.int .i64 a, .int .i64 d, .slice As S.length cs, .slice Ak K.length ck] 25)).alloc (.cells #[.int .i64 t0, .int .i64 t1] 26)) 26 #[.int .i64 s0, .int .i64 s1]
  rw [show ((w.alloc (.cells #[.int .i64 a, .int .i64 d, .slice As S.length cs, .slice Ak K.length ck] 25)).alloc (.cells #[.int .i64 t0, .int .i64 t1] 26)).heap.size = w.heap.size + 1 + 1 by simp only [World.size_alloc]] at B3
  have B3 := Lib.hid B3
  generalize ((w.alloc (.cells #[.int .i64 a, .int .i64 d, .slice As S.length cs, .slice Ak K.length ck] 25)).alloc (.cells #[.int .i64 t0, .int .i64 t1] 26)).alloc (.cells #[.int .i64 s0, .int .i64 s1] 26) = w1 at *
  clear hzw
  refine (first_c w1).mono ?_
  rintro e w2 ⟨rfl, hb'⟩
  have HB1 := Lib.hid ((HB1.out).trans (hb'.mono (HB1.out).size))
  have B1 := Lib.hid ((B1.out).below hb' (B1.out).lt)
  have B2 := Lib.hid ((B2.out).below hb' (B2.out).lt)
  have B3 := Lib.hid ((B3.out).below hb' (B3.out).lt)
  clear hb'
  obtain ⟨zB10, zB11, zB12, zB13⟩ := (B1.out).cells4
  obtain ⟨zB20, zB21⟩ := (B2.out).cells2
  obtain ⟨zB30, zB31⟩ := (B3.out).cells2
  go_wp2_with fail
  clear zB10 zB11 zB12 zB13
  clear zB20 zB21
  clear zB30 zB31
  refine (big_c a d S As cs K Ak ck _ (RS.out.kept HB1.out) (RK.out.kept HB1.out) hn hm).mono ?_
  rintro e w3 ⟨rfl, hb'⟩
  have HB1 := Lib.hid ((HB1.out).trans (hb'.mono (HB1.out).size))
  have B1 := Lib.hid ((B1.out).below hb' (B1.out).lt)
  have B2 := Lib.hid ((B2.out).below hb' (B2.out).lt)
  have B3 := Lib.hid ((B3.out).below hb' (B3.out).lt)
  clear hb'
  rw [HG.out]
  obtain ⟨zB10, zB11, zB12, zB13⟩ := (B1.out).cells4
  obtain ⟨zB20, zB21⟩ := (B2.out).cells2
  obtain ⟨zB30, zB31⟩ := (B3.out).cells2
  go_wp2_with fail
  clear zB10 zB11 zB12 zB13
  clear zB20 zB21
  clear zB30 zB31
  go_ret
  exact ⟨rfl, HB.out.trans (HB1.out.mono HB.out.size)⟩
set_option maxRecDepth 100000 in
set_option maxHeartbeats 6400000 in
theorem tls_no (a d : Int) (S : List Int) (As : Option Addr) (cs : Nat) (K : List Bk) (Ak : Option Addr) (ck : Nat) (t0 t1 s0 s1 : Int) (w : World) (hS : ReadsI w As S) (hK : ReadsE EK w Ak K) (hn : S.length ≤ 9223372036854775807) (hm : K.length ≤ 9223372036854775807) (hg : bigB S.length K.length = false) (ho : okFl a d S K = false) :
    Calls Try.prog 3 #[flV a d (.slice As S.length cs) (.slice Ak K.length ck), .agg #[.int .i64 t0, .int .i64 t1], .agg #[.int .i64 s0, .int .i64 s1]] w fun e w' => e = .returned (.bool true) ∧ Below w.heap.size w w' := by
  have RS := Lib.hid hS
  have RK := Lib.hid hK
  have HB := Lib.hid (Below.refl w.heap.size w)
  have HG := Lib.hid hg
  have hg1 := bigB_f hg
  have HO := Lib.hid ho
  obtain ⟨LS, hLS⟩ : ∃ l, l = ([] : List Int) := ⟨_, rfl⟩
  obtain ⟨LK, hLK⟩ : ∃ l, l = ([] : List Bk) := ⟨_, rfl⟩
  have HLV := Lib.hid (show levF a d S K = ⟨0, 0, LS, LK⟩ by unfold levF; rw [if_neg (by rw [ho]; decide), hLS, hLK])
  have HEV := Lib.hid (show evenB a d S K = false by unfold evenB; rw [ho]; rfl)
  obtain ⟨us, hus⟩ : ∃ us, us = ([] : List Un) := ⟨_, rfl⟩
  have HUF := Lib.hid (show unsF a d S K = us by unfold unsF; rw [if_neg (by rw [ho]; decide), hus])
  have HCN := Lib.hid (show us.length = 0 by rw [hus]; rfl)
  have hn2 : LS.length ≤ 9223372036854775807 := by rw [hLS]; decide
  have hm2 : LK.length ≤ 9223372036854775807 := by rw [hLK]; decide
  clear hLS hLK hus
  have hul : us.length ≤ 65536 := by have h := unsF_len a d S K; rw [HUF.out] at h; exact h
  obtain ⟨nF, hnF⟩ : ∃ f, f = newF s0 s1 := ⟨_, rfl⟩
  have HNF := Lib.hid hnF.symm
  clear hnF
  obtain ⟨na, nd, nS, nK⟩ := nF
  obtain ⟨q, hq⟩ : ∃ q, q = atK a d S K t0 t1 := ⟨_, rfl⟩
  have HQ := Lib.hid hq.symm
  obtain ⟨tb, htb⟩ : ∃ q, q = atB a d S K t0 t1 := ⟨_, rfl⟩
  have HTB := Lib.hid htb.symm
  clear hq htb
  clear hS hK hg ho
  have HB1 := Lib.hid (Below.refl w.heap.size w)
  go_enter Try.func3, Try.ntmps3
  go_wp2_with fail
  have HB1 := Lib.hid (below_alloc_ (below_alloc_ (below_alloc_ (HB1.out) (.cells #[.int .i64 a, .int .i64 d, .slice As S.length cs, .slice Ak K.length ck] 25)) (.cells #[.int .i64 t0, .int .i64 t1] 26)) (.cells #[.int .i64 s0, .int .i64 s1] 26))
  have hzw : (((w.alloc (.cells #[.int .i64 a, .int .i64 d, .slice As S.length cs, .slice Ak K.length ck] 25)).alloc (.cells #[.int .i64 t0, .int .i64 t1] 26)).alloc (.cells #[.int .i64 s0, .int .i64 s1] 26)).heap.size = w.heap.size + 3 := by simp only [World.size_alloc]
  have B1 := ((Blk.new (w) 25 #[.int .i64 a, .int .i64 d, .slice As S.length cs, .slice Ak K.length ck]).alloc (.cells #[.int .i64 t0, .int .i64 t1] 26)).alloc (.cells #[.int .i64 s0, .int .i64 s1] 26)
  skip
  have B1 := Lib.hid B1
  have B2 := (Blk.new (w.alloc (.cells #[.int .i64 a, .int .i64 d, .slice As S.length cs, .slice Ak K.length ck] 25)) 26 #[.int .i64 t0, .int .i64 t1]).alloc (.cells #[.int .i64 s0, .int .i64 s1] 26)
  rw [show (w.alloc (.cells #[.int .i64 a, .int .i64 d, .slice As S.length cs, .slice Ak K.length ck] 25)).heap.size = w.heap.size + 1 by simp only [World.size_alloc]] at B2
  have B2 := Lib.hid B2
  have B3 := Blk.new ((w.alloc (.cells #[.int .i64 a, .int .i64 d, .slice As S.length cs, .slice Ak K.length ck] 25)).alloc (.cells #[.int .i64 t0, .int .i64 t1] 26)) 26 #[.int .i64 s0, .int .i64 s1]
  rw [show ((w.alloc (.cells #[.int .i64 a, .int .i64 d, .slice As S.length cs, .slice Ak K.length ck] 25)).alloc (.cells #[.int .i64 t0, .int .i64 t1] 26)).heap.size = w.heap.size + 1 + 1 by simp only [World.size_alloc]] at B3
  have B3 := Lib.hid B3
  generalize ((w.alloc (.cells #[.int .i64 a, .int .i64 d, .slice As S.length cs, .slice Ak K.length ck] 25)).alloc (.cells #[.int .i64 t0, .int .i64 t1] 26)).alloc (.cells #[.int .i64 s0, .int .i64 s1] 26) = w1 at *
  clear hzw
  refine (first_c w1).mono ?_
  rintro e w2 ⟨rfl, hb'⟩
  have HB1 := Lib.hid ((HB1.out).trans (hb'.mono (HB1.out).size))
  have B1 := Lib.hid ((B1.out).below hb' (B1.out).lt)
  have B2 := Lib.hid ((B2.out).below hb' (B2.out).lt)
  have B3 := Lib.hid ((B3.out).below hb' (B3.out).lt)
  clear hb'
  obtain ⟨zB10, zB11, zB12, zB13⟩ := (B1.out).cells4
  obtain ⟨zB20, zB21⟩ := (B2.out).cells2
  obtain ⟨zB30, zB31⟩ := (B3.out).cells2
  go_wp2_with fail
  clear zB10 zB11 zB12 zB13
  clear zB20 zB21
  clear zB30 zB31
  refine (big_c a d S As cs K Ak ck _ (RS.out.kept HB1.out) (RK.out.kept HB1.out) hn hm).mono ?_
  rintro e w3 ⟨rfl, hb'⟩
  have HB1 := Lib.hid ((HB1.out).trans (hb'.mono (HB1.out).size))
  have B1 := Lib.hid ((B1.out).below hb' (B1.out).lt)
  have B2 := Lib.hid ((B2.out).below hb' (B2.out).lt)
  have B3 := Lib.hid ((B3.out).below hb' (B3.out).lt)
  clear hb'
  rw [HG.out]
  obtain ⟨zB10, zB11, zB12, zB13⟩ := (B1.out).cells4
  obtain ⟨zB20, zB21⟩ := (B2.out).cells2
  obtain ⟨zB30, zB31⟩ := (B3.out).cells2
  go_upto_region 5 with fail
  clear zB10 zB11 zB12 zB13
  clear zB20 zB21
  clear zB30 zB31
  have RK := Lib.hid (RK.out.kept HB1.out)
  have RS := Lib.hid (RS.out.kept HB1.out)
  have HB := Lib.hid (HB.out.trans (HB1.out.mono HB.out.size))
  have HB1 := Lib.hid (Below.refl w3.heap.size w3)
  obtain ⟨zB10, zB11, zB12, zB13⟩ := (B1.out.below HB1.out B1.out.lt).cells4
  obtain ⟨zB20, zB21⟩ := (B2.out.below HB1.out B2.out.lt).cells2
  obtain ⟨zB30, zB31⟩ := (B3.out.below HB1.out B3.out.lt).cells2
  have kq0 := cell_regrown zB10
  have kq1 := cell_regrown zB11
  have kq2 := cell_regrown zB12
  have kq3 := cell_regrown zB13
  have kq4 := cell_regrown zB20
  have kq5 := cell_regrown zB21
  have kq6 := cell_regrown zB30
  have kq7 := cell_regrown zB31
  clear zB10 zB11 zB12 zB13 zB20 zB21 zB30 zB31
  refine wp_mono_tail 6 [Brings.one ?b1_0, Brings.ownE EU w3.heap.size (fun v => v) (us), Brings.one ?b2_2, Brings.ownE EU w3.heap.size (fun v => v) (us), Brings.box 29 #[.slice none 0 0], Brings.ownE EU w3.heap.size (fun v => v) (us)] (by kernel_rfl) (by kernel_rfl) ?_
  rotate_left 2
  simp only [List.take_succ_cons, List.take_zero, List.drop_succ_cons, List.drop_zero]
  refine wpL_take (k' := 1) rfl (by kernel_rfl) (fun d os => ?t3) ?_
  case t3 => (unfold bringsAt; go_simp; first | with_reducible exact take_one | exact take_one)
  try simp only [Act.put, List.setIfInBounds_toArray, List.set_cons_zero, List.set_cons_succ]
  refine wpL_ownE (k' := 2) rfl (by kernel_rfl) (fun wz hz hd => ?t4) (fun A1 c1 => ?_)
  case t4 =>
    have HZ := Lib.hid (HB1.out.trans (hz.mono HB1.out.size))
    unfold bringsAt
    go_simp
    have h9 := flist_c a d S As cs K Ak ck wz (RS.out.kept HZ.out) (RK.out.kept HZ.out) hn hm
    rw [HUF.out] at h9
    exact call_ownE hz.size h9
  try simp only [Act.put, List.setIfInBounds_toArray, List.set_cons_zero, List.set_cons_succ]
  refine wpL_take (k' := 3) rfl (by kernel_rfl) (fun d os => ?t5) ?_
  case t5 => (unfold bringsAt; go_simp; first | with_reducible exact take_one | exact take_one)
  try simp only [Act.put, List.setIfInBounds_toArray, List.set_cons_zero, List.set_cons_succ]
  refine wpL_ownE (k' := 4) rfl (by kernel_rfl) (fun wz hz hd => ?t6) (fun A3 c3 => ?_)
  case t6 =>
    have HZ := Lib.hid (HB1.out.trans (hz.mono HB1.out.size))
    unfold bringsAt
    go_simp
    have h9 := r16units_c a d S As cs K Ak ck wz (RS.out.kept HZ.out) (RK.out.kept HZ.out) hn hm
    rw [HUF.out] at h9
    exact call_ownE hz.size h9
  try simp only [Act.put, List.setIfInBounds_toArray, List.set_cons_zero, List.set_cons_succ]
  refine wpL_box (k' := 5) rfl (by kernel_rfl) (fun wz hz hd => ?t7) (fun bx => ?_)
  case t7 =>
    unfold bringsAt
    go_simp
    exact alloc_box
  try simp only [Act.put, List.setIfInBounds_toArray, List.set_cons_zero, List.set_cons_succ]
  refine wpL_ownE (k' := 6) rfl (by kernel_rfl) (fun wz hz hd => ?t8) (fun A5 c5 => ?_)
  case t8 =>
    have HZ := Lib.hid (HB1.out.trans (hz.mono HB1.out.size))
    have O1 := Lib.hid (show OwnE EU wz w3.heap.size (.slice A1 (us).length c1) (us) from hd.get 1 (by kernel_rfl))
    unfold bringsAt
    go_simp
    exact take_brings (A1, c1) rfl O1.out rfl
  try simp only [Act.put, List.setIfInBounds_toArray, List.set_cons_zero, List.set_cons_succ]
  refine wpL_nil ?_
  intro w4 hH
  have hb' := hH.below
  clear kq0 kq1 kq2 kq3 kq4 kq5 kq6 kq7
  have HB1 := Lib.hid ((HB1.out).trans (hb'.mono (HB1.out).size))
  have O1 := Lib.hid (show OwnE EU w4 w3.heap.size (.slice A1 (us).length c1) (us) from hH.facts 1)
  have O3 := Lib.hid (show OwnE EU w4 w3.heap.size (.slice A3 (us).length c3) (us) from hH.facts 3)
  have BX := Lib.hid (show Blk w4 bx 29 #[.slice none 0 0] from hH.facts 4)
  have HGBX := Lib.hid (show w3.heap.size ≤ bx from (hH.lt 4 _ rfl).1)
  have O5 := Lib.hid (show OwnE EU w4 w3.heap.size (.slice A5 (us).length c5) (us) from hH.facts 5)
  clear hH hb'
  have ff := BX.out.frozen 0
  have qq := BX.out.cells1
  go_upto_region 6 with fail
  clear ff qq
  have O3 := Lib.hid (O3.out.set_ (i := 0) BX.out (by decide) (.slice A3 us.length c3))
  have O5 := Lib.hid (O5.out.set_ (i := 0) BX.out (by decide) (.slice A3 us.length c3))
  skip
  have hbx := HGBX.out
  have HB1 := Lib.hid (HB1.out.setCell (p := ⟨bx, 0, none⟩) HGBX.out (.slice A3 us.length c3))
  have h3 : Blk (w4.setCell ⟨bx, 0, none⟩ (.slice A3 us.length c3)) bx 29 #[.slice A3 us.length c3] := BX.out.set_ 0 (.slice A3 us.length c3)
  have BX := Lib.hid h3
  clear h3 O1 hbx
  generalize w4.setCell ⟨bx, 0, none⟩ (.slice A3 us.length c3) = w5 at *
  have B1 := Lib.hid (B1.out.below HB1.out B1.out.lt)
  have B2 := Lib.hid (B2.out.below HB1.out B2.out.lt)
  have B3 := Lib.hid (B3.out.below HB1.out B3.out.lt)
  have RK := Lib.hid (RK.out.kept HB1.out)
  have RS := Lib.hid (RS.out.kept HB1.out)
  have HB := Lib.hid (HB.out.trans (HB1.out.mono HB.out.size))
  have HB1 := Lib.hid (Below.refl w5.heap.size w5)
  have eU : ((us.length : Int) != (us.length : Int)) = false := by simp
  obtain ⟨zB10, zB11, zB12, zB13⟩ := (B1.out.below HB1.out B1.out.lt).cells4
  obtain ⟨zB20, zB21⟩ := (B2.out.below HB1.out B2.out.lt).cells2
  obtain ⟨zB30, zB31⟩ := (B3.out.below HB1.out B3.out.lt).cells2
  have zBX0 := (BX.out.below HB1.out BX.out.lt).cells1
  have kq0 := cell_regrown zB10
  have kq1 := cell_regrown zB11
  have kq2 := cell_regrown zB12
  have kq3 := cell_regrown zB13
  have kq4 := cell_regrown zB20
  have kq5 := cell_regrown zB21
  have kq6 := cell_regrown zB30
  have kq7 := cell_regrown zB31
  have kq8 := cell_regrown zBX0
  clear zB10 zB11 zB12 zB13 zB20 zB21 zB30 zB31 zBX0
  refine wp_mono (Brings.one ?b9_0 :: Brings.one ?b10_1 :: Brings.one ?b11_2 :: Brings.one ?b12_3 :: Brings.one ?b13_4 :: Brings.one (.bool false) :: Brings.one ?b14_6 :: Brings.one ?b15_7 :: Brings.one ?b16_8 :: Brings.one ?b17_9 :: Brings.one ?b18_10 :: Brings.one ?b19_11 :: Brings.one (.bool false) :: Brings.one ?b20_13 :: Brings.fl w5.heap.size (0) (0) (LS) (LK) :: Brings.one ?b21_15 :: Brings.fl w5.heap.size (0) (0) (LS) (LK) :: Brings.one ?b22_17 :: Brings.one ?b23_18 :: Brings.one ?b24_19 :: Brings.one (.bool false) :: Brings.one ?b25_21 :: Brings.one ?b26_22 :: Brings.one ?b27_23 :: Brings.one ?b28_24 :: Brings.one (.bool false) :: Brings.one undef :: Brings.one undef :: Brings.one undef :: Brings.one undef :: Brings.one ?b29_30 :: Brings.one ?b30_31 :: Brings.one ?b31_32 :: []) (by kernel_rfl) (by kernel_rfl) ?_
  rotate_left 23
  refine wpL_take (k' := 1) rfl (by kernel_rfl) (fun d os => ?t32) ?_
  case t32 => (unfold bringsAt; go_simp; first | with_reducible exact take_one | exact take_one)
  try simp only [Act.put, List.setIfInBounds_toArray, List.set_cons_zero, List.set_cons_succ]
  refine wpL_call (k' := 2) rfl (by kernel_rfl) (fun wz hz hd => ?t33) ?_
  case t33 =>
    have HZ := Lib.hid (HB1.out.trans (hz.mono HB1.out.size))
    unfold bringsAt
    go_simp
    have h9 := fright_c a d S As cs K Ak ck wz (RS.out.kept HZ.out) (RK.out.kept HZ.out) hn hm
    rw [HO.out] at h9
    refine call_one_as h9 ?_
    rfl
  try simp only [Act.put, List.setIfInBounds_toArray, List.set_cons_zero, List.set_cons_succ]
  refine wpL_take (k' := 3) rfl (by kernel_rfl) (fun d os => ?t34) ?_
  case t34 => (unfold bringsAt; go_simp; first | with_reducible exact take_one | exact take_one)
  try simp only [Act.put, List.setIfInBounds_toArray, List.set_cons_zero, List.set_cons_succ]
  refine wpL_call (k' := 4) rfl (by kernel_rfl) (fun wz hz hd => ?t35) ?_
  case t35 =>
    have HZ := Lib.hid (HB1.out.trans (hz.mono HB1.out.size))
    unfold bringsAt
    go_simp
    have h9 := r16right_c a d S As cs K Ak ck wz (RS.out.kept HZ.out) (RK.out.kept HZ.out) hn hm
    rw [HO.out] at h9
    refine call_one_as h9 ?_
    rfl
  try simp only [Act.put, List.setIfInBounds_toArray, List.set_cons_zero, List.set_cons_succ]
  refine wpL_take (k' := 5) rfl (by kernel_rfl) (fun d os => ?t36) ?_
  case t36 => (unfold bringsAt; go_simp; first | with_reducible exact take_one | exact take_one)
  try simp only [Act.put, List.setIfInBounds_toArray, List.set_cons_zero, List.set_cons_succ]
  refine wpL_take (k' := 6) rfl (by kernel_rfl) (fun d os => ?t37) ?_
  case t37 => (unfold bringsAt; go_simp; first | with_reducible exact take_one | exact take_one)
  try simp only [Act.put, List.setIfInBounds_toArray, List.set_cons_zero, List.set_cons_succ]
  refine wpL_take (k' := 7) rfl (by kernel_rfl) (fun d os => ?t38) ?_
  case t38 => (unfold bringsAt; go_simp; first | with_reducible exact take_one | exact take_one)
  try simp only [Act.put, List.setIfInBounds_toArray, List.set_cons_zero, List.set_cons_succ]
  refine wpL_take (k' := 8) rfl (by kernel_rfl) (fun d os => ?t39) ?_
  case t39 => (unfold bringsAt; go_simp; first | with_reducible exact take_one | exact take_one)
  try simp only [Act.put, List.setIfInBounds_toArray, List.set_cons_zero, List.set_cons_succ]
  refine wpL_take (k' := 9) rfl (by kernel_rfl) (fun d os => ?t40) ?_
  case t40 => (unfold bringsAt; go_simp; first | with_reducible exact take_one | exact take_one)
  try simp only [Act.put, List.setIfInBounds_toArray, List.set_cons_zero, List.set_cons_succ]
  refine wpL_take (k' := 10) rfl (by kernel_rfl) (fun d os => ?t41) ?_
  case t41 => (unfold bringsAt; go_simp; first | with_reducible exact take_one | exact take_one)
  try simp only [Act.put, List.setIfInBounds_toArray, List.set_cons_zero, List.set_cons_succ]
  refine wpL_take (k' := 11) rfl (by kernel_rfl) (fun d os => ?t42) ?_
  case t42 => (unfold bringsAt; go_simp; first | with_reducible exact take_one | exact take_one)
  try simp only [Act.put, List.setIfInBounds_toArray, List.set_cons_zero, List.set_cons_succ]
  refine wpL_take (k' := 12) rfl (by kernel_rfl) (fun d os => ?t43) ?_
  case t43 => (unfold bringsAt; go_simp; first | with_reducible exact take_one | exact take_one)
  try simp only [Act.put, List.setIfInBounds_toArray, List.set_cons_zero, List.set_cons_succ]
  refine wpL_take (k' := 13) rfl (by kernel_rfl) (fun d os => ?t44) ?_
  case t44 => (unfold bringsAt; go_simp; first | with_reducible exact take_one | exact take_one)
  try simp only [Act.put, List.setIfInBounds_toArray, List.set_cons_zero, List.set_cons_succ]
  refine wpL_take (k' := 14) rfl (by kernel_rfl) (fun d os => ?t45) ?_
  case t45 => (unfold bringsAt; go_simp; first | with_reducible exact take_one | exact take_one)
  try simp only [Act.put, List.setIfInBounds_toArray, List.set_cons_zero, List.set_cons_succ]
  refine wpL_fl (k' := 15) rfl (by kernel_rfl) (fun wz hz hd => ?t46) (fun A6 c6 A7 c7 => ?_)
  case t46 =>
    have HZ := Lib.hid (HB1.out.trans (hz.mono HB1.out.size))
    unfold bringsAt
    go_simp
    have h9 := flevel_c a d S As cs K Ak ck wz (RS.out.kept HZ.out) (RK.out.kept HZ.out) hn hm
    rw [HLV.out] at h9
    exact call_fl hz.size h9
  try simp only [Act.put, List.setIfInBounds_toArray, List.set_cons_zero, List.set_cons_succ]
  refine wpL_take (k' := 16) rfl (by kernel_rfl) (fun d os => ?t47) ?_
  case t47 => (unfold bringsAt; go_simp; first | with_reducible exact take_one | exact take_one)
  try simp only [Act.put, List.setIfInBounds_toArray, List.set_cons_zero, List.set_cons_succ]
  refine wpL_fl (k' := 17) rfl (by kernel_rfl) (fun wz hz hd => ?t48) (fun A8 c8 A9 c9 => ?_)
  case t48 =>
    have HZ := Lib.hid (HB1.out.trans (hz.mono HB1.out.size))
    unfold bringsAt
    go_simp
    have h9 := r16level_c a d S As cs K Ak ck wz (RS.out.kept HZ.out) (RK.out.kept HZ.out) hn hm
    rw [HLV.out] at h9
    exact call_fl hz.size h9
  try simp only [Act.put, List.setIfInBounds_toArray, List.set_cons_zero, List.set_cons_succ]
  refine wpL_call (k' := 18) rfl (by kernel_rfl) (fun wz hz hd => ?t49) ?_
  case t49 =>
    have HZ := Lib.hid (HB1.out.trans (hz.mono HB1.out.size))
    have G14 := Lib.hid (show OwnI wz w5.heap.size (.slice A6 (LS).length c6) (LS) ∧ OwnE EK wz w5.heap.size (.slice A7 (LK).length c7) (LK) from hd.get 14 (by kernel_rfl))
    have G16 := Lib.hid (show OwnI wz w5.heap.size (.slice A8 (LS).length c8) (LS) ∧ OwnE EK wz w5.heap.size (.slice A9 (LK).length c9) (LK) from hd.get 16 (by kernel_rfl))
    unfold bringsAt
    go_simp
    have h9 := r16same_y 0 0 LS A6 A8 c6 c8 LK LK A7 A9 c7 c9 wz G14.out.1.reads G16.out.1.reads G14.out.2.reads G16.out.2.reads hn2 hm2 rfl rfl
    refine call_one_as h9 ?_
    rfl
  try simp only [Act.put, List.setIfInBounds_toArray, List.set_cons_zero, List.set_cons_succ]
  refine wpL_take (k' := 19) rfl (by kernel_rfl) (fun d os => ?t50) ?_
  case t50 => (unfold bringsAt; go_simp; first | with_reducible exact take_one | exact take_one)
  try simp only [Act.put, List.setIfInBounds_toArray, List.set_cons_zero, List.set_cons_succ]
  refine wpL_take (k' := 20) rfl (by kernel_rfl) (fun d os => ?t51) ?_
  case t51 => (unfold bringsAt; go_simp; first | with_reducible exact take_one | exact take_one)
  try simp only [Act.put, List.setIfInBounds_toArray, List.set_cons_zero, List.set_cons_succ]
  refine wpL_take (k' := 21) rfl (by kernel_rfl) (fun d os => ?t52) ?_
  case t52 => (unfold bringsAt; go_simp; first | with_reducible exact take_one | exact take_one)
  try simp only [Act.put, List.setIfInBounds_toArray, List.set_cons_zero, List.set_cons_succ]
  refine wpL_take (k' := 22) rfl (by kernel_rfl) (fun d os => ?t53) ?_
  case t53 => (unfold bringsAt; go_simp; first | with_reducible exact take_one | exact take_one)
  try simp only [Act.put, List.setIfInBounds_toArray, List.set_cons_zero, List.set_cons_succ]
  refine wpL_call (k' := 23) rfl (by kernel_rfl) (fun wz hz hd => ?t54) ?_
  case t54 =>
    have HZ := Lib.hid (HB1.out.trans (hz.mono HB1.out.size))
    unfold bringsAt
    go_simp
    have h9 := feven_c a d S As cs K Ak ck wz (RS.out.kept HZ.out) (RK.out.kept HZ.out) hn hm
    rw [HEV.out] at h9
    refine call_one_as h9 ?_
    rfl
  try simp only [Act.put, List.setIfInBounds_toArray, List.set_cons_zero, List.set_cons_succ]
  refine wpL_take (k' := 24) rfl (by kernel_rfl) (fun d os => ?t55) ?_
  case t55 => (unfold bringsAt; go_simp; first | with_reducible exact take_one | exact take_one)
  try simp only [Act.put, List.setIfInBounds_toArray, List.set_cons_zero, List.set_cons_succ]
  refine wpL_call (k' := 25) rfl (by kernel_rfl) (fun wz hz hd => ?t56) ?_
  case t56 =>
    have HZ := Lib.hid (HB1.out.trans (hz.mono HB1.out.size))
    unfold bringsAt
    go_simp
    have h9 := r16right_c a d S As cs K Ak ck wz (RS.out.kept HZ.out) (RK.out.kept HZ.out) hn hm
    rw [HO.out] at h9
    refine call_one_as h9 ?_
    rfl
  try simp only [Act.put, List.setIfInBounds_toArray, List.set_cons_zero, List.set_cons_succ]
  refine wpL_take (k' := 26) rfl (by kernel_rfl) (fun d os => ?t57) ?_
  case t57 => (unfold bringsAt; go_simp; first | with_reducible exact take_one | exact take_one)
  try simp only [Act.put, List.setIfInBounds_toArray, List.set_cons_zero, List.set_cons_succ]
  refine wpL_skip (k' := 27) rfl (by kernel_rfl) ?_
  try simp only [Act.put, List.setIfInBounds_toArray, List.set_cons_zero, List.set_cons_succ]
  refine wpL_skip (k' := 28) rfl (by kernel_rfl) ?_
  try simp only [Act.put, List.setIfInBounds_toArray, List.set_cons_zero, List.set_cons_succ]
  refine wpL_skip (k' := 29) rfl (by kernel_rfl) ?_
  try simp only [Act.put, List.setIfInBounds_toArray, List.set_cons_zero, List.set_cons_succ]
  refine wpL_skip (k' := 30) rfl (by kernel_rfl) ?_
  try simp only [Act.put, List.setIfInBounds_toArray, List.set_cons_zero, List.set_cons_succ]
  refine wpL_take (k' := 31) rfl (by kernel_rfl) (fun d os => ?t62) ?_
  case t62 => (unfold bringsAt; go_simp; first | with_reducible exact take_one | exact take_one)
  try simp only [Act.put, List.setIfInBounds_toArray, List.set_cons_zero, List.set_cons_succ]
  refine wpL_take (k' := 32) rfl (by kernel_rfl) (fun d os => ?t63) ?_
  case t63 => (unfold bringsAt; go_simp; first | with_reducible exact take_one | exact take_one)
  try simp only [Act.put, List.setIfInBounds_toArray, List.set_cons_zero, List.set_cons_succ]
  refine wpL_take (k' := 33) rfl (by kernel_rfl) (fun d os => ?t64) ?_
  case t64 => (unfold bringsAt; go_simp; first | with_reducible exact take_one | exact take_one)
  try simp only [Act.put, List.setIfInBounds_toArray, List.set_cons_zero, List.set_cons_succ]
  refine wpL_nil ?_
  intro w6 hH
  have hb' := hH.below
  clear kq0 kq1 kq2 kq3 kq4 kq5 kq6 kq7 kq8
  have HB1 := Lib.hid ((HB1.out).trans (hb'.mono (HB1.out).size))
  have G14 := Lib.hid (show OwnI w6 w5.heap.size (.slice A6 (LS).length c6) (LS) ∧ OwnE EK w6 w5.heap.size (.slice A7 (LK).length c7) (LK) from hH.facts 14)
  have G14S := Lib.hid G14.out.1
  have G14K := Lib.hid G14.out.2
  clear G14
  have G16 := Lib.hid (show OwnI w6 w5.heap.size (.slice A8 (LS).length c8) (LS) ∧ OwnE EK w6 w5.heap.size (.slice A9 (LK).length c9) (LK) from hH.facts 16)
  have G16S := Lib.hid G16.out.1
  have G16K := Lib.hid G16.out.2
  clear G16
  clear hH hb'
  clear G14S G14K G16S G16K
  obtain ⟨zB10, zB11, zB12, zB13⟩ := (B1.out.below HB1.out B1.out.lt).cells4
  obtain ⟨zB20, zB21⟩ := (B2.out.below HB1.out B2.out.lt).cells2
  obtain ⟨zB30, zB31⟩ := (B3.out.below HB1.out B3.out.lt).cells2
  have zBX0 := (BX.out.below HB1.out BX.out.lt).cells1
  go_upto_region 9 with fail
  clear zB10 zB11 zB12 zB13
  clear zB20 zB21
  clear zB30 zB31
  clear zBX0
  clear eU
  have B1 := Lib.hid (B1.out.below HB1.out B1.out.lt)
  have B2 := Lib.hid (B2.out.below HB1.out B2.out.lt)
  have B3 := Lib.hid (B3.out.below HB1.out B3.out.lt)
  have BX := Lib.hid (BX.out.below HB1.out BX.out.lt)
  have O3 := Lib.hid (O3.out.kept HB1.out)
  have O5 := Lib.hid (O5.out.kept HB1.out)
  have RK := Lib.hid (RK.out.kept HB1.out)
  have RS := Lib.hid (RS.out.kept HB1.out)
  have HB := Lib.hid (HB.out.trans (HB1.out.mono HB.out.size))
  have HB1 := Lib.hid (Below.refl w6.heap.size w6)
  go_loopw [60] (fun v wr => ∃ k : Nat, k ≤ us.length ∧ v = .int .i64 k ∧ Below w6.heap.size w6 wr) (fun v _ => us.length - (intOf v).toNat)
  case atStart => exact ⟨0, Nat.zero_le _, rfl, HB1.out⟩
  case round =>
    clear HB1
    obtain ⟨k, hk, rfl, hb⟩ := hrel
    have HB1 := Lib.hid hb
    obtain ⟨wo, ewo⟩ : ∃ wo, wo = wr := ⟨_, rfl⟩
    subst ewo
    clear hb
    by_cases hkl : k < us.length
    · skip
      obtain ⟨ad3, eA3, l3, y0, y1, y2⟩ := ReadsE.un (O3.out.kept HB1.out).reads hkl
      obtain ⟨ad5, eA5, l5, z0, z1, z2⟩ := ReadsE.un (O5.out.kept HB1.out).reads hkl
      subst eA3
      subst eA5
      obtain ⟨u, hu⟩ : ∃ u, u = us[k] := ⟨_, rfl⟩
      rw [← hu] at y0 y1 y2 z0 z1 z2
      clear hu l3 l5
      have i1 : (0 : Int) ≤ (k : Int) := by omega
      have i2 : (k : Int) < (us.length : Int) := by omega
      have zBX0 := (BX.out.below HB1.out BX.out.lt).cells1
      go_upto_region 11 with fail
      have kq0 := cell_regrown zBX0
      have kq1 := cell_regrown y0
      have kq2 := cell_regrown y1
      have kq3 := cell_regrown y2
      have kq4 := cell_regrown z0
      have kq5 := cell_regrown z1
      have kq6 := cell_regrown z2
      clear zBX0 y0 y1 y2 z0 z1 z2
      refine wp_region_quiet_below (by kernel_rfl) (by kernel_rfl) ?_
      repeat (go_big_quiet_step (fail))
      refine wpQuiet_nil ?_
      intro _ hw'
      obtain ⟨⟨dq, osq⟩, hw''⟩ := hw'
      subst hw''
      have hb' := below_regrown wo dq osq
      clear kq0 kq1 kq2 kq3 kq4 kq5 kq6
      have HB1 := Lib.hid ((HB1.out).trans (hb'.mono (HB1.out).size))
      clear hb'
      generalize grow (redrawn wo dq) osq = w7 at *
      go_wp2_with fail
      go_roundw
      case rel => exact ⟨k + 1, by omega, by go_num, HB1.out⟩
      case measure => simp [intOf]; omega
    · skip
      have hkn : ¬ ((k : Int) < (us.length : Int)) := by omega
      obtain ⟨zB10, zB11, zB12, zB13⟩ := (B1.out.below HB1.out B1.out.lt).cells4
      obtain ⟨zB20, zB21⟩ := (B2.out.below HB1.out B2.out.lt).cells2
      obtain ⟨zB30, zB31⟩ := (B3.out.below HB1.out B3.out.lt).cells2
      go_wp2_with fail
      clear zB10 zB11 zB12 zB13
      clear zB20 zB21
      clear zB30 zB31
      clear hkn hk hkl
      have h9 := fat_c a d S As cs K Ak ck t0 t1 wo (RS.out.kept HB1.out) (RK.out.kept HB1.out) hn hm
      rw [HQ.out, HTB.out] at h9
      refine (h9).mono ?_
      rintro e w8 ⟨rfl, hb'⟩
      have HB1 := Lib.hid ((HB1.out).trans (hb'.mono (HB1.out).size))
      clear hb'
      clear h9
      go_upto_region 15 with fail
      have HB1 := Lib.hid (below_alloc_ (HB1.out) (.cells #[.int .i64 q.m, .bool q.g, .int .i64 q.x0, .int .i64 q.y0, .int .i64 q.x1, .int .i64 q.y1, .int .i64 q.d0, .int .i64 q.d1, .int .i64 q.d2] 40))
      have hzw : (w8.alloc (.cells #[.int .i64 q.m, .bool q.g, .int .i64 q.x0, .int .i64 q.y0, .int .i64 q.x1, .int .i64 q.y1, .int .i64 q.d0, .int .i64 q.d1, .int .i64 q.d2] 40)).heap.size = w8.heap.size + 1 := by simp only [World.size_alloc]
      have B10 := Blk.new (w8) 40 #[.int .i64 q.m, .bool q.g, .int .i64 q.x0, .int .i64 q.y0, .int .i64 q.x1, .int .i64 q.y1, .int .i64 q.d0, .int .i64 q.d1, .int .i64 q.d2]
      skip
      have B10 := Lib.hid B10
      generalize w8.alloc (.cells #[.int .i64 q.m, .bool q.g, .int .i64 q.x0, .int .i64 q.y0, .int .i64 q.x1, .int .i64 q.y1, .int .i64 q.d0, .int .i64 q.d1, .int .i64 q.d2] 40) = w9 at *
      clear hzw
      obtain ⟨zB10, zB11, zB12, zB13⟩ := (B1.out.below HB1.out B1.out.lt).cells4
      obtain ⟨zB20, zB21⟩ := (B2.out.below HB1.out B2.out.lt).cells2
      obtain ⟨zB30, zB31⟩ := (B3.out.below HB1.out B3.out.lt).cells2
      go_wp2_with fail
      clear zB10 zB11 zB12 zB13
      clear zB20 zB21
      clear zB30 zB31
      have h9 := r16at_c a d S As cs K Ak ck t0 t1 w9 (RS.out.kept HB1.out) (RK.out.kept HB1.out) hn hm
      rw [HQ.out, HTB.out] at h9
      refine (h9).mono ?_
      rintro e w10 ⟨rfl, hb'⟩
      have HB1 := Lib.hid ((HB1.out).trans (hb'.mono (HB1.out).size))
      have B10 := Lib.hid ((B10.out).below hb' (B10.out).lt)
      clear hb'
      clear h9
      go_upto_region 16 with fail
      have HB1 := Lib.hid (below_alloc_ (HB1.out) (.cells #[.int .i64 q.m, .bool q.g, .int .i64 q.x0, .int .i64 q.y0, .int .i64 q.x1, .int .i64 q.y1, .int .i64 q.d0, .int .i64 q.d1, .int .i64 q.d2] 40))
      have B10 := Lib.hid ((B10.out).alloc (.cells #[.int .i64 q.m, .bool q.g, .int .i64 q.x0, .int .i64 q.y0, .int .i64 q.x1, .int .i64 q.y1, .int .i64 q.d0, .int .i64 q.d1, .int .i64 q.d2] 40))
      have hzw : (w10.alloc (.cells #[.int .i64 q.m, .bool q.g, .int .i64 q.x0, .int .i64 q.y0, .int .i64 q.x1, .int .i64 q.y1, .int .i64 q.d0, .int .i64 q.d1, .int .i64 q.d2] 40)).heap.size = w10.heap.size + 1 := by simp only [World.size_alloc]
      have B12 := Blk.new (w10) 40 #[.int .i64 q.m, .bool q.g, .int .i64 q.x0, .int .i64 q.y0, .int .i64 q.x1, .int .i64 q.y1, .int .i64 q.d0, .int .i64 q.d1, .int .i64 q.d2]
      skip
      have B12 := Lib.hid B12
      generalize w10.alloc (.cells #[.int .i64 q.m, .bool q.g, .int .i64 q.x0, .int .i64 q.y0, .int .i64 q.x1, .int .i64 q.y1, .int .i64 q.d0, .int .i64 q.d1, .int .i64 q.d2] 40) = w11 at *
      clear hzw
      have B1 := Lib.hid (B1.out.below HB1.out B1.out.lt)
      have B2 := Lib.hid (B2.out.below HB1.out B2.out.lt)
      have B3 := Lib.hid (B3.out.below HB1.out B3.out.lt)
      have BX := Lib.hid (BX.out.below HB1.out BX.out.lt)
      have O3 := Lib.hid (O3.out.kept HB1.out)
      have O5 := Lib.hid (O5.out.kept HB1.out)
      have RK := Lib.hid (RK.out.kept HB1.out)
      have RS := Lib.hid (RS.out.kept HB1.out)
      have HB := Lib.hid (HB.out.trans (HB1.out.mono HB.out.size))
      have HB1 := Lib.hid (Below.refl w11.heap.size w11)
      go_upto_region 17 with fail
      have HB1 := Lib.hid (below_alloc_ (below_alloc_ (below_alloc_ (HB1.out) (.cells #[.int .i64 0] 3)) (.cells #[.bool true] 4)) (.cells #[.int .i64 0] 3))
      have hzw : (((w11.alloc (.cells #[.int .i64 0] 3)).alloc (.cells #[.bool true] 4)).alloc (.cells #[.int .i64 0] 3)).heap.size = w11.heap.size + 3 := by simp only [World.size_alloc]
      have BN := ((Blk.new (w11) 3 #[.int .i64 0]).alloc (.cells #[.bool true] 4)).alloc (.cells #[.int .i64 0] 3)
      skip
      have BN := Lib.hid BN
      have BG := (Blk.new (w11.alloc (.cells #[.int .i64 0] 3)) 4 #[.bool true]).alloc (.cells #[.int .i64 0] 3)
      rw [show (w11.alloc (.cells #[.int .i64 0] 3)).heap.size = w11.heap.size + 1 by simp only [World.size_alloc]] at BG
      have BG := Lib.hid BG
      have BL := Blk.new ((w11.alloc (.cells #[.int .i64 0] 3)).alloc (.cells #[.bool true] 4)) 3 #[.int .i64 0]
      rw [show ((w11.alloc (.cells #[.int .i64 0] 3)).alloc (.cells #[.bool true] 4)).heap.size = w11.heap.size + 1 + 1 by simp only [World.size_alloc]] at BL
      have BL := Lib.hid BL
      generalize ((w11.alloc (.cells #[.int .i64 0] 3)).alloc (.cells #[.bool true] 4)).alloc (.cells #[.int .i64 0] 3) = w12 at *
      obtain ⟨gn, hgn⟩ : ∃ n, n = w11.heap.size := ⟨_, rfl⟩
      rw [← hgn] at BN BG BL hzw ⊢
      have HGN := Lib.hid hgn
      have HZ1 := Lib.hid hzw
      clear hgn hzw
      obtain ⟨zB10, zB11, zB12, zB13⟩ := (B1.out.below HB1.out B1.out.lt).cells4
      go_wp2_with fail
      refine (funits_c _ _ _ _ _).mono ?_
      rintro e wq ⟨rfl, rfl⟩
      clear zB10 zB11 zB12 zB13
      have HB1 := Lib.hid (below_alloc_ (HB1.out) (.cells #[.int .i64 a, .int .i64 d, .slice As S.length cs, .slice Ak K.length ck] 25))
      have BN := Lib.hid ((BN.out).alloc (.cells #[.int .i64 a, .int .i64 d, .slice As S.length cs, .slice Ak K.length ck] 25))
      have BG := Lib.hid ((BG.out).alloc (.cells #[.int .i64 a, .int .i64 d, .slice As S.length cs, .slice Ak K.length ck] 25))
      have BL := Lib.hid ((BL.out).alloc (.cells #[.int .i64 a, .int .i64 d, .slice As S.length cs, .slice Ak K.length ck] 25))
      have hzw : (w12.alloc (.cells #[.int .i64 a, .int .i64 d, .slice As S.length cs, .slice Ak K.length ck] 25)).heap.size = w12.heap.size + 1 := by simp only [World.size_alloc]
      have BQ := Blk.new (w12) 25 #[.int .i64 a, .int .i64 d, .slice As S.length cs, .slice Ak K.length ck]
      skip
      have BQ := Lib.hid BQ
      generalize w12.alloc (.cells #[.int .i64 a, .int .i64 d, .slice As S.length cs, .slice Ak K.length ck] 25) = w13 at *
      obtain ⟨bq, hbq⟩ : ∃ n, n = w12.heap.size := ⟨_, rfl⟩
      rw [← hbq] at BQ hzw ⊢
      have HBQ := Lib.hid hbq
      have HZ2 := Lib.hid hzw
      clear hbq hzw
      go_wp2_with fail
      have q1 := HGN.out
      have q2 := HZ1.out
      have q3 := HBQ.out
      have q4 := HZ2.out
      refine ((funitsF_no a d S As cs K Ak ck bq 21 #[.pointer (some ⟨gn + 1, 0, none⟩), .pointer (some ⟨gn, 0, none⟩), .pointer (some ⟨bx, 0, none⟩), .pointer (some ⟨gn + 1 + 1, 0, none⟩), .pointer (some ⟨w.heap.size, 0, none⟩), .pointer (some ⟨w.heap.size + 1 + 1, 0, none⟩)] (fun _ _ _ => True) w13 HO.out hn hm BQ.out (RS.out.kept HB1.out) (RK.out.kept HB1.out)) (fun (k : Nat) (W : World) => Blk W gn 3 #[.int .i64 k] ∧ Blk W (gn + 1) 4 #[.bool true] ∧ Blk W (gn + 1 + 1) 3 #[.int .i64 k] ∧ Below w11.heap.size w11 W) (fun W => ∃ k : Nat, 1 ≤ k ∧ k ≤ 0 ∧ (k : Int) = s0 ∧ Blk W gn 3 #[.int .i64 k] ∧ Blk W (gn + 1) 4 #[.bool true] ∧ Below w11.heap.size w11 W) w13 (Below.refl _ _) ?hY ?hR ⟨BN.out, BG.out, BL.out, HB1.out⟩).mono ?_
      case hY => exact fun k A B ⟨a1, a2, a3, a4⟩ hb => ⟨a1.below hb a1.lt, a2.below hb a2.lt, a3.below hb a3.lt, a4.trans (hb.mono a4.size)⟩
      case hR =>
        intro k args W1 hk hJ hK hz hE
        obtain ⟨j1, j2, j3, j4⟩ := hJ
        exact absurd hk (Nat.not_lt_zero _)
      rintro e w14 ⟨⟨v, rfl⟩, hj⟩
      obtain ⟨k, hk0, hk1, j1, j2, j4⟩ : ∃ k : Nat, k ≤ us.length ∧ (k = us.length ∨ (1 ≤ k ∧ (k : Int) = s0)) ∧ Blk w14 gn 3 #[.int .i64 k] ∧ Blk w14 (gn + 1) 4 #[.bool true] ∧ Below w11.heap.size w11 w14 := by
        rcases hj with ⟨b1, b2, _, b4⟩ | ⟨k, b0, b1, b2, b3, b4, b5⟩
        · exact ⟨us.length, Nat.le_refl _, .inl rfl, by rw [HCN.out]; exact b1, b2, b4⟩
        · exact ⟨k, by rw [HCN.out]; exact b1, .inr ⟨b0, b2⟩, b3, b4, b5⟩
      clear HB1 BN BG BL BQ hj q1 q2 q3 q4
      have BN := Lib.hid j1
      have BG := Lib.hid j2
      have HB1 := Lib.hid j4
      clear j1 j2 j4
      have heq := fun w => eq_bk q q w
      rw [show decide (q = q) = true by simp] at heq
      have etb : (tb == tb) = true := by cases tb <;> rfl
      by_cases hkN : k = us.length
      · skip
        have e1 : ((k : Int) == (us.length : Int)) = true := by rw [hkN]; simp
        clear hk0 hk1 hkN
        go_wp2_with fail
        obtain ⟨zB100, zB101, zB102, zB103, zB104, zB105, zB106, zB107, zB108⟩ := (B10.out.below HB1.out B10.out.lt).cells9
        obtain ⟨zB120, zB121, zB122, zB123, zB124, zB125, zB126, zB127, zB128⟩ := (B12.out.below HB1.out B12.out.lt).cells9
        have zBN0 := (BN.out).cells1
        have zBG0 := (BG.out).cells1
        have zBX0 := (BX.out.below HB1.out BX.out.lt).cells1
        obtain ⟨zB30, zB31⟩ := (B3.out.below HB1.out B3.out.lt).cells2
        have kq0 := cell_regrown zB100
        have kq1 := cell_regrown zB101
        have kq2 := cell_regrown zB102
        have kq3 := cell_regrown zB103
        have kq4 := cell_regrown zB104
        have kq5 := cell_regrown zB105
        have kq6 := cell_regrown zB106
        have kq7 := cell_regrown zB107
        have kq8 := cell_regrown zB108
        have kq9 := cell_regrown zB120
        have kq10 := cell_regrown zB121
        have kq11 := cell_regrown zB122
        have kq12 := cell_regrown zB123
        have kq13 := cell_regrown zB124
        have kq14 := cell_regrown zB125
        have kq15 := cell_regrown zB126
        have kq16 := cell_regrown zB127
        have kq17 := cell_regrown zB128
        have kq18 := cell_regrown zBN0
        have kq19 := cell_regrown zBG0
        have kq20 := cell_regrown zBX0
        have kq21 := cell_regrown zB30
        have kq22 := cell_regrown zB31
        clear zB100 zB101 zB102 zB103 zB104 zB105 zB106 zB107 zB108 zB120 zB121 zB122 zB123 zB124 zB125 zB126 zB127 zB128 zBN0 zBG0 zBX0 zB30 zB31
        refine wp_mono (Brings.one ?b65_0 :: Brings.one ?b66_1 :: Brings.one ?b67_2 :: Brings.one (.bool true) :: Brings.one ?b68_4 :: Brings.one ?b69_5 :: Brings.one ?b70_6 :: Brings.one ?b71_7 :: Brings.one (.bool true) :: Brings.one ?b72_9 :: Brings.one ?b73_10 :: Brings.one (.bool true) :: Brings.one ?b74_12 :: Brings.one ?b75_13 :: Brings.one ?b76_14 :: Brings.one ?b77_15 :: Brings.one (.bool true) :: Brings.one undef :: Brings.one undef :: Brings.one undef :: Brings.one undef :: Brings.one undef :: Brings.one undef :: Brings.one undef :: Brings.one undef :: Brings.one undef :: Brings.one undef :: Brings.one ?b78_27 :: Brings.one ?b79_28 :: Brings.one (.bool true) :: Brings.one ?b80_30 :: Brings.one ?b81_31 :: Brings.one ?b82_32 :: Brings.one ?b83_33 :: Brings.fl w14.heap.size (na) (nd) (nS) (nK) :: Brings.one ?b84_35 :: Brings.one ?b85_36 :: Brings.one ?b86_37 :: Brings.one ?b87_38 :: Brings.fl w14.heap.size (na) (nd) (nS) (nK) :: Brings.one ?b88_40 :: Brings.one ?b89_41 :: Brings.one ?b90_42 :: []) (by kernel_rfl) (by kernel_rfl) ?_
        rotate_left 26
        refine wpL_take (k' := 1) rfl (by kernel_rfl) (fun d os => ?t91) ?_
        case t91 => (unfold bringsAt; go_simp; first | with_reducible exact take_one | exact take_one)
        try simp only [Act.put, List.setIfInBounds_toArray, List.set_cons_zero, List.set_cons_succ]
        refine wpL_take (k' := 2) rfl (by kernel_rfl) (fun d os => ?t92) ?_
        case t92 => (unfold bringsAt; go_simp; first | with_reducible exact take_one | exact take_one)
        try simp only [Act.put, List.setIfInBounds_toArray, List.set_cons_zero, List.set_cons_succ]
        refine wpL_take (k' := 3) rfl (by kernel_rfl) (fun d os => ?t93) ?_
        case t93 => (unfold bringsAt; go_simp; first | with_reducible exact take_one | exact take_one)
        try simp only [Act.put, List.setIfInBounds_toArray, List.set_cons_zero, List.set_cons_succ]
        refine wpL_take (k' := 4) rfl (by kernel_rfl) (fun d os => ?t94) ?_
        case t94 => (unfold bringsAt; go_simp; first | with_reducible exact take_one | exact take_one)
        try simp only [Act.put, List.setIfInBounds_toArray, List.set_cons_zero, List.set_cons_succ]
        refine wpL_take (k' := 5) rfl (by kernel_rfl) (fun d os => ?t95) ?_
        case t95 => (unfold bringsAt; go_simp; first | with_reducible exact take_one | exact take_one)
        try simp only [Act.put, List.setIfInBounds_toArray, List.set_cons_zero, List.set_cons_succ]
        refine wpL_take (k' := 6) rfl (by kernel_rfl) (fun d os => ?t96) ?_
        case t96 => (unfold bringsAt; go_simp; first | with_reducible exact take_one | exact take_one)
        try simp only [Act.put, List.setIfInBounds_toArray, List.set_cons_zero, List.set_cons_succ]
        refine wpL_take (k' := 7) rfl (by kernel_rfl) (fun d os => ?t97) ?_
        case t97 => (unfold bringsAt; go_simp; first | with_reducible exact take_one | exact take_one)
        try simp only [Act.put, List.setIfInBounds_toArray, List.set_cons_zero, List.set_cons_succ]
        refine wpL_take (k' := 8) rfl (by kernel_rfl) (fun d os => ?t98) ?_
        case t98 => (unfold bringsAt; go_simp; first | with_reducible exact take_one | exact take_one)
        try simp only [Act.put, List.setIfInBounds_toArray, List.set_cons_zero, List.set_cons_succ]
        refine wpL_take (k' := 9) rfl (by kernel_rfl) (fun d os => ?t99) ?_
        case t99 => (unfold bringsAt; go_simp; first | with_reducible exact take_one | exact take_one)
        try simp only [Act.put, List.setIfInBounds_toArray, List.set_cons_zero, List.set_cons_succ]
        refine wpL_take (k' := 10) rfl (by kernel_rfl) (fun d os => ?t100) ?_
        case t100 => (unfold bringsAt; go_simp; first | with_reducible exact take_one | exact take_one)
        try simp only [Act.put, List.setIfInBounds_toArray, List.set_cons_zero, List.set_cons_succ]
        refine wpL_take (k' := 11) rfl (by kernel_rfl) (fun d os => ?t101) ?_
        case t101 => (unfold bringsAt; go_simp; first | with_reducible exact take_one | exact take_one)
        try simp only [Act.put, List.setIfInBounds_toArray, List.set_cons_zero, List.set_cons_succ]
        refine wpL_take (k' := 12) rfl (by kernel_rfl) (fun d os => ?t102) ?_
        case t102 => (unfold bringsAt; go_simp; first | with_reducible exact take_one | exact take_one)
        try simp only [Act.put, List.setIfInBounds_toArray, List.set_cons_zero, List.set_cons_succ]
        refine wpL_take (k' := 13) rfl (by kernel_rfl) (fun d os => ?t103) ?_
        case t103 => (unfold bringsAt; go_simp; first | with_reducible exact take_one | exact take_one)
        try simp only [Act.put, List.setIfInBounds_toArray, List.set_cons_zero, List.set_cons_succ]
        refine wpL_take (k' := 14) rfl (by kernel_rfl) (fun d os => ?t104) ?_
        case t104 => (unfold bringsAt; go_simp; first | with_reducible exact take_one | exact take_one)
        try simp only [Act.put, List.setIfInBounds_toArray, List.set_cons_zero, List.set_cons_succ]
        refine wpL_take (k' := 15) rfl (by kernel_rfl) (fun d os => ?t105) ?_
        case t105 => (unfold bringsAt; go_simp; first | with_reducible exact take_one | exact take_one)
        try simp only [Act.put, List.setIfInBounds_toArray, List.set_cons_zero, List.set_cons_succ]
        refine wpL_take (k' := 16) rfl (by kernel_rfl) (fun d os => ?t106) ?_
        case t106 => (unfold bringsAt; go_simp; first | with_reducible exact take_one | exact take_one)
        try simp only [Act.put, List.setIfInBounds_toArray, List.set_cons_zero, List.set_cons_succ]
        refine wpL_take (k' := 17) rfl (by kernel_rfl) (fun d os => ?t107) ?_
        case t107 => (unfold bringsAt; go_simp; first | with_reducible exact take_one | exact take_one)
        try simp only [Act.put, List.setIfInBounds_toArray, List.set_cons_zero, List.set_cons_succ]
        rw [wpL_skip_eq]
        rotate_left 1
        · kernel_rfl
        rotate_right 1
        try simp only [Act.put, List.setIfInBounds_toArray, List.set_cons_zero, List.set_cons_succ]
        rw [wpL_skip_eq]
        rotate_left 1
        · kernel_rfl
        rotate_right 1
        try simp only [Act.put, List.setIfInBounds_toArray, List.set_cons_zero, List.set_cons_succ]
        rw [wpL_skip_eq]
        rotate_left 1
        · kernel_rfl
        rotate_right 1
        try simp only [Act.put, List.setIfInBounds_toArray, List.set_cons_zero, List.set_cons_succ]
        rw [wpL_skip_eq]
        rotate_left 1
        · kernel_rfl
        rotate_right 1
        try simp only [Act.put, List.setIfInBounds_toArray, List.set_cons_zero, List.set_cons_succ]
        rw [wpL_skip_eq]
        rotate_left 1
        · kernel_rfl
        rotate_right 1
        try simp only [Act.put, List.setIfInBounds_toArray, List.set_cons_zero, List.set_cons_succ]
        rw [wpL_skip_eq]
        rotate_left 1
        · kernel_rfl
        rotate_right 1
        try simp only [Act.put, List.setIfInBounds_toArray, List.set_cons_zero, List.set_cons_succ]
        rw [wpL_skip_eq]
        rotate_left 1
        · kernel_rfl
        rotate_right 1
        try simp only [Act.put, List.setIfInBounds_toArray, List.set_cons_zero, List.set_cons_succ]
        rw [wpL_skip_eq]
        rotate_left 1
        · kernel_rfl
        rotate_right 1
        try simp only [Act.put, List.setIfInBounds_toArray, List.set_cons_zero, List.set_cons_succ]
        rw [wpL_skip_eq]
        rotate_left 1
        · kernel_rfl
        rotate_right 1
        try simp only [Act.put, List.setIfInBounds_toArray, List.set_cons_zero, List.set_cons_succ]
        rw [wpL_skip_eq]
        rotate_left 1
        · kernel_rfl
        rotate_right 1
        try simp only [Act.put, List.setIfInBounds_toArray, List.set_cons_zero, List.set_cons_succ]
        refine wpL_take (k' := 28) rfl (by kernel_rfl) (fun d os => ?t118) ?_
        case t118 => (unfold bringsAt; go_simp; first | with_reducible exact take_one | exact take_one)
        try simp only [Act.put, List.setIfInBounds_toArray, List.set_cons_zero, List.set_cons_succ]
        refine wpL_take (k' := 29) rfl (by kernel_rfl) (fun d os => ?t119) ?_
        case t119 => (unfold bringsAt; go_simp; first | with_reducible exact take_one | exact take_one)
        try simp only [Act.put, List.setIfInBounds_toArray, List.set_cons_zero, List.set_cons_succ]
        refine wpL_take (k' := 30) rfl (by kernel_rfl) (fun d os => ?t120) ?_
        case t120 => (unfold bringsAt; go_simp; first | with_reducible exact take_one | exact take_one)
        try simp only [Act.put, List.setIfInBounds_toArray, List.set_cons_zero, List.set_cons_succ]
        refine wpL_take (k' := 31) rfl (by kernel_rfl) (fun d os => ?t121) ?_
        case t121 => (unfold bringsAt; go_simp; first | with_reducible exact take_one | exact take_one)
        try simp only [Act.put, List.setIfInBounds_toArray, List.set_cons_zero, List.set_cons_succ]
        refine wpL_take (k' := 32) rfl (by kernel_rfl) (fun d os => ?t122) ?_
        case t122 => (unfold bringsAt; go_simp; first | with_reducible exact take_one | exact take_one)
        try simp only [Act.put, List.setIfInBounds_toArray, List.set_cons_zero, List.set_cons_succ]
        refine wpL_take (k' := 33) rfl (by kernel_rfl) (fun d os => ?t123) ?_
        case t123 => (unfold bringsAt; go_simp; first | with_reducible exact take_one | exact take_one)
        try simp only [Act.put, List.setIfInBounds_toArray, List.set_cons_zero, List.set_cons_succ]
        refine wpL_take (k' := 34) rfl (by kernel_rfl) (fun d os => ?t124) ?_
        case t124 => (unfold bringsAt; go_simp; first | with_reducible exact take_one | exact take_one)
        try simp only [Act.put, List.setIfInBounds_toArray, List.set_cons_zero, List.set_cons_succ]
        refine wpL_fl (k' := 35) rfl (by kernel_rfl) (fun wz hz hd => ?t125) (fun A14 c14 A15 c15 => ?_)
        case t125 =>
          have HZ := Lib.hid (HB1.out.trans (hz.mono HB1.out.size))
          unfold bringsAt
          go_simp
          have h9 := fnew_c s0 s1 wz
          rw [HNF.out] at h9
          exact call_fl hz.size h9
        try simp only [Act.put, List.setIfInBounds_toArray, List.set_cons_zero, List.set_cons_succ]
        refine wpL_take (k' := 36) rfl (by kernel_rfl) (fun d os => ?t126) ?_
        case t126 => (unfold bringsAt; go_simp; first | with_reducible exact take_one | exact take_one)
        try simp only [Act.put, List.setIfInBounds_toArray, List.set_cons_zero, List.set_cons_succ]
        refine wpL_take (k' := 37) rfl (by kernel_rfl) (fun d os => ?t127) ?_
        case t127 => (unfold bringsAt; go_simp; first | with_reducible exact take_one | exact take_one)
        try simp only [Act.put, List.setIfInBounds_toArray, List.set_cons_zero, List.set_cons_succ]
        refine wpL_take (k' := 38) rfl (by kernel_rfl) (fun d os => ?t128) ?_
        case t128 => (unfold bringsAt; go_simp; first | with_reducible exact take_one | exact take_one)
        try simp only [Act.put, List.setIfInBounds_toArray, List.set_cons_zero, List.set_cons_succ]
        refine wpL_take (k' := 39) rfl (by kernel_rfl) (fun d os => ?t129) ?_
        case t129 => (unfold bringsAt; go_simp; first | with_reducible exact take_one | exact take_one)
        try simp only [Act.put, List.setIfInBounds_toArray, List.set_cons_zero, List.set_cons_succ]
        refine wpL_fl (k' := 40) rfl (by kernel_rfl) (fun wz hz hd => ?t130) (fun A16 c16 A17 c17 => ?_)
        case t130 =>
          have HZ := Lib.hid (HB1.out.trans (hz.mono HB1.out.size))
          unfold bringsAt
          go_simp
          have h9 := lnews_c s0 s1 wz
          rw [HNF.out] at h9
          exact call_fl hz.size h9
        try simp only [Act.put, List.setIfInBounds_toArray, List.set_cons_zero, List.set_cons_succ]
        refine wpL_call (k' := 41) rfl (by kernel_rfl) (fun wz hz hd => ?t131) ?_
        case t131 =>
          have HZ := Lib.hid (HB1.out.trans (hz.mono HB1.out.size))
          have G34 := Lib.hid (show OwnI wz w14.heap.size (.slice A14 (nS).length c14) (nS) ∧ OwnE EK wz w14.heap.size (.slice A15 (nK).length c15) (nK) from hd.get 34 (by kernel_rfl))
          have G39 := Lib.hid (show OwnI wz w14.heap.size (.slice A16 (nS).length c16) (nS) ∧ OwnE EK wz w14.heap.size (.slice A17 (nK).length c17) (nK) from hd.get 39 (by kernel_rfl))
          unfold bringsAt
          go_simp
          have h9 := r16same_y na nd nS A14 A16 c14 c16 nK nK A15 A17 c15 c17 wz G34.out.1.reads G39.out.1.reads G34.out.2.reads G39.out.2.reads G34.out.1.max G34.out.2.max rfl rfl
          refine call_one_as h9 ?_
          rfl
        try simp only [Act.put, List.setIfInBounds_toArray, List.set_cons_zero, List.set_cons_succ]
        refine wpL_take (k' := 42) rfl (by kernel_rfl) (fun d os => ?t132) ?_
        case t132 => (unfold bringsAt; go_simp; first | with_reducible exact take_one | exact take_one)
        try simp only [Act.put, List.setIfInBounds_toArray, List.set_cons_zero, List.set_cons_succ]
        refine wpL_take (k' := 43) rfl (by kernel_rfl) (fun d os => ?t133) ?_
        case t133 => (unfold bringsAt; go_simp; first | with_reducible exact take_one | exact take_one)
        try simp only [Act.put, List.setIfInBounds_toArray, List.set_cons_zero, List.set_cons_succ]
        refine wpL_nil ?_
        intro w15 hH
        have hb' := hH.below
        clear kq0 kq1 kq2 kq3 kq4 kq5 kq6 kq7 kq8 kq9 kq10 kq11 kq12 kq13 kq14 kq15 kq16 kq17 kq18 kq19 kq20 kq21 kq22
        have HB1 := Lib.hid ((HB1.out).trans (hb'.mono (HB1.out).size))
        have BN := Lib.hid ((BN.out).below hb' (BN.out).lt)
        have BG := Lib.hid ((BG.out).below hb' (BG.out).lt)
        have G34 := Lib.hid (show OwnI w15 w14.heap.size (.slice A14 (nS).length c14) (nS) ∧ OwnE EK w15 w14.heap.size (.slice A15 (nK).length c15) (nK) from hH.facts 34)
        have G34S := Lib.hid G34.out.1
        have G34K := Lib.hid G34.out.2
        clear G34
        have G39 := Lib.hid (show OwnI w15 w14.heap.size (.slice A16 (nS).length c16) (nS) ∧ OwnE EK w15 w14.heap.size (.slice A17 (nK).length c17) (nK) from hH.facts 39)
        have G39S := Lib.hid G39.out.1
        have G39K := Lib.hid G39.out.2
        clear G39
        clear hH hb'
        go_wp2_with fail
        go_ret
        exact ⟨rfl, HB.out.trans (HB1.out.mono HB.out.size)⟩
      · skip
        have hk2 : k < us.length := by omega
        have e1 : ((k : Int) == (us.length : Int)) = false := by simp; omega
        have e2 : ((k : Int) == s0) = true := by rcases hk1 with h | h; exact absurd h hkN; simp; exact h.2
        have e3 : decide ((k : Int) < (us.length : Int)) = true := by simp; omega
        clear hk0 hk1 hkN
        go_wp2_with fail
        obtain ⟨zB100, zB101, zB102, zB103, zB104, zB105, zB106, zB107, zB108⟩ := (B10.out.below HB1.out B10.out.lt).cells9
        obtain ⟨zB120, zB121, zB122, zB123, zB124, zB125, zB126, zB127, zB128⟩ := (B12.out.below HB1.out B12.out.lt).cells9
        have zBN0 := (BN.out).cells1
        have zBG0 := (BG.out).cells1
        have zBX0 := (BX.out.below HB1.out BX.out.lt).cells1
        obtain ⟨zB30, zB31⟩ := (B3.out.below HB1.out B3.out.lt).cells2
        have kq0 := cell_regrown zB100
        have kq1 := cell_regrown zB101
        have kq2 := cell_regrown zB102
        have kq3 := cell_regrown zB103
        have kq4 := cell_regrown zB104
        have kq5 := cell_regrown zB105
        have kq6 := cell_regrown zB106
        have kq7 := cell_regrown zB107
        have kq8 := cell_regrown zB108
        have kq9 := cell_regrown zB120
        have kq10 := cell_regrown zB121
        have kq11 := cell_regrown zB122
        have kq12 := cell_regrown zB123
        have kq13 := cell_regrown zB124
        have kq14 := cell_regrown zB125
        have kq15 := cell_regrown zB126
        have kq16 := cell_regrown zB127
        have kq17 := cell_regrown zB128
        have kq18 := cell_regrown zBN0
        have kq19 := cell_regrown zBG0
        have kq20 := cell_regrown zBX0
        have kq21 := cell_regrown zB30
        have kq22 := cell_regrown zB31
        clear zB100 zB101 zB102 zB103 zB104 zB105 zB106 zB107 zB108 zB120 zB121 zB122 zB123 zB124 zB125 zB126 zB127 zB128 zBN0 zBG0 zBX0 zB30 zB31
        refine wp_mono (Brings.one ?b134_0 :: Brings.one ?b135_1 :: Brings.one ?b136_2 :: Brings.one (.bool true) :: Brings.one ?b137_4 :: Brings.one ?b138_5 :: Brings.one ?b139_6 :: Brings.one ?b140_7 :: Brings.one (.bool true) :: Brings.one ?b141_9 :: Brings.one ?b142_10 :: Brings.one (.bool true) :: Brings.one ?b143_12 :: Brings.one ?b144_13 :: Brings.one ?b145_14 :: Brings.one ?b146_15 :: Brings.one (.bool false) :: Brings.one ?b147_17 :: Brings.one ?b148_18 :: Brings.one ?b149_19 :: Brings.one ?b150_20 :: Brings.one (.bool true) :: Brings.one ?b151_22 :: Brings.one ?b152_23 :: Brings.one ?b153_24 :: Brings.one ?b154_25 :: Brings.one ?b155_26 :: Brings.one ?b156_27 :: Brings.one ?b157_28 :: Brings.one (.bool true) :: Brings.one ?b158_30 :: Brings.one ?b159_31 :: Brings.one ?b160_32 :: Brings.one ?b161_33 :: Brings.fl w14.heap.size (na) (nd) (nS) (nK) :: Brings.one ?b162_35 :: Brings.one ?b163_36 :: Brings.one ?b164_37 :: Brings.one ?b165_38 :: Brings.fl w14.heap.size (na) (nd) (nS) (nK) :: Brings.one ?b166_40 :: Brings.one ?b167_41 :: Brings.one ?b168_42 :: []) (by kernel_rfl) (by kernel_rfl) ?_
        rotate_left 35
        refine wpL_take (k' := 1) rfl (by kernel_rfl) (fun d os => ?t169) ?_
        case t169 => (unfold bringsAt; go_simp; first | with_reducible exact take_one | exact take_one)
        try simp only [Act.put, List.setIfInBounds_toArray, List.set_cons_zero, List.set_cons_succ]
        refine wpL_take (k' := 2) rfl (by kernel_rfl) (fun d os => ?t170) ?_
        case t170 => (unfold bringsAt; go_simp; first | with_reducible exact take_one | exact take_one)
        try simp only [Act.put, List.setIfInBounds_toArray, List.set_cons_zero, List.set_cons_succ]
        refine wpL_take (k' := 3) rfl (by kernel_rfl) (fun d os => ?t171) ?_
        case t171 => (unfold bringsAt; go_simp; first | with_reducible exact take_one | exact take_one)
        try simp only [Act.put, List.setIfInBounds_toArray, List.set_cons_zero, List.set_cons_succ]
        refine wpL_take (k' := 4) rfl (by kernel_rfl) (fun d os => ?t172) ?_
        case t172 => (unfold bringsAt; go_simp; first | with_reducible exact take_one | exact take_one)
        try simp only [Act.put, List.setIfInBounds_toArray, List.set_cons_zero, List.set_cons_succ]
        refine wpL_take (k' := 5) rfl (by kernel_rfl) (fun d os => ?t173) ?_
        case t173 => (unfold bringsAt; go_simp; first | with_reducible exact take_one | exact take_one)
        try simp only [Act.put, List.setIfInBounds_toArray, List.set_cons_zero, List.set_cons_succ]
        refine wpL_take (k' := 6) rfl (by kernel_rfl) (fun d os => ?t174) ?_
        case t174 => (unfold bringsAt; go_simp; first | with_reducible exact take_one | exact take_one)
        try simp only [Act.put, List.setIfInBounds_toArray, List.set_cons_zero, List.set_cons_succ]
        refine wpL_take (k' := 7) rfl (by kernel_rfl) (fun d os => ?t175) ?_
        case t175 => (unfold bringsAt; go_simp; first | with_reducible exact take_one | exact take_one)
        try simp only [Act.put, List.setIfInBounds_toArray, List.set_cons_zero, List.set_cons_succ]
        refine wpL_take (k' := 8) rfl (by kernel_rfl) (fun d os => ?t176) ?_
        case t176 => (unfold bringsAt; go_simp; first | with_reducible exact take_one | exact take_one)
        try simp only [Act.put, List.setIfInBounds_toArray, List.set_cons_zero, List.set_cons_succ]
        refine wpL_take (k' := 9) rfl (by kernel_rfl) (fun d os => ?t177) ?_
        case t177 => (unfold bringsAt; go_simp; first | with_reducible exact take_one | exact take_one)
        try simp only [Act.put, List.setIfInBounds_toArray, List.set_cons_zero, List.set_cons_succ]
        refine wpL_take (k' := 10) rfl (by kernel_rfl) (fun d os => ?t178) ?_
        case t178 => (unfold bringsAt; go_simp; first | with_reducible exact take_one | exact take_one)
        try simp only [Act.put, List.setIfInBounds_toArray, List.set_cons_zero, List.set_cons_succ]
        refine wpL_take (k' := 11) rfl (by kernel_rfl) (fun d os => ?t179) ?_
        case t179 => (unfold bringsAt; go_simp; first | with_reducible exact take_one | exact take_one)
        try simp only [Act.put, List.setIfInBounds_toArray, List.set_cons_zero, List.set_cons_succ]
        refine wpL_take (k' := 12) rfl (by kernel_rfl) (fun d os => ?t180) ?_
        case t180 => (unfold bringsAt; go_simp; first | with_reducible exact take_one | exact take_one)
        try simp only [Act.put, List.setIfInBounds_toArray, List.set_cons_zero, List.set_cons_succ]
        refine wpL_take (k' := 13) rfl (by kernel_rfl) (fun d os => ?t181) ?_
        case t181 => (unfold bringsAt; go_simp; first | with_reducible exact take_one | exact take_one)
        try simp only [Act.put, List.setIfInBounds_toArray, List.set_cons_zero, List.set_cons_succ]
        refine wpL_take (k' := 14) rfl (by kernel_rfl) (fun d os => ?t182) ?_
        case t182 => (unfold bringsAt; go_simp; first | with_reducible exact take_one | exact take_one)
        try simp only [Act.put, List.setIfInBounds_toArray, List.set_cons_zero, List.set_cons_succ]
        refine wpL_take (k' := 15) rfl (by kernel_rfl) (fun d os => ?t183) ?_
        case t183 => (unfold bringsAt; go_simp; first | with_reducible exact take_one | exact take_one)
        try simp only [Act.put, List.setIfInBounds_toArray, List.set_cons_zero, List.set_cons_succ]
        refine wpL_take (k' := 16) rfl (by kernel_rfl) (fun d os => ?t184) ?_
        case t184 => (unfold bringsAt; go_simp; first | with_reducible exact take_one | exact take_one)
        try simp only [Act.put, List.setIfInBounds_toArray, List.set_cons_zero, List.set_cons_succ]
        refine wpL_take (k' := 17) rfl (by kernel_rfl) (fun d os => ?t185) ?_
        case t185 => (unfold bringsAt; go_simp; first | with_reducible exact take_one | exact take_one)
        try simp only [Act.put, List.setIfInBounds_toArray, List.set_cons_zero, List.set_cons_succ]
        refine wpL_take (k' := 18) rfl (by kernel_rfl) (fun d os => ?t186) ?_
        case t186 => (unfold bringsAt; go_simp; first | with_reducible exact take_one | exact take_one)
        try simp only [Act.put, List.setIfInBounds_toArray, List.set_cons_zero, List.set_cons_succ]
        refine wpL_take (k' := 19) rfl (by kernel_rfl) (fun d os => ?t187) ?_
        case t187 => (unfold bringsAt; go_simp; first | with_reducible exact take_one | exact take_one)
        try simp only [Act.put, List.setIfInBounds_toArray, List.set_cons_zero, List.set_cons_succ]
        refine wpL_take (k' := 20) rfl (by kernel_rfl) (fun d os => ?t188) ?_
        case t188 => (unfold bringsAt; go_simp; first | with_reducible exact take_one | exact take_one)
        try simp only [Act.put, List.setIfInBounds_toArray, List.set_cons_zero, List.set_cons_succ]
        refine wpL_take (k' := 21) rfl (by kernel_rfl) (fun d os => ?t189) ?_
        case t189 => (unfold bringsAt; go_simp; first | with_reducible exact take_one | exact take_one)
        try simp only [Act.put, List.setIfInBounds_toArray, List.set_cons_zero, List.set_cons_succ]
        refine wpL_take (k' := 22) rfl (by kernel_rfl) (fun d os => ?t190) ?_
        case t190 => (unfold bringsAt; go_simp; first | with_reducible exact take_one | exact take_one)
        try simp only [Act.put, List.setIfInBounds_toArray, List.set_cons_zero, List.set_cons_succ]
        refine wpL_take (k' := 23) rfl (by kernel_rfl) (fun d os => ?t191) ?_
        case t191 => (unfold bringsAt; go_simp; first | with_reducible exact take_one | exact take_one)
        try simp only [Act.put, List.setIfInBounds_toArray, List.set_cons_zero, List.set_cons_succ]
        refine wpL_take (k' := 24) rfl (by kernel_rfl) (fun d os => ?t192) ?_
        case t192 => (unfold bringsAt; go_simp; first | with_reducible exact take_one | exact take_one)
        try simp only [Act.put, List.setIfInBounds_toArray, List.set_cons_zero, List.set_cons_succ]
        refine wpL_take (k' := 25) rfl (by kernel_rfl) (fun d os => ?t193) ?_
        case t193 => (unfold bringsAt; go_simp; first | with_reducible exact take_one | exact take_one)
        try simp only [Act.put, List.setIfInBounds_toArray, List.set_cons_zero, List.set_cons_succ]
        refine wpL_take (k' := 26) rfl (by kernel_rfl) (fun d os => ?t194) ?_
        case t194 => (unfold bringsAt; go_simp; first | with_reducible exact take_one | exact take_one)
        try simp only [Act.put, List.setIfInBounds_toArray, List.set_cons_zero, List.set_cons_succ]
        refine wpL_take (k' := 27) rfl (by kernel_rfl) (fun d os => ?t195) ?_
        case t195 => (unfold bringsAt; go_simp; first | with_reducible exact take_one | exact take_one)
        try simp only [Act.put, List.setIfInBounds_toArray, List.set_cons_zero, List.set_cons_succ]
        refine wpL_take (k' := 28) rfl (by kernel_rfl) (fun d os => ?t196) ?_
        case t196 => (unfold bringsAt; go_simp; first | with_reducible exact take_one | exact take_one)
        try simp only [Act.put, List.setIfInBounds_toArray, List.set_cons_zero, List.set_cons_succ]
        refine wpL_take (k' := 29) rfl (by kernel_rfl) (fun d os => ?t197) ?_
        case t197 => (unfold bringsAt; go_simp; first | with_reducible exact take_one | exact take_one)
        try simp only [Act.put, List.setIfInBounds_toArray, List.set_cons_zero, List.set_cons_succ]
        refine wpL_take (k' := 30) rfl (by kernel_rfl) (fun d os => ?t198) ?_
        case t198 => (unfold bringsAt; go_simp; first | with_reducible exact take_one | exact take_one)
        try simp only [Act.put, List.setIfInBounds_toArray, List.set_cons_zero, List.set_cons_succ]
        refine wpL_take (k' := 31) rfl (by kernel_rfl) (fun d os => ?t199) ?_
        case t199 => (unfold bringsAt; go_simp; first | with_reducible exact take_one | exact take_one)
        try simp only [Act.put, List.setIfInBounds_toArray, List.set_cons_zero, List.set_cons_succ]
        refine wpL_take (k' := 32) rfl (by kernel_rfl) (fun d os => ?t200) ?_
        case t200 => (unfold bringsAt; go_simp; first | with_reducible exact take_one | exact take_one)
        try simp only [Act.put, List.setIfInBounds_toArray, List.set_cons_zero, List.set_cons_succ]
        refine wpL_take (k' := 33) rfl (by kernel_rfl) (fun d os => ?t201) ?_
        case t201 => (unfold bringsAt; go_simp; first | with_reducible exact take_one | exact take_one)
        try simp only [Act.put, List.setIfInBounds_toArray, List.set_cons_zero, List.set_cons_succ]
        refine wpL_take (k' := 34) rfl (by kernel_rfl) (fun d os => ?t202) ?_
        case t202 => (unfold bringsAt; go_simp; first | with_reducible exact take_one | exact take_one)
        try simp only [Act.put, List.setIfInBounds_toArray, List.set_cons_zero, List.set_cons_succ]
        refine wpL_fl (k' := 35) rfl (by kernel_rfl) (fun wz hz hd => ?t203) (fun A14 c14 A15 c15 => ?_)
        case t203 =>
          have HZ := Lib.hid (HB1.out.trans (hz.mono HB1.out.size))
          unfold bringsAt
          go_simp
          have h9 := fnew_c s0 s1 wz
          rw [HNF.out] at h9
          exact call_fl hz.size h9
        try simp only [Act.put, List.setIfInBounds_toArray, List.set_cons_zero, List.set_cons_succ]
        refine wpL_take (k' := 36) rfl (by kernel_rfl) (fun d os => ?t204) ?_
        case t204 => (unfold bringsAt; go_simp; first | with_reducible exact take_one | exact take_one)
        try simp only [Act.put, List.setIfInBounds_toArray, List.set_cons_zero, List.set_cons_succ]
        refine wpL_take (k' := 37) rfl (by kernel_rfl) (fun d os => ?t205) ?_
        case t205 => (unfold bringsAt; go_simp; first | with_reducible exact take_one | exact take_one)
        try simp only [Act.put, List.setIfInBounds_toArray, List.set_cons_zero, List.set_cons_succ]
        refine wpL_take (k' := 38) rfl (by kernel_rfl) (fun d os => ?t206) ?_
        case t206 => (unfold bringsAt; go_simp; first | with_reducible exact take_one | exact take_one)
        try simp only [Act.put, List.setIfInBounds_toArray, List.set_cons_zero, List.set_cons_succ]
        refine wpL_take (k' := 39) rfl (by kernel_rfl) (fun d os => ?t207) ?_
        case t207 => (unfold bringsAt; go_simp; first | with_reducible exact take_one | exact take_one)
        try simp only [Act.put, List.setIfInBounds_toArray, List.set_cons_zero, List.set_cons_succ]
        refine wpL_fl (k' := 40) rfl (by kernel_rfl) (fun wz hz hd => ?t208) (fun A16 c16 A17 c17 => ?_)
        case t208 =>
          have HZ := Lib.hid (HB1.out.trans (hz.mono HB1.out.size))
          unfold bringsAt
          go_simp
          have h9 := lnews_c s0 s1 wz
          rw [HNF.out] at h9
          exact call_fl hz.size h9
        try simp only [Act.put, List.setIfInBounds_toArray, List.set_cons_zero, List.set_cons_succ]
        refine wpL_call (k' := 41) rfl (by kernel_rfl) (fun wz hz hd => ?t209) ?_
        case t209 =>
          have HZ := Lib.hid (HB1.out.trans (hz.mono HB1.out.size))
          have G34 := Lib.hid (show OwnI wz w14.heap.size (.slice A14 (nS).length c14) (nS) ∧ OwnE EK wz w14.heap.size (.slice A15 (nK).length c15) (nK) from hd.get 34 (by kernel_rfl))
          have G39 := Lib.hid (show OwnI wz w14.heap.size (.slice A16 (nS).length c16) (nS) ∧ OwnE EK wz w14.heap.size (.slice A17 (nK).length c17) (nK) from hd.get 39 (by kernel_rfl))
          unfold bringsAt
          go_simp
          have h9 := r16same_y na nd nS A14 A16 c14 c16 nK nK A15 A17 c15 c17 wz G34.out.1.reads G39.out.1.reads G34.out.2.reads G39.out.2.reads G34.out.1.max G34.out.2.max rfl rfl
          refine call_one_as h9 ?_
          rfl
        try simp only [Act.put, List.setIfInBounds_toArray, List.set_cons_zero, List.set_cons_succ]
        refine wpL_take (k' := 42) rfl (by kernel_rfl) (fun d os => ?t210) ?_
        case t210 => (unfold bringsAt; go_simp; first | with_reducible exact take_one | exact take_one)
        try simp only [Act.put, List.setIfInBounds_toArray, List.set_cons_zero, List.set_cons_succ]
        refine wpL_take (k' := 43) rfl (by kernel_rfl) (fun d os => ?t211) ?_
        case t211 => (unfold bringsAt; go_simp; first | with_reducible exact take_one | exact take_one)
        try simp only [Act.put, List.setIfInBounds_toArray, List.set_cons_zero, List.set_cons_succ]
        refine wpL_nil ?_
        intro w15 hH
        have hb' := hH.below
        clear kq0 kq1 kq2 kq3 kq4 kq5 kq6 kq7 kq8 kq9 kq10 kq11 kq12 kq13 kq14 kq15 kq16 kq17 kq18 kq19 kq20 kq21 kq22
        have HB1 := Lib.hid ((HB1.out).trans (hb'.mono (HB1.out).size))
        have BN := Lib.hid ((BN.out).below hb' (BN.out).lt)
        have BG := Lib.hid ((BG.out).below hb' (BG.out).lt)
        have G34 := Lib.hid (show OwnI w15 w14.heap.size (.slice A14 (nS).length c14) (nS) ∧ OwnE EK w15 w14.heap.size (.slice A15 (nK).length c15) (nK) from hH.facts 34)
        have G34S := Lib.hid G34.out.1
        have G34K := Lib.hid G34.out.2
        clear G34
        have G39 := Lib.hid (show OwnI w15 w14.heap.size (.slice A16 (nS).length c16) (nS) ∧ OwnE EK w15 w14.heap.size (.slice A17 (nK).length c17) (nK) from hH.facts 39)
        have G39S := Lib.hid G39.out.1
        have G39K := Lib.hid G39.out.2
        clear G39
        clear hH hb'
        go_wp2_with fail
        go_ret
        exact ⟨rfl, HB.out.trans (HB1.out.mono HB.out.size)⟩
set_option maxRecDepth 100000 in
set_option maxHeartbeats 6400000 in
theorem tls_yes (a d : Nat) (S : List Int) (As : Option Addr) (cs : Nat) (K : List Bk) (Ak : Option Addr) (ck : Nat) (t0 t1 s0 s1 : Int) (w : World) (hS : ReadsI w As S) (hK : ReadsE EK w Ak K) (hn : S.length ≤ 9223372036854775807) (hm : K.length ≤ 9223372036854775807) (hg : bigB S.length K.length = false) (ho : okFl a d S K = true) :
    Calls Try.prog 3 #[flV a d (.slice As S.length cs) (.slice Ak K.length ck), .agg #[.int .i64 t0, .int .i64 t1], .agg #[.int .i64 s0, .int .i64 s1]] w fun e w' => e = .returned (.bool true) ∧ Below w.heap.size w w' := by
  have RS := Lib.hid hS
  have RK := Lib.hid hK
  have HB := Lib.hid (Below.refl w.heap.size w)
  have HG := Lib.hid hg
  have hg1 := bigB_f hg
  have HO := Lib.hid ho
  obtain ⟨A, D, ea, ed, a1, a2, d1, d2, hl, hkl, hS1, hK1⟩ := okFl_nat ho
  have HL := Lib.hid hl
  have HS1 := Lib.hid hS1
  have ea := Int.ofNat.inj ea
  have ed := Int.ofNat.inj ed
  subst ea
  subst ed
  have sp : 0 < S.length := by rw [hl]; exact Nat.mul_pos a1 d1
  obtain ⟨sa, rfl, hsb, _⟩ := hS.2 sp
  have HSB := Lib.hid hsb
  obtain ⟨LK, hLK⟩ : ∃ LK, LK = levelK a S K := ⟨_, rfl⟩
  have hll : LK.length = K.length := by rw [hLK]; exact levelK_length _ _ _
  have HLL := Lib.hid hll
  have HLV := Lib.hid (show levF a d S K = ⟨a, d, S, LK⟩ by unfold levF; rw [if_pos ho, hLK]; rfl)
  obtain ⟨ev, hev⟩ : ∃ b, b = decide (LK = K) := ⟨_, rfl⟩
  have HDE := Lib.hid hev.symm
  have HEV := Lib.hid (show evenB a d S K = ev by unfold evenB; rw [ho, Bool.true_and, hev, hLK, Int.toNat_natCast])
  obtain ⟨us, hus⟩ : ∃ us, us = unsL a S := ⟨_, rfl⟩
  have HUS := Lib.hid hus
  have HUF := Lib.hid (show unsF (a : Int) (d : Int) S K = us by unfold unsF; rw [if_pos ho, hus]; rfl)
  have HCN := Lib.hid (show cntU S S.length = us.length by rw [hus, unsL_length])
  have HN0 := Lib.hid (show 0 < us.length by rw [hus, unsL_length]; exact cntU_pos1 sp)
  have hm2 : LK.length ≤ 9223372036854775807 := by rw [hll]; exact hm
  clear hl hkl hS1 hK1 hLK hll hus hev sp ea ed hsb
  have hul : us.length ≤ 65536 := by have h := unsF_len a d S K; rw [HUF.out] at h; exact h
  obtain ⟨nF, hnF⟩ : ∃ f, f = newF s0 s1 := ⟨_, rfl⟩
  have HNF := Lib.hid hnF.symm
  clear hnF
  obtain ⟨na, nd, nS, nK⟩ := nF
  obtain ⟨q, hq⟩ : ∃ q, q = atK a d S K t0 t1 := ⟨_, rfl⟩
  have HQ := Lib.hid hq.symm
  obtain ⟨tb, htb⟩ : ∃ q, q = atB a d S K t0 t1 := ⟨_, rfl⟩
  have HTB := Lib.hid htb.symm
  clear hq htb
  clear hS hK hg ho
  have HB1 := Lib.hid (Below.refl w.heap.size w)
  go_enter Try.func3, Try.ntmps3
  go_wp2_with fail
  have HB1 := Lib.hid (below_alloc_ (below_alloc_ (below_alloc_ (HB1.out) (.cells #[.int .i64 a, .int .i64 d, .slice (some sa) S.length cs, .slice Ak K.length ck] 25)) (.cells #[.int .i64 t0, .int .i64 t1] 26)) (.cells #[.int .i64 s0, .int .i64 s1] 26))
  have hzw : (((w.alloc (.cells #[.int .i64 a, .int .i64 d, .slice (some sa) S.length cs, .slice Ak K.length ck] 25)).alloc (.cells #[.int .i64 t0, .int .i64 t1] 26)).alloc (.cells #[.int .i64 s0, .int .i64 s1] 26)).heap.size = w.heap.size + 3 := by simp only [World.size_alloc]
  have B1 := ((Blk.new (w) 25 #[.int .i64 a, .int .i64 d, .slice (some sa) S.length cs, .slice Ak K.length ck]).alloc (.cells #[.int .i64 t0, .int .i64 t1] 26)).alloc (.cells #[.int .i64 s0, .int .i64 s1] 26)
  skip
  have B1 := Lib.hid B1
  have B2 := (Blk.new (w.alloc (.cells #[.int .i64 a, .int .i64 d, .slice (some sa) S.length cs, .slice Ak K.length ck] 25)) 26 #[.int .i64 t0, .int .i64 t1]).alloc (.cells #[.int .i64 s0, .int .i64 s1] 26)
  rw [show (w.alloc (.cells #[.int .i64 a, .int .i64 d, .slice (some sa) S.length cs, .slice Ak K.length ck] 25)).heap.size = w.heap.size + 1 by simp only [World.size_alloc]] at B2
  have B2 := Lib.hid B2
  have B3 := Blk.new ((w.alloc (.cells #[.int .i64 a, .int .i64 d, .slice (some sa) S.length cs, .slice Ak K.length ck] 25)).alloc (.cells #[.int .i64 t0, .int .i64 t1] 26)) 26 #[.int .i64 s0, .int .i64 s1]
  rw [show ((w.alloc (.cells #[.int .i64 a, .int .i64 d, .slice (some sa) S.length cs, .slice Ak K.length ck] 25)).alloc (.cells #[.int .i64 t0, .int .i64 t1] 26)).heap.size = w.heap.size + 1 + 1 by simp only [World.size_alloc]] at B3
  have B3 := Lib.hid B3
  generalize ((w.alloc (.cells #[.int .i64 a, .int .i64 d, .slice (some sa) S.length cs, .slice Ak K.length ck] 25)).alloc (.cells #[.int .i64 t0, .int .i64 t1] 26)).alloc (.cells #[.int .i64 s0, .int .i64 s1] 26) = w1 at *
  clear hzw
  refine (first_c w1).mono ?_
  rintro e w2 ⟨rfl, hb'⟩
  have HB1 := Lib.hid ((HB1.out).trans (hb'.mono (HB1.out).size))
  have B1 := Lib.hid ((B1.out).below hb' (B1.out).lt)
  have B2 := Lib.hid ((B2.out).below hb' (B2.out).lt)
  have B3 := Lib.hid ((B3.out).below hb' (B3.out).lt)
  clear hb'
  obtain ⟨zB10, zB11, zB12, zB13⟩ := (B1.out).cells4
  obtain ⟨zB20, zB21⟩ := (B2.out).cells2
  obtain ⟨zB30, zB31⟩ := (B3.out).cells2
  go_wp2_with fail
  clear zB10 zB11 zB12 zB13
  clear zB20 zB21
  clear zB30 zB31
  refine (big_c a d S (some sa) cs K Ak ck _ (RS.out.kept HB1.out) (RK.out.kept HB1.out) hn hm).mono ?_
  rintro e w3 ⟨rfl, hb'⟩
  have HB1 := Lib.hid ((HB1.out).trans (hb'.mono (HB1.out).size))
  have B1 := Lib.hid ((B1.out).below hb' (B1.out).lt)
  have B2 := Lib.hid ((B2.out).below hb' (B2.out).lt)
  have B3 := Lib.hid ((B3.out).below hb' (B3.out).lt)
  clear hb'
  rw [HG.out]
  obtain ⟨zB10, zB11, zB12, zB13⟩ := (B1.out).cells4
  obtain ⟨zB20, zB21⟩ := (B2.out).cells2
  obtain ⟨zB30, zB31⟩ := (B3.out).cells2
  go_upto_region 5 with fail
  clear zB10 zB11 zB12 zB13
  clear zB20 zB21
  clear zB30 zB31
  have RK := Lib.hid (RK.out.kept HB1.out)
  have RS := Lib.hid (RS.out.kept HB1.out)
  have HB := Lib.hid (HB.out.trans (HB1.out.mono HB.out.size))
  have HB1 := Lib.hid (Below.refl w3.heap.size w3)
  obtain ⟨zB10, zB11, zB12, zB13⟩ := (B1.out.below HB1.out B1.out.lt).cells4
  obtain ⟨zB20, zB21⟩ := (B2.out.below HB1.out B2.out.lt).cells2
  obtain ⟨zB30, zB31⟩ := (B3.out.below HB1.out B3.out.lt).cells2
  have kq0 := cell_regrown zB10
  have kq1 := cell_regrown zB11
  have kq2 := cell_regrown zB12
  have kq3 := cell_regrown zB13
  have kq4 := cell_regrown zB20
  have kq5 := cell_regrown zB21
  have kq6 := cell_regrown zB30
  have kq7 := cell_regrown zB31
  clear zB10 zB11 zB12 zB13 zB20 zB21 zB30 zB31
  refine wp_mono_tail 6 [Brings.one ?b212_0, Brings.ownE EU w3.heap.size (fun v => v) (us), Brings.one ?b213_2, Brings.ownE EU w3.heap.size (fun v => v) (us), Brings.box 29 #[.slice none 0 0], Brings.ownE EU w3.heap.size (fun v => v) (us)] (by kernel_rfl) (by kernel_rfl) ?_
  rotate_left 2
  simp only [List.take_succ_cons, List.take_zero, List.drop_succ_cons, List.drop_zero]
  refine wpL_take (k' := 1) rfl (by kernel_rfl) (fun d os => ?t214) ?_
  case t214 => (unfold bringsAt; go_simp; first | with_reducible exact take_one | exact take_one)
  try simp only [Act.put, List.setIfInBounds_toArray, List.set_cons_zero, List.set_cons_succ]
  refine wpL_ownE (k' := 2) rfl (by kernel_rfl) (fun wz hz hd => ?t215) (fun A1 c1 => ?_)
  case t215 =>
    have HZ := Lib.hid (HB1.out.trans (hz.mono HB1.out.size))
    unfold bringsAt
    go_simp
    have h9 := flist_c a d S (some sa) cs K Ak ck wz (RS.out.kept HZ.out) (RK.out.kept HZ.out) hn hm
    rw [HUF.out] at h9
    exact call_ownE hz.size h9
  try simp only [Act.put, List.setIfInBounds_toArray, List.set_cons_zero, List.set_cons_succ]
  refine wpL_take (k' := 3) rfl (by kernel_rfl) (fun d os => ?t216) ?_
  case t216 => (unfold bringsAt; go_simp; first | with_reducible exact take_one | exact take_one)
  try simp only [Act.put, List.setIfInBounds_toArray, List.set_cons_zero, List.set_cons_succ]
  refine wpL_ownE (k' := 4) rfl (by kernel_rfl) (fun wz hz hd => ?t217) (fun A3 c3 => ?_)
  case t217 =>
    have HZ := Lib.hid (HB1.out.trans (hz.mono HB1.out.size))
    unfold bringsAt
    go_simp
    have h9 := r16units_c a d S (some sa) cs K Ak ck wz (RS.out.kept HZ.out) (RK.out.kept HZ.out) hn hm
    rw [HUF.out] at h9
    exact call_ownE hz.size h9
  try simp only [Act.put, List.setIfInBounds_toArray, List.set_cons_zero, List.set_cons_succ]
  refine wpL_box (k' := 5) rfl (by kernel_rfl) (fun wz hz hd => ?t218) (fun bx => ?_)
  case t218 =>
    unfold bringsAt
    go_simp
    exact alloc_box
  try simp only [Act.put, List.setIfInBounds_toArray, List.set_cons_zero, List.set_cons_succ]
  refine wpL_ownE (k' := 6) rfl (by kernel_rfl) (fun wz hz hd => ?t219) (fun A5 c5 => ?_)
  case t219 =>
    have HZ := Lib.hid (HB1.out.trans (hz.mono HB1.out.size))
    have O1 := Lib.hid (show OwnE EU wz w3.heap.size (.slice A1 (us).length c1) (us) from hd.get 1 (by kernel_rfl))
    unfold bringsAt
    go_simp
    exact take_brings (A1, c1) rfl O1.out rfl
  try simp only [Act.put, List.setIfInBounds_toArray, List.set_cons_zero, List.set_cons_succ]
  refine wpL_nil ?_
  intro w4 hH
  have hb' := hH.below
  clear kq0 kq1 kq2 kq3 kq4 kq5 kq6 kq7
  have HB1 := Lib.hid ((HB1.out).trans (hb'.mono (HB1.out).size))
  have O1 := Lib.hid (show OwnE EU w4 w3.heap.size (.slice A1 (us).length c1) (us) from hH.facts 1)
  have O3 := Lib.hid (show OwnE EU w4 w3.heap.size (.slice A3 (us).length c3) (us) from hH.facts 3)
  have BX := Lib.hid (show Blk w4 bx 29 #[.slice none 0 0] from hH.facts 4)
  have HGBX := Lib.hid (show w3.heap.size ≤ bx from (hH.lt 4 _ rfl).1)
  have O5 := Lib.hid (show OwnE EU w4 w3.heap.size (.slice A5 (us).length c5) (us) from hH.facts 5)
  clear hH hb'
  have ff := BX.out.frozen 0
  have qq := BX.out.cells1
  go_upto_region 6 with fail
  clear ff qq
  have O3 := Lib.hid (O3.out.set_ (i := 0) BX.out (by decide) (.slice A3 us.length c3))
  have O5 := Lib.hid (O5.out.set_ (i := 0) BX.out (by decide) (.slice A3 us.length c3))
  skip
  have hbx := HGBX.out
  have HB1 := Lib.hid (HB1.out.setCell (p := ⟨bx, 0, none⟩) HGBX.out (.slice A3 us.length c3))
  have h3 : Blk (w4.setCell ⟨bx, 0, none⟩ (.slice A3 us.length c3)) bx 29 #[.slice A3 us.length c3] := BX.out.set_ 0 (.slice A3 us.length c3)
  have BX := Lib.hid h3
  clear h3 O1 hbx
  generalize w4.setCell ⟨bx, 0, none⟩ (.slice A3 us.length c3) = w5 at *
  have B1 := Lib.hid (B1.out.below HB1.out B1.out.lt)
  have B2 := Lib.hid (B2.out.below HB1.out B2.out.lt)
  have B3 := Lib.hid (B3.out.below HB1.out B3.out.lt)
  have RK := Lib.hid (RK.out.kept HB1.out)
  have RS := Lib.hid (RS.out.kept HB1.out)
  have HB := Lib.hid (HB.out.trans (HB1.out.mono HB.out.size))
  have HB1 := Lib.hid (Below.refl w5.heap.size w5)
  have eU : ((us.length : Int) != (us.length : Int)) = false := by simp
  have eV : (ev != ev) = false := by cases ev <;> rfl
  obtain ⟨zB10, zB11, zB12, zB13⟩ := (B1.out.below HB1.out B1.out.lt).cells4
  obtain ⟨zB20, zB21⟩ := (B2.out.below HB1.out B2.out.lt).cells2
  obtain ⟨zB30, zB31⟩ := (B3.out.below HB1.out B3.out.lt).cells2
  have zBX0 := (BX.out.below HB1.out BX.out.lt).cells1
  have kq0 := cell_regrown zB10
  have kq1 := cell_regrown zB11
  have kq2 := cell_regrown zB12
  have kq3 := cell_regrown zB13
  have kq4 := cell_regrown zB20
  have kq5 := cell_regrown zB21
  have kq6 := cell_regrown zB30
  have kq7 := cell_regrown zB31
  have kq8 := cell_regrown zBX0
  clear zB10 zB11 zB12 zB13 zB20 zB21 zB30 zB31 zBX0
  refine wp_mono (Brings.one ?b220_0 :: Brings.one ?b221_1 :: Brings.one ?b222_2 :: Brings.one ?b223_3 :: Brings.one ?b224_4 :: Brings.one (.bool false) :: Brings.one ?b225_6 :: Brings.one ?b226_7 :: Brings.one ?b227_8 :: Brings.one ?b228_9 :: Brings.one ?b229_10 :: Brings.one ?b230_11 :: Brings.one (.bool false) :: Brings.one ?b231_13 :: Brings.fl w5.heap.size ((a : Int)) ((d : Int)) (S) (LK) :: Brings.one ?b232_15 :: Brings.fl w5.heap.size ((a : Int)) ((d : Int)) (S) (LK) :: Brings.one ?b233_17 :: Brings.one ?b234_18 :: Brings.one ?b235_19 :: Brings.one (.bool false) :: Brings.one ?b236_21 :: Brings.one ?b237_22 :: Brings.one ?b238_23 :: Brings.one ?b239_24 :: Brings.one (.bool true) :: Brings.one ?b240_26 :: Brings.fl w5.heap.size ((a : Int)) ((d : Int)) (S) (LK) :: Brings.one ?b241_28 :: Brings.one ?b242_29 :: Brings.one ?b243_30 :: Brings.one ?b244_31 :: Brings.one ?b245_32 :: []) (by kernel_rfl) (by kernel_rfl) ?_
  rotate_left 26
  refine wpL_take (k' := 1) rfl (by kernel_rfl) (fun d os => ?t246) ?_
  case t246 => (unfold bringsAt; go_simp; first | with_reducible exact take_one | exact take_one)
  try simp only [Act.put, List.setIfInBounds_toArray, List.set_cons_zero, List.set_cons_succ]
  refine wpL_call (k' := 2) rfl (by kernel_rfl) (fun wz hz hd => ?t247) ?_
  case t247 =>
    have HZ := Lib.hid (HB1.out.trans (hz.mono HB1.out.size))
    unfold bringsAt
    go_simp
    have h9 := fright_c a d S (some sa) cs K Ak ck wz (RS.out.kept HZ.out) (RK.out.kept HZ.out) hn hm
    rw [HO.out] at h9
    refine call_one_as h9 ?_
    rfl
  try simp only [Act.put, List.setIfInBounds_toArray, List.set_cons_zero, List.set_cons_succ]
  refine wpL_take (k' := 3) rfl (by kernel_rfl) (fun d os => ?t248) ?_
  case t248 => (unfold bringsAt; go_simp; first | with_reducible exact take_one | exact take_one)
  try simp only [Act.put, List.setIfInBounds_toArray, List.set_cons_zero, List.set_cons_succ]
  refine wpL_call (k' := 4) rfl (by kernel_rfl) (fun wz hz hd => ?t249) ?_
  case t249 =>
    have HZ := Lib.hid (HB1.out.trans (hz.mono HB1.out.size))
    unfold bringsAt
    go_simp
    have h9 := r16right_c a d S (some sa) cs K Ak ck wz (RS.out.kept HZ.out) (RK.out.kept HZ.out) hn hm
    rw [HO.out] at h9
    refine call_one_as h9 ?_
    rfl
  try simp only [Act.put, List.setIfInBounds_toArray, List.set_cons_zero, List.set_cons_succ]
  refine wpL_take (k' := 5) rfl (by kernel_rfl) (fun d os => ?t250) ?_
  case t250 => (unfold bringsAt; go_simp; first | with_reducible exact take_one | exact take_one)
  try simp only [Act.put, List.setIfInBounds_toArray, List.set_cons_zero, List.set_cons_succ]
  refine wpL_take (k' := 6) rfl (by kernel_rfl) (fun d os => ?t251) ?_
  case t251 => (unfold bringsAt; go_simp; first | with_reducible exact take_one | exact take_one)
  try simp only [Act.put, List.setIfInBounds_toArray, List.set_cons_zero, List.set_cons_succ]
  refine wpL_take (k' := 7) rfl (by kernel_rfl) (fun d os => ?t252) ?_
  case t252 => (unfold bringsAt; go_simp; first | with_reducible exact take_one | exact take_one)
  try simp only [Act.put, List.setIfInBounds_toArray, List.set_cons_zero, List.set_cons_succ]
  refine wpL_take (k' := 8) rfl (by kernel_rfl) (fun d os => ?t253) ?_
  case t253 => (unfold bringsAt; go_simp; first | with_reducible exact take_one | exact take_one)
  try simp only [Act.put, List.setIfInBounds_toArray, List.set_cons_zero, List.set_cons_succ]
  refine wpL_take (k' := 9) rfl (by kernel_rfl) (fun d os => ?t254) ?_
  case t254 => (unfold bringsAt; go_simp; first | with_reducible exact take_one | exact take_one)
  try simp only [Act.put, List.setIfInBounds_toArray, List.set_cons_zero, List.set_cons_succ]
  refine wpL_take (k' := 10) rfl (by kernel_rfl) (fun d os => ?t255) ?_
  case t255 => (unfold bringsAt; go_simp; first | with_reducible exact take_one | exact take_one)
  try simp only [Act.put, List.setIfInBounds_toArray, List.set_cons_zero, List.set_cons_succ]
  refine wpL_take (k' := 11) rfl (by kernel_rfl) (fun d os => ?t256) ?_
  case t256 => (unfold bringsAt; go_simp; first | with_reducible exact take_one | exact take_one)
  try simp only [Act.put, List.setIfInBounds_toArray, List.set_cons_zero, List.set_cons_succ]
  refine wpL_take (k' := 12) rfl (by kernel_rfl) (fun d os => ?t257) ?_
  case t257 => (unfold bringsAt; go_simp; first | with_reducible exact take_one | exact take_one)
  try simp only [Act.put, List.setIfInBounds_toArray, List.set_cons_zero, List.set_cons_succ]
  refine wpL_take (k' := 13) rfl (by kernel_rfl) (fun d os => ?t258) ?_
  case t258 => (unfold bringsAt; go_simp; first | with_reducible exact take_one | exact take_one)
  try simp only [Act.put, List.setIfInBounds_toArray, List.set_cons_zero, List.set_cons_succ]
  refine wpL_take (k' := 14) rfl (by kernel_rfl) (fun d os => ?t259) ?_
  case t259 => (unfold bringsAt; go_simp; first | with_reducible exact take_one | exact take_one)
  try simp only [Act.put, List.setIfInBounds_toArray, List.set_cons_zero, List.set_cons_succ]
  refine wpL_fl (k' := 15) rfl (by kernel_rfl) (fun wz hz hd => ?t260) (fun A6 c6 A7 c7 => ?_)
  case t260 =>
    have HZ := Lib.hid (HB1.out.trans (hz.mono HB1.out.size))
    unfold bringsAt
    go_simp
    have h9 := flevel_c a d S (some sa) cs K Ak ck wz (RS.out.kept HZ.out) (RK.out.kept HZ.out) hn hm
    rw [HLV.out] at h9
    exact call_fl hz.size h9
  try simp only [Act.put, List.setIfInBounds_toArray, List.set_cons_zero, List.set_cons_succ]
  refine wpL_take (k' := 16) rfl (by kernel_rfl) (fun d os => ?t261) ?_
  case t261 => (unfold bringsAt; go_simp; first | with_reducible exact take_one | exact take_one)
  try simp only [Act.put, List.setIfInBounds_toArray, List.set_cons_zero, List.set_cons_succ]
  refine wpL_fl (k' := 17) rfl (by kernel_rfl) (fun wz hz hd => ?t262) (fun A8 c8 A9 c9 => ?_)
  case t262 =>
    have HZ := Lib.hid (HB1.out.trans (hz.mono HB1.out.size))
    unfold bringsAt
    go_simp
    have h9 := r16level_c a d S (some sa) cs K Ak ck wz (RS.out.kept HZ.out) (RK.out.kept HZ.out) hn hm
    rw [HLV.out] at h9
    exact call_fl hz.size h9
  try simp only [Act.put, List.setIfInBounds_toArray, List.set_cons_zero, List.set_cons_succ]
  refine wpL_call (k' := 18) rfl (by kernel_rfl) (fun wz hz hd => ?t263) ?_
  case t263 =>
    have HZ := Lib.hid (HB1.out.trans (hz.mono HB1.out.size))
    have G14 := Lib.hid (show OwnI wz w5.heap.size (.slice A6 (S).length c6) (S) ∧ OwnE EK wz w5.heap.size (.slice A7 (LK).length c7) (LK) from hd.get 14 (by kernel_rfl))
    have G16 := Lib.hid (show OwnI wz w5.heap.size (.slice A8 (S).length c8) (S) ∧ OwnE EK wz w5.heap.size (.slice A9 (LK).length c9) (LK) from hd.get 16 (by kernel_rfl))
    unfold bringsAt
    go_simp
    have h9 := r16same_y (a : Int) (d : Int) S A6 A8 c6 c8 LK LK A7 A9 c7 c9 wz G14.out.1.reads G16.out.1.reads G14.out.2.reads G16.out.2.reads hn hm2 rfl rfl
    refine call_one_as h9 ?_
    rfl
  try simp only [Act.put, List.setIfInBounds_toArray, List.set_cons_zero, List.set_cons_succ]
  refine wpL_take (k' := 19) rfl (by kernel_rfl) (fun d os => ?t264) ?_
  case t264 => (unfold bringsAt; go_simp; first | with_reducible exact take_one | exact take_one)
  try simp only [Act.put, List.setIfInBounds_toArray, List.set_cons_zero, List.set_cons_succ]
  refine wpL_take (k' := 20) rfl (by kernel_rfl) (fun d os => ?t265) ?_
  case t265 => (unfold bringsAt; go_simp; first | with_reducible exact take_one | exact take_one)
  try simp only [Act.put, List.setIfInBounds_toArray, List.set_cons_zero, List.set_cons_succ]
  refine wpL_take (k' := 21) rfl (by kernel_rfl) (fun d os => ?t266) ?_
  case t266 => (unfold bringsAt; go_simp; first | with_reducible exact take_one | exact take_one)
  try simp only [Act.put, List.setIfInBounds_toArray, List.set_cons_zero, List.set_cons_succ]
  refine wpL_take (k' := 22) rfl (by kernel_rfl) (fun d os => ?t267) ?_
  case t267 => (unfold bringsAt; go_simp; first | with_reducible exact take_one | exact take_one)
  try simp only [Act.put, List.setIfInBounds_toArray, List.set_cons_zero, List.set_cons_succ]
  refine wpL_call (k' := 23) rfl (by kernel_rfl) (fun wz hz hd => ?t268) ?_
  case t268 =>
    have HZ := Lib.hid (HB1.out.trans (hz.mono HB1.out.size))
    unfold bringsAt
    go_simp
    have h9 := feven_c a d S (some sa) cs K Ak ck wz (RS.out.kept HZ.out) (RK.out.kept HZ.out) hn hm
    rw [HEV.out] at h9
    refine call_one_as h9 ?_
    rfl
  try simp only [Act.put, List.setIfInBounds_toArray, List.set_cons_zero, List.set_cons_succ]
  refine wpL_take (k' := 24) rfl (by kernel_rfl) (fun d os => ?t269) ?_
  case t269 => (unfold bringsAt; go_simp; first | with_reducible exact take_one | exact take_one)
  try simp only [Act.put, List.setIfInBounds_toArray, List.set_cons_zero, List.set_cons_succ]
  refine wpL_call (k' := 25) rfl (by kernel_rfl) (fun wz hz hd => ?t270) ?_
  case t270 =>
    have HZ := Lib.hid (HB1.out.trans (hz.mono HB1.out.size))
    unfold bringsAt
    go_simp
    have h9 := r16right_c a d S (some sa) cs K Ak ck wz (RS.out.kept HZ.out) (RK.out.kept HZ.out) hn hm
    rw [HO.out] at h9
    refine call_one_as h9 ?_
    rfl
  try simp only [Act.put, List.setIfInBounds_toArray, List.set_cons_zero, List.set_cons_succ]
  refine wpL_take (k' := 26) rfl (by kernel_rfl) (fun d os => ?t271) ?_
  case t271 => (unfold bringsAt; go_simp; first | with_reducible exact take_one | exact take_one)
  try simp only [Act.put, List.setIfInBounds_toArray, List.set_cons_zero, List.set_cons_succ]
  refine wpL_take (k' := 27) rfl (by kernel_rfl) (fun d os => ?t272) ?_
  case t272 => (unfold bringsAt; go_simp; first | with_reducible exact take_one | exact take_one)
  try simp only [Act.put, List.setIfInBounds_toArray, List.set_cons_zero, List.set_cons_succ]
  refine wpL_fl (k' := 28) rfl (by kernel_rfl) (fun wz hz hd => ?t273) (fun A10 c10 A11 c11 => ?_)
  case t273 =>
    have HZ := Lib.hid (HB1.out.trans (hz.mono HB1.out.size))
    unfold bringsAt
    go_simp
    have h9 := r16level_c a d S (some sa) cs K Ak ck wz (RS.out.kept HZ.out) (RK.out.kept HZ.out) hn hm
    rw [HLV.out] at h9
    exact call_fl hz.size h9
  try simp only [Act.put, List.setIfInBounds_toArray, List.set_cons_zero, List.set_cons_succ]
  refine wpL_take (k' := 29) rfl (by kernel_rfl) (fun d os => ?t274) ?_
  case t274 => (unfold bringsAt; go_simp; first | with_reducible exact take_one | exact take_one)
  try simp only [Act.put, List.setIfInBounds_toArray, List.set_cons_zero, List.set_cons_succ]
  refine wpL_call (k' := 30) rfl (by kernel_rfl) (fun wz hz hd => ?t275) ?_
  case t275 =>
    have HZ := Lib.hid (HB1.out.trans (hz.mono HB1.out.size))
    have G27 := Lib.hid (show OwnI wz w5.heap.size (.slice A10 (S).length c10) (S) ∧ OwnE EK wz w5.heap.size (.slice A11 (LK).length c11) (LK) from hd.get 27 (by kernel_rfl))
    unfold bringsAt
    go_simp
    have h9 := r16same_c a d S A10 (some sa) c10 cs LK K A11 Ak c11 ck wz G27.out.1.reads (RS.out.kept HZ.out) G27.out.2.reads (RK.out.kept HZ.out) hn hm2 HLL.out
    rw [HDE.out] at h9
    refine call_one_as h9 ?_
    rfl
  try simp only [Act.put, List.setIfInBounds_toArray, List.set_cons_zero, List.set_cons_succ]
  refine wpL_take (k' := 31) rfl (by kernel_rfl) (fun d os => ?t276) ?_
  case t276 => (unfold bringsAt; go_simp; first | with_reducible exact take_one | exact take_one)
  try simp only [Act.put, List.setIfInBounds_toArray, List.set_cons_zero, List.set_cons_succ]
  refine wpL_take (k' := 32) rfl (by kernel_rfl) (fun d os => ?t277) ?_
  case t277 => (unfold bringsAt; go_simp; first | with_reducible exact take_one | exact take_one)
  try simp only [Act.put, List.setIfInBounds_toArray, List.set_cons_zero, List.set_cons_succ]
  refine wpL_take (k' := 33) rfl (by kernel_rfl) (fun d os => ?t278) ?_
  case t278 => (unfold bringsAt; go_simp; first | with_reducible exact take_one | exact take_one)
  try simp only [Act.put, List.setIfInBounds_toArray, List.set_cons_zero, List.set_cons_succ]
  refine wpL_nil ?_
  intro w6 hH
  have hb' := hH.below
  clear kq0 kq1 kq2 kq3 kq4 kq5 kq6 kq7 kq8
  have HB1 := Lib.hid ((HB1.out).trans (hb'.mono (HB1.out).size))
  have G14 := Lib.hid (show OwnI w6 w5.heap.size (.slice A6 (S).length c6) (S) ∧ OwnE EK w6 w5.heap.size (.slice A7 (LK).length c7) (LK) from hH.facts 14)
  have G14S := Lib.hid G14.out.1
  have G14K := Lib.hid G14.out.2
  clear G14
  have G16 := Lib.hid (show OwnI w6 w5.heap.size (.slice A8 (S).length c8) (S) ∧ OwnE EK w6 w5.heap.size (.slice A9 (LK).length c9) (LK) from hH.facts 16)
  have G16S := Lib.hid G16.out.1
  have G16K := Lib.hid G16.out.2
  clear G16
  have G27 := Lib.hid (show OwnI w6 w5.heap.size (.slice A10 (S).length c10) (S) ∧ OwnE EK w6 w5.heap.size (.slice A11 (LK).length c11) (LK) from hH.facts 27)
  have G27S := Lib.hid G27.out.1
  have G27K := Lib.hid G27.out.2
  clear G27
  clear hH hb'
  clear G14S G14K G16S G16K G27S G27K
  obtain ⟨zB10, zB11, zB12, zB13⟩ := (B1.out.below HB1.out B1.out.lt).cells4
  obtain ⟨zB20, zB21⟩ := (B2.out.below HB1.out B2.out.lt).cells2
  obtain ⟨zB30, zB31⟩ := (B3.out.below HB1.out B3.out.lt).cells2
  have zBX0 := (BX.out.below HB1.out BX.out.lt).cells1
  go_upto_region 9 with fail
  clear zB10 zB11 zB12 zB13
  clear zB20 zB21
  clear zB30 zB31
  clear zBX0
  clear eU eV
  have B1 := Lib.hid (B1.out.below HB1.out B1.out.lt)
  have B2 := Lib.hid (B2.out.below HB1.out B2.out.lt)
  have B3 := Lib.hid (B3.out.below HB1.out B3.out.lt)
  have BX := Lib.hid (BX.out.below HB1.out BX.out.lt)
  have O3 := Lib.hid (O3.out.kept HB1.out)
  have O5 := Lib.hid (O5.out.kept HB1.out)
  have RK := Lib.hid (RK.out.kept HB1.out)
  have RS := Lib.hid (RS.out.kept HB1.out)
  have HB := Lib.hid (HB.out.trans (HB1.out.mono HB.out.size))
  have HB1 := Lib.hid (Below.refl w6.heap.size w6)
  go_loopw [60] (fun v wr => ∃ k : Nat, k ≤ us.length ∧ v = .int .i64 k ∧ Below w6.heap.size w6 wr) (fun v _ => us.length - (intOf v).toNat)
  case atStart => exact ⟨0, Nat.zero_le _, rfl, HB1.out⟩
  case round =>
    clear HB1
    obtain ⟨k, hk, rfl, hb⟩ := hrel
    have HB1 := Lib.hid hb
    obtain ⟨wo, ewo⟩ : ∃ wo, wo = wr := ⟨_, rfl⟩
    subst ewo
    clear hb
    by_cases hkl : k < us.length
    · skip
      obtain ⟨ad3, eA3, l3, y0, y1, y2⟩ := ReadsE.un (O3.out.kept HB1.out).reads hkl
      obtain ⟨ad5, eA5, l5, z0, z1, z2⟩ := ReadsE.un (O5.out.kept HB1.out).reads hkl
      subst eA3
      subst eA5
      obtain ⟨u, hu⟩ : ∃ u, u = us[k] := ⟨_, rfl⟩
      rw [← hu] at y0 y1 y2 z0 z1 z2
      clear hu l3 l5
      have i1 : (0 : Int) ≤ (k : Int) := by omega
      have i2 : (k : Int) < (us.length : Int) := by omega
      have zBX0 := (BX.out.below HB1.out BX.out.lt).cells1
      go_upto_region 11 with fail
      have kq0 := cell_regrown zBX0
      have kq1 := cell_regrown y0
      have kq2 := cell_regrown y1
      have kq3 := cell_regrown y2
      have kq4 := cell_regrown z0
      have kq5 := cell_regrown z1
      have kq6 := cell_regrown z2
      clear zBX0 y0 y1 y2 z0 z1 z2
      refine wp_region_quiet_below (by kernel_rfl) (by kernel_rfl) ?_
      repeat (go_big_quiet_step (fail))
      refine wpQuiet_nil ?_
      intro _ hw'
      obtain ⟨⟨dq, osq⟩, hw''⟩ := hw'
      subst hw''
      have hb' := below_regrown wo dq osq
      clear kq0 kq1 kq2 kq3 kq4 kq5 kq6
      have HB1 := Lib.hid ((HB1.out).trans (hb'.mono (HB1.out).size))
      clear hb'
      generalize grow (redrawn wo dq) osq = w7 at *
      go_wp2_with fail
      go_roundw
      case rel => exact ⟨k + 1, by omega, by go_num, HB1.out⟩
      case measure => simp [intOf]; omega
    · skip
      have hkn : ¬ ((k : Int) < (us.length : Int)) := by omega
      obtain ⟨zB10, zB11, zB12, zB13⟩ := (B1.out.below HB1.out B1.out.lt).cells4
      obtain ⟨zB20, zB21⟩ := (B2.out.below HB1.out B2.out.lt).cells2
      obtain ⟨zB30, zB31⟩ := (B3.out.below HB1.out B3.out.lt).cells2
      go_wp2_with fail
      clear zB10 zB11 zB12 zB13
      clear zB20 zB21
      clear zB30 zB31
      clear hkn hk hkl
      have h9 := fat_c a d S (some sa) cs K Ak ck t0 t1 wo (RS.out.kept HB1.out) (RK.out.kept HB1.out) hn hm
      rw [HQ.out, HTB.out] at h9
      refine (h9).mono ?_
      rintro e w8 ⟨rfl, hb'⟩
      have HB1 := Lib.hid ((HB1.out).trans (hb'.mono (HB1.out).size))
      clear hb'
      clear h9
      go_upto_region 15 with fail
      have HB1 := Lib.hid (below_alloc_ (HB1.out) (.cells #[.int .i64 q.m, .bool q.g, .int .i64 q.x0, .int .i64 q.y0, .int .i64 q.x1, .int .i64 q.y1, .int .i64 q.d0, .int .i64 q.d1, .int .i64 q.d2] 40))
      have hzw : (w8.alloc (.cells #[.int .i64 q.m, .bool q.g, .int .i64 q.x0, .int .i64 q.y0, .int .i64 q.x1, .int .i64 q.y1, .int .i64 q.d0, .int .i64 q.d1, .int .i64 q.d2] 40)).heap.size = w8.heap.size + 1 := by simp only [World.size_alloc]
      have B10 := Blk.new (w8) 40 #[.int .i64 q.m, .bool q.g, .int .i64 q.x0, .int .i64 q.y0, .int .i64 q.x1, .int .i64 q.y1, .int .i64 q.d0, .int .i64 q.d1, .int .i64 q.d2]
      skip
      have B10 := Lib.hid B10
      generalize w8.alloc (.cells #[.int .i64 q.m, .bool q.g, .int .i64 q.x0, .int .i64 q.y0, .int .i64 q.x1, .int .i64 q.y1, .int .i64 q.d0, .int .i64 q.d1, .int .i64 q.d2] 40) = w9 at *
      clear hzw
      obtain ⟨zB10, zB11, zB12, zB13⟩ := (B1.out.below HB1.out B1.out.lt).cells4
      obtain ⟨zB20, zB21⟩ := (B2.out.below HB1.out B2.out.lt).cells2
      obtain ⟨zB30, zB31⟩ := (B3.out.below HB1.out B3.out.lt).cells2
      go_wp2_with fail
      clear zB10 zB11 zB12 zB13
      clear zB20 zB21
      clear zB30 zB31
      have h9 := r16at_c a d S (some sa) cs K Ak ck t0 t1 w9 (RS.out.kept HB1.out) (RK.out.kept HB1.out) hn hm
      rw [HQ.out, HTB.out] at h9
      refine (h9).mono ?_
      rintro e w10 ⟨rfl, hb'⟩
      have HB1 := Lib.hid ((HB1.out).trans (hb'.mono (HB1.out).size))
      have B10 := Lib.hid ((B10.out).below hb' (B10.out).lt)
      clear hb'
      clear h9
      go_upto_region 16 with fail
      have HB1 := Lib.hid (below_alloc_ (HB1.out) (.cells #[.int .i64 q.m, .bool q.g, .int .i64 q.x0, .int .i64 q.y0, .int .i64 q.x1, .int .i64 q.y1, .int .i64 q.d0, .int .i64 q.d1, .int .i64 q.d2] 40))
      have B10 := Lib.hid ((B10.out).alloc (.cells #[.int .i64 q.m, .bool q.g, .int .i64 q.x0, .int .i64 q.y0, .int .i64 q.x1, .int .i64 q.y1, .int .i64 q.d0, .int .i64 q.d1, .int .i64 q.d2] 40))
      have hzw : (w10.alloc (.cells #[.int .i64 q.m, .bool q.g, .int .i64 q.x0, .int .i64 q.y0, .int .i64 q.x1, .int .i64 q.y1, .int .i64 q.d0, .int .i64 q.d1, .int .i64 q.d2] 40)).heap.size = w10.heap.size + 1 := by simp only [World.size_alloc]
      have B12 := Blk.new (w10) 40 #[.int .i64 q.m, .bool q.g, .int .i64 q.x0, .int .i64 q.y0, .int .i64 q.x1, .int .i64 q.y1, .int .i64 q.d0, .int .i64 q.d1, .int .i64 q.d2]
      skip
      have B12 := Lib.hid B12
      generalize w10.alloc (.cells #[.int .i64 q.m, .bool q.g, .int .i64 q.x0, .int .i64 q.y0, .int .i64 q.x1, .int .i64 q.y1, .int .i64 q.d0, .int .i64 q.d1, .int .i64 q.d2] 40) = w11 at *
      clear hzw
      have B1 := Lib.hid (B1.out.below HB1.out B1.out.lt)
      have B2 := Lib.hid (B2.out.below HB1.out B2.out.lt)
      have B3 := Lib.hid (B3.out.below HB1.out B3.out.lt)
      have BX := Lib.hid (BX.out.below HB1.out BX.out.lt)
      have O3 := Lib.hid (O3.out.kept HB1.out)
      have O5 := Lib.hid (O5.out.kept HB1.out)
      have RK := Lib.hid (RK.out.kept HB1.out)
      have RS := Lib.hid (RS.out.kept HB1.out)
      have HB := Lib.hid (HB.out.trans (HB1.out.mono HB.out.size))
      have HB1 := Lib.hid (Below.refl w11.heap.size w11)
      go_upto_region 17 with fail
      have HB1 := Lib.hid (below_alloc_ (below_alloc_ (below_alloc_ (HB1.out) (.cells #[.int .i64 0] 3)) (.cells #[.bool true] 4)) (.cells #[.int .i64 0] 3))
      have hzw : (((w11.alloc (.cells #[.int .i64 0] 3)).alloc (.cells #[.bool true] 4)).alloc (.cells #[.int .i64 0] 3)).heap.size = w11.heap.size + 3 := by simp only [World.size_alloc]
      have BN := ((Blk.new (w11) 3 #[.int .i64 0]).alloc (.cells #[.bool true] 4)).alloc (.cells #[.int .i64 0] 3)
      skip
      have BN := Lib.hid BN
      have BG := (Blk.new (w11.alloc (.cells #[.int .i64 0] 3)) 4 #[.bool true]).alloc (.cells #[.int .i64 0] 3)
      rw [show (w11.alloc (.cells #[.int .i64 0] 3)).heap.size = w11.heap.size + 1 by simp only [World.size_alloc]] at BG
      have BG := Lib.hid BG
      have BL := Blk.new ((w11.alloc (.cells #[.int .i64 0] 3)).alloc (.cells #[.bool true] 4)) 3 #[.int .i64 0]
      rw [show ((w11.alloc (.cells #[.int .i64 0] 3)).alloc (.cells #[.bool true] 4)).heap.size = w11.heap.size + 1 + 1 by simp only [World.size_alloc]] at BL
      have BL := Lib.hid BL
      generalize ((w11.alloc (.cells #[.int .i64 0] 3)).alloc (.cells #[.bool true] 4)).alloc (.cells #[.int .i64 0] 3) = w12 at *
      obtain ⟨gn, hgn⟩ : ∃ n, n = w11.heap.size := ⟨_, rfl⟩
      rw [← hgn] at BN BG BL hzw ⊢
      have HGN := Lib.hid hgn
      have HZ1 := Lib.hid hzw
      clear hgn hzw
      obtain ⟨zB10, zB11, zB12, zB13⟩ := (B1.out.below HB1.out B1.out.lt).cells4
      go_wp2_with fail
      refine (funits_c _ _ _ _ _).mono ?_
      rintro e wq ⟨rfl, rfl⟩
      clear zB10 zB11 zB12 zB13
      have HB1 := Lib.hid (below_alloc_ (HB1.out) (.cells #[.int .i64 a, .int .i64 d, .slice (some sa) S.length cs, .slice Ak K.length ck] 25))
      have BN := Lib.hid ((BN.out).alloc (.cells #[.int .i64 a, .int .i64 d, .slice (some sa) S.length cs, .slice Ak K.length ck] 25))
      have BG := Lib.hid ((BG.out).alloc (.cells #[.int .i64 a, .int .i64 d, .slice (some sa) S.length cs, .slice Ak K.length ck] 25))
      have BL := Lib.hid ((BL.out).alloc (.cells #[.int .i64 a, .int .i64 d, .slice (some sa) S.length cs, .slice Ak K.length ck] 25))
      have hzw : (w12.alloc (.cells #[.int .i64 a, .int .i64 d, .slice (some sa) S.length cs, .slice Ak K.length ck] 25)).heap.size = w12.heap.size + 1 := by simp only [World.size_alloc]
      have BQ := Blk.new (w12) 25 #[.int .i64 a, .int .i64 d, .slice (some sa) S.length cs, .slice Ak K.length ck]
      skip
      have BQ := Lib.hid BQ
      generalize w12.alloc (.cells #[.int .i64 a, .int .i64 d, .slice (some sa) S.length cs, .slice Ak K.length ck] 25) = w13 at *
      obtain ⟨bq, hbq⟩ : ∃ n, n = w12.heap.size := ⟨_, rfl⟩
      rw [← hbq] at BQ hzw ⊢
      have HBQ := Lib.hid hbq
      have HZ2 := Lib.hid hzw
      clear hbq hzw
      go_wp2_with fail
      have q1 := HGN.out
      have HSW := Lib.hid (Nat.lt_of_lt_of_le HSB.out (Nat.le_trans HB.out.size (Nat.le_of_eq HGN.out.symm)))
      have q2 := HZ1.out
      have q3 := HBQ.out
      have q4 := HZ2.out
      refine ((funitsF_yes a d S sa cs K Ak ck bq 21 #[.pointer (some ⟨gn + 1, 0, none⟩), .pointer (some ⟨gn, 0, none⟩), .pointer (some ⟨bx, 0, none⟩), .pointer (some ⟨gn + 1 + 1, 0, none⟩), .pointer (some ⟨w.heap.size, 0, none⟩), .pointer (some ⟨w.heap.size + 1 + 1, 0, none⟩)] (fun _ _ => rfl) w13 HO.out BQ.out (RS.out.kept HB1.out) (RK.out.kept HB1.out)) (fun (k : Nat) (W : World) => Blk W gn 3 #[.int .i64 k] ∧ Blk W (gn + 1) 4 #[.bool true] ∧ Blk W (gn + 1 + 1) 3 #[.int .i64 (lastI a S k)] ∧ Below w11.heap.size w11 W) (fun W => ∃ k : Nat, 1 ≤ k ∧ k ≤ (cntU S S.length) ∧ (k : Int) = s0 ∧ Blk W gn 3 #[.int .i64 k] ∧ Blk W (gn + 1) 4 #[.bool true] ∧ Below w11.heap.size w11 W) w13 (Below.refl _ _) ?hY ?hR ⟨BN.out, BG.out, BL.out, HB1.out⟩).mono ?_
      case hY => exact fun k A B ⟨a1, a2, a3, a4⟩ hb => ⟨a1.below hb a1.lt, a2.below hb a2.lt, a3.below hb a3.lt, a4.trans (hb.mono a4.size)⟩
      case hR =>
        intro k args W1 hk hJ hK hz hE
        obtain ⟨j1, j2, j3, j4⟩ := hJ
        obtain ⟨⟨pi, pu⟩, hp, rfl⟩ := hE
        obtain ⟨ux, uy, s, eu, ei, b1, b2⟩ := un_sq a1 HL.out HS1.out hp
        dsimp only at eu ei ⊢
        subst eu
        rw [HCN.out] at hk
        have hun : us[k]'hk = ⟨(ux : Int), (uy : Int), (s : Int)⟩ := by have h := unsL_get hp; rw [← HUS.out] at h; exact (List.getElem?_eq_some_iff.1 h).2
        have hle := lastI_le hp
        have hln := lastI_next hp
        dsimp only at hle hln
        obtain ⟨ad, eA, _⟩ := O3.out.reads.2 HN0.out
        subst eA
        have hb3 := O3.out.reads.kept j4
        have X1 := BX.out.below j4 BX.out.lt
        have X2 := B1.out.below j4 B1.out.lt
        have X3 := B3.out.below j4 B3.out.lt
        refine (tells1_c gn (gn + 1) (gn + 1 + 1) bx w.heap.size (w.heap.size + 1 + 1) k us.length pi ux uy s (lastI a S k) a _ _ _ ad us c3 s0 s1 W1 j1 j2 j3 X1 X2 X3 (by omega) hb3 rfl hk hul hun hle ei a2 (by omega) (by omega)).mono ?_
        rintro e W2 ⟨rfl, m1, m2, m3, mq⟩
        have hk1 := j1.lt
        have hk3 := j3.lt
        have hKK : KeepB (fun i => i = bq ∨ i = sa.block) W1 W2 := mq.keep (fun i hi => by have := HSB.out; have := HSW.out; rcases hi with hi | hi <;> exact ⟨by omega, by omega⟩)
        have hbb := mq.below j4 j4.size (fun i hi => by rcases hi with hi | hi | hi <;> omega)
        rw [← hln] at m3
        by_cases hs : ((k : Int) + 1) = s0
        · exact .inr ⟨by simp [hs], k + 1, by omega, by rw [HCN.out]; exact hk, by push_cast; exact hs, by push_cast; exact m1, m2, hbb⟩
        · exact .inl ⟨by simp [hs], ⟨by push_cast; exact m1, m2, m3, hbb⟩, hKK⟩
      rintro e w14 ⟨⟨v, rfl⟩, hj⟩
      obtain ⟨k, hk0, hk1, j1, j2, j4⟩ : ∃ k : Nat, k ≤ us.length ∧ (k = us.length ∨ (1 ≤ k ∧ (k : Int) = s0)) ∧ Blk w14 gn 3 #[.int .i64 k] ∧ Blk w14 (gn + 1) 4 #[.bool true] ∧ Below w11.heap.size w11 w14 := by
        rcases hj with ⟨b1, b2, _, b4⟩ | ⟨k, b0, b1, b2, b3, b4, b5⟩
        · exact ⟨us.length, Nat.le_refl _, .inl rfl, by rw [← HCN.out]; exact b1, b2, b4⟩
        · exact ⟨k, by rw [← HCN.out]; exact b1, .inr ⟨b0, b2⟩, b3, b4, b5⟩
      clear HB1 BN BG BL BQ hj q1 q2 q3 q4
      have BN := Lib.hid j1
      have BG := Lib.hid j2
      have HB1 := Lib.hid j4
      clear j1 j2 j4
      have heq := fun w => eq_bk q q w
      rw [show decide (q = q) = true by simp] at heq
      have etb : (tb == tb) = true := by cases tb <;> rfl
      by_cases hkN : k = us.length
      · skip
        have e1 : ((k : Int) == (us.length : Int)) = true := by rw [hkN]; simp
        clear hk0 hk1 hkN
        go_wp2_with fail
        obtain ⟨zB100, zB101, zB102, zB103, zB104, zB105, zB106, zB107, zB108⟩ := (B10.out.below HB1.out B10.out.lt).cells9
        obtain ⟨zB120, zB121, zB122, zB123, zB124, zB125, zB126, zB127, zB128⟩ := (B12.out.below HB1.out B12.out.lt).cells9
        have zBN0 := (BN.out).cells1
        have zBG0 := (BG.out).cells1
        have zBX0 := (BX.out.below HB1.out BX.out.lt).cells1
        obtain ⟨zB30, zB31⟩ := (B3.out.below HB1.out B3.out.lt).cells2
        have kq0 := cell_regrown zB100
        have kq1 := cell_regrown zB101
        have kq2 := cell_regrown zB102
        have kq3 := cell_regrown zB103
        have kq4 := cell_regrown zB104
        have kq5 := cell_regrown zB105
        have kq6 := cell_regrown zB106
        have kq7 := cell_regrown zB107
        have kq8 := cell_regrown zB108
        have kq9 := cell_regrown zB120
        have kq10 := cell_regrown zB121
        have kq11 := cell_regrown zB122
        have kq12 := cell_regrown zB123
        have kq13 := cell_regrown zB124
        have kq14 := cell_regrown zB125
        have kq15 := cell_regrown zB126
        have kq16 := cell_regrown zB127
        have kq17 := cell_regrown zB128
        have kq18 := cell_regrown zBN0
        have kq19 := cell_regrown zBG0
        have kq20 := cell_regrown zBX0
        have kq21 := cell_regrown zB30
        have kq22 := cell_regrown zB31
        clear zB100 zB101 zB102 zB103 zB104 zB105 zB106 zB107 zB108 zB120 zB121 zB122 zB123 zB124 zB125 zB126 zB127 zB128 zBN0 zBG0 zBX0 zB30 zB31
        refine wp_mono (Brings.one ?b279_0 :: Brings.one ?b280_1 :: Brings.one ?b281_2 :: Brings.one (.bool true) :: Brings.one ?b282_4 :: Brings.one ?b283_5 :: Brings.one ?b284_6 :: Brings.one ?b285_7 :: Brings.one (.bool true) :: Brings.one ?b286_9 :: Brings.one ?b287_10 :: Brings.one (.bool true) :: Brings.one ?b288_12 :: Brings.one ?b289_13 :: Brings.one ?b290_14 :: Brings.one ?b291_15 :: Brings.one (.bool true) :: Brings.one undef :: Brings.one undef :: Brings.one undef :: Brings.one undef :: Brings.one undef :: Brings.one undef :: Brings.one undef :: Brings.one undef :: Brings.one undef :: Brings.one undef :: Brings.one ?b292_27 :: Brings.one ?b293_28 :: Brings.one (.bool true) :: Brings.one ?b294_30 :: Brings.one ?b295_31 :: Brings.one ?b296_32 :: Brings.one ?b297_33 :: Brings.fl w14.heap.size (na) (nd) (nS) (nK) :: Brings.one ?b298_35 :: Brings.one ?b299_36 :: Brings.one ?b300_37 :: Brings.one ?b301_38 :: Brings.fl w14.heap.size (na) (nd) (nS) (nK) :: Brings.one ?b302_40 :: Brings.one ?b303_41 :: Brings.one ?b304_42 :: []) (by kernel_rfl) (by kernel_rfl) ?_
        rotate_left 26
        refine wpL_take (k' := 1) rfl (by kernel_rfl) (fun d os => ?t305) ?_
        case t305 => (unfold bringsAt; go_simp; first | with_reducible exact take_one | exact take_one)
        try simp only [Act.put, List.setIfInBounds_toArray, List.set_cons_zero, List.set_cons_succ]
        refine wpL_take (k' := 2) rfl (by kernel_rfl) (fun d os => ?t306) ?_
        case t306 => (unfold bringsAt; go_simp; first | with_reducible exact take_one | exact take_one)
        try simp only [Act.put, List.setIfInBounds_toArray, List.set_cons_zero, List.set_cons_succ]
        refine wpL_take (k' := 3) rfl (by kernel_rfl) (fun d os => ?t307) ?_
        case t307 => (unfold bringsAt; go_simp; first | with_reducible exact take_one | exact take_one)
        try simp only [Act.put, List.setIfInBounds_toArray, List.set_cons_zero, List.set_cons_succ]
        refine wpL_take (k' := 4) rfl (by kernel_rfl) (fun d os => ?t308) ?_
        case t308 => (unfold bringsAt; go_simp; first | with_reducible exact take_one | exact take_one)
        try simp only [Act.put, List.setIfInBounds_toArray, List.set_cons_zero, List.set_cons_succ]
        refine wpL_take (k' := 5) rfl (by kernel_rfl) (fun d os => ?t309) ?_
        case t309 => (unfold bringsAt; go_simp; first | with_reducible exact take_one | exact take_one)
        try simp only [Act.put, List.setIfInBounds_toArray, List.set_cons_zero, List.set_cons_succ]
        refine wpL_take (k' := 6) rfl (by kernel_rfl) (fun d os => ?t310) ?_
        case t310 => (unfold bringsAt; go_simp; first | with_reducible exact take_one | exact take_one)
        try simp only [Act.put, List.setIfInBounds_toArray, List.set_cons_zero, List.set_cons_succ]
        refine wpL_take (k' := 7) rfl (by kernel_rfl) (fun d os => ?t311) ?_
        case t311 => (unfold bringsAt; go_simp; first | with_reducible exact take_one | exact take_one)
        try simp only [Act.put, List.setIfInBounds_toArray, List.set_cons_zero, List.set_cons_succ]
        refine wpL_take (k' := 8) rfl (by kernel_rfl) (fun d os => ?t312) ?_
        case t312 => (unfold bringsAt; go_simp; first | with_reducible exact take_one | exact take_one)
        try simp only [Act.put, List.setIfInBounds_toArray, List.set_cons_zero, List.set_cons_succ]
        refine wpL_take (k' := 9) rfl (by kernel_rfl) (fun d os => ?t313) ?_
        case t313 => (unfold bringsAt; go_simp; first | with_reducible exact take_one | exact take_one)
        try simp only [Act.put, List.setIfInBounds_toArray, List.set_cons_zero, List.set_cons_succ]
        refine wpL_take (k' := 10) rfl (by kernel_rfl) (fun d os => ?t314) ?_
        case t314 => (unfold bringsAt; go_simp; first | with_reducible exact take_one | exact take_one)
        try simp only [Act.put, List.setIfInBounds_toArray, List.set_cons_zero, List.set_cons_succ]
        refine wpL_take (k' := 11) rfl (by kernel_rfl) (fun d os => ?t315) ?_
        case t315 => (unfold bringsAt; go_simp; first | with_reducible exact take_one | exact take_one)
        try simp only [Act.put, List.setIfInBounds_toArray, List.set_cons_zero, List.set_cons_succ]
        refine wpL_take (k' := 12) rfl (by kernel_rfl) (fun d os => ?t316) ?_
        case t316 => (unfold bringsAt; go_simp; first | with_reducible exact take_one | exact take_one)
        try simp only [Act.put, List.setIfInBounds_toArray, List.set_cons_zero, List.set_cons_succ]
        refine wpL_take (k' := 13) rfl (by kernel_rfl) (fun d os => ?t317) ?_
        case t317 => (unfold bringsAt; go_simp; first | with_reducible exact take_one | exact take_one)
        try simp only [Act.put, List.setIfInBounds_toArray, List.set_cons_zero, List.set_cons_succ]
        refine wpL_take (k' := 14) rfl (by kernel_rfl) (fun d os => ?t318) ?_
        case t318 => (unfold bringsAt; go_simp; first | with_reducible exact take_one | exact take_one)
        try simp only [Act.put, List.setIfInBounds_toArray, List.set_cons_zero, List.set_cons_succ]
        refine wpL_take (k' := 15) rfl (by kernel_rfl) (fun d os => ?t319) ?_
        case t319 => (unfold bringsAt; go_simp; first | with_reducible exact take_one | exact take_one)
        try simp only [Act.put, List.setIfInBounds_toArray, List.set_cons_zero, List.set_cons_succ]
        refine wpL_take (k' := 16) rfl (by kernel_rfl) (fun d os => ?t320) ?_
        case t320 => (unfold bringsAt; go_simp; first | with_reducible exact take_one | exact take_one)
        try simp only [Act.put, List.setIfInBounds_toArray, List.set_cons_zero, List.set_cons_succ]
        refine wpL_take (k' := 17) rfl (by kernel_rfl) (fun d os => ?t321) ?_
        case t321 => (unfold bringsAt; go_simp; first | with_reducible exact take_one | exact take_one)
        try simp only [Act.put, List.setIfInBounds_toArray, List.set_cons_zero, List.set_cons_succ]
        rw [wpL_skip_eq]
        rotate_left 1
        · kernel_rfl
        rotate_right 1
        try simp only [Act.put, List.setIfInBounds_toArray, List.set_cons_zero, List.set_cons_succ]
        rw [wpL_skip_eq]
        rotate_left 1
        · kernel_rfl
        rotate_right 1
        try simp only [Act.put, List.setIfInBounds_toArray, List.set_cons_zero, List.set_cons_succ]
        rw [wpL_skip_eq]
        rotate_left 1
        · kernel_rfl
        rotate_right 1
        try simp only [Act.put, List.setIfInBounds_toArray, List.set_cons_zero, List.set_cons_succ]
        rw [wpL_skip_eq]
        rotate_left 1
        · kernel_rfl
        rotate_right 1
        try simp only [Act.put, List.setIfInBounds_toArray, List.set_cons_zero, List.set_cons_succ]
        rw [wpL_skip_eq]
        rotate_left 1
        · kernel_rfl
        rotate_right 1
        try simp only [Act.put, List.setIfInBounds_toArray, List.set_cons_zero, List.set_cons_succ]
        rw [wpL_skip_eq]
        rotate_left 1
        · kernel_rfl
        rotate_right 1
        try simp only [Act.put, List.setIfInBounds_toArray, List.set_cons_zero, List.set_cons_succ]
        rw [wpL_skip_eq]
        rotate_left 1
        · kernel_rfl
        rotate_right 1
        try simp only [Act.put, List.setIfInBounds_toArray, List.set_cons_zero, List.set_cons_succ]
        rw [wpL_skip_eq]
        rotate_left 1
        · kernel_rfl
        rotate_right 1
        try simp only [Act.put, List.setIfInBounds_toArray, List.set_cons_zero, List.set_cons_succ]
        rw [wpL_skip_eq]
        rotate_left 1
        · kernel_rfl
        rotate_right 1
        try simp only [Act.put, List.setIfInBounds_toArray, List.set_cons_zero, List.set_cons_succ]
        rw [wpL_skip_eq]
        rotate_left 1
        · kernel_rfl
        rotate_right 1
        try simp only [Act.put, List.setIfInBounds_toArray, List.set_cons_zero, List.set_cons_succ]
        refine wpL_take (k' := 28) rfl (by kernel_rfl) (fun d os => ?t332) ?_
        case t332 => (unfold bringsAt; go_simp; first | with_reducible exact take_one | exact take_one)
        try simp only [Act.put, List.setIfInBounds_toArray, List.set_cons_zero, List.set_cons_succ]
        refine wpL_take (k' := 29) rfl (by kernel_rfl) (fun d os => ?t333) ?_
        case t333 => (unfold bringsAt; go_simp; first | with_reducible exact take_one | exact take_one)
        try simp only [Act.put, List.setIfInBounds_toArray, List.set_cons_zero, List.set_cons_succ]
        refine wpL_take (k' := 30) rfl (by kernel_rfl) (fun d os => ?t334) ?_
        case t334 => (unfold bringsAt; go_simp; first | with_reducible exact take_one | exact take_one)
        try simp only [Act.put, List.setIfInBounds_toArray, List.set_cons_zero, List.set_cons_succ]
        refine wpL_take (k' := 31) rfl (by kernel_rfl) (fun d os => ?t335) ?_
        case t335 => (unfold bringsAt; go_simp; first | with_reducible exact take_one | exact take_one)
        try simp only [Act.put, List.setIfInBounds_toArray, List.set_cons_zero, List.set_cons_succ]
        refine wpL_take (k' := 32) rfl (by kernel_rfl) (fun d os => ?t336) ?_
        case t336 => (unfold bringsAt; go_simp; first | with_reducible exact take_one | exact take_one)
        try simp only [Act.put, List.setIfInBounds_toArray, List.set_cons_zero, List.set_cons_succ]
        refine wpL_take (k' := 33) rfl (by kernel_rfl) (fun d os => ?t337) ?_
        case t337 => (unfold bringsAt; go_simp; first | with_reducible exact take_one | exact take_one)
        try simp only [Act.put, List.setIfInBounds_toArray, List.set_cons_zero, List.set_cons_succ]
        refine wpL_take (k' := 34) rfl (by kernel_rfl) (fun d os => ?t338) ?_
        case t338 => (unfold bringsAt; go_simp; first | with_reducible exact take_one | exact take_one)
        try simp only [Act.put, List.setIfInBounds_toArray, List.set_cons_zero, List.set_cons_succ]
        refine wpL_fl (k' := 35) rfl (by kernel_rfl) (fun wz hz hd => ?t339) (fun A14 c14 A15 c15 => ?_)
        case t339 =>
          have HZ := Lib.hid (HB1.out.trans (hz.mono HB1.out.size))
          unfold bringsAt
          go_simp
          have h9 := fnew_c s0 s1 wz
          rw [HNF.out] at h9
          exact call_fl hz.size h9
        try simp only [Act.put, List.setIfInBounds_toArray, List.set_cons_zero, List.set_cons_succ]
        refine wpL_take (k' := 36) rfl (by kernel_rfl) (fun d os => ?t340) ?_
        case t340 => (unfold bringsAt; go_simp; first | with_reducible exact take_one | exact take_one)
        try simp only [Act.put, List.setIfInBounds_toArray, List.set_cons_zero, List.set_cons_succ]
        refine wpL_take (k' := 37) rfl (by kernel_rfl) (fun d os => ?t341) ?_
        case t341 => (unfold bringsAt; go_simp; first | with_reducible exact take_one | exact take_one)
        try simp only [Act.put, List.setIfInBounds_toArray, List.set_cons_zero, List.set_cons_succ]
        refine wpL_take (k' := 38) rfl (by kernel_rfl) (fun d os => ?t342) ?_
        case t342 => (unfold bringsAt; go_simp; first | with_reducible exact take_one | exact take_one)
        try simp only [Act.put, List.setIfInBounds_toArray, List.set_cons_zero, List.set_cons_succ]
        refine wpL_take (k' := 39) rfl (by kernel_rfl) (fun d os => ?t343) ?_
        case t343 => (unfold bringsAt; go_simp; first | with_reducible exact take_one | exact take_one)
        try simp only [Act.put, List.setIfInBounds_toArray, List.set_cons_zero, List.set_cons_succ]
        refine wpL_fl (k' := 40) rfl (by kernel_rfl) (fun wz hz hd => ?t344) (fun A16 c16 A17 c17 => ?_)
        case t344 =>
          have HZ := Lib.hid (HB1.out.trans (hz.mono HB1.out.size))
          unfold bringsAt
          go_simp
          have h9 := lnews_c s0 s1 wz
          rw [HNF.out] at h9
          exact call_fl hz.size h9
        try simp only [Act.put, List.setIfInBounds_toArray, List.set_cons_zero, List.set_cons_succ]
        refine wpL_call (k' := 41) rfl (by kernel_rfl) (fun wz hz hd => ?t345) ?_
        case t345 =>
          have HZ := Lib.hid (HB1.out.trans (hz.mono HB1.out.size))
          have G34 := Lib.hid (show OwnI wz w14.heap.size (.slice A14 (nS).length c14) (nS) ∧ OwnE EK wz w14.heap.size (.slice A15 (nK).length c15) (nK) from hd.get 34 (by kernel_rfl))
          have G39 := Lib.hid (show OwnI wz w14.heap.size (.slice A16 (nS).length c16) (nS) ∧ OwnE EK wz w14.heap.size (.slice A17 (nK).length c17) (nK) from hd.get 39 (by kernel_rfl))
          unfold bringsAt
          go_simp
          have h9 := r16same_y na nd nS A14 A16 c14 c16 nK nK A15 A17 c15 c17 wz G34.out.1.reads G39.out.1.reads G34.out.2.reads G39.out.2.reads G34.out.1.max G34.out.2.max rfl rfl
          refine call_one_as h9 ?_
          rfl
        try simp only [Act.put, List.setIfInBounds_toArray, List.set_cons_zero, List.set_cons_succ]
        refine wpL_take (k' := 42) rfl (by kernel_rfl) (fun d os => ?t346) ?_
        case t346 => (unfold bringsAt; go_simp; first | with_reducible exact take_one | exact take_one)
        try simp only [Act.put, List.setIfInBounds_toArray, List.set_cons_zero, List.set_cons_succ]
        refine wpL_take (k' := 43) rfl (by kernel_rfl) (fun d os => ?t347) ?_
        case t347 => (unfold bringsAt; go_simp; first | with_reducible exact take_one | exact take_one)
        try simp only [Act.put, List.setIfInBounds_toArray, List.set_cons_zero, List.set_cons_succ]
        refine wpL_nil ?_
        intro w15 hH
        have hb' := hH.below
        clear kq0 kq1 kq2 kq3 kq4 kq5 kq6 kq7 kq8 kq9 kq10 kq11 kq12 kq13 kq14 kq15 kq16 kq17 kq18 kq19 kq20 kq21 kq22
        have HB1 := Lib.hid ((HB1.out).trans (hb'.mono (HB1.out).size))
        have BN := Lib.hid ((BN.out).below hb' (BN.out).lt)
        have BG := Lib.hid ((BG.out).below hb' (BG.out).lt)
        have G34 := Lib.hid (show OwnI w15 w14.heap.size (.slice A14 (nS).length c14) (nS) ∧ OwnE EK w15 w14.heap.size (.slice A15 (nK).length c15) (nK) from hH.facts 34)
        have G34S := Lib.hid G34.out.1
        have G34K := Lib.hid G34.out.2
        clear G34
        have G39 := Lib.hid (show OwnI w15 w14.heap.size (.slice A16 (nS).length c16) (nS) ∧ OwnE EK w15 w14.heap.size (.slice A17 (nK).length c17) (nK) from hH.facts 39)
        have G39S := Lib.hid G39.out.1
        have G39K := Lib.hid G39.out.2
        clear G39
        clear hH hb'
        go_wp2_with fail
        go_ret
        exact ⟨rfl, HB.out.trans (HB1.out.mono HB.out.size)⟩
      · skip
        have hk2 : k < us.length := by omega
        have e1 : ((k : Int) == (us.length : Int)) = false := by simp; omega
        have e2 : ((k : Int) == s0) = true := by rcases hk1 with h | h; exact absurd h hkN; simp; exact h.2
        have e3 : decide ((k : Int) < (us.length : Int)) = true := by simp; omega
        clear hk0 hk1 hkN
        go_wp2_with fail
        obtain ⟨zB100, zB101, zB102, zB103, zB104, zB105, zB106, zB107, zB108⟩ := (B10.out.below HB1.out B10.out.lt).cells9
        obtain ⟨zB120, zB121, zB122, zB123, zB124, zB125, zB126, zB127, zB128⟩ := (B12.out.below HB1.out B12.out.lt).cells9
        have zBN0 := (BN.out).cells1
        have zBG0 := (BG.out).cells1
        have zBX0 := (BX.out.below HB1.out BX.out.lt).cells1
        obtain ⟨zB30, zB31⟩ := (B3.out.below HB1.out B3.out.lt).cells2
        have kq0 := cell_regrown zB100
        have kq1 := cell_regrown zB101
        have kq2 := cell_regrown zB102
        have kq3 := cell_regrown zB103
        have kq4 := cell_regrown zB104
        have kq5 := cell_regrown zB105
        have kq6 := cell_regrown zB106
        have kq7 := cell_regrown zB107
        have kq8 := cell_regrown zB108
        have kq9 := cell_regrown zB120
        have kq10 := cell_regrown zB121
        have kq11 := cell_regrown zB122
        have kq12 := cell_regrown zB123
        have kq13 := cell_regrown zB124
        have kq14 := cell_regrown zB125
        have kq15 := cell_regrown zB126
        have kq16 := cell_regrown zB127
        have kq17 := cell_regrown zB128
        have kq18 := cell_regrown zBN0
        have kq19 := cell_regrown zBG0
        have kq20 := cell_regrown zBX0
        have kq21 := cell_regrown zB30
        have kq22 := cell_regrown zB31
        clear zB100 zB101 zB102 zB103 zB104 zB105 zB106 zB107 zB108 zB120 zB121 zB122 zB123 zB124 zB125 zB126 zB127 zB128 zBN0 zBG0 zBX0 zB30 zB31
        refine wp_mono (Brings.one ?b348_0 :: Brings.one ?b349_1 :: Brings.one ?b350_2 :: Brings.one (.bool true) :: Brings.one ?b351_4 :: Brings.one ?b352_5 :: Brings.one ?b353_6 :: Brings.one ?b354_7 :: Brings.one (.bool true) :: Brings.one ?b355_9 :: Brings.one ?b356_10 :: Brings.one (.bool true) :: Brings.one ?b357_12 :: Brings.one ?b358_13 :: Brings.one ?b359_14 :: Brings.one ?b360_15 :: Brings.one (.bool false) :: Brings.one ?b361_17 :: Brings.one ?b362_18 :: Brings.one ?b363_19 :: Brings.one ?b364_20 :: Brings.one (.bool true) :: Brings.one ?b365_22 :: Brings.one ?b366_23 :: Brings.one ?b367_24 :: Brings.one ?b368_25 :: Brings.one ?b369_26 :: Brings.one ?b370_27 :: Brings.one ?b371_28 :: Brings.one (.bool true) :: Brings.one ?b372_30 :: Brings.one ?b373_31 :: Brings.one ?b374_32 :: Brings.one ?b375_33 :: Brings.fl w14.heap.size (na) (nd) (nS) (nK) :: Brings.one ?b376_35 :: Brings.one ?b377_36 :: Brings.one ?b378_37 :: Brings.one ?b379_38 :: Brings.fl w14.heap.size (na) (nd) (nS) (nK) :: Brings.one ?b380_40 :: Brings.one ?b381_41 :: Brings.one ?b382_42 :: []) (by kernel_rfl) (by kernel_rfl) ?_
        rotate_left 35
        refine wpL_take (k' := 1) rfl (by kernel_rfl) (fun d os => ?t383) ?_
        case t383 => (unfold bringsAt; go_simp; first | with_reducible exact take_one | exact take_one)
        try simp only [Act.put, List.setIfInBounds_toArray, List.set_cons_zero, List.set_cons_succ]
        refine wpL_take (k' := 2) rfl (by kernel_rfl) (fun d os => ?t384) ?_
        case t384 => (unfold bringsAt; go_simp; first | with_reducible exact take_one | exact take_one)
        try simp only [Act.put, List.setIfInBounds_toArray, List.set_cons_zero, List.set_cons_succ]
        refine wpL_take (k' := 3) rfl (by kernel_rfl) (fun d os => ?t385) ?_
        case t385 => (unfold bringsAt; go_simp; first | with_reducible exact take_one | exact take_one)
        try simp only [Act.put, List.setIfInBounds_toArray, List.set_cons_zero, List.set_cons_succ]
        refine wpL_take (k' := 4) rfl (by kernel_rfl) (fun d os => ?t386) ?_
        case t386 => (unfold bringsAt; go_simp; first | with_reducible exact take_one | exact take_one)
        try simp only [Act.put, List.setIfInBounds_toArray, List.set_cons_zero, List.set_cons_succ]
        refine wpL_take (k' := 5) rfl (by kernel_rfl) (fun d os => ?t387) ?_
        case t387 => (unfold bringsAt; go_simp; first | with_reducible exact take_one | exact take_one)
        try simp only [Act.put, List.setIfInBounds_toArray, List.set_cons_zero, List.set_cons_succ]
        refine wpL_take (k' := 6) rfl (by kernel_rfl) (fun d os => ?t388) ?_
        case t388 => (unfold bringsAt; go_simp; first | with_reducible exact take_one | exact take_one)
        try simp only [Act.put, List.setIfInBounds_toArray, List.set_cons_zero, List.set_cons_succ]
        refine wpL_take (k' := 7) rfl (by kernel_rfl) (fun d os => ?t389) ?_
        case t389 => (unfold bringsAt; go_simp; first | with_reducible exact take_one | exact take_one)
        try simp only [Act.put, List.setIfInBounds_toArray, List.set_cons_zero, List.set_cons_succ]
        refine wpL_take (k' := 8) rfl (by kernel_rfl) (fun d os => ?t390) ?_
        case t390 => (unfold bringsAt; go_simp; first | with_reducible exact take_one | exact take_one)
        try simp only [Act.put, List.setIfInBounds_toArray, List.set_cons_zero, List.set_cons_succ]
        refine wpL_take (k' := 9) rfl (by kernel_rfl) (fun d os => ?t391) ?_
        case t391 => (unfold bringsAt; go_simp; first | with_reducible exact take_one | exact take_one)
        try simp only [Act.put, List.setIfInBounds_toArray, List.set_cons_zero, List.set_cons_succ]
        refine wpL_take (k' := 10) rfl (by kernel_rfl) (fun d os => ?t392) ?_
        case t392 => (unfold bringsAt; go_simp; first | with_reducible exact take_one | exact take_one)
        try simp only [Act.put, List.setIfInBounds_toArray, List.set_cons_zero, List.set_cons_succ]
        refine wpL_take (k' := 11) rfl (by kernel_rfl) (fun d os => ?t393) ?_
        case t393 => (unfold bringsAt; go_simp; first | with_reducible exact take_one | exact take_one)
        try simp only [Act.put, List.setIfInBounds_toArray, List.set_cons_zero, List.set_cons_succ]
        refine wpL_take (k' := 12) rfl (by kernel_rfl) (fun d os => ?t394) ?_
        case t394 => (unfold bringsAt; go_simp; first | with_reducible exact take_one | exact take_one)
        try simp only [Act.put, List.setIfInBounds_toArray, List.set_cons_zero, List.set_cons_succ]
        refine wpL_take (k' := 13) rfl (by kernel_rfl) (fun d os => ?t395) ?_
        case t395 => (unfold bringsAt; go_simp; first | with_reducible exact take_one | exact take_one)
        try simp only [Act.put, List.setIfInBounds_toArray, List.set_cons_zero, List.set_cons_succ]
        refine wpL_take (k' := 14) rfl (by kernel_rfl) (fun d os => ?t396) ?_
        case t396 => (unfold bringsAt; go_simp; first | with_reducible exact take_one | exact take_one)
        try simp only [Act.put, List.setIfInBounds_toArray, List.set_cons_zero, List.set_cons_succ]
        refine wpL_take (k' := 15) rfl (by kernel_rfl) (fun d os => ?t397) ?_
        case t397 => (unfold bringsAt; go_simp; first | with_reducible exact take_one | exact take_one)
        try simp only [Act.put, List.setIfInBounds_toArray, List.set_cons_zero, List.set_cons_succ]
        refine wpL_take (k' := 16) rfl (by kernel_rfl) (fun d os => ?t398) ?_
        case t398 => (unfold bringsAt; go_simp; first | with_reducible exact take_one | exact take_one)
        try simp only [Act.put, List.setIfInBounds_toArray, List.set_cons_zero, List.set_cons_succ]
        refine wpL_take (k' := 17) rfl (by kernel_rfl) (fun d os => ?t399) ?_
        case t399 => (unfold bringsAt; go_simp; first | with_reducible exact take_one | exact take_one)
        try simp only [Act.put, List.setIfInBounds_toArray, List.set_cons_zero, List.set_cons_succ]
        refine wpL_take (k' := 18) rfl (by kernel_rfl) (fun d os => ?t400) ?_
        case t400 => (unfold bringsAt; go_simp; first | with_reducible exact take_one | exact take_one)
        try simp only [Act.put, List.setIfInBounds_toArray, List.set_cons_zero, List.set_cons_succ]
        refine wpL_take (k' := 19) rfl (by kernel_rfl) (fun d os => ?t401) ?_
        case t401 => (unfold bringsAt; go_simp; first | with_reducible exact take_one | exact take_one)
        try simp only [Act.put, List.setIfInBounds_toArray, List.set_cons_zero, List.set_cons_succ]
        refine wpL_take (k' := 20) rfl (by kernel_rfl) (fun d os => ?t402) ?_
        case t402 => (unfold bringsAt; go_simp; first | with_reducible exact take_one | exact take_one)
        try simp only [Act.put, List.setIfInBounds_toArray, List.set_cons_zero, List.set_cons_succ]
        refine wpL_take (k' := 21) rfl (by kernel_rfl) (fun d os => ?t403) ?_
        case t403 => (unfold bringsAt; go_simp; first | with_reducible exact take_one | exact take_one)
        try simp only [Act.put, List.setIfInBounds_toArray, List.set_cons_zero, List.set_cons_succ]
        refine wpL_take (k' := 22) rfl (by kernel_rfl) (fun d os => ?t404) ?_
        case t404 => (unfold bringsAt; go_simp; first | with_reducible exact take_one | exact take_one)
        try simp only [Act.put, List.setIfInBounds_toArray, List.set_cons_zero, List.set_cons_succ]
        refine wpL_take (k' := 23) rfl (by kernel_rfl) (fun d os => ?t405) ?_
        case t405 => (unfold bringsAt; go_simp; first | with_reducible exact take_one | exact take_one)
        try simp only [Act.put, List.setIfInBounds_toArray, List.set_cons_zero, List.set_cons_succ]
        refine wpL_take (k' := 24) rfl (by kernel_rfl) (fun d os => ?t406) ?_
        case t406 => (unfold bringsAt; go_simp; first | with_reducible exact take_one | exact take_one)
        try simp only [Act.put, List.setIfInBounds_toArray, List.set_cons_zero, List.set_cons_succ]
        refine wpL_take (k' := 25) rfl (by kernel_rfl) (fun d os => ?t407) ?_
        case t407 => (unfold bringsAt; go_simp; first | with_reducible exact take_one | exact take_one)
        try simp only [Act.put, List.setIfInBounds_toArray, List.set_cons_zero, List.set_cons_succ]
        refine wpL_take (k' := 26) rfl (by kernel_rfl) (fun d os => ?t408) ?_
        case t408 => (unfold bringsAt; go_simp; first | with_reducible exact take_one | exact take_one)
        try simp only [Act.put, List.setIfInBounds_toArray, List.set_cons_zero, List.set_cons_succ]
        refine wpL_take (k' := 27) rfl (by kernel_rfl) (fun d os => ?t409) ?_
        case t409 => (unfold bringsAt; go_simp; first | with_reducible exact take_one | exact take_one)
        try simp only [Act.put, List.setIfInBounds_toArray, List.set_cons_zero, List.set_cons_succ]
        refine wpL_take (k' := 28) rfl (by kernel_rfl) (fun d os => ?t410) ?_
        case t410 => (unfold bringsAt; go_simp; first | with_reducible exact take_one | exact take_one)
        try simp only [Act.put, List.setIfInBounds_toArray, List.set_cons_zero, List.set_cons_succ]
        refine wpL_take (k' := 29) rfl (by kernel_rfl) (fun d os => ?t411) ?_
        case t411 => (unfold bringsAt; go_simp; first | with_reducible exact take_one | exact take_one)
        try simp only [Act.put, List.setIfInBounds_toArray, List.set_cons_zero, List.set_cons_succ]
        refine wpL_take (k' := 30) rfl (by kernel_rfl) (fun d os => ?t412) ?_
        case t412 => (unfold bringsAt; go_simp; first | with_reducible exact take_one | exact take_one)
        try simp only [Act.put, List.setIfInBounds_toArray, List.set_cons_zero, List.set_cons_succ]
        refine wpL_take (k' := 31) rfl (by kernel_rfl) (fun d os => ?t413) ?_
        case t413 => (unfold bringsAt; go_simp; first | with_reducible exact take_one | exact take_one)
        try simp only [Act.put, List.setIfInBounds_toArray, List.set_cons_zero, List.set_cons_succ]
        refine wpL_take (k' := 32) rfl (by kernel_rfl) (fun d os => ?t414) ?_
        case t414 => (unfold bringsAt; go_simp; first | with_reducible exact take_one | exact take_one)
        try simp only [Act.put, List.setIfInBounds_toArray, List.set_cons_zero, List.set_cons_succ]
        refine wpL_take (k' := 33) rfl (by kernel_rfl) (fun d os => ?t415) ?_
        case t415 => (unfold bringsAt; go_simp; first | with_reducible exact take_one | exact take_one)
        try simp only [Act.put, List.setIfInBounds_toArray, List.set_cons_zero, List.set_cons_succ]
        refine wpL_take (k' := 34) rfl (by kernel_rfl) (fun d os => ?t416) ?_
        case t416 => (unfold bringsAt; go_simp; first | with_reducible exact take_one | exact take_one)
        try simp only [Act.put, List.setIfInBounds_toArray, List.set_cons_zero, List.set_cons_succ]
        refine wpL_fl (k' := 35) rfl (by kernel_rfl) (fun wz hz hd => ?t417) (fun A14 c14 A15 c15 => ?_)
        case t417 =>
          have HZ := Lib.hid (HB1.out.trans (hz.mono HB1.out.size))
          unfold bringsAt
          go_simp
          have h9 := fnew_c s0 s1 wz
          rw [HNF.out] at h9
          exact call_fl hz.size h9
        try simp only [Act.put, List.setIfInBounds_toArray, List.set_cons_zero, List.set_cons_succ]
        refine wpL_take (k' := 36) rfl (by kernel_rfl) (fun d os => ?t418) ?_
        case t418 => (unfold bringsAt; go_simp; first | with_reducible exact take_one | exact take_one)
        try simp only [Act.put, List.setIfInBounds_toArray, List.set_cons_zero, List.set_cons_succ]
        refine wpL_take (k' := 37) rfl (by kernel_rfl) (fun d os => ?t419) ?_
        case t419 => (unfold bringsAt; go_simp; first | with_reducible exact take_one | exact take_one)
        try simp only [Act.put, List.setIfInBounds_toArray, List.set_cons_zero, List.set_cons_succ]
        refine wpL_take (k' := 38) rfl (by kernel_rfl) (fun d os => ?t420) ?_
        case t420 => (unfold bringsAt; go_simp; first | with_reducible exact take_one | exact take_one)
        try simp only [Act.put, List.setIfInBounds_toArray, List.set_cons_zero, List.set_cons_succ]
        refine wpL_take (k' := 39) rfl (by kernel_rfl) (fun d os => ?t421) ?_
        case t421 => (unfold bringsAt; go_simp; first | with_reducible exact take_one | exact take_one)
        try simp only [Act.put, List.setIfInBounds_toArray, List.set_cons_zero, List.set_cons_succ]
        refine wpL_fl (k' := 40) rfl (by kernel_rfl) (fun wz hz hd => ?t422) (fun A16 c16 A17 c17 => ?_)
        case t422 =>
          have HZ := Lib.hid (HB1.out.trans (hz.mono HB1.out.size))
          unfold bringsAt
          go_simp
          have h9 := lnews_c s0 s1 wz
          rw [HNF.out] at h9
          exact call_fl hz.size h9
        try simp only [Act.put, List.setIfInBounds_toArray, List.set_cons_zero, List.set_cons_succ]
        refine wpL_call (k' := 41) rfl (by kernel_rfl) (fun wz hz hd => ?t423) ?_
        case t423 =>
          have HZ := Lib.hid (HB1.out.trans (hz.mono HB1.out.size))
          have G34 := Lib.hid (show OwnI wz w14.heap.size (.slice A14 (nS).length c14) (nS) ∧ OwnE EK wz w14.heap.size (.slice A15 (nK).length c15) (nK) from hd.get 34 (by kernel_rfl))
          have G39 := Lib.hid (show OwnI wz w14.heap.size (.slice A16 (nS).length c16) (nS) ∧ OwnE EK wz w14.heap.size (.slice A17 (nK).length c17) (nK) from hd.get 39 (by kernel_rfl))
          unfold bringsAt
          go_simp
          have h9 := r16same_y na nd nS A14 A16 c14 c16 nK nK A15 A17 c15 c17 wz G34.out.1.reads G39.out.1.reads G34.out.2.reads G39.out.2.reads G34.out.1.max G34.out.2.max rfl rfl
          refine call_one_as h9 ?_
          rfl
        try simp only [Act.put, List.setIfInBounds_toArray, List.set_cons_zero, List.set_cons_succ]
        refine wpL_take (k' := 42) rfl (by kernel_rfl) (fun d os => ?t424) ?_
        case t424 => (unfold bringsAt; go_simp; first | with_reducible exact take_one | exact take_one)
        try simp only [Act.put, List.setIfInBounds_toArray, List.set_cons_zero, List.set_cons_succ]
        refine wpL_take (k' := 43) rfl (by kernel_rfl) (fun d os => ?t425) ?_
        case t425 => (unfold bringsAt; go_simp; first | with_reducible exact take_one | exact take_one)
        try simp only [Act.put, List.setIfInBounds_toArray, List.set_cons_zero, List.set_cons_succ]
        refine wpL_nil ?_
        intro w15 hH
        have hb' := hH.below
        clear kq0 kq1 kq2 kq3 kq4 kq5 kq6 kq7 kq8 kq9 kq10 kq11 kq12 kq13 kq14 kq15 kq16 kq17 kq18 kq19 kq20 kq21 kq22
        have HB1 := Lib.hid ((HB1.out).trans (hb'.mono (HB1.out).size))
        have BN := Lib.hid ((BN.out).below hb' (BN.out).lt)
        have BG := Lib.hid ((BG.out).below hb' (BG.out).lt)
        have G34 := Lib.hid (show OwnI w15 w14.heap.size (.slice A14 (nS).length c14) (nS) ∧ OwnE EK w15 w14.heap.size (.slice A15 (nK).length c15) (nK) from hH.facts 34)
        have G34S := Lib.hid G34.out.1
        have G34K := Lib.hid G34.out.2
        clear G34
        have G39 := Lib.hid (show OwnI w15 w14.heap.size (.slice A16 (nS).length c16) (nS) ∧ OwnE EK w15 w14.heap.size (.slice A17 (nK).length c17) (nK) from hH.facts 39)
        have G39S := Lib.hid G39.out.1
        have G39K := Lib.hid G39.out.2
        clear G39
        clear hH hb'
        go_wp2_with fail
        go_ret
        exact ⟨rfl, HB.out.trans (HB1.out.mono HB.out.size)⟩
theorem fieldTells_walk (x0 : Flx) (x1 x2 : Int × Int) (v0 v1 v2 : Value) (w : World) (k0 : IsFl w v0 x0) (k1 : IsArr2 .i64 v1 x1) (k2 : IsArr2 .i64 v2 x2) :
    Calls Try.prog 3 #[v0, v1, v2] w fun e w' => e = .returned (.bool true) ∧ Below w.heap.size w w' := by
  obtain ⟨As, cs, Ak, ck, rfl, hS, hK, hn, hm, _⟩ := k0
  obtain ⟨_, _, rfl, e1, e2⟩ := k1
  obtain ⟨_, _, rfl, e3, e4⟩ := k2
  rw [e1.1, e2.1, e3.1, e4.1]
  obtain ⟨a, d, S, K⟩ := x0
  dsimp only at hS hK hn hm ⊢
  cases hg : bigB S.length K.length with
  | true => exact tls_big a d S As cs K Ak ck _ _ _ _ w hS hK hn hm hg
  | false =>
    cases ho : okFl a d S K with
    | false => exact tls_no a d S As cs K Ak ck _ _ _ _ w hS hK hn hm hg ho
    | true =>
      obtain ⟨A, D, rfl, rfl, _⟩ := okFl_nat ho
      exact tls_yes A D S As cs K Ak ck _ _ _ _ w hS hK hn hm hg ho

end Go.Proofs.Ytiedjeholmoccaa
