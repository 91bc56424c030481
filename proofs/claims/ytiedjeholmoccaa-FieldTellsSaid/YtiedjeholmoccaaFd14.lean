/- Fields: even ones, new ones. -/
import Derived.Test.YtiedjeholmoccaaFd13
namespace Go.Proofs.Ytiedjeholmoccaa
open Go.RowKit Go.Sort
set_option linter.unusedVariables false
set_option linter.unusedSimpArgs false

/-- A field of the call's own. -/
def Brings.fl (B0 : Nat) (a d : Int) (S : List Int) (K : List Bk) : Brings where
  T := (Option Addr × Nat) × (Option Addr × Nat)
  inh := ((none, 0), (none, 0))
  f t := flV a d (.slice t.1.1 S.length t.1.2) (.slice t.2.1 K.length t.2.2)
  φ t w := OwnI w B0 (.slice t.1.1 S.length t.1.2) S ∧ OwnE EK w B0 (.slice t.2.1 K.length t.2.2) K
  g t := none
  st _ _ _ hb h := ⟨h.1.kept hb, h.2.kept hb⟩
section
variable {md : Region.Mode} {ops : Array Oper} {w0 : World} {Lq : Act → Known → Prop}
theorem wpL_fl {k k' : Nat} {Bs : List Brings} {o : Oper} {rest : List Oper} {a : Act} {s : Known} {B0 : Nat} {fa fd : Int} {S : List Int} {K : List Bk} (hk : k + 1 = k') (hw : Region.wanted o (yielded ops a.tmps) = true) (h : ∀ w, Below w0.heap.size w0 w → awaited md s o w → bringsAt Try.prog o a w (brought (Brings.fl B0 fa fd S K) w))
    (hr : ∀ A1 c1 A2 c2, wpL Try.prog md ops w0 Lq k' Bs rest (a.put o.dst (flV fa fd (.slice A1 S.length c1) (.slice A2 K.length c2))) (s.add k (fun w => OwnI w B0 (.slice A1 S.length c1) S ∧ OwnE EK w B0 (.slice A2 K.length c2) K) none)) : wpL Try.prog md ops w0 Lq k (Brings.fl B0 fa fd S K :: Bs) (o :: rest) a s :=
  wpL_brings hk hw h fun t => hr t.1.1 t.1.2 t.2.1 t.2.2
end
theorem call_fl {B0 : Nat} {a d : Int} {S : List Int} {K : List Bk} {w : World} {f : FuncId} {args : Array Value} (hB : B0 ≤ w.heap.size) (h : Calls Try.prog f args w (FlRes a d S K w)) : bringsUpon Try.prog w (brought (Brings.fl B0 a d S K) w) (.ok (.enter f args) w) :=
  call_brings (h.mono fun e w' ⟨vs, vk, he, h1, h2, hb⟩ => by
    obtain ⟨A1, c1, rfl, _⟩ := h1.slice
    obtain ⟨A2, c2, rfl, _⟩ := h2.slice
    exact ⟨((A1, c1), (A2, c2)), he, ⟨h1.lower hB, h2.lower hB⟩, hb, fun b hb => by cases hb⟩)
def evenB (a d : Int) (S : List Int) (K : List Bk) : Bool := okFl a d S K && decide (levelK a.toNat S K = K)
theorem made_rep {α : Type} (E : Enc α) (b0 : α) (hz : E.z.cells = (E.c b0).toArray) (n : Nat) : madeCells E.z.cells (n * E.n) = (flE E (List.replicate n b0)).toArray := by
  apply Array.ext'
  apply List.ext_getElem
  · rw [Array.length_toList, size_madeCells]
    simp [flE_length]
  · intro j h1 h2
    have hj : j < n * E.n := by rw [Array.length_toList, size_madeCells] at h1; exact h1
    have hn := E.hn
    have hi : j / E.n < (List.replicate n b0).length := by rw [List.length_replicate]; exact Nat.div_lt_of_lt_mul (by rw [Nat.mul_comm]; exact hj)
    have hm : j % E.n < E.n := Nat.mod_lt _ hn
    have h3 := flE_at (E := E) (List.replicate n b0) hi hm
    rw [Nat.div_add_mod'] at h3
    simp only [List.getElem_replicate] at h3
    have hl : (E.c b0).length = E.n := E.hl b0
    have h4 : (flE E (List.replicate n b0))[j]? = some ((E.c b0)[j % E.n]'(by rw [hl]; exact hm)) := by rw [h3, List.getElem?_eq_getElem (by rw [hl]; exact hm)]
    have h5 := (List.getElem?_eq_some_iff.1 h4).2
    have e1 : (madeCells E.z.cells (n * E.n)).toList[j] = (E.c b0)[j % E.n]'(by rw [hl]; exact hm) := by
      unfold madeCells
      simp only [Array.toList_map, Array.toList_range, List.getElem_map, List.getElem_range, hz, List.size_toArray, hl]
      rw [getElem!_pos _ _ (by simp [hl]; exact hm)]
      simp
    rw [e1]
    simp only
    exact h5.symm
/-- make([]api.Block, n) -/
theorem rep_ints (n : Nat) : (List.map (Value.int .i64) (List.replicate n 0)).toArray = Array.replicate n (.int .i64 0) := by simp
theorem make_blocks (T : TypeId) (hT : Try.prog.underlying T = some (.slice 40)) (n : Nat) (hn : n * 72 ≤ 281474976710656) (W : World) :
    (Instr.makeSlice T (.int .i64 (n : Int)) (.int .i64 (n : Int))).run Try.prog W = .ok (.slice (some ⟨W.heap.size, 0, none⟩) n n) (W.alloc (.cells (flE EK (List.replicate n Bk.zero)).toArray 40)) := by
  obtain ⟨i0, hi, hz0, hz1, hz2⟩ := info_parts EK.info
  have hmk := run_make_rowN (P := Try.prog) T 40 i0 (bkV Bk.zero) hT hi hz0 .i64 .i64 n n (Nat.le_refl _) (by rw [hz2]; show 72 * n ≤ _; omega) (by omega) W
  rw [hmk, hz1]
  have h := made_rep EK Bk.zero rfl n
  rw [show madeCells (bkV Bk.zero).cells (n * EK.n) = _ from h]
def newF (a d : Int) : Fl := if countB a = true ∧ countB d = true then ⟨a, d, List.replicate (a * d).toNat 0, List.replicate (16 * (a * d).toNat) Bk.zero⟩ else ⟨0, 0, [], []⟩
theorem new_nat {a d : Int} (h1 : countB a = true) (h2 : countB d = true) : ∃ A D N : Nat, a = A ∧ d = D ∧ 1 ≤ A ∧ A ≤ 64 ∧ 1 ≤ D ∧ D ≤ 64 ∧ N = A * D ∧ N ≤ 4096 ∧ newF a d = ⟨A, D, List.replicate N 0, List.replicate (16 * N) Bk.zero⟩ := by
  have a1 := countB_t h1
  have d1 := countB_t h2
  have hf : newF a d = ⟨a, d, List.replicate (a * d).toNat 0, List.replicate (16 * (a * d).toNat) Bk.zero⟩ := by unfold newF; rw [if_pos ⟨h1, h2⟩]
  obtain ⟨A, rfl⟩ := Int.eq_ofNat_of_zero_le (a := a) (by omega)
  obtain ⟨D, rfl⟩ := Int.eq_ofNat_of_zero_le (a := d) (by omega)
  have e : ((A : Int) * (D : Int)).toNat = A * D := by rw [← Int.natCast_mul]; exact Int.toNat_natCast _
  rw [e] at hf
  exact ⟨A, D, A * D, rfl, rfl, by omega, by omega, by omega, by omega, rfl, Nat.le_trans (Nat.mul_le_mul (by omega : A ≤ 64) (by omega : D ≤ 64)) (by omega), hf⟩
set_option maxRecDepth 100000 in
set_option maxHeartbeats 6400000 in
theorem feven_no (a d : Int) (S : List Int) (As : Option Addr) (cs : Nat) (K : List Bk) (Ak : Option Addr) (ck : Nat) (w : World) (hS : ReadsI w As S) (hK : ReadsE EK w Ak K) (hn : S.length ≤ 9223372036854775807) (hm : K.length ≤ 9223372036854775807) (h1 : okFl a d S K = false) :
    Calls Try.prog 17 #[flV a d (.slice As S.length cs) (.slice Ak K.length ck)] w fun e w' => e = .returned (.bool false) ∧ Below w.heap.size w w' := by
  have RS := Lib.hid hS
  have RK := Lib.hid hK
  have H1 := Lib.hid h1
  clear hS hK h1
  have HB1 := Lib.hid (Below.refl w.heap.size w)
  go_enter Try.func17, Try.ntmps17
  go_upto_region 1 with fail
  have HB1 := Lib.hid (below_alloc_ (HB1.out) (.cells #[.int .i64 a, .int .i64 d, .slice As S.length cs, .slice Ak K.length ck] 25))
  have hzw : (w.alloc (.cells #[.int .i64 a, .int .i64 d, .slice As S.length cs, .slice Ak K.length ck] 25)).heap.size = w.heap.size + 1 := by simp only [World.size_alloc]
  have B1 := Blk.new (w) 25 #[.int .i64 a, .int .i64 d, .slice As S.length cs, .slice Ak K.length ck]
  skip
  have B1 := Lib.hid B1
  generalize w.alloc (.cells #[.int .i64 a, .int .i64 d, .slice As S.length cs, .slice Ak K.length ck] 25) = w1 at *
  clear hzw
  obtain ⟨zB10, zB11, zB12, zB13⟩ := (B1.out).cells4
  have kq0 := cell_regrown zB10
  have kq1 := cell_regrown zB11
  have kq2 := cell_regrown zB12
  have kq3 := cell_regrown zB13
  clear zB10 zB11 zB12 zB13
  refine wp_mono [Brings.one ?b1_0, Brings.one ?b2_1, Brings.one ?b3_2, Brings.one undef, Brings.one undef, Brings.one undef, Brings.one undef, Brings.one undef, Brings.one undef, Brings.one ?b4_9, Brings.one ?b5_10] (by kernel_rfl) (by kernel_rfl) ?_
  rotate_left 5
  refine wpL_take (k' := 1) rfl (by kernel_rfl) (fun d os => ?t6) ?_
  case t6 => (unfold bringsAt; go_simp; first | with_reducible exact take_one | exact take_one)
  try simp only [Act.put, List.setIfInBounds_toArray, List.set_cons_zero, List.set_cons_succ]
  refine wpL_call (k' := 2) rfl (by kernel_rfl) (fun wz hz hd => ?t7) ?_
  case t7 =>
    have HZ := Lib.hid (HB1.out.trans (hz.mono HB1.out.size))
    unfold bringsAt
    go_simp
    have h9 := fright_c a d S As cs K Ak ck wz (RS.out.kept HZ.out) (RK.out.kept HZ.out) hn hm
    rw [H1.out] at h9
    refine call_one_as h9 ?_
    rfl
  try simp only [Act.put, List.setIfInBounds_toArray, List.set_cons_zero, List.set_cons_succ]
  refine wpL_take (k' := 3) rfl (by kernel_rfl) (fun d os => ?t8) ?_
  case t8 => (unfold bringsAt; go_simp; first | with_reducible exact take_one | exact take_one)
  try simp only [Act.put, List.setIfInBounds_toArray, List.set_cons_zero, List.set_cons_succ]
  refine wpL_skip (k' := 4) rfl (by kernel_rfl) ?_
  try simp only [Act.put, List.setIfInBounds_toArray, List.set_cons_zero, List.set_cons_succ]
  refine wpL_skip (k' := 5) rfl (by kernel_rfl) ?_
  try simp only [Act.put, List.setIfInBounds_toArray, List.set_cons_zero, List.set_cons_succ]
  refine wpL_skip (k' := 6) rfl (by kernel_rfl) ?_
  try simp only [Act.put, List.setIfInBounds_toArray, List.set_cons_zero, List.set_cons_succ]
  refine wpL_skip (k' := 7) rfl (by kernel_rfl) ?_
  try simp only [Act.put, List.setIfInBounds_toArray, List.set_cons_zero, List.set_cons_succ]
  refine wpL_skip (k' := 8) rfl (by kernel_rfl) ?_
  try simp only [Act.put, List.setIfInBounds_toArray, List.set_cons_zero, List.set_cons_succ]
  refine wpL_skip (k' := 9) rfl (by kernel_rfl) ?_
  try simp only [Act.put, List.setIfInBounds_toArray, List.set_cons_zero, List.set_cons_succ]
  refine wpL_take (k' := 10) rfl (by kernel_rfl) (fun d os => ?t15) ?_
  case t15 => (unfold bringsAt; go_simp; first | with_reducible exact take_one | exact take_one)
  try simp only [Act.put, List.setIfInBounds_toArray, List.set_cons_zero, List.set_cons_succ]
  refine wpL_take (k' := 11) rfl (by kernel_rfl) (fun d os => ?t16) ?_
  case t16 => (unfold bringsAt; go_simp; first | with_reducible exact take_one | exact take_one)
  try simp only [Act.put, List.setIfInBounds_toArray, List.set_cons_zero, List.set_cons_succ]
  refine wpL_nil ?_
  intro w2 hH
  have hb' := hH.below
  clear kq0 kq1 kq2 kq3
  have HB1 := Lib.hid ((HB1.out).trans (hb'.mono (HB1.out).size))
  have B1 := Lib.hid ((B1.out).below hb' (B1.out).lt)
  clear hH hb'
  go_wp2_with fail
  go_ret
  exact ⟨rfl, HB1.out⟩
set_option maxRecDepth 100000 in
set_option maxHeartbeats 6400000 in
theorem feven_yes (a d : Int) (S : List Int) (As : Option Addr) (cs : Nat) (K : List Bk) (Ak : Option Addr) (ck : Nat) (w : World) (hS : ReadsI w As S) (hK : ReadsE EK w Ak K) (hn : S.length ≤ 9223372036854775807) (hm : K.length ≤ 9223372036854775807) (b : Bool) (h1 : okFl a d S K = true) (hev : decide (levelK a.toNat S K = K) = b) :
    Calls Try.prog 17 #[flV a d (.slice As S.length cs) (.slice Ak K.length ck)] w fun e w' => e = .returned (.bool b) ∧ Below w.heap.size w w' := by
  have HEV := Lib.hid hev
  have HLV := Lib.hid (show levF a d S K = ⟨a, d, S, levelK a.toNat S K⟩ by unfold levF; rw [if_pos h1])
  clear hev
  have RS := Lib.hid hS
  have RK := Lib.hid hK
  have H1 := Lib.hid h1
  clear hS hK h1
  have HB1 := Lib.hid (Below.refl w.heap.size w)
  go_enter Try.func17, Try.ntmps17
  go_upto_region 1 with fail
  have HB1 := Lib.hid (below_alloc_ (HB1.out) (.cells #[.int .i64 a, .int .i64 d, .slice As S.length cs, .slice Ak K.length ck] 25))
  have hzw : (w.alloc (.cells #[.int .i64 a, .int .i64 d, .slice As S.length cs, .slice Ak K.length ck] 25)).heap.size = w.heap.size + 1 := by simp only [World.size_alloc]
  have B1 := Blk.new (w) 25 #[.int .i64 a, .int .i64 d, .slice As S.length cs, .slice Ak K.length ck]
  skip
  have B1 := Lib.hid B1
  generalize w.alloc (.cells #[.int .i64 a, .int .i64 d, .slice As S.length cs, .slice Ak K.length ck] 25) = w1 at *
  clear hzw
  obtain ⟨zB10, zB11, zB12, zB13⟩ := (B1.out).cells4
  have kq0 := cell_regrown zB10
  have kq1 := cell_regrown zB11
  have kq2 := cell_regrown zB12
  have kq3 := cell_regrown zB13
  clear zB10 zB11 zB12 zB13
  refine wp_mono [Brings.one ?b17_0, Brings.one ?b18_1, Brings.one ?b19_2, Brings.one ?b20_3, Brings.fl w1.heap.size (a) (d) (S) (levelK a.toNat S K), Brings.ownE EK w1.heap.size (fun v => v) (levelK a.toNat S K), Brings.one ?b21_6, Brings.one ?b22_7, Brings.one ?b23_8, Brings.one ?b24_9, Brings.one ?b25_10] (by kernel_rfl) (by kernel_rfl) ?_
  rotate_left 9
  refine wpL_take (k' := 1) rfl (by kernel_rfl) (fun d os => ?t26) ?_
  case t26 => (unfold bringsAt; go_simp; first | with_reducible exact take_one | exact take_one)
  try simp only [Act.put, List.setIfInBounds_toArray, List.set_cons_zero, List.set_cons_succ]
  refine wpL_call (k' := 2) rfl (by kernel_rfl) (fun wz hz hd => ?t27) ?_
  case t27 =>
    have HZ := Lib.hid (HB1.out.trans (hz.mono HB1.out.size))
    unfold bringsAt
    go_simp
    have h9 := fright_c a d S As cs K Ak ck wz (RS.out.kept HZ.out) (RK.out.kept HZ.out) hn hm
    rw [H1.out] at h9
    refine call_one_as h9 ?_
    rfl
  try simp only [Act.put, List.setIfInBounds_toArray, List.set_cons_zero, List.set_cons_succ]
  refine wpL_take (k' := 3) rfl (by kernel_rfl) (fun d os => ?t28) ?_
  case t28 => (unfold bringsAt; go_simp; first | with_reducible exact take_one | exact take_one)
  try simp only [Act.put, List.setIfInBounds_toArray, List.set_cons_zero, List.set_cons_succ]
  refine wpL_take (k' := 4) rfl (by kernel_rfl) (fun d os => ?t29) ?_
  case t29 => (unfold bringsAt; go_simp; first | with_reducible exact take_one | exact take_one)
  try simp only [Act.put, List.setIfInBounds_toArray, List.set_cons_zero, List.set_cons_succ]
  refine wpL_fl (k' := 5) rfl (by kernel_rfl) (fun wz hz hd => ?t30) (fun A1 c1 A2 c2 => ?_)
  case t30 =>
    have HZ := Lib.hid (HB1.out.trans (hz.mono HB1.out.size))
    unfold bringsAt
    go_simp
    have h9 := flevel_c a d S As cs K Ak ck wz (RS.out.kept HZ.out) (RK.out.kept HZ.out) hn hm
    rw [HLV.out] at h9
    exact call_fl hz.size h9
  try simp only [Act.put, List.setIfInBounds_toArray, List.set_cons_zero, List.set_cons_succ]
  refine wpL_ownE (k' := 6) rfl (by kernel_rfl) (fun wz hz hd => ?t31) (fun A3 c3 => ?_)
  case t31 =>
    have HZ := Lib.hid (HB1.out.trans (hz.mono HB1.out.size))
    have OL := Lib.hid (show OwnI wz w1.heap.size (.slice A1 (S).length c1) (S) ∧ OwnE EK wz w1.heap.size (.slice A2 (levelK a.toNat S K).length c2) (levelK a.toNat S K) from hd.get 4 (by kernel_rfl))
    unfold bringsAt
    go_simp
    exact take_brings (A2, c2) rfl OL.out.2 rfl
  try simp only [Act.put, List.setIfInBounds_toArray, List.set_cons_zero, List.set_cons_succ]
  refine wpL_take (k' := 7) rfl (by kernel_rfl) (fun d os => ?t32) ?_
  case t32 => (unfold bringsAt; go_simp; first | with_reducible exact take_one | exact take_one)
  try simp only [Act.put, List.setIfInBounds_toArray, List.set_cons_zero, List.set_cons_succ]
  refine wpL_take (k' := 8) rfl (by kernel_rfl) (fun d os => ?t33) ?_
  case t33 => (unfold bringsAt; go_simp; first | with_reducible exact take_one | exact take_one)
  try simp only [Act.put, List.setIfInBounds_toArray, List.set_cons_zero, List.set_cons_succ]
  refine wpL_call (k' := 9) rfl (by kernel_rfl) (fun wz hz hd => ?t34) ?_
  case t34 =>
    have HZ := Lib.hid (HB1.out.trans (hz.mono HB1.out.size))
    have OK3 := Lib.hid (show OwnE EK wz w1.heap.size (.slice A3 (levelK a.toNat S K).length c3) (levelK a.toNat S K) from hd.get 5 (by kernel_rfl))
    unfold bringsAt
    go_simp
    have h9 := sequal_c (levelK a.toNat S K) K A3 Ak c3 ck wz OK3.out.reads (RK.out.kept HZ.out) (by rw [levelK_length]; exact hm) hm
    rw [HEV.out] at h9
    refine call_one_as h9 ?_
    rfl
  try simp only [Act.put, List.setIfInBounds_toArray, List.set_cons_zero, List.set_cons_succ]
  refine wpL_take (k' := 10) rfl (by kernel_rfl) (fun d os => ?t35) ?_
  case t35 => (unfold bringsAt; go_simp; first | with_reducible exact take_one | exact take_one)
  try simp only [Act.put, List.setIfInBounds_toArray, List.set_cons_zero, List.set_cons_succ]
  refine wpL_take (k' := 11) rfl (by kernel_rfl) (fun d os => ?t36) ?_
  case t36 => (unfold bringsAt; go_simp; first | with_reducible exact take_one | exact take_one)
  try simp only [Act.put, List.setIfInBounds_toArray, List.set_cons_zero, List.set_cons_succ]
  refine wpL_nil ?_
  intro w2 hH
  have hb' := hH.below
  clear kq0 kq1 kq2 kq3
  have HB1 := Lib.hid ((HB1.out).trans (hb'.mono (HB1.out).size))
  have B1 := Lib.hid ((B1.out).below hb' (B1.out).lt)
  have OL := Lib.hid (show OwnI w2 w1.heap.size (.slice A1 (S).length c1) (S) ∧ OwnE EK w2 w1.heap.size (.slice A2 (levelK a.toNat S K).length c2) (levelK a.toNat S K) from hH.facts 4)
  have OLS := Lib.hid OL.out.1
  have OLK := Lib.hid OL.out.2
  clear OL
  have OK3 := Lib.hid (show OwnE EK w2 w1.heap.size (.slice A3 (levelK a.toNat S K).length c3) (levelK a.toNat S K) from hH.facts 5)
  clear hH hb'
  go_wp2_with fail
  go_ret
  exact ⟨rfl, HB1.out⟩
theorem feven_c (a d : Int) (S : List Int) (As : Option Addr) (cs : Nat) (K : List Bk) (Ak : Option Addr) (ck : Nat) (w : World) (hS : ReadsI w As S) (hK : ReadsE EK w Ak K) (hn : S.length ≤ 9223372036854775807) (hm : K.length ≤ 9223372036854775807) :
    Calls Try.prog 17 #[flV a d (.slice As S.length cs) (.slice Ak K.length ck)] w fun e w' => e = .returned (.bool (evenB a d S K)) ∧ Below w.heap.size w w' := by
  unfold evenB
  cases h1 : okFl a d S K with
  | false => exact feven_no a d S As cs K Ak ck w hS hK hn hm h1
  | true => exact feven_yes a d S As cs K Ak ck w hS hK hn hm _ h1 rfl
set_option maxRecDepth 100000 in
set_option maxHeartbeats 6400000 in
theorem fnew_c (a d : Int) (w : World) : Calls Try.prog 22 #[.int .i64 a, .int .i64 d] w (FlRes (newF a d).a (newF a d).d (newF a d).S (newF a d).K w) := by
  cases ea : countB a with
  | false =>
    rw [show newF a d = ⟨0, 0, [], []⟩ by unfold newF; rw [if_neg (by simp [ea])]]
    have EA := Lib.hid ea
    clear ea
    go_enter Try.func22, Try.ntmps22
    go_wp2_with fail
    refine (fcount_c a _).mono ?_
    rintro e w1 ⟨rfl, rfl⟩
    rw [EA.out]
    go_wp2_with fail
    have hrow := Blk.new w 25 #[.int .i64 0, .int .i64 0, .slice none 0 0, .slice none 0 0]
    refine bodyPost_ret (results_cell_row rfl _ _ w.heap.size 25 _ (0, 0) _ rfl hrow Try.underlying25 rfl (by kernel_rfl)) rfl ?_
    exact ⟨_, _, rfl, OwnI.nil _ _, OwnE.nil _ _, below_alloc_ (Below.refl _ _) _⟩
  | true =>
    cases ed : countB d with
    | false =>
      rw [show newF a d = ⟨0, 0, [], []⟩ by unfold newF; rw [if_neg (by simp [ed])]]
      have EA := Lib.hid ea
      have ED := Lib.hid ed
      clear ea ed
      go_enter Try.func22, Try.ntmps22
      go_wp2_with fail
      refine (fcount_c a _).mono ?_
      rintro e w1 ⟨rfl, rfl⟩
      rw [EA.out]
      go_wp2_with fail
      refine (fcount_c d _).mono ?_
      rintro e w1 ⟨rfl, rfl⟩
      rw [ED.out]
      go_wp2_with fail
      have hrow := Blk.new w 25 #[.int .i64 0, .int .i64 0, .slice none 0 0, .slice none 0 0]
      refine bodyPost_ret (results_cell_row rfl _ _ w.heap.size 25 _ (0, 0) _ rfl hrow Try.underlying25 rfl (by kernel_rfl)) rfl ?_
      exact ⟨_, _, rfl, OwnI.nil _ _, OwnE.nil _ _, below_alloc_ (Below.refl _ _) _⟩
    | true =>
      obtain ⟨A, D, N, rfl, rfl, a1, a2, d1, d2, hN, hN2, hf⟩ := new_nat ea ed
      rw [hf]
      have HNN := Lib.hid hN
      have EA := Lib.hid ea
      have ED := Lib.hid ed
      have e1 : (A : Int) * (D : Int) = (N : Int) := by rw [hN]; exact (Int.natCast_mul _ _).symm
      have W1 : IntKind.i64.wrap ((A : Int) * (D : Int)) = (N : Int) := by rw [e1]; exact IntWalk.i64_in _ (by omega)
      have W2 : IntKind.i64.wrap ((N : Int) * 4) = (N : Int) * 4 := IntWalk.i64_in _ (by omega)
      have W3 : IntKind.i64.wrap ((N : Int) * 4 * 4) = ((16 * N : Nat) : Int) := by rw [show (N : Int) * 4 * 4 = ((16 * N : Nat) : Int) by omega]; exact IntWalk.i64_in _ (by omega)
      have W4 : IntKind.i64.wrap (16 * (A : Int)) = 16 * (A : Int) := IntWalk.i64_in _ (by omega)
      have W5 : IntKind.i64.wrap (16 * (A : Int) * (D : Int)) = ((16 * N : Nat) : Int) := by rw [Int.mul_assoc, e1, show 16 * (N : Int) = ((16 * N : Nat) : Int) by omega]; exact IntWalk.i64_in _ (by omega)
      have M1 := make_int 22 Try.underlying22 N (by omega)
      have M2 := make_blocks 23 Try.underlying23 (16 * N) (by omega)
      obtain ⟨M, hM⟩ : ∃ M, M = 16 * N := ⟨_, rfl⟩
      rw [← hM] at W3 W5 M2 ⊢
      have hM2 : M ≤ 65536 := by omega
      have hA64 : (A : Int) ≤ 64 := by omega
      have hD64 : (D : Int) ≤ 64 := by omega
      have hA1 : 1 ≤ (A : Int) := by omega
      have hD1 : 1 ≤ (D : Int) := by omega
      clear ea ed hN hf e1 hM
      have HB1 := Lib.hid (Below.refl w.heap.size w)
      go_enter Try.func22, Try.ntmps22
      go_wp2_with fail
      refine (fcount_c A _).mono ?_
      rintro e w1 ⟨rfl, rfl⟩
      rw [EA.out]
      go_wp2_with fail
      refine (fcount_c D _).mono ?_
      rintro e w1 ⟨rfl, rfl⟩
      rw [ED.out]
      go_upto_region 4 with fail
      have HB1 := Lib.hid (below_alloc_ (HB1.out) (.cells #[.int .i64 0, .int .i64 0, .slice none 0 0, .slice none 0 0] 25))
      have hzw : (w.alloc (.cells #[.int .i64 0, .int .i64 0, .slice none 0 0, .slice none 0 0] 25)).heap.size = w.heap.size + 1 := by simp only [World.size_alloc]
      have B4 := Blk.new (w) 25 #[.int .i64 0, .int .i64 0, .slice none 0 0, .slice none 0 0]
      skip
      have B4 := Lib.hid B4
      generalize w.alloc (.cells #[.int .i64 0, .int .i64 0, .slice none 0 0, .slice none 0 0] 25) = w1 at *
      clear hzw
      have Hw1 := Lib.hid HB1.out.size
      refine wp_mono_tail 9 [Brings.one ?b37_0, Brings.one ?b38_1, Brings.one ?b39_2, Brings.owned w1.heap.size (fun v => v) (List.replicate N (0 : Int)), Brings.one ?b40_4, Brings.one ?b41_5, Brings.one ?b42_6, Brings.ownE EK w1.heap.size (fun v => v) (List.replicate M Bk.zero), Brings.fl w1.heap.size (A) (D) (List.replicate N (0 : Int)) (List.replicate M Bk.zero)] (by kernel_rfl) (by kernel_rfl) ?_
      rotate_left 6
      simp only [List.take_succ_cons, List.take_zero, List.drop_succ_cons, List.drop_zero]
      refine wpL_take (k' := 1) rfl (by kernel_rfl) (fun d os => ?t43) ?_
      case t43 => (unfold bringsAt; go_simp; first | with_reducible exact take_one | exact take_one)
      try simp only [Act.put, List.setIfInBounds_toArray, List.set_cons_zero, List.set_cons_succ]
      refine wpL_take (k' := 2) rfl (by kernel_rfl) (fun d os => ?t44) ?_
      case t44 => (unfold bringsAt; go_simp; first | with_reducible exact take_one | exact take_one)
      try simp only [Act.put, List.setIfInBounds_toArray, List.set_cons_zero, List.set_cons_succ]
      refine wpL_take (k' := 3) rfl (by kernel_rfl) (fun d os => ?t45) ?_
      case t45 => (unfold bringsAt; go_simp; first | with_reducible exact take_one | exact take_one)
      try simp only [Act.put, List.setIfInBounds_toArray, List.set_cons_zero, List.set_cons_succ]
      refine wpL_owned (k' := 4) rfl (by kernel_rfl) (fun wz hz hd => ?t46) (fun A1 c1 => ?_)
      case t46 =>
        have HZ := Lib.hid (HB1.out.trans (hz.mono HB1.out.size))
        unfold bringsAt
        go_simp
        exact take_new (some ⟨wz.heap.size, 0, none⟩, N) (by simp [Brings.owned]) (by have h := (RowI.new wz (List.replicate N (0 : Int))).own (B := w1.heap.size) hz.size (by simp; unfold maxLen; omega); rw [List.length_replicate, rep_ints] at h; show OwnI _ _ (.slice _ (List.replicate N (0 : Int)).length N) _; rw [List.length_replicate]; exact h) ((Below.refl _ _).alloc (Nat.le_refl _) _) (fun b hb => by cases hb)
      try simp only [Act.put, List.setIfInBounds_toArray, List.set_cons_zero, List.set_cons_succ]
      refine wpL_take (k' := 5) rfl (by kernel_rfl) (fun d os => ?t47) ?_
      case t47 => (unfold bringsAt; go_simp; first | with_reducible exact take_one | exact take_one)
      try simp only [Act.put, List.setIfInBounds_toArray, List.set_cons_zero, List.set_cons_succ]
      refine wpL_take (k' := 6) rfl (by kernel_rfl) (fun d os => ?t48) ?_
      case t48 => (unfold bringsAt; go_simp; first | with_reducible exact take_one | exact take_one)
      try simp only [Act.put, List.setIfInBounds_toArray, List.set_cons_zero, List.set_cons_succ]
      refine wpL_take (k' := 7) rfl (by kernel_rfl) (fun d os => ?t49) ?_
      case t49 => (unfold bringsAt; go_simp; first | with_reducible exact take_one | exact take_one)
      try simp only [Act.put, List.setIfInBounds_toArray, List.set_cons_zero, List.set_cons_succ]
      refine wpL_ownE (k' := 8) rfl (by kernel_rfl) (fun wz hz hd => ?t50) (fun A2 c2 => ?_)
      case t50 =>
        have HZ := Lib.hid (HB1.out.trans (hz.mono HB1.out.size))
        unfold bringsAt
        go_simp
        exact take_new (some ⟨wz.heap.size, 0, none⟩, M) (by simp [Brings.ownE]) (by have h := (RowE.new (E := EK) wz (List.replicate M Bk.zero)).own (B := w1.heap.size) hz.size (by simp; unfold maxLen; omega); rw [List.length_replicate] at h; show OwnE EK _ _ (.slice _ (List.replicate M Bk.zero).length M) _; rw [List.length_replicate]; exact h) ((Below.refl _ _).alloc (Nat.le_refl _) _) (fun b hb => by cases hb)
      try simp only [Act.put, List.setIfInBounds_toArray, List.set_cons_zero, List.set_cons_succ]
      refine wpL_fl (k' := 9) rfl (by kernel_rfl) (fun wz hz hd => ?t51) (fun A3 c3 A4 c4 => ?_)
      case t51 =>
        have HZ := Lib.hid (HB1.out.trans (hz.mono HB1.out.size))
        have O1 := Lib.hid (show OwnI wz w1.heap.size (.slice A1 (List.replicate N (0 : Int)).length c1) (List.replicate N (0 : Int)) from hd.get 3 (by kernel_rfl))
        have O2 := Lib.hid (show OwnE EK wz w1.heap.size (.slice A2 (List.replicate M Bk.zero).length c2) (List.replicate M Bk.zero) from hd.get 7 (by kernel_rfl))
        unfold bringsAt
        go_simp
        exact take_brings ((A1, c1), (A2, c2)) (by simp [Brings.fl, flV]) ⟨O1.out, O2.out⟩ rfl
      try simp only [Act.put, List.setIfInBounds_toArray, List.set_cons_zero, List.set_cons_succ]
      refine wpL_nil ?_
      intro w2 hH
      have hb' := hH.below
      have HB1 := Lib.hid ((HB1.out).trans (hb'.mono (HB1.out).size))
      have B4 := Lib.hid ((B4.out).below hb' (B4.out).lt)
      have O1 := Lib.hid (show OwnI w2 w1.heap.size (.slice A1 (List.replicate N (0 : Int)).length c1) (List.replicate N (0 : Int)) from hH.facts 3)
      have O2 := Lib.hid (show OwnE EK w2 w1.heap.size (.slice A2 (List.replicate M Bk.zero).length c2) (List.replicate M Bk.zero) from hH.facts 7)
      have OF := Lib.hid (show OwnI w2 w1.heap.size (.slice A3 (List.replicate N (0 : Int)).length c3) (List.replicate N (0 : Int)) ∧ OwnE EK w2 w1.heap.size (.slice A4 (List.replicate M Bk.zero).length c4) (List.replicate M Bk.zero) from hH.facts 8)
      have OFS := Lib.hid OF.out.1
      have OFK := Lib.hid OF.out.2
      clear OF
      clear hH hb'
      have OS := OFS.out
      have OK := OFK.out
      rw [List.length_replicate] at OS OK
      obtain ⟨f0, f1, f2, f3⟩ := B4.out.frozens
      obtain ⟨q0, q1, q2, q3⟩ := B4.out.cells4
      go_wp2_with fail
      have hrow := ret_four' B4.out (.int .i64 (A : Int)) (.int .i64 (D : Int)) (.slice A3 N c3) (.slice A4 M c4)
      have lw := Nat.le_refl w.heap.size
      have hw1 := Hw1.out
      have hO2 := (((((OS.lower (B' := w.heap.size) hw1).set_ (i := 0) B4.out (by decide) (.int .i64 (A : Int))).set_ (i := 1) (B4.out.set_ 0 _) (by decide) (.int .i64 (D : Int))).set_ (i := 2) ((B4.out.set_ 0 _).set_ 1 _) (by decide) (.slice A3 N c3)).set_ (i := 3) (((B4.out.set_ 0 _).set_ 1 _).set_ 2 _) (by decide) (.slice A4 M c4))
      have hO5 := (((((OK.lower (B' := w.heap.size) hw1).set_ (i := 0) B4.out (by decide) (.int .i64 (A : Int))).set_ (i := 1) (B4.out.set_ 0 _) (by decide) (.int .i64 (D : Int))).set_ (i := 2) ((B4.out.set_ 0 _).set_ 1 _) (by decide) (.slice A3 N c3)).set_ (i := 3) (((B4.out.set_ 0 _).set_ 1 _).set_ 2 _) (by decide) (.slice A4 M c4))
      have hBB := (((HB1.out.setCell (p := ⟨w.heap.size, 0, none⟩) lw (.int .i64 (A : Int))).setCell (p := ⟨w.heap.size, 1, none⟩) lw (.int .i64 (D : Int))).setCell (p := ⟨w.heap.size, 2, none⟩) lw (.slice A3 N c3)).setCell (p := ⟨w.heap.size, 3, none⟩) lw (.slice A4 M c4)
      refine bodyPost_ret (results_cell_row rfl _ _ w.heap.size 25 _ (0, 0) _ rfl hrow Try.underlying25 rfl (by kernel_rfl)) rfl ?_
      exact ⟨_, _, rfl, hO2, hO5, hBB⟩
set_option maxRecDepth 100000 in
set_option maxHeartbeats 6400000 in
theorem lnews_c (a d : Int) (w : World) : Calls Try.prog 23 #[.int .i64 a, .int .i64 d] w (FlRes (newF a d).a (newF a d).d (newF a d).S (newF a d).K w) := by
  cases ea : countB a with
  | false =>
    rw [show newF a d = ⟨0, 0, [], []⟩ by unfold newF; rw [if_neg (by simp [ea])]]
    have ha := countB_f ea
    clear ea
    rcases ha with ha | ha
    all_goals
      go_enter Try.func23, Try.ntmps23
      go_wp2_with fail
      have hrow := Blk.new w 25 #[.int .i64 0, .int .i64 0, .slice none 0 0, .slice none 0 0]
      refine bodyPost_ret (results_cell_row rfl _ _ w.heap.size 25 _ (0, 0) _ rfl hrow Try.underlying25 rfl (by kernel_rfl)) rfl ?_
      exact ⟨_, _, rfl, OwnI.nil _ _, OwnE.nil _ _, below_alloc_ (Below.refl _ _) _⟩
  | true =>
    cases ed : countB d with
    | false =>
      rw [show newF a d = ⟨0, 0, [], []⟩ by unfold newF; rw [if_neg (by simp [ed])]]
      have hd := countB_f ed
      obtain ⟨ha1, ha2⟩ := countB_t ea
      clear ea ed
      rcases hd with hd | hd
      all_goals
        go_enter Try.func23, Try.ntmps23
        go_wp2_with fail
        have hrow := Blk.new w 25 #[.int .i64 0, .int .i64 0, .slice none 0 0, .slice none 0 0]
        refine bodyPost_ret (results_cell_row rfl _ _ w.heap.size 25 _ (0, 0) _ rfl hrow Try.underlying25 rfl (by kernel_rfl)) rfl ?_
        exact ⟨_, _, rfl, OwnI.nil _ _, OwnE.nil _ _, below_alloc_ (Below.refl _ _) _⟩
    | true =>
      obtain ⟨A, D, N, rfl, rfl, a1, a2, d1, d2, hN, hN2, hf⟩ := new_nat ea ed
      rw [hf]
      have HNN := Lib.hid hN
      have EA := Lib.hid ea
      have ED := Lib.hid ed
      have e1 : (A : Int) * (D : Int) = (N : Int) := by rw [hN]; exact (Int.natCast_mul _ _).symm
      have W1 : IntKind.i64.wrap ((A : Int) * (D : Int)) = (N : Int) := by rw [e1]; exact IntWalk.i64_in _ (by omega)
      have W2 : IntKind.i64.wrap ((N : Int) * 4) = (N : Int) * 4 := IntWalk.i64_in _ (by omega)
      have W3 : IntKind.i64.wrap ((N : Int) * 4 * 4) = ((16 * N : Nat) : Int) := by rw [show (N : Int) * 4 * 4 = ((16 * N : Nat) : Int) by omega]; exact IntWalk.i64_in _ (by omega)
      have W4 : IntKind.i64.wrap (16 * (A : Int)) = 16 * (A : Int) := IntWalk.i64_in _ (by omega)
      have W5 : IntKind.i64.wrap (16 * (A : Int) * (D : Int)) = ((16 * N : Nat) : Int) := by rw [Int.mul_assoc, e1, show 16 * (N : Int) = ((16 * N : Nat) : Int) by omega]; exact IntWalk.i64_in _ (by omega)
      have M1 := make_int 22 Try.underlying22 N (by omega)
      have M2 := make_blocks 23 Try.underlying23 (16 * N) (by omega)
      obtain ⟨M, hM⟩ : ∃ M, M = 16 * N := ⟨_, rfl⟩
      rw [← hM] at W3 W5 M2 ⊢
      have hM2 : M ≤ 65536 := by omega
      have hA64 : (A : Int) ≤ 64 := by omega
      have hD64 : (D : Int) ≤ 64 := by omega
      have hA1 : 1 ≤ (A : Int) := by omega
      have hD1 : 1 ≤ (D : Int) := by omega
      clear ea ed hN hf e1 hM
      have HB1 := Lib.hid (Below.refl w.heap.size w)
      go_enter Try.func23, Try.ntmps23
      go_upto_region 3 with fail
      have HB1 := Lib.hid (below_alloc_ (HB1.out) (.cells #[.int .i64 0, .int .i64 0, .slice none 0 0, .slice none 0 0] 25))
      have hzw : (w.alloc (.cells #[.int .i64 0, .int .i64 0, .slice none 0 0, .slice none 0 0] 25)).heap.size = w.heap.size + 1 := by simp only [World.size_alloc]
      have B4 := Blk.new (w) 25 #[.int .i64 0, .int .i64 0, .slice none 0 0, .slice none 0 0]
      skip
      have B4 := Lib.hid B4
      generalize w.alloc (.cells #[.int .i64 0, .int .i64 0, .slice none 0 0, .slice none 0 0] 25) = w1 at *
      clear hzw
      have Hw1 := Lib.hid HB1.out.size
      refine wp_mono_tail 12 [Brings.one ?b52_0, Brings.one ?b53_1, Brings.one ?b54_2, Brings.one ?b55_3, Brings.one ?b56_4, Brings.owned w1.heap.size (fun v => v) (List.replicate N (0 : Int)), Brings.one ?b57_6, Brings.one ?b58_7, Brings.one ?b59_8, Brings.one ?b60_9, Brings.ownE EK w1.heap.size (fun v => v) (List.replicate M Bk.zero), Brings.fl w1.heap.size (A) (D) (List.replicate N (0 : Int)) (List.replicate M Bk.zero)] (by kernel_rfl) (by kernel_rfl) ?_
      rotate_left 9
      simp only [List.take_succ_cons, List.take_zero, List.drop_succ_cons, List.drop_zero]
      refine wpL_take (k' := 1) rfl (by kernel_rfl) (fun d os => ?t61) ?_
      case t61 => (unfold bringsAt; go_simp; first | with_reducible exact take_one | exact take_one)
      try simp only [Act.put, List.setIfInBounds_toArray, List.set_cons_zero, List.set_cons_succ]
      refine wpL_take (k' := 2) rfl (by kernel_rfl) (fun d os => ?t62) ?_
      case t62 => (unfold bringsAt; go_simp; first | with_reducible exact take_one | exact take_one)
      try simp only [Act.put, List.setIfInBounds_toArray, List.set_cons_zero, List.set_cons_succ]
      refine wpL_take (k' := 3) rfl (by kernel_rfl) (fun d os => ?t63) ?_
      case t63 => (unfold bringsAt; go_simp; first | with_reducible exact take_one | exact take_one)
      try simp only [Act.put, List.setIfInBounds_toArray, List.set_cons_zero, List.set_cons_succ]
      refine wpL_take (k' := 4) rfl (by kernel_rfl) (fun d os => ?t64) ?_
      case t64 => (unfold bringsAt; go_simp; first | with_reducible exact take_one | exact take_one)
      try simp only [Act.put, List.setIfInBounds_toArray, List.set_cons_zero, List.set_cons_succ]
      refine wpL_take (k' := 5) rfl (by kernel_rfl) (fun d os => ?t65) ?_
      case t65 => (unfold bringsAt; go_simp; first | with_reducible exact take_one | exact take_one)
      try simp only [Act.put, List.setIfInBounds_toArray, List.set_cons_zero, List.set_cons_succ]
      refine wpL_owned (k' := 6) rfl (by kernel_rfl) (fun wz hz hd => ?t66) (fun A1 c1 => ?_)
      case t66 =>
        have HZ := Lib.hid (HB1.out.trans (hz.mono HB1.out.size))
        unfold bringsAt
        go_simp
        exact take_new (some ⟨wz.heap.size, 0, none⟩, N) (by simp [Brings.owned]) (by have h := (RowI.new wz (List.replicate N (0 : Int))).own (B := w1.heap.size) hz.size (by simp; unfold maxLen; omega); rw [List.length_replicate, rep_ints] at h; show OwnI _ _ (.slice _ (List.replicate N (0 : Int)).length N) _; rw [List.length_replicate]; exact h) ((Below.refl _ _).alloc (Nat.le_refl _) _) (fun b hb => by cases hb)
      try simp only [Act.put, List.setIfInBounds_toArray, List.set_cons_zero, List.set_cons_succ]
      refine wpL_take (k' := 7) rfl (by kernel_rfl) (fun d os => ?t67) ?_
      case t67 => (unfold bringsAt; go_simp; first | with_reducible exact take_one | exact take_one)
      try simp only [Act.put, List.setIfInBounds_toArray, List.set_cons_zero, List.set_cons_succ]
      refine wpL_take (k' := 8) rfl (by kernel_rfl) (fun d os => ?t68) ?_
      case t68 => (unfold bringsAt; go_simp; first | with_reducible exact take_one | exact take_one)
      try simp only [Act.put, List.setIfInBounds_toArray, List.set_cons_zero, List.set_cons_succ]
      refine wpL_take (k' := 9) rfl (by kernel_rfl) (fun d os => ?t69) ?_
      case t69 => (unfold bringsAt; go_simp; first | with_reducible exact take_one | exact take_one)
      try simp only [Act.put, List.setIfInBounds_toArray, List.set_cons_zero, List.set_cons_succ]
      refine wpL_take (k' := 10) rfl (by kernel_rfl) (fun d os => ?t70) ?_
      case t70 => (unfold bringsAt; go_simp; first | with_reducible exact take_one | exact take_one)
      try simp only [Act.put, List.setIfInBounds_toArray, List.set_cons_zero, List.set_cons_succ]
      refine wpL_ownE (k' := 11) rfl (by kernel_rfl) (fun wz hz hd => ?t71) (fun A2 c2 => ?_)
      case t71 =>
        have HZ := Lib.hid (HB1.out.trans (hz.mono HB1.out.size))
        unfold bringsAt
        go_simp
        exact take_new (some ⟨wz.heap.size, 0, none⟩, M) (by simp [Brings.ownE]) (by have h := (RowE.new (E := EK) wz (List.replicate M Bk.zero)).own (B := w1.heap.size) hz.size (by simp; unfold maxLen; omega); rw [List.length_replicate] at h; show OwnE EK _ _ (.slice _ (List.replicate M Bk.zero).length M) _; rw [List.length_replicate]; exact h) ((Below.refl _ _).alloc (Nat.le_refl _) _) (fun b hb => by cases hb)
      try simp only [Act.put, List.setIfInBounds_toArray, List.set_cons_zero, List.set_cons_succ]
      refine wpL_fl (k' := 12) rfl (by kernel_rfl) (fun wz hz hd => ?t72) (fun A3 c3 A4 c4 => ?_)
      case t72 =>
        have HZ := Lib.hid (HB1.out.trans (hz.mono HB1.out.size))
        have O1 := Lib.hid (show OwnI wz w1.heap.size (.slice A1 (List.replicate N (0 : Int)).length c1) (List.replicate N (0 : Int)) from hd.get 5 (by kernel_rfl))
        have O2 := Lib.hid (show OwnE EK wz w1.heap.size (.slice A2 (List.replicate M Bk.zero).length c2) (List.replicate M Bk.zero) from hd.get 10 (by kernel_rfl))
        unfold bringsAt
        go_simp
        exact take_brings ((A1, c1), (A2, c2)) (by simp [Brings.fl, flV]) ⟨O1.out, O2.out⟩ rfl
      try simp only [Act.put, List.setIfInBounds_toArray, List.set_cons_zero, List.set_cons_succ]
      refine wpL_nil ?_
      intro w2 hH
      have hb' := hH.below
      have HB1 := Lib.hid ((HB1.out).trans (hb'.mono (HB1.out).size))
      have B4 := Lib.hid ((B4.out).below hb' (B4.out).lt)
      have O1 := Lib.hid (show OwnI w2 w1.heap.size (.slice A1 (List.replicate N (0 : Int)).length c1) (List.replicate N (0 : Int)) from hH.facts 5)
      have O2 := Lib.hid (show OwnE EK w2 w1.heap.size (.slice A2 (List.replicate M Bk.zero).length c2) (List.replicate M Bk.zero) from hH.facts 10)
      have OF := Lib.hid (show OwnI w2 w1.heap.size (.slice A3 (List.replicate N (0 : Int)).length c3) (List.replicate N (0 : Int)) ∧ OwnE EK w2 w1.heap.size (.slice A4 (List.replicate M Bk.zero).length c4) (List.replicate M Bk.zero) from hH.facts 11)
      have OFS := Lib.hid OF.out.1
      have OFK := Lib.hid OF.out.2
      clear OF
      clear hH hb'
      have OS := OFS.out
      have OK := OFK.out
      rw [List.length_replicate] at OS OK
      obtain ⟨f0, f1, f2, f3⟩ := B4.out.frozens
      obtain ⟨q0, q1, q2, q3⟩ := B4.out.cells4
      go_wp2_with fail
      have hrow := ret_four' B4.out (.int .i64 (A : Int)) (.int .i64 (D : Int)) (.slice A3 N c3) (.slice A4 M c4)
      have lw := Nat.le_refl w.heap.size
      have hw1 := Hw1.out
      have hO2 := (((((OS.lower (B' := w.heap.size) hw1).set_ (i := 0) B4.out (by decide) (.int .i64 (A : Int))).set_ (i := 1) (B4.out.set_ 0 _) (by decide) (.int .i64 (D : Int))).set_ (i := 2) ((B4.out.set_ 0 _).set_ 1 _) (by decide) (.slice A3 N c3)).set_ (i := 3) (((B4.out.set_ 0 _).set_ 1 _).set_ 2 _) (by decide) (.slice A4 M c4))
      have hO5 := (((((OK.lower (B' := w.heap.size) hw1).set_ (i := 0) B4.out (by decide) (.int .i64 (A : Int))).set_ (i := 1) (B4.out.set_ 0 _) (by decide) (.int .i64 (D : Int))).set_ (i := 2) ((B4.out.set_ 0 _).set_ 1 _) (by decide) (.slice A3 N c3)).set_ (i := 3) (((B4.out.set_ 0 _).set_ 1 _).set_ 2 _) (by decide) (.slice A4 M c4))
      have hBB := (((HB1.out.setCell (p := ⟨w.heap.size, 0, none⟩) lw (.int .i64 (A : Int))).setCell (p := ⟨w.heap.size, 1, none⟩) lw (.int .i64 (D : Int))).setCell (p := ⟨w.heap.size, 2, none⟩) lw (.slice A3 N c3)).setCell (p := ⟨w.heap.size, 3, none⟩) lw (.slice A4 M c4)
      refine bodyPost_ret (results_cell_row rfl _ _ w.heap.size 25 _ (0, 0) _ rfl hrow Try.underlying25 rfl (by kernel_rfl)) rfl ?_
      exact ⟨_, _, rfl, hO2, hO5, hBB⟩

end Go.Proofs.Ytiedjeholmoccaa
