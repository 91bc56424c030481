/- The walk of BitsWrite. -/
import Derived.Test.YtoiofnmodinpcaaBitsF
import Derived.Test.YtoiofnmodinpcaaOpenOps
import Derived.Deep.RegionHeld3
import Derived.Deep.DeepCutAuto
import Derived.Deep.CutBlock
import Derived.Deep.RegionLaw
namespace Go.Proofs.Ytoiofnmodinpcaa
open Go.RowKit
set_option linter.unusedVariables false
set_option linter.unusedSimpArgs false

theorem WGoes.other {w w' : World} {B g : Nat} {bv : Value} {bs bs2 : List Bool} {o : Obj} {t : TypeId} {cs : Array Value} (h : WrI w B g bv bs) (hg : WGoes (w.alloc o) w' B g bv bs2) (hb : Blk (w.alloc o) w.heap.size t cs) : Blk w' w.heap.size t cs := by
  obtain ⟨b2, _, ht, _⟩ := hg
  refine (ht.block w.heap.size (by simp) (by have := h.2.1.lt; omega) (fun e => ?_)).trans hb
  have := (h.2.2.blk_lt _ e.symm).2
  omega
theorem bitsV_one (q : Int) (h : q = 0 ∨ q = 1) : bitsV q (clampN 1) = [q == 1] := by
  rw [show clampN 1 = 1 by decide]
  rcases h with rfl | rfl <;> decide +kernel

set_option maxRecDepth 100000 in
set_option maxHeartbeats 12800000 in
theorem write_p (A : Option Addr) (c : Nat) (ops : List (Int × Int × Int)) (W : World) (hR : OpsR W A ops) (hm : ops.length ≤ 9223372036854775807)
    (hbd : ∀ x ∈ ops, (-9223372036854775808 ≤ x.1 ∧ x.1 ≤ 9223372036854775807) ∧ (-9223372036854775808 ≤ x.2.1 ∧ x.2.1 ≤ 9223372036854775807) ∧ (0 ≤ x.2.2 ∧ x.2.2 ≤ 18446744073709551615)) :
    Calls Try.prog 3 #[.slice A ops.length c] W fun e W' => e = .returned (.bool true) ∧ Below W.heap.size W W' := by
  have HR := Lib.hid hR
  have Hbd := Lib.hid hbd
  clear hR hbd
  go_enter Try.func3, Try.ntmps3
  go_wp2_with fail
  refine (first_c _).mono ?_
  rintro e w1 ⟨rfl, hb1⟩
  have Hb1 := Lib.hid hb1
  have hs1 := hb1.size
  clear hb1
  go_upto_block 0 with fail
  obtain ⟨g, Hg⟩ : ∃ g, Hid (w1.heap.size = g) := ⟨_, Lib.hid rfl⟩
  have Hn := Lib.hid (WrI.new w1 hs1)
  have Hb0 := Lib.hid (Hb1.out.alloc hs1 (.cells #[.slice none 0 0, .int .i64 0] 27))
  rw [Hg.out] at Hn
  go_cut [5] (fun s wx => ∃ (bs : List Bool) (bv : Value), s = .string (bstr bs) ∧ bs.length ≤ 4320 ∧ WrI wx W.heap.size w1.heap.size bv bs ∧ Below W.heap.size W wx)
  case rest =>
    obtain ⟨bs, bv, rfl, hbl, hz, hy⟩ := hcut
    have HZ := Lib.hid hz
    have HY := Lib.hid hy
    clear hz hy Hn Hb0 Hb1 HR Hbd Hg hs1 hm
    go_wp2_with fail
    obtain ⟨p, Hp⟩ : ∃ p, Hid (packZ bs = p) := ⟨_, Lib.hid rfl⟩
    have Hp8 := Lib.hid (packZ_byte8 bs)
    rw [Hp.out] at Hp8
    have Hpl : Hid (p.length ≤ 600) := Lib.hid (by rw [← Hp.out, packZ_length]; omega)
    obtain ⟨t, Ht⟩ : ∃ t, Hid (bytesStr p = t) := ⟨_, Lib.hid rfl⟩
    have Hcv : Hid (∀ (A : Option Addr) (c : Nat) (w : World), ReadsB w A p → (convert 25 9 (.slice A p.length c)).run Try.prog w = .ok (.string t) w) := Lib.hid (fun A c w h => by rw [← Ht.out]; exact conv_str 25 9 Try.underlying25 Try.underlying9 A c p w h Hp8.out)
    have HC : Hid (∀ w' : World, WrI w' W.heap.size w1.heap.size bv bs → Calls Try.prog 12 #[.pointer (some ⟨w1.heap.size, 0, none⟩)] w' fun e w2 => ∃ A c, e = .returned (.slice A p.length c) ∧ ReadsB w2 A p ∧ Below w'.heap.size w' w2) := Lib.hid (fun w' h => (wbytes_c _ _ _ _ _ h (by omega)).mono (by
      rintro e w2 ⟨v, rfl, ho, hb⟩
      rw [Hp.out] at ho
      obtain ⟨A, c, rfl, hr⟩ := ho.slice
      exact ⟨A, c, rfl, hr, hb⟩))
    have HD : Hid (∀ w' : World, Calls Try.prog 14 #[.string (bstr bs)] w' fun e w2 => ∃ A c, e = .returned (.slice A p.length c) ∧ ReadsB w2 A p ∧ Below w'.heap.size w' w2) := Lib.hid (fun w' => (rbytes_c bs w' (by omega)).mono (by
      rintro e w2 ⟨v, rfl, ho, hb⟩
      rw [Hp.out] at ho
      obtain ⟨A, c, rfl, hr⟩ := ho.slice
      exact ⟨A, c, rfl, hr, hb⟩))
    clear hbl
    go_region_with
      (first
        | (go_at_call 13
           refine (wlen_nil _).mono ?_
           rintro e w7 ⟨rfl, rfl⟩)
        | (go_at_call 12
           first
             | (refine (wbytes_nil _).mono ?_; rintro e w7 ⟨rfl, rfl⟩)
             | (refine (HC.out _ (by first | exact HZ.out | exact HZ2.out)).mono ?_
                rintro e w4 ⟨A4, c4, rfl, hr4, hb4⟩
                have hcv4 := Hcv.out A4 c4 w4 hr4
                have HR4 := Lib.hid hr4
                try (have hcv3b := Hcv.out A3 c3 w4 (HR3.out.kept (by exact hb4)))
                have HB4 := Lib.hid hb4
                clear hr4 hb4))
        | (go_at_call 14
           refine (HD.out _).mono ?_
           rintro e w3 ⟨A3, c3, rfl, hr3, hb3⟩
           have hcv3 := Hcv.out A3 c3 w3 hr3
           have HR3 := Lib.hid hr3
           try (have hcv4b := Hcv.out A4 c4 w3 (HR4.out.kept (by exact hb3)))
           try (have HZ2 := Lib.hid (HZ.out.kept (by exact hb3)))
           have HB3 := Lib.hid hb3
           clear hr3 hb3))
    all_goals
      go_wp2_with fail
      go_ret
      refine ⟨ret_bool (by simp), ?_⟩
      first
        | exact (Below.drew HY.out).trans ((HB4.out.mono HY.out.size).trans (HB3.out.mono (Nat.le_trans HY.out.size HB4.out.size)))
        | exact (Below.drew HY.out).trans ((HB3.out.mono HY.out.size).trans (HB4.out.mono (Nat.le_trans HY.out.size HB3.out.size)))
  case first =>
  go_wp2_with fail
  go_loopw [5, 16] (fun s i wr => ∃ (k : Nat) (bs : List Bool) (bv : Value), k ≤ ops.length ∧ k ≤ 60 ∧ i = .int .i64 k ∧ s = .string (bstr bs) ∧ bs.length ≤ 72 * k ∧ WrI wr W.heap.size w1.heap.size bv bs ∧ Below W.heap.size W wr) (fun s i _ => ops.length - (intOf i).toNat)
  case atStart => exact ⟨0, [], _, Nat.zero_le _, Nat.zero_le _, rfl, rfl, Nat.zero_le _, by rw [Hg.out]; exact Hn.out, Hb0.out⟩
  case round =>
    obtain ⟨wo, ewo⟩ : ∃ wo, wo = wr := ⟨_, rfl⟩
    subst ewo
    obtain ⟨k, bs, bv, hk, hk60, rfl, rfl, hbl, hw, hb⟩ := hrel
    rw [Hg.out] at hw
    have Hw := Lib.hid hw
    have Hb := Lib.hid hb
    have hsb := hb.size
    have Hgs := Lib.hid (bstr_size bs)
    have hgl := hw.2.1.lt
    clear hw hb
    by_cases hlt : k < ops.length
    · obtain ⟨ad, rfl, hab, hc0, hc1, hc2⟩ := (HR.out.kept (Hb.out)).at_ hlt
      obtain ⟨⟨l0, h0⟩, ⟨l1, h1⟩, ⟨l2, h2⟩⟩ := Hbd.out _ (List.getElem_mem hlt)
      generalize ops[k].1 = x at *
      generalize ops[k].2.1 = n at *
      generalize ops[k].2.2 = v at *
      by_cases h60 : k < 60
      · have Hwa := Lib.hid (Hw.out.kept ((Below.refl _ _).alloc (Nat.le_refl _) (.cells #[.int .i64 x, .int .i64 n, .int .u64 v] 30)))
        have Hba := Lib.hid (Hb.out.alloc hsb (.cells #[.int .i64 x, .int .i64 n, .int .u64 v] 30))
        have Hbk := Lib.hid (Blk.new wo 30 #[.int .i64 x, .int .i64 n, .int .u64 v])
        have hq := i64_and1 n
        obtain ⟨q, hq2⟩ : ∃ q, n % 2 = q := ⟨_, rfl⟩
        have hq3 : 0 ≤ q ∧ q ≤ 1 := by omega
        obtain ⟨hq4, hq5⟩ := hq3
        rw [hq2] at hq
        clear hq2
        rcases (show (IntKind.u64.wrap x).tmod 4 = 0 ∨ (IntKind.u64.wrap x).tmod 4 = 1 ∨ (IntKind.u64.wrap x).tmod 4 = 2 ∨ (IntKind.u64.wrap x).tmod 4 = 3 by
          have h := wrap_u64_nonneg x
          rw [Int.tmod_eq_emod_of_nonneg h]; omega) with hm4 | hm4 | hm4 | hm4
        · have hq6 := bitsV_one q (by omega)
          have Hq6 := Lib.hid hq6
          clear hq6
          obtain ⟨z, Hz, hzl⟩ : ∃ z, Hid (bs ++ [q == 1] = z) ∧ z.length ≤ 72 * (k + 1) := ⟨_, Lib.hid rfl, by simp at *; omega⟩
          have hzs := bstr_size z
          have hss := bstr_size bs
          have hap := bstr_app bs [q == 1]
          rw [Hz.out] at hap
          have hs9 : (bstr [q == 1]).size = 1 := bstr_size _
          go_wp2_with fail
          refine (wbit_goes W.heap.size w1.heap.size _ _ bv _ (by rw [Hg.out]; exact Hwa.out) (by omega) (by simp; omega)).mono ?_
          rintro e w2 ⟨rfl, hgo⟩
          rw [Hg.out] at hgo
          rw [Hz.out] at hgo
          obtain ⟨b2, hw2⟩ := hgo.wr
          have Hw2 := Lib.hid hw2
          have Hk2 := Lib.hid (hgo.other Hw.out Hbk.out)
          have Hb2 := Lib.hid (Hba.out.trans (hgo.below Hwa.out (by simp; omega)))
          clear hgo hw2
          have hd1 : w2.cell? ⟨wo.heap.size, 1, none⟩ = some (.int .i64 n) := by simpa using Hk2.out.cell 1
          have hd2 : w2.cell? ⟨wo.heap.size, 2, none⟩ = some (.int .u64 v) := by simpa using Hk2.out.cell 2
          go_wp2_with fail
          refine (rbits_c _ _ _ (by omega) (by omega)).mono ?_
          rintro e w' ⟨rfl, rfl⟩
          rw [Hq6.out]
          go_wp2_with fail
          refine (wput_nil _ _ _ (by omega) (by omega)).mono ?_
          rintro e w' ⟨rfl, rfl⟩
          go_wp2_with fail
          refine (walign_nil _).mono ?_
          rintro e w' ⟨rfl, rfl⟩
          go_wp2_with fail
          refine (wlen_c W.heap.size w1.heap.size z b2 _ (by rw [Hg.out]; exact Hw2.out)).mono ?_
          rintro e w' ⟨rfl, rfl⟩
          go_wp2_with fail
          go_roundw
          case rel => exact ⟨k + 1, z, b2, by omega, by omega, by go_num, rfl, hzl, by rw [Hg.out]; exact Hw2.out, Hb2.out⟩
          case measure => simp [intOf]; omega
        · have hcl := clampN_le n
          have hvl := bitsV_length v (clampN n)
          obtain ⟨z, Hz, hzl⟩ : ∃ z, Hid (bs ++ bitsV v (clampN n) = z) ∧ z.length ≤ 72 * (k + 1) := ⟨_, Lib.hid rfl, by simp at *; omega⟩
          have hzs := bstr_size z
          have hss := bstr_size bs
          have hap := bstr_app bs (bitsV v (clampN n))
          rw [Hz.out] at hap
          have hs9 : (bstr (bitsV v (clampN n))).size ≤ 64 := by rw [bstr_size, bitsV_length]; exact hcl
          clear hcl hvl
          go_wp2_with fail
          refine (wput_c W.heap.size w1.heap.size _ _ _ bv _ (by rw [Hg.out]; exact Hwa.out) (by omega) (by simp; omega) (by omega) (by omega)).mono ?_
          rintro e w2 ⟨rfl, hgo⟩
          rw [Hg.out] at hgo
          rw [Hz.out] at hgo
          obtain ⟨b2, hw2⟩ := hgo.wr
          have Hw2 := Lib.hid hw2
          have Hk2 := Lib.hid (hgo.other Hw.out Hbk.out)
          have Hb2 := Lib.hid (Hba.out.trans (hgo.below Hwa.out (by simp; omega)))
          clear hgo hw2
          have hd1 : w2.cell? ⟨wo.heap.size, 1, none⟩ = some (.int .i64 n) := by simpa using Hk2.out.cell 1
          have hd2 : w2.cell? ⟨wo.heap.size, 2, none⟩ = some (.int .u64 v) := by simpa using Hk2.out.cell 2
          go_wp2_with fail
          refine (rbits_c _ _ _ (by omega) (by omega)).mono ?_
          rintro e w' ⟨rfl, rfl⟩
          go_wp2_with fail
          refine (wput_nil _ _ _ (by omega) (by omega)).mono ?_
          rintro e w' ⟨rfl, rfl⟩
          go_wp2_with fail
          refine (walign_nil _).mono ?_
          rintro e w' ⟨rfl, rfl⟩
          go_wp2_with fail
          refine (wlen_c W.heap.size w1.heap.size z b2 _ (by rw [Hg.out]; exact Hw2.out)).mono ?_
          rintro e w' ⟨rfl, rfl⟩
          go_wp2_with fail
          go_roundw
          case rel => exact ⟨k + 1, z, b2, by omega, by omega, by go_num, rfl, hzl, by rw [Hg.out]; exact Hw2.out, Hb2.out⟩
          case measure => simp [intOf]; omega
        · have hpl := padB_len bs
          obtain ⟨z, Hz, hzl⟩ : ∃ z, Hid (padB bs = z) ∧ z.length ≤ 72 * (k + 1) := ⟨_, Lib.hid rfl, by simp at *; omega⟩
          have hzs := bstr_size z
          have hss := bstr_size bs
          clear hpl
          go_wp2_with fail
          refine (walign_c W.heap.size w1.heap.size _ bv _ (by rw [Hg.out]; exact Hwa.out) (by omega) (by simp; omega)).mono ?_
          rintro e w2 ⟨rfl, hgo⟩
          rw [Hg.out] at hgo
          rw [Hz.out] at hgo
          obtain ⟨b2, hw2⟩ := hgo.wr
          have Hw2 := Lib.hid hw2
          have Hk2 := Lib.hid (hgo.other Hw.out Hbk.out)
          have Hb2 := Lib.hid (Hba.out.trans (hgo.below Hwa.out (by simp; omega)))
          clear hgo hw2
          have hd1 : w2.cell? ⟨wo.heap.size, 1, none⟩ = some (.int .i64 n) := by simpa using Hk2.out.cell 1
          have hd2 : w2.cell? ⟨wo.heap.size, 2, none⟩ = some (.int .u64 v) := by simpa using Hk2.out.cell 2
          go_wp2_with fail
          refine (rpad_c _ _ (by omega)).mono ?_
          rintro e w' ⟨rfl, rfl⟩
          rw [Hz.out]
          go_wp2_with fail
          refine (wput_nil _ _ _ (by omega) (by omega)).mono ?_
          rintro e w' ⟨rfl, rfl⟩
          go_wp2_with fail
          refine (walign_nil _).mono ?_
          rintro e w' ⟨rfl, rfl⟩
          go_wp2_with fail
          refine (wlen_c W.heap.size w1.heap.size z b2 _ (by rw [Hg.out]; exact Hw2.out)).mono ?_
          rintro e w' ⟨rfl, rfl⟩
          go_wp2_with fail
          go_roundw
          case rel => exact ⟨k + 1, z, b2, by omega, by omega, by go_num, rfl, hzl, by rw [Hg.out]; exact Hw2.out, Hb2.out⟩
          case measure => simp [intOf]; omega
        · go_wp2_with fail
          refine (wbytes_c W.heap.size w1.heap.size _ bv _ (by rw [Hg.out]; exact Hwa.out) (by omega)).mono ?_
          rintro e w2 ⟨v2, rfl, ho2, hb2⟩
          obtain ⟨p, Hp⟩ : ∃ p, Hid (packZ bs = p) := ⟨_, Lib.hid rfl⟩
          rw [Hp.out] at ho2
          have hpl : p.length ≤ 600 := by rw [← Hp.out, packZ_length]; omega
          obtain ⟨A2, c2, rfl, hr2⟩ := ho2.slice
          have Ho2 := Lib.hid ho2
          have Hb2 := Lib.hid hb2
          have hs2 := hb2.size
          have hs3 : wo.heap.size + 1 ≤ w2.heap.size := by simpa using hs2
          clear ho2 hb2 hr2
          go_wp2_with fail
          go_loopw [31] (fun i wr2 => ∃ (j : Nat) (ys : List Int), j ≤ p.length ∧ ys.length = p.length ∧ i = .int .i64 j ∧ OwnB wr2 (wo.heap.size + 1) (.slice A2 p.length c2) ys ∧ Below (wo.heap.size + 1) (wo.alloc (.cells #[.int .i64 x, .int .i64 n, .int .u64 v] 30)) wr2) (fun i _ => p.length - (intOf i).toNat)
          case atStart => exact ⟨0, p, Nat.zero_le _, rfl, rfl, by simpa using Ho2.out, by simpa using Hb2.out⟩
          case round =>
            obtain ⟨j, ys, hj, hyl, rfl, hoy, hby⟩ := hrel
            by_cases hjl : j < p.length
            · obtain ⟨k1, cc, he, hk1, hk2, hkc, hkf⟩ := hoy.formr (by omega)
              injection he with he1 he2 he3
              subst he1
              have hkc := hkc j (by omega)
              have hkf := hkf j
              have Hoy := Lib.hid hoy
              have Hby := Lib.hid hby
              have Hyl := Lib.hid hyl
              generalize rdn ys j = z at *
              clear hoy hby hyl he2 he3
              go_wp2_with fail
              go_roundw
              case rel => exact ⟨j + 1, ys.set j _, by omega, by rw [List.length_set]; exact Hyl.out, by go_num, Hoy.out.put j _, Hby.out.setCell (p := ⟨k1, j, none⟩) hk1 _⟩
              case measure => simp [intOf]; omega
            · have Hby := Lib.hid hby
              have hjl2 : p.length ≤ j := by omega
              clear hoy hby hyl hjl
              have Hw2 := Lib.hid (Hwa.out.kept (by simpa using Hby.out))
              have Hk2 := Lib.hid (Blk.below Hbk.out Hby.out (by omega))
              have Hb2 := Lib.hid (Hba.out.trans (Hby.out.mono (by omega)))
              have hd1 : wr.cell? ⟨wo.heap.size, 1, none⟩ = some (.int .i64 n) := by simpa using Hk2.out.cell 1
              have hd2 : wr.cell? ⟨wo.heap.size, 2, none⟩ = some (.int .u64 v) := by simpa using Hk2.out.cell 2
              obtain ⟨z, Hz, hzl⟩ : ∃ z, Hid (bs = z) ∧ z.length ≤ 72 * (k + 1) := ⟨_, Lib.hid rfl, by simp at *; omega⟩
              have hzs := bstr_size z
              have hss := bstr_size bs
              rw [Hz.out] at Hw2
              have hzs := bstr_size bs
              rw [Hz.out] at hzs ⊢
              go_wp2_with fail
              refine (wput_nil _ _ _ (by omega) (by omega)).mono ?_
              rintro e w' ⟨rfl, rfl⟩
              go_wp2_with fail
              refine (walign_nil _).mono ?_
              rintro e w' ⟨rfl, rfl⟩
              go_wp2_with fail
              refine (wlen_c W.heap.size w1.heap.size z bv _ (by rw [Hg.out]; exact Hw2.out)).mono ?_
              rintro e w' ⟨rfl, rfl⟩
              go_wp2_with fail
              go_roundw
              case rel => exact ⟨k + 1, z, bv, by omega, by omega, by go_num, rfl, hzl, by rw [Hg.out]; exact Hw2.out, Hb2.out⟩
              case measure => simp [intOf]; omega
      · have h60b : (60 : Int) ≤ (k : Int) := by omega
        go_wp2_with fail
        go_meet
        exact ⟨bs, bv, rfl, by omega, by rw [Hg.out]; exact Hw.out.kept ((Below.refl _ _).alloc (Nat.le_refl _) _), Hb.out.alloc hsb _⟩
    · go_wp2_with fail
      go_meet
      exact ⟨bs, bv, rfl, by omega, by rw [Hg.out]; exact Hw.out, Hb.out⟩

end Go.Proofs.Ytoiofnmodinpcaa
