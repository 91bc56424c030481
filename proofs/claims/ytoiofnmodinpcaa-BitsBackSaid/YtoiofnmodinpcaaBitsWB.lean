/- The walk of BitsBack. -/
import Derived.Test.YtoiofnmodinpcaaBack1
import Derived.Test.YtoiofnmodinpcaaOpenOps
namespace Go.Proofs.Ytoiofnmodinpcaa
open Go.RowKit
set_option linter.unusedVariables false
set_option linter.unusedSimpArgs false

theorem WGoes.other {w w' : World} {B g : Nat} {bv : Value} {bs bs2 : List Bool} {o : Obj} {t : TypeId} {cs : Array Value} (h : WrI w B g bv bs) (hg : WGoes (w.alloc o) w' B g bv bs2) (hb : Blk (w.alloc o) w.heap.size t cs) : Blk w' w.heap.size t cs := by
  obtain ⟨b2, _, ht, _⟩ := hg
  refine (ht.block w.heap.size (by simp) (by have := h.2.1.lt; omega) (fun e => ?_)).trans hb
  have := (h.2.2.blk_lt _ e.symm).2
  omega
theorem wrK_cap {l : List (Int × Int × Int)} {k : Nat} (h : 60 ≤ k) : wrK (l.take (min k 60)) = wrK (l.take 60) := by rw [Nat.min_eq_right h]

set_option maxRecDepth 100000 in
set_option maxHeartbeats 12800000 in
theorem back_p (A : Option Addr) (c : Nat) (ops : List (Int × Int × Int)) (W : World) (hR : OpsR W A ops) (hm : ops.length ≤ 9223372036854775807)
    (hbd : ∀ x ∈ ops, (-9223372036854775808 ≤ x.1 ∧ x.1 ≤ 9223372036854775807) ∧ (-9223372036854775808 ≤ x.2.1 ∧ x.2.1 ≤ 9223372036854775807) ∧ (0 ≤ x.2.2 ∧ x.2.2 ≤ 18446744073709551615)) :
    Calls Try.prog 5 #[.slice A ops.length c] W fun e W' => e = .returned (.bool true) ∧ Below W.heap.size W W' := by
  have HR := Lib.hid hR
  have Hbd := Lib.hid hbd
  clear hR hbd
  go_enter Try.func5, Try.ntmps5
  go_wp2_with fail
  refine (first_c _).mono ?_
  rintro e w1 ⟨rfl, hb1⟩
  have Hb1 := Lib.hid hb1
  have hs1 := hb1.size
  clear hb1
  go_wp2_with fail
  obtain ⟨g, Hg⟩ : ∃ g, Hid (w1.heap.size = g) := ⟨_, Lib.hid rfl⟩
  have Hn := Lib.hid (WrI.new w1 hs1)
  have Hb0 := Lib.hid (Hb1.out.alloc hs1 (.cells #[.slice none 0 0, .int .i64 0] 27))
  rw [Hg.out] at Hn
  go_loopw [17] (fun i wr => ∃ (k : Nat) (bv : Value), k ≤ ops.length ∧ i = .int .i64 k ∧ WrI wr W.heap.size w1.heap.size bv (wrK (ops.take (min k 60))) ∧ Below W.heap.size W wr) (fun i _ => ops.length - (intOf i).toNat)
  case atStart => exact ⟨0, _, Nat.zero_le _, rfl, by rw [Hg.out]; exact Hn.out, Hb0.out⟩
  case round =>
    obtain ⟨wo, ewo⟩ : ∃ wo, wo = wr := ⟨_, rfl⟩
    subst ewo
    obtain ⟨k, bv, hk, rfl, hw, hb⟩ := hrel
    rw [Hg.out] at hw
    have Hw := Lib.hid hw
    have Hb := Lib.hid hb
    have hsb := hb.size
    have hgl := hw.2.1.lt
    clear hw hb
    by_cases hlt : k < ops.length
    · obtain ⟨ad, rfl, hab, hc0, hc1, hc2⟩ := (HR.out.kept (Hb.out)).at_ hlt
      obtain ⟨⟨l0, h0⟩, ⟨l1, h1⟩, ⟨l2, h2⟩⟩ := Hbd.out _ (List.getElem_mem hlt)
      have hwl := wrK_len ops (min k 60)
      by_cases h60 : k < 60
      · have Hst := Lib.hid (wrK_take ops k hlt)
        have hmk : min k 60 = k := by omega
        rw [hmk] at Hw hwl
        obtain ⟨y, hy⟩ : ∃ y, ops[k] = y := ⟨_, rfl⟩
        rw [hy] at hc0 hc1 hc2 l0 h0 l1 h1 l2 h2 Hst
        obtain ⟨x, n, v⟩ := y
        simp only at hc0 hc1 hc2 l0 h0 l1 h1 l2 h2
        obtain ⟨bs, Hbs⟩ : ∃ bs, Hid (wrK (ops.take k) = bs) := ⟨_, Lib.hid rfl⟩
        rw [Hbs.out] at Hw hwl Hst
        have Hwa := Lib.hid (Hw.out.kept ((Below.refl _ _).alloc (Nat.le_refl _) (.cells #[.int .i64 x, .int .i64 n, .int .u64 v] 30)))
        have Hba := Lib.hid (Hb.out.alloc hsb (.cells #[.int .i64 x, .int .i64 n, .int .u64 v] 30))
        have Hbk := Lib.hid (Blk.new wo 30 #[.int .i64 x, .int .i64 n, .int .u64 v])
        clear hy hmk
        by_cases hx2 : x.tmod 2 = 0
        · have Hsp : Hid (stepB bs (x, n, v) = padB (bs ++ bitsV v (clampN (n.tmod 65)))) := Lib.hid (if_pos hx2)
          obtain ⟨n5, hn5⟩ : ∃ n5, n.tmod 65 = n5 := ⟨_, rfl⟩
          rw [hn5] at Hsp
          go_wp2_with fail
          refine (wput_c W.heap.size w1.heap.size bs v n5 bv _ (by rw [Hg.out]; exact Hwa.out) (by omega) (by simp; omega) (by omega) (by omega)).mono ?_
          rintro e w2 ⟨rfl, hgo⟩
          rw [Hg.out] at hgo
          obtain ⟨b2, hw2⟩ := hgo.wr
          have Hw2 := Lib.hid hw2
          have Hk2 := Lib.hid (hgo.other Hw.out Hbk.out)
          have Hb2 := Lib.hid (Hba.out.trans (hgo.below Hwa.out (by simp; omega)))
          have hd0 : w2.cell? ⟨wo.heap.size, 0, none⟩ = some (.int .i64 x) := by simpa using Hk2.out.cell 0
          have Hcl := Lib.hid (show (bs ++ bitsV v (clampN n5)).length ≤ 100000 by rw [List.length_append, bitsV_length]; have := clampN_le n5; omega)
          clear hgo hw2
          go_wp2_with fail
          refine (walign_c W.heap.size w1.heap.size _ b2 _ (by rw [Hg.out]; exact Hw2.out) (by have := Hcl.out; omega) (by have := Hb2.out.size; omega)).mono ?_
          rintro e w3 ⟨rfl, hgo⟩
          rw [Hg.out] at hgo
          obtain ⟨b3, hw3⟩ := hgo.wr
          have Hw3 := Lib.hid hw3
          have Hb3 := Lib.hid (Hb2.out.trans (hgo.below Hw2.out (by have := Hb2.out.size; omega)))
          clear hgo hw3
          go_wp2_with fail
          go_roundw
          case rel => exact ⟨k + 1, b3, by omega, by go_num, by rw [show min (k + 1) 60 = k + 1 by omega, Hst.out, Hsp.out, Hg.out]; exact Hw3.out, Hb3.out⟩
          case measure => simp [intOf]; omega
        · have Hsp : Hid (stepB bs (x, n, v) = bs ++ bitsV v (clampN (n.tmod 65))) := Lib.hid (if_neg hx2)
          have hx3 : (x.tmod 2 == 0) = false := by rw [beq_eq_false_iff_ne]; exact hx2
          obtain ⟨n5, hn5⟩ : ∃ n5, n.tmod 65 = n5 := ⟨_, rfl⟩
          rw [hn5] at Hsp
          go_wp2_with fail
          refine (wput_c W.heap.size w1.heap.size bs v n5 bv _ (by rw [Hg.out]; exact Hwa.out) (by omega) (by simp; omega) (by omega) (by omega)).mono ?_
          rintro e w2 ⟨rfl, hgo⟩
          rw [Hg.out] at hgo
          obtain ⟨b2, hw2⟩ := hgo.wr
          have Hw2 := Lib.hid hw2
          have Hk2 := Lib.hid (hgo.other Hw.out Hbk.out)
          have Hb2 := Lib.hid (Hba.out.trans (hgo.below Hwa.out (by simp; omega)))
          have hd0 : w2.cell? ⟨wo.heap.size, 0, none⟩ = some (.int .i64 x) := by simpa using Hk2.out.cell 0
          have Hcl := Lib.hid (show (bs ++ bitsV v (clampN n5)).length ≤ 100000 by rw [List.length_append, bitsV_length]; have := clampN_le n5; omega)
          clear hgo hw2
          go_wp2_with fail
          go_roundw
          case rel => exact ⟨k + 1, b2, by omega, by go_num, by rw [show min (k + 1) 60 = k + 1 by omega, Hst.out, Hsp.out, Hg.out]; exact Hw2.out, Hb2.out⟩
          case measure => simp [intOf]; omega
      · have hmk : min (k + 1) 60 = min k 60 := by omega
        have Hmk := Lib.hid hmk
        have h60b : (60 : Int) ≤ (k : Int) := by omega
        have Hba := Lib.hid (Hb.out.alloc hsb (.cells #[.int .i64 ops[k].1, .int .i64 ops[k].2.1, .int .u64 ops[k].2.2] 30))
        have Hwa := Lib.hid (Hw.out.kept ((Below.refl _ _).alloc (Nat.le_refl _) (.cells #[.int .i64 ops[k].1, .int .i64 ops[k].2.1, .int .u64 ops[k].2.2] 30)))
        clear hmk hwl
        go_wp2_with fail
        go_roundw
        case rel => exact ⟨k + 1, bv, by omega, by go_num, by rw [Hmk.out, Hg.out]; exact Hwa.out, Hba.out⟩
        case measure => simp [intOf]; omega
    · have hke : k = ops.length := by omega
      rw [hke] at Hw
      have hklen : ops.length ≤ k := by omega
      obtain ⟨m, hmm⟩ : ∃ m, min ops.length 60 = m := ⟨_, rfl⟩
      have hm60 : m ≤ 60 := by omega
      have Hmm := Lib.hid hmm
      rw [hmm] at Hw
      obtain ⟨BA, hBA⟩ : ∃ BA, wrK (ops.take m) = BA := ⟨_, rfl⟩
      have hBl : BA.length ≤ 71 * m := by rw [← hBA]; exact wrK_len ops m
      have HBA := Lib.hid hBA
      rw [hBA] at Hw
      obtain ⟨xs, hxs⟩ : ∃ xs, packZ BA = xs := ⟨_, rfl⟩
      have hxl := packZ_length BA
      have h8 := packZ_byte8 BA
      rw [hxs] at hxl h8
      have Hxl := Lib.hid hxl
      have Hxs := Lib.hid hxs
      have H8 := Lib.hid h8
      have hxb : xs.length ≤ 600 := by omega
      clear hxl hxs h8 hBA hmm hke hlt hsb
      go_wp2_with fail
      refine (wbytes_c W.heap.size w1.heap.size BA bv _ (by rw [Hg.out]; exact Hw.out) (by omega)).mono ?_
      rintro e w2 ⟨v2, rfl, ho2, hb2⟩
      rw [Hxs.out] at ho2
      obtain ⟨A2, c2, rfl, hr2⟩ := ho2.slice
      have Hr2 := Lib.hid hr2
      have Hb2 := Lib.hid (Hb.out.trans (hb2.mono Hb.out.size))
      have Hw2 := Lib.hid (Hw.out.kept hb2)
      clear ho2 hb2 hr2
      go_wp2_with fail
      refine (new_c A2 c2 xs _ Hr2.out (by omega)).mono ?_
      rintro e w3 ⟨gr, rfl, hr3, hb3⟩
      have Hr3 := Lib.hid (hr3.lower Hb2.out.size)
      have Hb3 := Lib.hid (Hb2.out.trans (hb3.mono Hb2.out.size))
      have Hw3 := Lib.hid (Hw2.out.kept hb3)
      clear hr3 hb3
      go_wp2_with fail
      go_loopw [43] (fun i wr => ∃ (j : Nat), j ≤ ops.length ∧ j ≤ 60 ∧ i = .int .i64 j ∧ RdI wr W.heap.size gr xs (wrK (ops.take j)).length 0 ∧ WrI wr W.heap.size g bv BA ∧ Below W.heap.size W wr) (fun i _ => ops.length - (intOf i).toNat)
      case atStart => exact ⟨0, Nat.zero_le _, Nat.zero_le _, rfl, Hr3.out, Hw3.out, Hb3.out⟩
      case round =>
        clear Hw Hb Hr2 Hb2 Hw2 Hr3 Hb3 Hw3 hgl
        obtain ⟨wp, ewp⟩ : ∃ wp, wp = wr := ⟨_, rfl⟩
        subst ewp
        obtain ⟨j, hj, hj60, rfl, hr, hw, hb⟩ := hrel
        have Hr := Lib.hid hr
        have Hw := Lib.hid hw
        have Hb := Lib.hid hb
        have hsb := hb.size
        clear hr hw hb
        by_cases hjl : j < ops.length
        · obtain ⟨ad, rfl, hab, hc0, hc1, hc2⟩ := (HR.out.kept (Hb.out)).at_ hjl
          obtain ⟨⟨l0, h0⟩, ⟨l1, h1⟩, ⟨l2, h2⟩⟩ := Hbd.out _ (List.getElem_mem hjl)
          by_cases h60 : j < 60
          · have Hst := Lib.hid (wrK_take ops j hjl)
            have Hat := Lib.hid (stepB_at (wrK (ops.take j)) ops[j])
            have hval := back_at ops m j (by have := Hmm.out; omega) (by have := Hmm.out; omega) l2
            have hlen := back_len ops m j (by have := Hmm.out; omega) (by have := Hmm.out; omega)
            rw [HBA.out, Hxs.out] at hval hlen
            obtain ⟨y, hy⟩ : ∃ y, ops[j] = y := ⟨_, rfl⟩
            rw [hy] at hc0 hc1 hc2 l0 h0 l1 h1 l2 h2 Hst Hat hval hlen
            obtain ⟨x, n, v⟩ := y
            simp only at hc0 hc1 hc2 l0 h0 l1 h1 l2 h2 hval hlen
            obtain ⟨bs, hbs⟩ : ∃ bs, wrK (ops.take j) = bs := ⟨_, rfl⟩
            have Hbs := Lib.hid hbs
            rw [hbs] at Hr Hst Hat hval hlen
            have Hra := Lib.hid (Hr.out.kept ((Below.refl _ _).alloc (Nat.le_refl _) (.cells #[.int .i64 x, .int .i64 n, .int .u64 v] 30)))
            have Hwa := Lib.hid (Hw.out.kept ((Below.refl _ _).alloc (Nat.le_refl _) (.cells #[.int .i64 x, .int .i64 n, .int .u64 v] 30)))
            have Hba := Lib.hid (Hb.out.alloc hsb (.cells #[.int .i64 x, .int .i64 n, .int .u64 v] 30))
            have Hbk := Lib.hid (Blk.new wp 30 #[.int .i64 x, .int .i64 n, .int .u64 v])
            have hgrl := RdI.block (w' := wp) Hr.out
            obtain ⟨n5, hn5⟩ : ∃ n5, n.tmod 65 = n5 := ⟨_, rfl⟩
            have hn51 : -65 < n5 ∧ n5 < 65 := by
              rw [← hn5]
              exact ⟨Int.lt_tmod_of_pos n (by decide), Int.tmod_lt_of_pos n (by decide)⟩
            rw [hn5] at hval hlen
            have hat : (stepB bs (x, n, v)).length = if x.tmod 2 = 0 then (bs.length + clampN (n.tmod 65) + 7) / 8 * 8 else bs.length + clampN (n.tmod 65) := Hat.out
            rw [hn5] at hat
            have hcl : (clampN n5 : Int) = max 0 n5 := by unfold clampN; omega
            obtain ⟨cc, hcc⟩ : ∃ cc, clampN n5 = cc := ⟨_, rfl⟩
            rw [hcc] at hval hlen hcl hat
            have hc64 : cc ≤ 64 := by omega
            have Hcc := Lib.hid hcc
            have Hov := Lib.hid (ovL_none (unp xs) bs.length 0 cc (by rw [unp_length]; omega))
            have hbl : bs.length ≤ 5000 := by omega
            have Hat2 := Lib.hid hat
            obtain ⟨res, hres⟩ : ∃ res, v % 2 ^ cc = res := ⟨_, rfl⟩
            rw [hres] at hval
            have Hres := Lib.hid hres
            have Hval := Lib.hid hval
            clear hy hbs hval hlen hcc hres hat
            rcases (show n5 ≤ 0 ∨ (0 < n5 ∧ n5 < 64) ∨ 64 ≤ n5 by omega) with h5 | ⟨h5, h6⟩ | h5
            · have ea : bits .and .u64 v 0 = res := by
                have h0c : cc = 0 := by omega
                have := mask64 v 0 l2 h2 (by omega)
                rw [← Hres.out, h0c]
                exact this
              go_wp2_with fail
              refine (rget_c W.heap.size gr xs bs.length 0 n5 _ Hra.out H8.out (by omega) (by omega) (by omega)).mono ?_
              rintro e w4 ⟨rfl, hr4, hg4⟩
              rw [Hcc.out, Hov.out] at hr4
              rw [Hcc.out, Hval.out]
              have Hr4 := Lib.hid hr4
              have Hw4 := Lib.hid (Hwa.out.rgoes Hra.out hg4)
              have Hb4 := Lib.hid (Hba.out.trans (hg4.below Hra.out (by simp; omega)))
              have hd0 : w4.cell? ⟨wp.heap.size, 0, none⟩ = some (.int .i64 x) := by
                have := (Blk.grown Hbk.out hg4 (by intro e; injection e with e; omega)).cell 0
                simpa using this
              clear hr4 hg4
              by_cases hx2 : x.tmod 2 = 0
              · have Hlen : Hid ((wrK (ops.take (j + 1))).length = (bs.length + cc + 7) / 8 * 8) := Lib.hid (by rw [Hst.out]; exact Hat2.out.trans (if_pos hx2))
                go_wp2_with fail
                refine (ralign_c W.heap.size gr xs _ _ _ Hr4.out (by omega)).mono ?_
                rintro e w5 ⟨rfl, hr5, hg5⟩
                have Hr5 := Lib.hid hr5
                have Hw5 := Lib.hid (Hw4.out.rgoes Hr4.out hg5)
                have Hb5 := Lib.hid (Hb4.out.trans (hg5.below Hr4.out Hb4.out.size))
                clear hr5 hg5
                go_wp2_with fail
                go_roundw
                case rel => exact ⟨j + 1, by omega, by omega, by go_num, by rw [Hlen.out]; exact Hr5.out, Hw5.out, Hb5.out⟩
                case measure => simp [intOf]; omega
              · have hx3 : (x.tmod 2 == 0) = false := by rw [beq_eq_false_iff_ne]; exact hx2
                have Hlen : Hid ((wrK (ops.take (j + 1))).length = bs.length + cc) := Lib.hid (by rw [Hst.out]; exact Hat2.out.trans (if_neg hx2))
                go_wp2_with fail
                go_roundw
                case rel => exact ⟨j + 1, by omega, by omega, by go_num, by rw [Hlen.out]; exact Hr4.out, Hw4.out, Hb4.out⟩
                case measure => simp [intOf]; omega
            · have eb : bits .and .u64 v (IntKind.u64.wrap (IntKind.u64.wrap (2 ^ n5.toNat) - 1)) = res := by
                have h0c : n5.toNat = cc := by omega
                have hc63 : cc < 64 := by omega
                have hp := pow_le64 (k := cc) (by omega)
                have hpp : (0 : Int) < 2 ^ cc := Int.pow_pos (by decide)
                rw [← Hres.out, h0c, show IntKind.u64.wrap (2 ^ cc) = 2 ^ cc by simp [IntKind.wrap, IntKind.bits, IntKind.signed]; omega,
                  show IntKind.u64.wrap (2 ^ cc - 1) = 2 ^ cc - 1 by simp [IntKind.wrap, IntKind.bits, IntKind.signed]; omega]
                exact mask64 v cc l2 h2 hc63
              go_wp2_with fail
              refine (rget_c W.heap.size gr xs bs.length 0 n5 _ Hra.out H8.out (by omega) (by omega) (by omega)).mono ?_
              rintro e w4 ⟨rfl, hr4, hg4⟩
              rw [Hcc.out, Hov.out] at hr4
              rw [Hcc.out, Hval.out]
              have Hr4 := Lib.hid hr4
              have Hw4 := Lib.hid (Hwa.out.rgoes Hra.out hg4)
              have Hb4 := Lib.hid (Hba.out.trans (hg4.below Hra.out (by simp; omega)))
              have hd0 : w4.cell? ⟨wp.heap.size, 0, none⟩ = some (.int .i64 x) := by
                have := (Blk.grown Hbk.out hg4 (by intro e; injection e with e; omega)).cell 0
                simpa using this
              clear hr4 hg4
              by_cases hx2 : x.tmod 2 = 0
              · have Hlen : Hid ((wrK (ops.take (j + 1))).length = (bs.length + cc + 7) / 8 * 8) := Lib.hid (by rw [Hst.out]; exact Hat2.out.trans (if_pos hx2))
                go_wp2_with fail
                refine (ralign_c W.heap.size gr xs _ _ _ Hr4.out (by omega)).mono ?_
                rintro e w5 ⟨rfl, hr5, hg5⟩
                have Hr5 := Lib.hid hr5
                have Hw5 := Lib.hid (Hw4.out.rgoes Hr4.out hg5)
                have Hb5 := Lib.hid (Hb4.out.trans (hg5.below Hr4.out Hb4.out.size))
                clear hr5 hg5
                go_wp2_with fail
                go_roundw
                case rel => exact ⟨j + 1, by omega, by omega, by go_num, by rw [Hlen.out]; exact Hr5.out, Hw5.out, Hb5.out⟩
                case measure => simp [intOf]; omega
              · have hx3 : (x.tmod 2 == 0) = false := by rw [beq_eq_false_iff_ne]; exact hx2
                have Hlen : Hid ((wrK (ops.take (j + 1))).length = bs.length + cc) := Lib.hid (by rw [Hst.out]; exact Hat2.out.trans (if_neg hx2))
                go_wp2_with fail
                go_roundw
                case rel => exact ⟨j + 1, by omega, by omega, by go_num, by rw [Hlen.out]; exact Hr4.out, Hw4.out, Hb4.out⟩
                case measure => simp [intOf]; omega
            · have ec : res = v := by
                have h0c : cc = 64 := by omega
                rw [← Hres.out, h0c]
                have : (2 : Int) ^ 64 = 18446744073709551616 := by decide
                rw [this]
                omega
              rw [ec] at Hval
              go_wp2_with fail
              refine (rget_c W.heap.size gr xs bs.length 0 n5 _ Hra.out H8.out (by omega) (by omega) (by omega)).mono ?_
              rintro e w4 ⟨rfl, hr4, hg4⟩
              rw [Hcc.out, Hov.out] at hr4
              rw [Hcc.out, Hval.out]
              have Hr4 := Lib.hid hr4
              have Hw4 := Lib.hid (Hwa.out.rgoes Hra.out hg4)
              have Hb4 := Lib.hid (Hba.out.trans (hg4.below Hra.out (by simp; omega)))
              have hd0 : w4.cell? ⟨wp.heap.size, 0, none⟩ = some (.int .i64 x) := by
                have := (Blk.grown Hbk.out hg4 (by intro e; injection e with e; omega)).cell 0
                simpa using this
              clear hr4 hg4
              by_cases hx2 : x.tmod 2 = 0
              · have Hlen : Hid ((wrK (ops.take (j + 1))).length = (bs.length + cc + 7) / 8 * 8) := Lib.hid (by rw [Hst.out]; exact Hat2.out.trans (if_pos hx2))
                go_wp2_with fail
                refine (ralign_c W.heap.size gr xs _ _ _ Hr4.out (by omega)).mono ?_
                rintro e w5 ⟨rfl, hr5, hg5⟩
                have Hr5 := Lib.hid hr5
                have Hw5 := Lib.hid (Hw4.out.rgoes Hr4.out hg5)
                have Hb5 := Lib.hid (Hb4.out.trans (hg5.below Hr4.out Hb4.out.size))
                clear hr5 hg5
                go_wp2_with fail
                go_roundw
                case rel => exact ⟨j + 1, by omega, by omega, by go_num, by rw [Hlen.out]; exact Hr5.out, Hw5.out, Hb5.out⟩
                case measure => simp [intOf]; omega
              · have hx3 : (x.tmod 2 == 0) = false := by rw [beq_eq_false_iff_ne]; exact hx2
                have Hlen : Hid ((wrK (ops.take (j + 1))).length = bs.length + cc) := Lib.hid (by rw [Hst.out]; exact Hat2.out.trans (if_neg hx2))
                go_wp2_with fail
                go_roundw
                case rel => exact ⟨j + 1, by omega, by omega, by go_num, by rw [Hlen.out]; exact Hr4.out, Hw4.out, Hb4.out⟩
                case measure => simp [intOf]; omega
          · have hj2 : j = 60 := by omega
            have h60b : (60 : Int) ≤ (j : Int) := by omega
            have Hfin : Hid (wrK (ops.take j) = BA) := Lib.hid (by rw [← HBA.out, hj2]; congr 2; have := Hmm.out; omega)
            rw [Hfin.out] at Hr
            have HFr := Lib.hid (Hr.out.kept ((Below.refl _ _).alloc (Nat.le_refl _) (.cells #[.int .i64 ops[j].1, .int .i64 ops[j].2.1, .int .u64 ops[j].2.2] 30)))
            have HFw := Lib.hid (Hw.out.kept ((Below.refl _ _).alloc (Nat.le_refl _) (.cells #[.int .i64 ops[j].1, .int .i64 ops[j].2.1, .int .u64 ops[j].2.2] 30)))
            have HFb := Lib.hid (Hb.out.alloc hsb (.cells #[.int .i64 ops[j].1, .int .i64 ops[j].2.1, .int .u64 ops[j].2.2] 30))
            clear hj2
            go_wp2_with fail
            refine (rat_c W.heap.size gr xs _ 0 _ HFr.out).mono ?_
            rintro e w' ⟨rfl, rfl⟩
            go_wp2_with fail
            refine (wlen_c W.heap.size w1.heap.size BA bv _ (by rw [Hg.out]; exact HFw.out)).mono ?_
            rintro e w' ⟨rfl, rfl⟩
            go_wp2_with fail
            refine (rover_c W.heap.size gr xs _ 0 _ HFr.out).mono ?_
            rintro e w' ⟨rfl, rfl⟩
            go_wp2_with fail
            refine (rleft_c W.heap.size gr xs _ 0 _ HFr.out (by omega) (by omega)).mono ?_
            rintro e w' ⟨rfl, q, rfl⟩
            have hql : ((8 * xs.length - BA.length : Nat) : Int) < 8 := by have := Hxl.out; omega
            generalize ((8 * xs.length - BA.length : Nat) : Int) = z at *
            go_wp2_with fail
            go_ret
            exact ⟨ret_bool (by simp), below_drewN HFb.out q⟩
            
        · have hj2 : j = ops.length := by omega
          have hjl2 : ops.length ≤ j := by omega
          have Hfin : Hid (wrK (ops.take j) = BA) := Lib.hid (by rw [← HBA.out, hj2]; congr 2; have := Hmm.out; omega)
          rw [Hfin.out] at Hr
          have HFr := Hr
          have HFw := Hw
          have HFb := Hb
          clear hj2 hjl
          go_wp2_with fail
          refine (rat_c W.heap.size gr xs _ 0 _ HFr.out).mono ?_
          rintro e w' ⟨rfl, rfl⟩
          go_wp2_with fail
          refine (wlen_c W.heap.size w1.heap.size BA bv _ (by rw [Hg.out]; exact HFw.out)).mono ?_
          rintro e w' ⟨rfl, rfl⟩
          go_wp2_with fail
          refine (rover_c W.heap.size gr xs _ 0 _ HFr.out).mono ?_
          rintro e w' ⟨rfl, rfl⟩
          go_wp2_with fail
          refine (rleft_c W.heap.size gr xs _ 0 _ HFr.out (by omega) (by omega)).mono ?_
          rintro e w' ⟨rfl, q, rfl⟩
          have hql : ((8 * xs.length - BA.length : Nat) : Int) < 8 := by have := Hxl.out; omega
          generalize ((8 * xs.length - BA.length : Nat) : Int) = z at *
          go_wp2_with fail
          go_ret
          exact ⟨ret_bool (by simp), below_drewN HFb.out q⟩
          

namespace bitsBack
theorem bitsBack_walk (ops : List (Int × Int × Int)) (v0 : Value) (W : World) (h0 : IsOps W v0 ops) :
    Calls Try.prog 5 #[v0] W fun e W' => e = .returned (.bool true) ∧ Below W.heap.size W W' := by
  obtain ⟨A, c, rfl, hm, hR, hbd⟩ := h0
  unfold maxLen at hm
  exact back_p A c ops W hR (by omega) hbd
end bitsBack
end Go.Proofs.Ytoiofnmodinpcaa
