/- The walk of BitsRead. -/
import Derived.Test.YtoiofnmodinpcaaBitsS
import Derived.Test.YtoiofnmodinpcaaOpenOps
import Derived.Test.YtoiofnmodinpcaaOpenBytes
import Derived.Deep.RegionHeld3
import Derived.Deep.DeepCutAuto
import Derived.Deep.CutBlock
namespace Go.Proofs.Ytoiofnmodinpcaa
open Go.RowKit
set_option linter.unusedVariables false
set_option linter.unusedSimpArgs false

theorem read_long (A B : Option Addr) (c d : Nat) (xs : List Int) (n : Nat) (W : World) (hl : 500 < xs.length) :
    Calls Try.prog 4 #[.slice A xs.length c, .slice B n d] W fun e W' => e = .returned (.bool true) ∧ Below W.heap.size W W' := by
  go_enter Try.func4, Try.ntmps4
  go_wp2_with fail
  refine (first_c _).mono ?_
  rintro e w1 ⟨rfl, hb1⟩
  have Hb1 := Lib.hid hb1
  clear hb1
  go_wp2_with fail
  all_goals (go_ret; exact ⟨rfl, Hb1.out⟩)

set_option maxRecDepth 100000 in
set_option maxHeartbeats 12800000 in
theorem read_p (A B : Option Addr) (c d : Nat) (xs : List Int) (ops : List (Int × Int × Int)) (W : World) (hX : ReadsB W A xs) (h8 : Byte8 xs) (hl : xs.length ≤ 500) (hR : OpsR W B ops) (hm : ops.length ≤ 9223372036854775807)
    (hbd : ∀ x ∈ ops, (-9223372036854775808 ≤ x.1 ∧ x.1 ≤ 9223372036854775807) ∧ (-9223372036854775808 ≤ x.2.1 ∧ x.2.1 ≤ 9223372036854775807) ∧ (0 ≤ x.2.2 ∧ x.2.2 ≤ 18446744073709551615)) :
    Calls Try.prog 4 #[.slice A xs.length c, .slice B ops.length d] W fun e W' => e = .returned (.bool true) ∧ Below W.heap.size W W' := by
  have HX := Lib.hid hX
  have HR := Lib.hid hR
  have Hbd := Lib.hid hbd
  have H8 := Lib.hid h8
  clear hR hbd hX h8
  obtain ⟨i0, hi, hz0, hz1, hz2⟩ := info_parts info_byte
  go_enter Try.func4, Try.ntmps4
  go_wp2_with fail
  refine (first_c _).mono ?_
  rintro e w1 ⟨rfl, hb1⟩
  have Hb1 := Lib.hid hb1
  have HX1 := Lib.hid (HX.out.kept hb1)
  have hs1 := hb1.size
  clear hb1
  go_wp2_with (
    at_builtin
    refine wpList_append_any _ rfl (.tmp 17) (.tmp 18) _ rfl w1.heap.size 5 i0 (.int .u8 0) 1 1 Try.underlying25 hi hz0 hz1 hz2 rfl (by omega) (.slice (some ⟨w1.heap.size, 0, none⟩) 0 0) 0 [] rfl
      (OwnB.empty w1 (Nat.le_refl _)) _ A xs.length c _ rfl (HX1.out.kept ((Below.refl _ _).alloc (Nat.le_refl _) (.cells #[] 5))) (map_byte_one xs) (by simp only [maxLen]; omega) (by omega) (by simp) ?_
    intro v1 w2 hown hg hat
    have hb2 : Below w1.heap.size w1 w2 := ((Below.refl _ _).alloc (Nat.le_refl _) _).grown hg (by simp) (by intro k hk; simp [Value.ownBlock] at hk; omega)
    have ho2 : OwnB w2 w1.heap.size v1 xs := by unfold OwnB; simpa using hown
    obtain ⟨A2, c2, rfl, hr2⟩ := ho2.slice
    have Ho2 := Lib.hid ho2
    have Hr2 := Lib.hid hr2
    have HX2 := Lib.hid (HX1.out.kept hb2)
    have Hb2 := Lib.hid (Hb1.out.trans (hb2.mono hs1))
    clear hown hg hat hb2 ho2 hr2)
  refine (new_c A2 c2 xs _ Hr2.out (by omega)).mono ?_
  rintro e w3 ⟨gr, rfl, hr3, hb3⟩
  have Hr3 := Lib.hid hr3
  have Ho3 := Lib.hid (Ho2.out.kept hb3)
  have HX3 := Lib.hid (HX2.out.kept hb3)
  have Hb3 := Lib.hid (Hb2.out.trans (hb3.mono Hb2.out.size))
  have hs3 := Hb3.out.size
  clear hr3 hb3 HX1 Hb1 Hr2
  go_wp2_with fail
  go_loopw [24] (fun i wr => ∃ (j : Nat) (ys : List Int), j ≤ xs.length ∧ ys.length = xs.length ∧ i = .int .i64 j ∧ OwnB wr w1.heap.size (.slice A2 xs.length c2) ys ∧ RdI wr w2.heap.size gr xs 0 0 ∧ Below W.heap.size W wr) (fun i _ => xs.length - (intOf i).toNat)
  case atStart => exact ⟨0, xs, Nat.zero_le _, rfl, rfl, Ho3.out, Hr3.out, Hb3.out⟩
  case round =>
    obtain ⟨j, ys, hj, hyl, rfl, hoy, hrd, hby⟩ := hrel
    by_cases hjl : j < xs.length
    · obtain ⟨k1, cc, he, hk1, hk2, hkc, hkf⟩ := hoy.formr (by omega)
      obtain ⟨k2, cc2, he2, hk21, hk22, _, _⟩ := Ho2.out.formr (by omega)
      injection he with he1 he3 he4
      subst he1
      injection he2 with he5 _ _
      injection he5 with he5
      injection he5 with he5
      have hk2lt : k1 < w2.heap.size := by rw [he5]; exact hk22
      have hkc := hkc j (by omega)
      have hkf := hkf j
      have Hoy := Lib.hid hoy
      have Hby := Lib.hid hby
      have Hyl := Lib.hid hyl
      have Hrd := Lib.hid hrd
      generalize rdn ys j = z at *
      clear hoy hby hyl hrd he3 he4 he5
      go_wp2_with fail
      go_roundw
      case rel => exact ⟨j + 1, ys.set j _, by omega, by rw [List.length_set]; exact Hyl.out, by go_num, Hoy.out.put j _, Hrd.out.far (k := k1) (only_setCell (p := ⟨k1, j, none⟩) (World.grownBy.refl _ _) (.inl rfl) _) hk2lt, Hby.out.setCell (p := ⟨k1, j, none⟩) (by show W.heap.size ≤ k1; omega) _⟩
      case measure => simp [intOf]; omega
    · obtain ⟨wa, ewa⟩ : ∃ wa, wa = wr := ⟨_, rfl⟩
      subst ewa
      have Hrd := Lib.hid (hrd.lower Hb2.out.size)
      have Hby := Lib.hid hby
      have hjl2 : xs.length ≤ j := by omega
      clear hoy hby hyl hjl hrd Hr3 Ho3 HX3 HX2 Hb2 Ho2 Hb3
      go_wp2_with fail
      refine (rall_c A c xs _ (HX.out.kept Hby.out) H8.out (by omega)).mono ?_
      rintro e w4 ⟨rfl, hb4⟩
      have Hrd4 := Lib.hid (Hrd.out.kept hb4)
      have Hb4 := Lib.hid (Hby.out.trans (hb4.mono Hby.out.size))
      clear hb4 Hrd Hby
      obtain ⟨t, ht⟩ : ∃ t, bstr (unp xs) = t := ⟨_, rfl⟩
      have Ht := Lib.hid ht
      rw [ht]
      clear ht
      go_wp2_with fail
      obtain ⟨gx, Hgx⟩ : ∃ gx, Hid (w4.heap.size = gx) := ⟨_, Lib.hid rfl⟩
      have hw4 := Hb4.out.size
      have Hx5 : Hid (RrI (w4.alloc (.cells #[.string t, .int .i64 0, .int .i64 0] 45)) W.heap.size w4.heap.size (unp xs) 0 0) := Lib.hid ⟨hw4, by rw [Ht.out]; exact Blk.new _ _ _⟩
      have Hr5 := Lib.hid (Hrd4.out.kept ((Below.refl _ _).alloc (Nat.le_refl _) (.cells #[.string t, .int .i64 0, .int .i64 0] 45)))
      have Hb5 := Lib.hid (Hb4.out.alloc hw4 (.cells #[.string t, .int .i64 0, .int .i64 0] 45))
      go_loopw [40] (fun i wr => ∃ (k a o : Nat), k ≤ ops.length ∧ k ≤ 60 ∧ i = .int .i64 k ∧ a ≤ 72 * k ∧ o ≤ 64 * k ∧ RdI wr W.heap.size gr xs a o ∧ RrI wr W.heap.size w4.heap.size (unp xs) a o ∧ Below W.heap.size W wr) (fun i _ => ops.length - (intOf i).toNat)
      case atStart => exact ⟨0, 0, 0, Nat.zero_le _, Nat.zero_le _, rfl, Nat.zero_le _, Nat.zero_le _, Hr5.out, Hx5.out, Hb5.out⟩
      case round =>
        clear Hrd4 Hb4 Hx5 Hr5 Hb5
        obtain ⟨wo, ewo⟩ : ∃ wo, wo = wr := ⟨_, rfl⟩
        subst ewo
        obtain ⟨k, a, o, hk, hk60, rfl, ha, ho, hr, hx, hb⟩ := hrel
        have Hr := Lib.hid hr
        have Hx := Lib.hid hx
        have Hb := Lib.hid hb
        have hsb := hb.size
        clear hr hx hb
        by_cases hlt : k < ops.length
        · obtain ⟨ad, rfl, hab, hc0, hc1, hc2⟩ := (HR.out.kept (Hb.out)).at_ hlt
          obtain ⟨⟨l0, h0⟩, ⟨l1, h1⟩, ⟨l2, h2⟩⟩ := Hbd.out _ (List.getElem_mem hlt)
          generalize ops[k].1 = x at *
          generalize ops[k].2.1 = n at *
          generalize ops[k].2.2 = v at *
          by_cases h60 : k < 60
          · have Hst : Hid (St W (wo.alloc (.cells #[.int .i64 x, .int .i64 n, .int .u64 v] 30)) gr w4.heap.size wo.heap.size #[.int .i64 x, .int .i64 n, .int .u64 v] xs a o a o) :=
              Lib.hid ⟨Hr.out.kept ((Below.refl _ _).alloc (Nat.le_refl _) _), Hx.out.kept ((Below.refl _ _).alloc (Nat.le_refl _) _), Hb.out.alloc hsb _, Blk.new _ _ _⟩
            rcases (show (IntKind.u64.wrap x).tmod 3 = 0 ∨ (IntKind.u64.wrap x).tmod 3 = 1 ∨ (IntKind.u64.wrap x).tmod 3 = 2 by
              have h := wrap_u64_nonneg x
              rw [Int.tmod_eq_emod_of_nonneg h]; omega) with hm4 | hm4 | hm4
            · go_wp2_with fail
              refine (st_bitr Hst.out H8.out (by omega) (by omega) (by omega)).mono ?_
              rintro e w5 ⟨rfl, hs5⟩
              have Hs5 := Lib.hid hs5
              clear hs5
              go_wp2_with fail
              refine (st_bitx Hs5.out (by omega) (by omega) (by omega)).mono ?_
              rintro e w6 ⟨rfl, hs6⟩
              have Hs6 := Lib.hid hs6
              have hov : overL (unp xs) a o ≤ o + 1 := by unfold overL; split <;> omega
              obtain ⟨o2, ho2⟩ : ∃ o2, overL (unp xs) a o = o2 := ⟨_, rfl⟩
              rw [ho2] at Hs6 hov
              clear hs6 ho2
              cases hnx : nextL (unp xs) a
              · simp only [Bool.false_eq_true, if_false]
                go_wp2_with fail
                refine (rbit_nil _).mono ?_
                rintro e w' ⟨rfl, rfl⟩
                go_wp2_with fail
                have hax : (a+1) ≤ 72 * (k + 1) := by omega
                have hcx1 := Hs6.out.cx.1
                have hcx2 := Hs6.out.cx.2
                obtain ⟨a9, ha9⟩ : ∃ a9, (a+1) = a9 := ⟨_, rfl⟩
                rw [ha9] at Hs6 hcx1 hax
                clear ha9
                go_region_held3 (fun w' => w'.cell? ⟨w4.heap.size, 1, none⟩ = some (.int .i64 a9) ∧ w'.cell? ⟨w4.heap.size, 2, none⟩ = some (.int .i64 o2))
                  (first | (refine ⟨?_, ?_⟩ <;> assumption) | go_keep)
                  (first
                    | (go_at_call 23
                       refine (st_at Hs6.out.drew1).mono ?_
                       rintro e w7 ⟨rfl, rfl⟩)
                    | (go_at_call 26
                       refine (st_over Hs8.out).mono ?_
                       rintro e w9 ⟨rfl, rfl⟩)
                    | (go_at_call 24
                       refine (st_left Hs6.out.drew1 (by omega) (by omega)).mono ?_
                       rintro e w7 ⟨rfl, hs7⟩
                       have hcx3 := hs7.cx.1
                       have hcx4 := hs7.cx.2
                       have Hs7 := Lib.hid hs7
                       clear hs7)
                    | (go_at_call 25
                       refine (st_leftx Hs7.out (by omega) (by omega)).mono ?_
                       rintro e w8 ⟨rfl, hs8⟩
                       have hcx5 := hs8.cx.1
                       have hcx6 := hs8.cx.2
                       have Hs8 := Lib.hid hs8
                       clear hs8))
                all_goals (go_wp2_with fail; go_roundw)
                case rel => exact ⟨k + 1, a9, o2, by omega, by omega, by go_num, hax, by omega, Hs8.out.1, Hs8.out.2.1, Hs8.out.2.2.1⟩
                case measure => simp [intOf]; omega
              · simp only [if_true]
                go_wp2_with fail
                refine (rbit_nil _).mono ?_
                rintro e w' ⟨rfl, rfl⟩
                go_wp2_with fail
                have hax : (a+1) ≤ 72 * (k + 1) := by omega
                have hcx1 := Hs6.out.cx.1
                have hcx2 := Hs6.out.cx.2
                obtain ⟨a9, ha9⟩ : ∃ a9, (a+1) = a9 := ⟨_, rfl⟩
                rw [ha9] at Hs6 hcx1 hax
                clear ha9
                go_region_held3 (fun w' => w'.cell? ⟨w4.heap.size, 1, none⟩ = some (.int .i64 a9) ∧ w'.cell? ⟨w4.heap.size, 2, none⟩ = some (.int .i64 o2))
                  (first | (refine ⟨?_, ?_⟩ <;> assumption) | go_keep)
                  (first
                    | (go_at_call 23
                       refine (st_at Hs6.out.drew1).mono ?_
                       rintro e w7 ⟨rfl, rfl⟩)
                    | (go_at_call 26
                       refine (st_over Hs8.out).mono ?_
                       rintro e w9 ⟨rfl, rfl⟩)
                    | (go_at_call 24
                       refine (st_left Hs6.out.drew1 (by omega) (by omega)).mono ?_
                       rintro e w7 ⟨rfl, hs7⟩
                       have hcx3 := hs7.cx.1
                       have hcx4 := hs7.cx.2
                       have Hs7 := Lib.hid hs7
                       clear hs7)
                    | (go_at_call 25
                       refine (st_leftx Hs7.out (by omega) (by omega)).mono ?_
                       rintro e w8 ⟨rfl, hs8⟩
                       have hcx5 := hs8.cx.1
                       have hcx6 := hs8.cx.2
                       have Hs8 := Lib.hid hs8
                       clear hs8))
                all_goals (go_wp2_with fail; go_roundw)
                case rel => exact ⟨k + 1, a9, o2, by omega, by omega, by go_num, hax, by omega, Hs8.out.1, Hs8.out.2.1, Hs8.out.2.2.1⟩
                case measure => simp [intOf]; omega
            · go_wp2_with fail
              have hd4 : (wo.alloc (.cells #[.int .i64 x, .int .i64 n, .int .u64 v] 30)).cell? ⟨wo.heap.size, 1, none⟩ = some (.int .i64 n) := by simp
              have hcl := clampN_le n
              have hob := ovL_bd (unp xs) a o (clampN n)
              obtain ⟨cc, hcc⟩ : ∃ cc, clampN n = cc := ⟨_, rfl⟩
              have Hgr : Hid (∀ w', St W w' gr w4.heap.size wo.heap.size #[.int .i64 x, .int .i64 n, .int .u64 v] xs a o a o → Calls Try.prog 19 #[.pointer (some ⟨gr, 0, none⟩), .int .i64 n] w' fun e w2 => e = .returned (.int .u64 (valL (unp xs) a cc)) ∧ St W w2 gr w4.heap.size wo.heap.size #[.int .i64 x, .int .i64 n, .int .u64 v] xs (a + cc) (ovL (unp xs) a o cc) a o) := Lib.hid (fun w' h => by rw [← hcc]; exact st_getr n h H8.out (by omega) (by omega) (by omega))
              have Hgx : Hid (∀ w', St W w' gr w4.heap.size wo.heap.size #[.int .i64 x, .int .i64 n, .int .u64 v] xs (a + cc) (ovL (unp xs) a o cc) a o → Calls Try.prog 20 #[.pointer (some ⟨w4.heap.size, 0, none⟩), .int .i64 n] w' fun e w2 => e = .returned (.int .u64 (valL (unp xs) a cc)) ∧ St W w2 gr w4.heap.size wo.heap.size #[.int .i64 x, .int .i64 n, .int .u64 v] xs (a + cc) (ovL (unp xs) a o cc) (a + cc) (ovL (unp xs) a o cc)) := Lib.hid (fun w' h => by rw [← hcc] at h ⊢; exact st_getx n h (by omega) (by omega) (by omega))
              rw [hcc] at hcl hob
              obtain ⟨o2, ho2⟩ : ∃ o2, ovL (unp xs) a o cc = o2 := ⟨_, rfl⟩
              obtain ⟨vv, hvv⟩ : ∃ vv, valL (unp xs) a cc = vv := ⟨_, rfl⟩
              rw [ho2] at hob Hgr Hgx
              rw [hvv] at Hgr Hgx
              clear ho2 hvv hcc
              go_region_held3 (fun w' => w'.cell? ⟨wo.heap.size, 1, none⟩ = some (.int .i64 n))
                (first | assumption | go_keep)
                (first
                  | (go_at_call_of 19 (Value.pointer none)
                     refine (rget_nil _ _).mono ?_
                     rintro e w7 ⟨rfl, rfl⟩)
                  | (go_at_call_of 19 (Value.pointer (some ⟨gr, 0, none⟩))
                     refine (Hgr.out _ Hst.out.drew1).mono ?_
                     rintro e w5 ⟨rfl, hs5⟩
                     have hd5 : w5.cell? ⟨wo.heap.size, 1, none⟩ = some (.int .i64 n) := by have := hs5.2.2.2.cell 1; simpa using this
                     have Hs5 := Lib.hid hs5
                     clear hs5)
                  | (go_at_call 20
                     refine (Hgx.out _ Hs5.out).mono ?_
                     rintro e w6 ⟨rfl, hs6⟩
                     have hd6 : w6.cell? ⟨wo.heap.size, 1, none⟩ = some (.int .i64 n) := by have := hs6.2.2.2.cell 1; simpa using this
                     have Hs6 := Lib.hid hs6
                     clear hs6))
              go_wp2_with fail
              have hax : (a+cc) ≤ 72 * (k + 1) := by omega
              have hcx1 := Hs6.out.cx.1
              have hcx2 := Hs6.out.cx.2
              obtain ⟨a9, ha9⟩ : ∃ a9, (a+cc) = a9 := ⟨_, rfl⟩
              rw [ha9] at Hs6 hcx1 hax
              clear ha9
              go_region_held3 (fun w' => w'.cell? ⟨w4.heap.size, 1, none⟩ = some (.int .i64 a9) ∧ w'.cell? ⟨w4.heap.size, 2, none⟩ = some (.int .i64 o2))
                (first | (refine ⟨?_, ?_⟩ <;> assumption) | go_keep)
                (first
                  | (go_at_call 23
                     refine (st_at Hs6.out.drew1).mono ?_
                     rintro e w7 ⟨rfl, rfl⟩)
                  | (go_at_call 26
                     refine (st_over Hs8.out).mono ?_
                     rintro e w9 ⟨rfl, rfl⟩)
                  | (go_at_call 24
                     refine (st_left Hs6.out.drew1 (by omega) (by omega)).mono ?_
                     rintro e w7 ⟨rfl, hs7⟩
                     have hcx3 := hs7.cx.1
                     have hcx4 := hs7.cx.2
                     have Hs7 := Lib.hid hs7
                     clear hs7)
                  | (go_at_call 25
                     refine (st_leftx Hs7.out (by omega) (by omega)).mono ?_
                     rintro e w8 ⟨rfl, hs8⟩
                     have hcx5 := hs8.cx.1
                     have hcx6 := hs8.cx.2
                     have Hs8 := Lib.hid hs8
                     clear hs8))
              all_goals (go_wp2_with fail; go_roundw)
              case rel => exact ⟨k + 1, a9, o2, by omega, by omega, by go_num, hax, by omega, Hs8.out.1, Hs8.out.2.1, Hs8.out.2.2.1⟩
              case measure => simp [intOf]; omega
            · go_wp2_with fail
              refine (st_alignr Hst.out (by omega)).mono ?_
              rintro e w5 ⟨rfl, hs5⟩
              have Hs5 := Lib.hid hs5
              clear hs5
              go_wp2_with fail
              refine (st_alignx Hs5.out (by omega)).mono ?_
              rintro e w6 ⟨rfl, hs6⟩
              have Hs6 := Lib.hid hs6
              clear hs6
              go_wp2_with fail
              refine (ralign_nil _).mono ?_
              rintro e w' ⟨rfl, rfl⟩
              go_wp2_with fail
              have hax : ((a+7)/8*8) ≤ 72 * (k + 1) := by omega
              have hcx1 := Hs6.out.cx.1
              have hcx2 := Hs6.out.cx.2
              obtain ⟨a9, ha9⟩ : ∃ a9, ((a+7)/8*8) = a9 := ⟨_, rfl⟩
              rw [ha9] at Hs6 hcx1 hax
              clear ha9
              go_region_held3 (fun w' => w'.cell? ⟨w4.heap.size, 1, none⟩ = some (.int .i64 a9) ∧ w'.cell? ⟨w4.heap.size, 2, none⟩ = some (.int .i64 o))
                (first | (refine ⟨?_, ?_⟩ <;> assumption) | go_keep)
                (first
                  | (go_at_call 23
                     refine (st_at Hs6.out.drew1).mono ?_
                     rintro e w7 ⟨rfl, rfl⟩)
                  | (go_at_call 26
                     refine (st_over Hs8.out).mono ?_
                     rintro e w9 ⟨rfl, rfl⟩)
                  | (go_at_call 24
                     refine (st_left Hs6.out.drew1 (by omega) (by omega)).mono ?_
                     rintro e w7 ⟨rfl, hs7⟩
                     have hcx3 := hs7.cx.1
                     have hcx4 := hs7.cx.2
                     have Hs7 := Lib.hid hs7
                     clear hs7)
                  | (go_at_call 25
                     refine (st_leftx Hs7.out (by omega) (by omega)).mono ?_
                     rintro e w8 ⟨rfl, hs8⟩
                     have hcx5 := hs8.cx.1
                     have hcx6 := hs8.cx.2
                     have Hs8 := Lib.hid hs8
                     clear hs8))
              all_goals (go_wp2_with fail; go_roundw)
              case rel => exact ⟨k + 1, a9, o, by omega, by omega, by go_num, hax, by omega, Hs8.out.1, Hs8.out.2.1, Hs8.out.2.2.1⟩
              case measure => simp [intOf]; omega
          · have h60b : (60 : Int) ≤ (k : Int) := by omega
            have HFb := Lib.hid (Hb.out.alloc hsb (.cells #[.int .i64 x, .int .i64 n, .int .u64 v] 30))
            go_wp2_with fail
            refine (rat_nil _).mono ?_
            rintro e w' ⟨rfl, rfl⟩
            go_wp2_with fail
            refine (rleft_nil _).mono ?_
            rintro e w' ⟨rfl, rfl⟩
            go_wp2_with fail
            refine (rover_nil _).mono ?_
            rintro e w' ⟨rfl, rfl⟩
            go_wp2_with fail
            go_ret
            exact ⟨ret_bool (by simp), HFb.out⟩
        · have HFb := Hb
          go_wp2_with fail
          refine (rat_nil _).mono ?_
          rintro e w' ⟨rfl, rfl⟩
          go_wp2_with fail
          refine (rleft_nil _).mono ?_
          rintro e w' ⟨rfl, rfl⟩
          go_wp2_with fail
          refine (rover_nil _).mono ?_
          rintro e w' ⟨rfl, rfl⟩
          go_wp2_with fail
          go_ret
          exact ⟨ret_bool (by simp), HFb.out⟩

namespace bitsRead
theorem bitsRead_walk (xs : List Int) (ops : List (Int × Int × Int)) (v0 v1 : Value) (W : World) (h0 : IsBytes W v0 xs) (h1 : IsOps W v1 ops) :
    Calls Try.prog 4 #[v0, v1] W fun e W' => e = .returned (.bool true) ∧ Below W.heap.size W W' := by
  have h8 : Byte8 xs := fun j => h0.rd_bd j
  obtain ⟨A, c, rfl, hX, hm0, _⟩ := h0
  obtain ⟨B, d, rfl, hm, hR, hbd⟩ := h1
  unfold maxLen at hm hm0
  by_cases hl : 500 < xs.length
  · exact read_long A B c d xs ops.length W hl
  · exact read_p A B c d xs ops W hX h8 (by omega) hR (by omega) hbd
end bitsRead
end Go.Proofs.Ytoiofnmodinpcaa
