/- The walk of GolombBack. -/
import Derived.Test.YtlhpaompaigkpaaGolB1
import Derived.Test.YtlhpaompaigkpaaOpenInts
namespace Go.Proofs.Ytlhpaompaigkpaa
open Go.RowKit
set_option linter.unusedVariables false
set_option linter.unusedSimpArgs false

/-- Rows of the call's own, of whole numbers, are none of a writer's. -/
theorem OwnI.touch {w w' : World} {B B2 g : Nat} {bv hv : Value} {bs : List Bool} {hd : List Int} (h : OwnI w B2 hv hd) (hw : WrI w B g bv bs) (ht : Touch g bv.ownBlock w w') : OwnI w' B2 hv hd := by
  refine ⟨h.1, ?_⟩
  rcases h.2 with h2 | ⟨k, cap, cur, hv2, hk, hh, r⟩
  · exact .inl h2
  · refine .inr ⟨k, cap, cur, hv2, hk, ?_, r⟩
    have hlt : k < w.heap.size := (Array.getElem?_eq_some_iff.1 hh).1
    refine (ht.block k hlt (fun e => ?_) (fun e => ?_)).trans hh
    · exact Blk.ne_ (w := w) (g := k) (t := 3) hh hw.2.1 (by decide) e
    · exact own_blk_ne hw.2.2 (g := k) (t := 3) hh (by decide) e.symm
theorem OwnI.rgoes {w w' : World} {B B2 g : Nat} {hv : Value} {hd xs : List Int} {a o : Nat} (h : OwnI w B2 hv hd) (hr : RdI w B g xs a o) (hg : RGoes w w' g) : OwnI w' B2 hv hd := by
  obtain ⟨rv, _, hb, _⟩ := hr
  exact OwnI.grown h hg (.inr (own_blk_ne h hb (by decide)))
theorem WrI.grown {w w' : World} {B B2 g : Nat} {bv hv : Value} {bs : List Bool} {hd : List Int} (hw : WrI w B g bv bs) (h : OwnI w B2 hv hd) (hg : w.grownBy w' hv.ownBlock) : WrI w' B g bv bs := by
  refine ⟨hw.1, Blk.grown hw.2.1 hg (fun e => own_blk_ne h hw.2.1 (by decide) e.symm), OwnB.grown hw.2.2 hg ?_⟩
  cases hb : bv.ownBlock with
  | none => exact .inl rfl
  | some k =>
    refine .inr (fun e => ?_)
    rcases hw.2.2.2 with ⟨h2, _⟩ | ⟨k2, cap, cur, hv2, hk, hh, r⟩
    · rw [h2] at hb; simp [Value.ownBlock] at hb
    · rw [hv2] at hb
      have : k2 = k := by simpa [Value.ownBlock] using hb
      subst this
      exact own_blk_ne h (g := k2) (t := 5) hh (by decide) e.symm

set_option maxRecDepth 100000 in
set_option maxHeartbeats 12800000 in
theorem back_p (A : Option Addr) (c : Nat) (l : List Int) (W : World) (hR : ReadsI W A l) (hm : l.length ≤ 9223372036854775807) (hbd : ∀ j, -9223372036854775808 ≤ rdn l j ∧ rdn l j ≤ 9223372036854775807) :
    Calls Try.prog 4 #[.slice A l.length c] W fun e W' => e = .returned (.bool true) ∧ Below W.heap.size W W' := by
  have HR := Lib.hid hR
  have Hbd := Lib.hid hbd
  clear hR hbd
  go_enter Try.func4, Try.ntmps4
  go_wp2_with fail
  refine (first_c _).mono ?_
  rintro e w1 ⟨rfl, hb1⟩
  have Hb1 := Lib.hid hb1
  have hs1 := hb1.size
  clear hb1
  go_wp2_with fail
  obtain ⟨g, Hg⟩ : ∃ g, Hid (w1.heap.size = g) := ⟨_, Lib.hid rfl⟩
  have Hn := Lib.hid (WrI.new w1 hs1)
  have Hb0 := Lib.hid (Hb1.out.alloc hs1 (.cells #[.slice none 0 0, .int .i64 0] 26))
  rw [Hg.out] at Hn
  go_loopw [4, 5, 19] (fun nv hv i wr => ∃ (k : Nat) (bv : Value), k ≤ l.length ∧ i = .int .i64 k ∧ nv = .int .i64 ((catS (hadK l k)).length : Nat) ∧ OwnI wr W.heap.size hv (hadK l k) ∧ WrI wr W.heap.size w1.heap.size bv (catS (hadK l k)) ∧ Below W.heap.size W wr) (fun nv hv i _ => l.length - (intOf i).toNat)
  case atStart => exact ⟨0, _, Nat.zero_le _, rfl, by simp [hadK, catS], by simp [hadK]; exact OwnI.nil _ _, by rw [Hg.out]; simpa [hadK, catS] using Hn.out, Hb0.out⟩
  case round =>
    obtain ⟨wo, ewo⟩ : ∃ wo, wo = wr := ⟨_, rfl⟩
    subst ewo
    obtain ⟨k, bv, hk, rfl, rfl, ho, hw, hb⟩ := hrel
    rw [Hg.out] at hw
    have hcl := catS_len (hadK l k)
    have hhl := hadK_len l k
    have Hw := Lib.hid hw
    have Hb := Lib.hid hb
    have Ho := Lib.hid ho
    have hsb := hb.size
    clear hw hb ho
    by_cases hlt : k < l.length
    · obtain ⟨ad, rfl, ha, hc1⟩ := (HR.out.kept Hb.out).rd_ (i := k) hlt
      have hv1 := Hbd.out k
      by_cases h60 : k < 60
      · have Hst := Lib.hid (hadK_step l k hlt h60)
        obtain ⟨hd, hhd⟩ : ∃ hd, hadK l k = hd := ⟨_, rfl⟩
        rw [hhd] at Hw Ho hcl hhl Hst ⊢
        obtain ⟨v, hve⟩ : ∃ v, rdn l k = v := ⟨_, rfl⟩
        rw [hve] at hc1 hv1 Hst
        obtain ⟨hv2, hv3⟩ := hv1
        obtain ⟨n, hn⟩ : ∃ n, (catS hd).length = n := ⟨_, rfl⟩
        have Hn2 := Lib.hid hn
        rw [hn] at hcl ⊢
        have hsl := signB_len v
        have Hps := Lib.hid (gputs_c W.heap.size w1.heap.size (catS hd) v bv wo (by rw [Hg.out]; exact Hw.out) (by rw [hn]; omega) hsb hv2 hv3)
        have Hsz := Lib.hid (gsizes_c v · hv2 hv3)
        clear hhd hve hn
        cases hr : rightV (magV v)
        · rw [hr] at Hps
          have Hst2 : Hid (hadK l (k + 1) = hd) := Lib.hid (by rw [Hst.out, hr]; simp)
          have Hsn : Hid (signB v = []) := Lib.hid (signB_no hr)
          clear hr
          go_wp2_with fail
          refine Hps.out.mono ?_
          rintro e w2 ⟨rfl, hgo⟩
          rw [Hsn.out, List.append_nil, Hg.out] at hgo
          obtain ⟨b2, hw2, ht2, hm2⟩ := hgo
          have Hw2 := Lib.hid hw2
          have Ho2 := Lib.hid (Ho.out.touch Hw.out ht2)
          have Hb2 := Lib.hid (Hb.out.trans (ht2.below hsb Hw.out.1 (fun k hk => (Hw.out.2.2.blk_lt k hk).1)))
          clear hw2 ht2 hm2
          go_wp2_with fail
          go_roundw
          case rel => exact ⟨k + 1, b2, by omega, by go_num, by rw [Hst2.out, Hn2.out], by rw [Hst2.out]; exact Ho2.out, by rw [Hst2.out, Hg.out]; exact Hw2.out, Hb2.out⟩
          case measure => simp [intOf]; omega
        · rw [hr] at Hps
          have Hst2 : Hid (hadK l (k + 1) = hd ++ [v]) := Lib.hid (by rw [Hst.out, hr]; simp)
          have Hcs : Hid (catS (hd ++ [v]) = catS hd ++ signB v) := Lib.hid (catS_snoc hd v)
          obtain ⟨m, hmm⟩ : ∃ m, (signB v).length = m := ⟨_, rfl⟩
          have Hmm := Lib.hid hmm
          rw [hmm] at Hsz hsl
          clear hr hmm
          go_wp2_with fail
          refine Hps.out.mono ?_
          rintro e w2 ⟨rfl, hgo⟩
          rw [Hg.out] at hgo
          obtain ⟨b2, hw2, ht2, hm2⟩ := hgo
          have Hw2 := Lib.hid hw2
          have Ho2 := Lib.hid (Ho.out.touch Hw.out ht2)
          have Hb2 := Lib.hid (Hb.out.trans (ht2.below hsb Hw.out.1 (fun k hk => (Hw.out.2.2.blk_lt k hk).1)))
          have hs2 := Hb2.out.size
          clear hw2 ht2 hm2
          go_wp2_with (
            at_builtin
            refine wpList_app rfl (.tmp 31) (.tmp 33) 38 rfl Try.underlying38 u5 hd rfl W.heap.size (Ho2.out.alloc _) 1 [v] rfl w2.heap.size 1 rfl (cells1 (by simp)) (by omega) (by simp; omega) ?_
            intro v4 w4 ho4 hg4 hat4
            have Ho4 := Lib.hid ho4
            have Hw4 := Lib.hid ((Hw2.out.kept ((Below.refl _ _).alloc (Nat.le_refl _) _)).grown (Ho2.out.alloc _) hg4)
            have Hb4 := Lib.hid ((Hb2.out.alloc hs2 _).grown hg4 (by simp; omega) (fun j hj => (Ho2.out.blk_lt j hj).1))
            clear ho4 hg4 hat4)
          refine (Hsz.out _).mono ?_
          rintro e w' ⟨rfl, rfl⟩
          go_wp2_with fail
          go_roundw
          case rel => exact ⟨k + 1, b2, by omega, by go_num, by rw [Hst2.out, Hcs.out, List.length_append, Hn2.out, Hmm.out]; simp, by rw [Hst2.out]; exact Ho4.out, by rw [Hst2.out, Hcs.out, Hg.out]; exact Hw4.out, Hb4.out⟩
          case measure => simp [intOf]; omega
      · have Hst := Lib.hid (hadK_stop l k (by omega))
        have h60b : (60 : Int) ≤ (k : Int) := by omega
        obtain ⟨hd, hhd⟩ : ∃ hd, hadK l k = hd := ⟨_, rfl⟩
        rw [hhd] at Hw Ho hcl hhl Hst ⊢
        clear hhd
        go_wp2_with fail
        go_roundw
        case rel => exact ⟨k + 1, bv, by omega, by go_num, by rw [Hst.out], by rw [Hst.out]; exact Ho.out, by rw [Hst.out, Hg.out]; exact Hw.out, Hb.out⟩
        case measure => simp [intOf]; omega
    · have hok := hadK_ok l k
      obtain ⟨hd, hhd⟩ : ∃ hd, hadK l k = hd := ⟨_, rfl⟩
      rw [hhd] at Hw Ho hcl hhl hok ⊢
      have Hok := Lib.hid hok
      obtain ⟨BA, hBA⟩ : ∃ BA, catS hd = BA := ⟨_, rfl⟩
      have HBA := Lib.hid hBA
      rw [hBA] at Hw hcl ⊢
      obtain ⟨xs, hxs⟩ : ∃ xs, packZ BA = xs := ⟨_, rfl⟩
      have hxl := packZ_length BA
      have h8 := packZ_byte8 BA
      rw [hxs] at hxl h8
      have Hxl := Lib.hid hxl
      have Hxs := Lib.hid hxs
      have H8 := Lib.hid h8
      have hxb : xs.length ≤ 600 := by omega
      have hBl : BA.length ≤ 3840 := by omega
      obtain ⟨A3, c3, rfl, hri⟩ := Ho.out.slice
      have hkl : l.length ≤ k := by omega
      clear hxl hxs h8 hBA hhd hok hri hlt hsb
      go_wp2_with fail
      refine (wbytes_c W.heap.size w1.heap.size BA bv _ (by rw [Hg.out]; exact Hw.out) (by omega)).mono ?_
      rintro e w2 ⟨v2, rfl, ho2, hb2⟩
      rw [Hxs.out] at ho2
      obtain ⟨A2, c2, rfl, hr2⟩ := ho2.slice
      have Hr2 := Lib.hid hr2
      have Hb2 := Lib.hid (Hb.out.trans (hb2.mono Hb.out.size))
      have Hw2 := Lib.hid (Hw.out.kept hb2)
      have Ho2 := Lib.hid (Ho.out.kept hb2)
      clear ho2 hb2 hr2
      go_wp2_with fail
      refine (new_c A2 c2 xs _ Hr2.out (by omega)).mono ?_
      rintro e w3 ⟨gr, rfl, hr3, hb3⟩
      have Hr3 := Lib.hid (hr3.lower Hb2.out.size)
      have Hb3 := Lib.hid (Hb2.out.trans (hb3.mono Hb2.out.size))
      have Hw3 := Lib.hid (Hw2.out.kept hb3)
      have Ho3 := Lib.hid (Ho2.out.kept hb3)
      clear hr3 hb3
      go_wp2_with fail
      go_loopw [45] (fun i wr => ∃ (j : Nat), j ≤ hd.length ∧ i = .int .i64 j ∧ RdI wr W.heap.size gr xs (catS (hd.take j)).length 0 ∧ OwnI wr W.heap.size (.slice A3 hd.length c3) hd ∧ WrI wr W.heap.size g bv BA ∧ Below W.heap.size W wr) (fun i _ => hd.length - (intOf i).toNat)
      case atStart => exact ⟨0, Nat.zero_le _, rfl, Hr3.out, Ho3.out, Hw3.out, Hb3.out⟩
      case round =>
        clear Hw Hb Hr2 Hb2 Hw2 Hr3 Hb3 Hw3 Ho Ho2 Ho3
        obtain ⟨wp, ewp⟩ : ∃ wp, wp = wr := ⟨_, rfl⟩
        subst ewp
        obtain ⟨j, hj, rfl, hr, ho, hw, hb⟩ := hrel
        have Hr := Lib.hid hr
        have Ho := Lib.hid ho
        have Hw := Lib.hid hw
        have Hb := Lib.hid hb
        have hsb := hb.size
        clear hr ho hw hb
        by_cases hjl : j < hd.length
        · obtain ⟨k1, cc, he, hk1, hk2, hkc, hkf⟩ := Ho.out.formr (by omega)
          injection he with he1 he2 he3
          subst he1
          have hkc2 := hkc j hjl
          clear hkc
          have hcat := catS_read hd Hok.out j hjl
          rw [HBA.out, Hxs.out] at hcat
          have hpre := catS_pre hd (j + 1)
          rw [HBA.out] at hpre
          have hpre0 := catS_pre hd j
          rw [HBA.out] at hpre0
          have hel : rdn hd j = hd[j] := by simp [rdn, List.getD_eq_getElem?_getD, hjl]
          rw [← hel] at hcat
          obtain ⟨v, hve⟩ : ∃ v, rdn hd j = v := ⟨_, rfl⟩
          rw [hve] at hkc2 hcat
          obtain ⟨p0, hp0⟩ : ∃ p0, (catS (hd.take j)).length = p0 := ⟨_, rfl⟩
          rw [hp0] at Hr hcat hpre0
          have hmono : p0 ≤ (catS (hd.take (j + 1))).length := by
            have := goS_pos (unp xs) p0
            rw [hcat] at this
            exact this
          obtain ⟨p1, hp1⟩ : ∃ p1, (catS (hd.take (j + 1))).length = p1 := ⟨_, rfl⟩
          have Hp1 := Lib.hid hp1
          rw [hp1] at hcat hpre hmono
          have Hget := Lib.hid (ggets_c W.heap.size gr xs p0 0 wp Hr.out H8.out (by omega) (by omega) (by omega))
          rw [hcat] at Hget
          have hov : ovL (unp xs) p0 0 (p1 - p0) = 0 := ovL_none' (unp xs) p0 0 (p1 - p0) (by rw [unp_length]; have := Hxl.out; omega)
          rw [hov] at Hget
          clear hcat hel hve hp0 hp1 hov hkf he2 he3
          go_wp2_with fail
          refine Hget.out.mono ?_
          rintro e w5 ⟨rfl, hr5, hg5⟩
          have Hr5 := Lib.hid hr5
          have Ho5 := Lib.hid (Ho.out.rgoes Hr.out hg5)
          have Hw5 := Lib.hid (Hw.out.rgoes Hr.out hg5)
          have Hb5 := Lib.hid (Hb.out.trans (hg5.below Hr.out hsb))
          clear hr5 hg5
          go_wp2_with fail
          go_roundw
          case rel => exact ⟨j + 1, by omega, by go_num, by rw [Hp1.out]; exact Hr5.out, Ho5.out, Hw5.out, Hb5.out⟩
          case measure => simp [intOf]; omega
        · have hje : hd.length ≤ j := by omega
          have Hrf : Hid (RdI wp W.heap.size gr xs BA.length 0) := Lib.hid (by have := Hr.out; rwa [List.take_of_length_le hje, HBA.out] at this)
          clear hjl
          go_wp2_with fail
          refine (wlen_c W.heap.size w1.heap.size BA bv _ (by rw [Hg.out]; exact Hw.out)).mono ?_
          rintro e w' ⟨rfl, rfl⟩
          go_wp2_with fail
          refine (rat_c W.heap.size gr xs BA.length 0 _ Hrf.out).mono ?_
          rintro e w' ⟨rfl, rfl⟩
          go_wp2_with fail
          go_ret
          exact ⟨ret_bool (by simp), Hb.out⟩

namespace golombBack
theorem golombBack_walk (l : List Int) (v0 : Value) (W : World) (h0 : IsInts W v0 l) :
    Calls Try.prog 4 #[v0] W fun e W' => e = .returned (.bool true) ∧ Below W.heap.size W W' := by
  have hbd := fun j => h0.rd_bd j
  obtain ⟨A, c, rfl, hR, hm, _⟩ := h0
  unfold maxLen at hm
  exact back_p A c l W hR (by omega) hbd
end golombBack
end Go.Proofs.Ytlhpaompaigkpaa
