/- The walk of GolombPuts. -/
import Derived.Test.YtlhpaompaigkpaaGol5
import Derived.Test.YtlhpaompaigkpaaOpen
import Derived.Deep.RegionWith
import Derived.Deep.DeepCutAuto
import Derived.Deep.CutBlock
namespace Go.Proofs.Ytlhpaompaigkpaa
open Go.RowKit
set_option linter.unusedVariables false
set_option linter.unusedSimpArgs false

theorem goG_codeB (v : Int) : goG (unp (packZ (codeB v))) 0 1 31 = if rightV v = true then (v, true, (codeB v).length) else (0, false, 63) := by
  cases h : rightV v
  · rw [codeB_no h]; exact (by decide +kernel : goG (unp (packZ [])) 0 1 31 = (0, false, 63))
  · rw [code_read _ 0 v h (fun t ht => by rw [nextL_pack', Nat.zero_add]), Nat.zero_add]; rfl
theorem goS_signB (v : Int) : goS (unp (packZ (signB v))) 0 = if rightV (magV v) = true then (v, true, (signB v).length) else (0, false, 63) := by
  cases h : rightV (magV v)
  · rw [signB_no h]; exact (by decide +kernel : goS (unp (packZ [])) 0 = (0, false, 63))
  · rw [sign_read _ 0 v h (fun t ht => by rw [nextL_pack', Nat.zero_add]), Nat.zero_add]; rfl
theorem isEmpty_code (v : Int) : (bstr (codeB v)).toList.isEmpty = !rightV v := by
  rw [bstr_empty]
  cases h : rightV v
  · rw [codeB_no h]; rfl
  · have := codeB_ne h
    cases hc : codeB v with
    | nil => exact absurd hc this
    | cons => rfl
theorem isEmpty_sign (v : Int) : (bstr (signB v)).toList.isEmpty = !rightV (magV v) := by
  rw [bstr_empty]
  cases h : rightV (magV v)
  · rw [signB_no h]; rfl
  · have := codeB_ne h
    rw [signB_yes h]
    split
    · cases hc : codeB (magV v) with
      | nil => exact absurd hc this
      | cons => rfl
    · cases hc : codeB (magV v) <;> rfl
theorem WrI.other {w w' : World} {B g g2 : Nat} {bv bv2 : Value} {bs bs2 : List Bool} {B2 : Nat} (h : WrI w B g bv bs) (h2 : WrI w B2 g2 bv2 bs2) (ht : Touch g2 none w w') (hne : g ≠ g2) : WrI w' B g bv bs := by
  obtain ⟨h1, hb, ho⟩ := h
  have hk : ∀ k, k < w.heap.size → k ≠ g2 → w'.heap[k]? = w.heap[k]? := fun k hk hn => ht.block k hk hn (by simp)
  refine ⟨h1, (hk g hb.lt hne).trans hb, ho.1, ?_⟩
  rcases ho.2 with h3 | ⟨k, cap, cur, hv, hkB, hh, r⟩
  · exact .inl h3
  · refine .inr ⟨k, cap, cur, hv, hkB, (hk k ?_ (fun e => ?_)).trans hh, r⟩
    · exact (Array.getElem?_eq_some_iff.1 hh).1
    · exact Blk.ne_ (t := 5) hh h2.2.1 (by decide) e
/-- Both writers as they stand behind all that is put. -/
def Gp (W w : World) (g1 g2 : Nat) (b1 b2 : Value) (v : Int) : Prop := WrI w W.heap.size g1 b1 (codeB v) ∧ WrI w W.heap.size g2 b2 (signB v) ∧ Below W.heap.size W w
theorem Gp.kept {W w w' : World} {g1 g2 : Nat} {b1 b2 : Value} {v : Int} (h : Gp W w g1 g2 b1 b2 v) (hb : Below w.heap.size w w') : Gp W w' g1 g2 b1 b2 v := ⟨h.1.kept hb, h.2.1.kept hb, h.2.2.trans (hb.mono h.2.2.size)⟩
theorem Gp.drew1 {W w : World} {g1 g2 : Nat} {b1 b2 : Value} {v : Int} (h : Gp W w g1 g2 b1 b2 v) : Gp W w.drew g1 g2 b1 b2 v := ⟨h.1, h.2.1, Below.drew h.2.2⟩
/-- A writer's bytes as a slice. -/
theorem wbytes_s (B g : Nat) (bs : List Bool) (bv : Value) (w : World) (h : WrI w B g bv bs) (hm : bs.length ≤ 1000000) (p : List Int) (hp : packZ bs = p) :
    Calls Try.prog 14 #[.pointer (some ⟨g, 0, none⟩)] w fun e w' => ∃ A c, e = .returned (.slice A p.length c) ∧ ReadsB w' A p ∧ Below w.heap.size w w' := by
  subst hp
  refine (wbytes_c B g bs bv w h hm).mono ?_
  rintro e w' ⟨v, rfl, ho, hb⟩
  obtain ⟨A, c, rfl, hr⟩ := ho.slice
  exact ⟨A, c, rfl, hr, hb⟩
theorem rbytes_s (bs : List Bool) (w : World) (hl : bs.length ≤ 1000000) (p : List Int) (hp : packZ bs = p) :
    Calls Try.prog 15 #[.string (bstr bs)] w fun e w' => ∃ A c, e = .returned (.slice A p.length c) ∧ ReadsB w' A p ∧ Below w.heap.size w w' := by
  subst hp
  refine (rbytes_c bs w hl).mono ?_
  rintro e w' ⟨v, rfl, ho, hb⟩
  obtain ⟨A, c, rfl, hr⟩ := ho.slice
  exact ⟨A, c, rfl, hr, hb⟩
theorem conv_p (bs : List Bool) (p : List Int) (hp : packZ bs = p) (s : ByteArray) (hs : bytesStr p = s) (A : Option Addr) (c : Nat) (w : World) (h : ReadsB w A p) :
    (convert 24 9 (.slice A p.length c)).run Try.prog w = .ok (.string s) w := by
  subst hs
  refine conv_str 24 9 Try.underlying24 Try.underlying9 A c p w h ?_
  rw [← hp]
  exact packZ_byte8 bs

set_option maxRecDepth 100000 in
set_option maxHeartbeats 12800000 in
theorem puts_p (v : Int) (W : World) (hl : -9223372036854775808 ≤ v) (hh : v ≤ 9223372036854775807) :
    Calls Try.prog 3 #[.int .i64 v] W fun e W' => e = .returned (.bool true) ∧ Below W.heap.size W W' := by
  have hc1 := codeB_len v
  have hc2 := signB_len v
  have Hsg1 := Lib.hid (goG_codeB v)
  have Hsg2 := Lib.hid (goS_signB v)
  obtain ⟨r1, hr1⟩ : ∃ r1, rightV v = r1 := ⟨_, rfl⟩
  obtain ⟨r2, hr2⟩ : ∃ r2, rightV (magV v) = r2 := ⟨_, rfl⟩
  have he1 := isEmpty_code v
  have he2 := isEmpty_sign v
  rw [hr1] at he1 Hsg1
  rw [hr2] at he2 Hsg2
  have hz1 := bstr_size (codeB v)
  have hz2 := bstr_size (signB v)
  have Hrc := Lib.hid (rcode_c v)
  have Hrs := Lib.hid (rsigned_c v · hl hh)
  obtain ⟨p1, hp1⟩ : ∃ p1, packZ (codeB v) = p1 := ⟨_, rfl⟩
  obtain ⟨p2, hp2⟩ : ∃ p2, packZ (signB v) = p2 := ⟨_, rfl⟩
  obtain ⟨s1, hs1⟩ : ∃ s1, bytesStr p1 = s1 := ⟨_, rfl⟩
  obtain ⟨s2, hs2⟩ : ∃ s2, bytesStr p2 = s2 := ⟨_, rfl⟩
  have hpl1 := packZ_length (codeB v)
  have hpl2 := packZ_length (signB v)
  have h81 := packZ_byte8 (codeB v)
  have h82 := packZ_byte8 (signB v)
  have Hcv1 := Lib.hid (conv_p (codeB v) p1 hp1 s1 hs1)
  have Hcv2 := Lib.hid (conv_p (signB v) p2 hp2 s2 hs2)
  have Hrb1 := Lib.hid (fun w => rbytes_s (codeB v) w (by omega) p1 hp1)
  have Hrb2 := Lib.hid (fun w => rbytes_s (signB v) w (by omega) p2 hp2)
  have Hwb1 := Lib.hid (fun B g bv w h => wbytes_s B g (codeB v) bv w h (by omega) p1 hp1)
  have Hwb2 := Lib.hid (fun B g bv w h => wbytes_s B g (signB v) bv w h (by omega) p2 hp2)
  have Hsz1 := Lib.hid (gsize_c v)
  have Hsz2 := Lib.hid (gsizes_c v · hl hh)
  rw [hp1] at hpl1 h81 Hsg1
  rw [hp2] at hpl2 h82 Hsg2
  have H81 := Lib.hid h81
  have H82 := Lib.hid h82
  have hpb1 : p1.length ≤ 100 := by omega
  have hpb2 : p2.length ≤ 100 := by omega
  obtain ⟨t1, ht1⟩ : ∃ t1, bstr (codeB v) = t1 := ⟨_, rfl⟩
  obtain ⟨t2, ht2⟩ : ∃ t2, bstr (signB v) = t2 := ⟨_, rfl⟩
  rw [ht1] at he1 hz1 Hrc Hrb1
  rw [ht2] at he2 hz2 Hrs Hrb2
  obtain ⟨n1, hn1⟩ : ∃ n1, (codeB v).length = n1 := ⟨_, rfl⟩
  obtain ⟨n2, hn2⟩ : ∃ n2, (signB v).length = n2 := ⟨_, rfl⟩
  have Hn1 := Lib.hid hn1
  have Hn2 := Lib.hid hn2
  have Hr1 := Lib.hid hr1
  have Hr2 := Lib.hid hr2
  rw [hn1] at hz1 Hsz1
  rw [hn2] at hz2 Hsz2
  have Hput := Lib.hid (fun B g bs bv w h hm hB => gput_c B g bs v bv w h hm hB)
  have Hputs := Lib.hid (fun B g bs bv w h hm hB => gputs_c B g bs v bv w h hm hB hl hh)
  have Hnil := Lib.hid (gput_nil v)
  rw [hr1] at Hput Hnil
  rw [hr2] at Hputs
  clear hr1 hr2 hp1 hp2 hs1 hs2 hpl1 hpl2 h81 h82 ht1 ht2 hn1 hn2 hc1 hc2
  go_enter Try.func3, Try.ntmps3
  go_wp2_with fail
  refine (first_c _).mono ?_
  rintro e w1 ⟨rfl, hb1⟩
  have Hb1 := Lib.hid hb1
  have hs1 := hb1.size
  clear hb1
  go_wp2_with fail
  refine (Hrc.out _).mono ?_
  rintro e w' ⟨rfl, rfl⟩
  go_wp2_with fail
  refine (Hrs.out _).mono ?_
  rintro e w' ⟨rfl, rfl⟩
  go_wp2_with fail
  have HA1 : Hid (WrI ((w1.alloc (.cells #[.slice none 0 0, .int .i64 0] 26)).alloc (.cells #[.slice none 0 0, .int .i64 0] 26)) W.heap.size w1.heap.size (.slice none 0 0) []) := Lib.hid ((WrI.new w1 hs1).kept ((Below.refl _ _).alloc (Nat.le_refl _) _))
  have HA2 : Hid (WrI ((w1.alloc (.cells #[.slice none 0 0, .int .i64 0] 26)).alloc (.cells #[.slice none 0 0, .int .i64 0] 26)) W.heap.size (w1.heap.size + 1) (.slice none 0 0) []) := Lib.hid (by
    have := WrI.new (w1.alloc (.cells #[.slice none 0 0, .int .i64 0] 26)) (B := W.heap.size) (by simp; omega)
    simpa using this)
  have HA3 := Lib.hid ((Hb1.out.alloc hs1 (.cells #[.slice none 0 0, .int .i64 0] 26)).alloc (by simp; omega) (.cells #[.slice none 0 0, .int .i64 0] 26))
  refine (Hput.out W.heap.size w1.heap.size [] _ _ HA1.out (by simp) HA3.out.size).mono ?_
  rintro e w2 ⟨rfl, b1, hw2, ht2, _⟩
  rw [List.nil_append] at hw2
  have Hw2 := Lib.hid hw2
  have HB2 := Lib.hid (HA2.out.other HA1.out ht2 (by omega))
  have HB3 := Lib.hid (HA3.out.trans (ht2.below HA3.out.size hs1 (fun k hk => by simp [Value.ownBlock] at hk)))
  clear hw2 ht2 HA1 HA2 HA3 Hb1
  go_wp2_with fail
  refine (Hputs.out W.heap.size (w1.heap.size + 1) [] _ _ HB2.out (by simp) HB3.out.size).mono ?_
  rintro e w3 ⟨rfl, b2, hw3, ht3, _⟩
  rw [List.nil_append] at hw3
  have Hz : Hid (Gp W w3 w1.heap.size (w1.heap.size + 1) b1 b2 v) := Lib.hid ⟨Hw2.out.other HB2.out ht3 (by omega), hw3, HB3.out.trans (ht3.below HB3.out.size (by omega) (fun k hk => by simp [Value.ownBlock] at hk))⟩
  clear hw3 ht3 Hw2 HB2 HB3
  go_wp2_with fail
  refine (Hnil.out _).mono ?_
  rintro e w' ⟨rfl, rfl⟩
  go_upto_region 7 with fail
  clear Hput Hputs Hnil Hrc Hrs
  generalize w1.heap.size + 1 = g2 at Hz ⊢
  generalize w1.heap.size = g1 at Hz ⊢
  go_cut [85] (fun t wx => t = .bool false ∧ Gp W wx g1 g2 b1 b2 v)
  case first =>
    clear Hsg1 Hsg2 H81 H82
    have HL1 := Lib.hid (fun w h => wlen_c W.heap.size g1 (codeB v) b1 w h)
    have HL2 := Lib.hid (fun w h => wlen_c W.heap.size g2 (signB v) b2 w h)
    rw [Hn1.out] at HL1
    rw [Hn2.out] at HL2
    go_region_with
      (first
        | (go_at_call_of 11 (Value.pointer (some ⟨g1, 0, none⟩))
           refine (HL1.out _ Hz.out.drew1.1).mono ?_
           rintro e w' ⟨rfl, rfl⟩)
        | (go_at_call_of 11 (Value.pointer (some ⟨g2, 0, none⟩))
           refine (HL2.out _ Hz.out.drew1.2.1).mono ?_
           rintro e w' ⟨rfl, rfl⟩)
        | (go_at_call 12
           refine (Hsz1.out _).mono ?_
           rintro e w' ⟨rfl, rfl⟩)
        | (go_at_call 13
           refine (Hsz2.out _).mono ?_
           rintro e w' ⟨rfl, rfl⟩)
        | (go_at_call_of 14 (Value.pointer (some ⟨g1, 0, none⟩))
           refine (Hwb1.out _ _ _ _ Hz.out.drew1.1).mono ?_
           rintro e w5 ⟨A5, c5, rfl, hr5, hb5⟩
           have hcv5 := Hcv1.out A5 c5 w5 hr5
           have HR5 := Lib.hid hr5
           have Hz5 := Lib.hid (Hz.out.drew1.kept hb5)
           clear hr5 hb5)
        | (go_at_call_of 15 (Value.string t1)
           refine (Hrb1.out _).mono ?_
           rintro e w6 ⟨A6, c6, rfl, hr6, hb6⟩
           have hcv6 := Hcv1.out A6 c6 w6 hr6
           have hcv5b := Hcv1.out A5 c5 w6 (HR5.out.kept hb6)
           have Hz6 := Lib.hid (Hz5.out.kept hb6)
           clear hr6 hb6)
        | (go_at_call_of 14 (Value.pointer (some ⟨g2, 0, none⟩))
           refine (Hwb2.out _ _ _ _ Hz6.out.2.1).mono ?_
           rintro e w7 ⟨A7, c7, rfl, hr7, hb7⟩
           have hcv7 := Hcv2.out A7 c7 w7 hr7
           have HR7 := Lib.hid hr7
           have Hz7 := Lib.hid (Hz6.out.kept hb7)
           clear hr7 hb7)
        | (go_at_call_of 15 (Value.string t2)
           refine (Hrb2.out _).mono ?_
           rintro e w8 ⟨A8, c8, rfl, hr8, hb8⟩
           have hcv8 := Hcv2.out A8 c8 w8 hr8
           have hcv7b := Hcv2.out A7 c7 w8 (HR7.out.kept hb8)
           have Hz8 := Lib.hid (Hz7.out.kept hb8)
           clear hr8 hb8))
    all_goals
      go_wp2_with fail
      go_meet
      exact ⟨rfl, Hz8.out⟩
  case rest =>
    obtain ⟨rfl, hz⟩ := hcut
    have Hzc := Lib.hid hz
    clear hz Hz
    have hk1 : (goG (unp p1) 0 1 31).2.1 = r1 := by rw [Hsg1.out]; cases r1 <;> rfl
    have hk2 : (goS (unp p2) 0).2.1 = r2 := by rw [Hsg2.out]; cases r2 <;> rfl
    have Hv1 : Hid (r1 = true → (goG (unp p1) 0 1 31).1 = v) := Lib.hid (by intro h; rw [Hsg1.out, if_pos h])
    have Hv2 : Hid (r2 = true → (goS (unp p2) 0).1 = v) := Lib.hid (by intro h; rw [Hsg2.out, if_pos h])
    have Hget := Lib.hid (fun g w h => gget_c W.heap.size g p1 0 0 w h H81.out (by omega) (by omega) (by omega))
    have Hgets := Lib.hid (fun g w h => ggets_c W.heap.size g p2 0 0 w h H82.out (by omega) (by omega) (by omega))
    rw [hk1] at Hget
    rw [hk2] at Hgets
    obtain ⟨x1, hx1⟩ : ∃ x1, (goG (unp p1) 0 1 31).1 = x1 := ⟨_, rfl⟩
    obtain ⟨x2, hx2⟩ : ∃ x2, (goS (unp p2) 0).1 = x2 := ⟨_, rfl⟩
    rw [hx1] at Hget Hv1
    rw [hx2] at Hgets Hv2
    clear Hsg1 Hsg2 hk1 hk2 hx1 hx2 Hcv1 Hcv2 Hrb1 Hrb2 Hsz1 Hsz2
    go_wp2_with fail
    refine (Hwb1.out _ _ _ _ Hzc.out.1).mono ?_
    rintro e wa ⟨Aa, ca, rfl, hra, hba⟩
    have Hra := Lib.hid hra
    have Hza := Lib.hid (Hzc.out.kept hba)
    clear hra hba
    go_wp2_with fail
    refine (new_c Aa ca p1 _ Hra.out (by omega)).mono ?_
    rintro e wb ⟨gb, rfl, hrb, hbb⟩
    have Hrb := Lib.hid hrb
    have Hbb := Lib.hid hbb
    clear hrb hbb
    go_wp2_with fail
    refine (Hget.out gb _ (Hrb.out.lower Hza.out.2.2.size)).mono ?_
    rintro e wd ⟨rfl, hrd, hgd⟩
    have Hzd := Lib.hid (Hza.out.kept (Hbb.out.trans (RGoes.below Hrb.out hgd Hbb.out.size)))
    clear hrd hgd Hra Hza Hrb Hbb
    go_wp2_with fail
    refine (Hwb2.out _ _ _ _ Hzd.out.2.1).mono ?_
    rintro e we ⟨Ae, ce, rfl, hre, hbe⟩
    have Hre := Lib.hid hre
    have Hze := Lib.hid (Hzd.out.kept hbe)
    clear hre hbe
    go_wp2_with fail
    refine (new_c Ae ce p2 _ Hre.out (by omega)).mono ?_
    rintro e wf ⟨gf, rfl, hrf, hbf⟩
    have Hrf := Lib.hid hrf
    have Hbf := Lib.hid hbf
    clear hrf hbf
    go_wp2_with fail
    refine (Hgets.out gf _ (Hrf.out.lower Hze.out.2.2.size)).mono ?_
    rintro e wg ⟨rfl, hrg, hgg⟩
    have Hzg := Lib.hid (Hze.out.kept (Hbf.out.trans (RGoes.below Hrf.out hgg Hbf.out.size)))
    clear hrg hgg Hre Hze Hrf Hbf Hzd Hzc Hget Hgets Hwb1 Hwb2 H81 H82
    cases r1 with
    | false =>
      cases r2 with
      | false =>
        go_wp2_with fail
        go_ret
        exact ⟨rfl, Hzg.out.2.2⟩
      | true =>
        have hx2 := Hv2.out rfl
        subst hx2
        go_wp2_with fail
        go_ret
        exact ⟨rfl, Hzg.out.2.2⟩
    | true =>
      have hx1 := Hv1.out rfl
      subst hx1
      cases r2 with
      | false =>
        go_wp2_with fail
        go_ret
        exact ⟨rfl, Hzg.out.2.2⟩
      | true =>
        have hx2 := Hv2.out rfl
        subst hx2
        go_wp2_with fail
        go_ret
        exact ⟨rfl, Hzg.out.2.2⟩

namespace golombPuts
theorem golombPuts_walk (x : Int) (v0 : Value) (W : World) (h0 : IsInt .i64 v0 x) :
    Calls Try.prog 3 #[v0] W fun e W' => e = .returned (.bool true) ∧ Below W.heap.size W W' := by
  have hbd := h0.bd
  obtain ⟨rfl, _⟩ := h0
  exact puts_p x W hbd.1 hbd.2
end golombPuts
end Go.Proofs.Ytlhpaompaigkpaa
