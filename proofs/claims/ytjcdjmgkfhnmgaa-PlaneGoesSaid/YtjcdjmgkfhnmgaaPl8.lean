/- Planes: their places and rows, told one by one to a function. -/
import Derived.Test.YtjcdjmgkfhnmgaaPl5
namespace Go.Proofs.Ytjcdjmgkfhnmgaa
open Go.RowKit Go.Shelf
set_option linter.unusedVariables false
set_option linter.unusedSimpArgs false

/-- What a function to be ranged over owes to a function that it is handed. -/
def SqF (P : Program) (gf : Nat) (lb : Array Value) (kf : Nat) (caps : Array Value) (K : Nat → Prop) (N : Nat) (El : Nat → Array Value → World → Prop) (w : World) : Prop :=
  ∀ (J : Nat → World → Prop) (Jx : World → Prop) (W : World), Below w.heap.size w W → (∀ k A B, J k A → Below A.heap.size A B → J k B) →
    (∀ k args W1, k < N → J k W1 → KeepB K W W1 → W.heap.size ≤ W1.heap.size → El k args W1 → Calls P kf (args ++ caps) W1 fun e W' =>
      (e = .returned (.bool true) ∧ J (k + 1) W' ∧ KeepB K W1 W') ∨ (e = .returned (.bool false) ∧ Jx W')) →
    J 0 W → Calls P gf (#[.func (.func kf) #[] caps] ++ lb) W fun e W' => (∃ v, e = .returned v) ∧ (J N W' ∨ Jx W')
set_option maxRecDepth 100000 in
set_option maxHeartbeats 6400000 in
theorem ppointsF_yes (a b : Nat) (A : Option Addr) (n c B kf : Nat) (q1 q2 q3 q4 : Value) (hcf : ∀ (args : Array Value) (W : World), (callFunc kf args).run Try.prog W = .ok (.enter kf args) W) (w : World) (h1 : 1 ≤ a) (h2 : a ≤ 1024) (h3 : 1 ≤ b) (h4 : b ≤ 1024) (hn : n = a * b)
    (hb : Blk w B 24 #[.int .i64 a, .int .i64 b, .slice A n c]) :
    SqF Try.prog 37 #[.pointer (some ⟨B, 0, none⟩)] kf #[q1, q2, q3, q4] (fun k => k = B) (a * b) (PtEl a) w := by
  intro J Jx W hW hJ hY h0
  have hok : okB a b n = true := by rw [hn]; exact okB_mk h1 h2 h3 h4
  have Hok := Lib.hid hok
  have ha := area_bd (W := a) (H := b) (by omega) (by omega) (by omega) (by omega)
  have hN : ((a * b : Nat) : Int) = (a : Int) * (b : Int) := Int.natCast_mul a b
  have hnn : n ≤ 1048576 := by omega
  have HN := Lib.hid hn
  have hbW := hb.below hW hb.lt
  have HbW := Lib.hid hbW
  have HY := Lib.hid hY
  have HJ := Lib.hid hJ
  have H0 := Lib.hid h0
  clear hn hN ha hok hb hW hY h0 hJ
  obtain ⟨⟨c0, c1, c2⟩, _⟩ := hbW.three
  clear hbW
  show Calls Try.prog _ #[.func (.func kf) #[] #[q1, q2, q3, q4], .pointer (some ⟨B, 0, none⟩)] W _
  go_enter Try.func37, Try.ntmps37
  go_wp2_with fail
  try go_step3
  go_wp2_with fail
  refine (pright_c a b A n c _ (by omega)).mono ?_
  rintro e w1 ⟨rfl, hb1⟩
  rw [Hok.out]
  have hWW := Lib.hid hb1
  have hw1 := hb1.size
  have b1 := HbW.out.below hb1 HbW.out.lt
  obtain ⟨⟨d0, d1, d2⟩, _⟩ := b1.three
  have J0 := Lib.hid (HJ.out 0 _ _ H0.out hb1)
  clear c0 c1 c2 hb1 b1
  go_wp2_with fail
  go_step3
  go_wp2_with fail
  go_loopw [10] (fun v wr => ∃ y : Nat, y ≤ b ∧ v = .int .i64 y ∧ J (y * a) wr ∧ KeepB (fun k => k = B) W wr ∧ W.heap.size ≤ wr.heap.size) (fun v _ => b - (intOf v).toNat)
  case atStart => exact ⟨0, Nat.zero_le _, rfl, by rw [Nat.zero_mul]; exact J0.out, KeepB.of_below hWW.out (fun k hk => hk ▸ HbW.out.lt), hw1⟩
  case round =>
    obtain ⟨y, hy, rfl, hj, hb, hs⟩ := hrel
    have HJ1 := Lib.hid hj
    have HB := Lib.hid hb
    have e0 : wr.cell? ⟨B, 0, none⟩ = some (.int .i64 a) := (hb.cell rfl).trans (HbW.out.cell 0)
    clear hj hb d0 d1 d2 J0 hWW hw1
    obtain ⟨wo, ewo⟩ : ∃ wo, wo = wr := ⟨_, rfl⟩
    subst ewo
    by_cases hlt : y < b
    · go_wp2_with fail
      go_loopw [15] (fun v wr => ∃ x : Nat, x ≤ a ∧ v = .int .i64 x ∧ J (y * a + x) wr ∧ KeepB (fun k => k = B) W wr ∧ W.heap.size ≤ wr.heap.size) (fun v _ => a - (intOf v).toNat)
      case atStart => exact ⟨0, Nat.zero_le _, rfl, HJ1.out, HB.out, hs⟩
      case round =>
        obtain ⟨x, hx, rfl, hj2, hb2, hs2⟩ := hrel
        have HJ2 := Lib.hid hj2
        have HB2 := Lib.hid hb2
        clear hj2 hb2 e0
        by_cases hxl : x < a
        · have hk : y * a + x < a * b := by
            have : (y + 1) * a ≤ b * a := Nat.mul_le_mul_right a (by omega)
            rw [Nat.mul_comm b a, Nat.add_mul] at this
            omega
          have hel : PtEl a (y * a + x) #[.int .i64 x, .int .i64 y] wr := by
            unfold PtEl
            rw [show (y * a + x) % a = x by rw [Nat.add_comm, Nat.add_mul_mod_self_right, Nat.mod_eq_of_lt hxl], show (y * a + x) / a = y by rw [Nat.add_comm, Nat.add_mul_div_right _ _ (by omega), Nat.div_eq_of_lt hxl, Nat.zero_add]]
          have HR := Lib.hid (HY.out _ _ wr hk HJ2.out HB2.out hs2 hel)
          clear hk hel
          go_wp2_with fail
          refine HR.out.mono ?_
          clear HR
          rintro e W3 (⟨rfl, hJ3, hk3⟩ | ⟨rfl, hJx3⟩)
          · have HJ3 := Lib.hid hJ3
            have HK3 := Lib.hid hk3
            clear hJ3 hk3
            go_wp2_with fail
            go_roundw
            case rel => exact ⟨x + 1, by omega, by go_num, HJ3.out, HB2.out.trans HK3.out, Nat.le_trans hs2 HK3.out.size⟩
            case measure => simp [intOf]; omega
          · have HX3 := Lib.hid hJx3
            clear hJx3
            go_wp2_with fail
            rw [Exit.noGoto_normal]
            go_end0
            exact ⟨⟨_, rfl⟩, .inr HX3.out⟩
        · obtain rfl : x = a := by omega
          go_wp2_with fail
          go_roundw
          case rel => exact ⟨y + 1, by omega, by go_num, by rw [Nat.add_mul, Nat.one_mul]; exact HJ2.out, HB2.out, hs2⟩
          case measure => simp [intOf]; omega
    · obtain rfl : y = b := by omega
      go_wp2_with fail
      rw [Exit.noGoto_normal]
      go_end0
      exact ⟨⟨_, rfl⟩, .inl (by rw [Nat.mul_comm]; exact HJ1.out)⟩

theorem ppointsF_no (W H : Int) (A : Option Addr) (n c B kf : Nat) (q1 q2 q3 q4 : Value) (hcf : ∀ (args : Array Value) (W : World), (callFunc kf args).run Try.prog W = .ok (.enter kf args) W) (El : Nat → Array Value → World → Prop) (w : World) (hn : n ≤ 9223372036854775807) (hok : okB W H n = false)
    (hb : Blk w B 24 #[.int .i64 W, .int .i64 H, .slice A n c]) :
    SqF Try.prog 37 #[.pointer (some ⟨B, 0, none⟩)] kf #[q1, q2, q3, q4] (fun k => k = B) 0 El w := by
  intro J Jx W1 hW hJ hY h0
  have Hok := Lib.hid hok
  have hbW := hb.below hW hb.lt
  have HJ := Lib.hid hJ
  have H0 := Lib.hid h0
  clear hok hb hW hY h0 hJ
  obtain ⟨⟨c0, c1, c2⟩, _⟩ := hbW.three
  clear hbW
  show Calls Try.prog _ #[.func (.func kf) #[] #[q1, q2, q3, q4], .pointer (some ⟨B, 0, none⟩)] W1 _
  go_enter Try.func37, Try.ntmps37
  go_wp2_with fail
  go_step3
  go_wp2_with fail
  refine (pright_c W H A n c _ (by omega)).mono ?_
  rintro e w1 ⟨rfl, hb1⟩
  rw [Hok.out]
  have J0 := Lib.hid (HJ.out 0 _ _ H0.out hb1)
  clear hb1
  go_wp2_with fail
  rw [Exit.noGoto_ret]
  refine bodyPost_ret (results_none rfl _ _ _) rfl ?_
  exact ⟨⟨_, rfl⟩, .inl J0.out⟩


end Go.Proofs.Ytjcdjmgkfhnmgaa
