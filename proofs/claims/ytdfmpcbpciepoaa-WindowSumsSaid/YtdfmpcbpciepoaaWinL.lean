/- What Line, Span, Count and Right of package window answer, and the reference's Weight and Right. -/
import Derived.Test.YtdfmpcbpciepoaaWin
namespace Go.Proofs.Ytdfmpcbpciepoaa
open Go.RowKit
set_option linter.unusedVariables false
set_option linter.unusedSimpArgs false

def lineF (l s : Int) (f la : Bool) : List Int := if wayB l s = true then (List.range l.toNat).map (fun j : Nat => wtF l s j f la) else []

set_option maxHeartbeats 1600000 in
theorem line_c (l s : Int) (f la : Bool) (w : World) :
    Calls Try.prog 8 #[.int .i64 l, .int .i64 s, .bool f, .bool la] w fun e w' => ∃ v, e = .returned v ∧ OwnI w' w.heap.size v (lineF l s f la) ∧ Below w.heap.size w w' := by
  by_cases hw : wayB l s = true
  · have ⟨h1, h2, h3, h4, h5⟩ := wayB_t hw
    obtain ⟨n, rfl⟩ := Int.eq_ofNat_of_zero_le (a := l) (by omega)
    have e : lineF n s f la = fillL n (fun j : Nat => wtF n s j f la) n := by rw [fillL_full]; exact if_pos hw
    rw [e]
    clear e
    have hmk := make_int 24 Try.underlying24 n (by omega)
    rw [← fillL_zero n (fun j : Nat => wtF n s j f la)] at hmk
    go_enter Try.func8, Try.ntmps8
    go_wp2_with (go_at_call 18; refine (way_c _ _ _).mono ?_; rintro e w' ⟨rfl, rfl⟩)
    clear hmk
    go_loopw [19] (fun v wr => ∃ k : Nat, k ≤ n ∧ v = .int .i64 k ∧ RowI wr w.heap.size (fillL n (fun j : Nat => wtF n s j f la) k) ∧ Below w.heap.size w wr) (fun v _ => n - (intOf v).toNat)
    case atStart => exact ⟨0, Nat.zero_le _, rfl, RowI.new _ _, (Below.refl _ _).alloc (Nat.le_refl _) _⟩
    case round =>
      obtain ⟨k, hk, rfl, hr, hb⟩ := hrel
      have hl := fillL_length n (fun j : Nat => wtF n s j f la) k
      by_cases hlt : k < n
      · have hc := hr.cell (i := k) (by omega)
        have hf := hr.frozen k
        clear hl
        go_wp2_with (go_at_call 11; refine (weight_c _ _ _ _ _ _).mono ?_; rintro e w' ⟨rfl, rfl⟩)
        go_roundw
        case rel => exact ⟨k + 1, by omega, by go_num, by rw [← fillL_set _ _ _ hlt]; exact hr.set_ _ _, hb.setCell (Nat.le_refl _) _⟩
        case measure => simp [intOf]; omega
      · obtain rfl : k = n := by omega
        have ho := hr.own (B := w.heap.size) (Nat.le_refl _) (by rw [hl]; unfold maxLen; omega)
        rw [hl] at ho
        clear hl
        go_wp2
        go_ret
        exact ⟨_, rfl, ho, hb⟩
  · have hw : wayB l s = false := by simpa using hw
    have e : lineF l s f la = [] := if_neg (by rw [hw]; decide)
    rw [e]
    clear e
    go_enter Try.func8, Try.ntmps8
    go_wp2_with (go_at_call 18; refine (way_c _ _ _).mono ?_; rintro e w' ⟨rfl, rfl⟩)
    go_ret
    exact ⟨_, rfl, OwnI.nil _ _, Below.refl _ _⟩

end Go.Proofs.Ytdfmpcbpciepoaa
