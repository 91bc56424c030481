/- The walk of LiftParts: a case. -/
import Derived.Test.YtceecaohfnamnaaLiftWP0
namespace Go.Proofs.Ytceecaohfnamnaa
open Go.RowKit
set_option linter.unusedVariables false
set_option linter.unusedSimpArgs false

set_option maxRecDepth 100000 in
set_option maxHeartbeats 6400000 in
theorem parts_long (A B : Option Addr) (c d : Nat) (xs ys : List Int) (W : World) (hR : ReadsI W A xs) (hY : ReadsI W B ys) (hmx : xs.length ≤ 9223372036854775807) (hmy : ys.length ≤ 9223372036854775807) (h : 300 < xs.length ∨ 300 < ys.length) :
    Calls Try.prog 4 #[.slice A xs.length c, .slice B ys.length d] W fun e W' => e = .returned (.bool true) ∧ Below W.heap.size W W' := by
  have HR0 := Lib.hid hR
  have HY0 := Lib.hid hY
  clear hR hY
  rcases h with h | h
  all_goals (
    go_enter Try.func4, Try.ntmps4
    go_wp2_with fail
    refine (first_c _).mono ?_
    rintro e w1 ⟨rfl, hb⟩
    have HR1 := Lib.hid (HR0.out.kept hb)
    have HY1 := Lib.hid (HY0.out.kept hb)
    have Hb1 := Lib.hid hb
    clear hb HR0 HY0
    go_wp2_with fail
    all_goals (go_ret; first | exact ⟨rfl, Hb1.out⟩ | exact ⟨ret_bool (by simp_all), Hb1.out⟩))
end Go.Proofs.Ytceecaohfnamnaa
