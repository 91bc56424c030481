/- Params: the groups of a video's numbers. -/
import Derived.Test.YtgdlleoefncikaaPar1
import Derived.LoopN
import Derived.Deep.RegionHeld3
namespace Go.Proofs.Ytgdlleoefncikaa
open Go.RowKit
set_option linter.unusedVariables false
set_option linter.unusedSimpArgs false

set_option maxRecDepth 100000 in
set_option maxHeartbeats 3200000 in
theorem pgroups_c (b : Nat) (w : World) :
    Calls Try.prog 19 #[.pointer (some ⟨b, 0, none⟩)] w fun e w' => ∃ g1 g2 g3, e = .returned (.agg #[.slice (some ⟨g1, 0, none⟩) 2 2, .slice (some ⟨g2, 0, none⟩) 1 1, .slice (some ⟨g3, 0, none⟩) 1 1]) ∧
      w.heap.size ≤ g1 ∧ w.heap.size ≤ g2 ∧ w.heap.size ≤ g3 ∧
      Blk w' g1 57 #[.pointer (some ⟨b, 0, none⟩), .pointer (some ⟨b, 1, none⟩)] ∧ Blk w' g2 57 #[.pointer (some ⟨b, 2, none⟩)] ∧ Blk w' g3 57 #[.pointer (some ⟨b, 3, none⟩)] ∧ Below w.heap.size w w' := by
  go_enter Try.func19, Try.ntmps19
  go_wp2_with fail
  go_region_held3 (fun w' => True) (trivial) (fail)
  all_goals go_wp2_with fail
  all_goals
    refine bodyPost_ret (results_cell_row rfl _ _ w.heap.size 46 _ (0, 0) _ rfl (four w _ _ _ _).1 Try.underlying46 rfl (by kernel_rfl)) rfl ?_
    obtain ⟨h0, h1, h2, h3, hb⟩ := four w _ _ _ _
    first
      | exact ⟨_, _, _, rfl, by omega, by omega, by omega, h1, h2, h3, hb⟩
      | exact ⟨_, _, _, rfl, by omega, by omega, by omega, h1, h3, h2, hb⟩
      | exact ⟨_, _, _, rfl, by omega, by omega, by omega, h2, h1, h3, hb⟩
      | exact ⟨_, _, _, rfl, by omega, by omega, by omega, h2, h3, h1, hb⟩
      | exact ⟨_, _, _, rfl, by omega, by omega, by omega, h3, h1, h2, hb⟩
      | exact ⟨_, _, _, rfl, by omega, by omega, by omega, h3, h2, h1, hb⟩

end Go.Proofs.Ytgdlleoefncikaa
