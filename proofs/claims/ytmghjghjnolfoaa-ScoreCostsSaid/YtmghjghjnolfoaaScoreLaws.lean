/- The walks of the score laws themselves. -/
import Derived.Test.YtmghjghjnolfoaaScoreActs
namespace Go.Proofs.Ytmghjghjnolfoaa
open Go.RowKit Go.Deep
attribute [local go_sem ↓] Go.wp_at_zero Go.wp_at_succ

set_option maxHeartbeats 400000 in
theorem scoreCosts_walk (e : Int) (_we : (Lit.int .i64 e).wf = true) (w : World) :
    Calls Try.prog 3 #[.int .i64 e] w fun r w' => r = .returned (.bool true) ∧ Below w.heap.size w w' := by
  go_enter Try.func3, Try.ntmps3
  go_wp2_with (first
    | (go_at_call 9; refine (alive_any _).mono ?_; rintro e w1 ⟨rfl, hb⟩)
    | (go_at_call 10; refine (cost_any _ _).mono ?_; rintro e w' ⟨rfl, rfl⟩)
    | (go_at_call 11; refine (refcost_any _ _).mono ?_; rintro e w' ⟨rfl, rfl⟩))
  go_ret
  exact ⟨rfl, hb⟩
end Go.Proofs.Ytmghjghjnolfoaa
