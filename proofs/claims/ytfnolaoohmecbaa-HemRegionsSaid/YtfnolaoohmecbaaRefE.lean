/- The document's: may an edge be? -/
import Derived.Test.YtfnolaoohmecbaaSgnM
-- lit6
namespace Go.Proofs.Ytfnolaoohmecbaa
open Go.RowKit

theorem refIsCoord_calls (v : Int) (w : World) : Calls Try.prog 42 #[.int .i64 v] w fun e w' => e = .returned (.bool (near1 v)) ∧ w = w' := by
  rcases (by omega : v < -8191 ∨ 8191 < v ∨ (-8191 ≤ v ∧ v ≤ 8191)) with h | h | ⟨h, h2⟩
  all_goals
    go_enter Try.func42, Try.ntmps42
    go_wp2
    go_ret
    exact ⟨ret_bool (by simp [near1]; omega), rfl⟩
end Go.Proofs.Ytfnolaoohmecbaa
