/- Masks of what may not be; masks of anything. -/
import Derived.Test.YtneddfiohekhiaaRMsk
-- uses arrU
-- lit6
namespace Go.Proofs.Ytneddfiohekhiaa
open Go.RowKit

/-- a mask and a number are returned -/
def MaskEnd (m : Msk) (er : Int) (w : World) (e : Ending) (w' : World) : Prop :=
  ∃ ma n, e = .returned (.tuple #[.agg #[.int .i64 m.W, .int .i64 m.H, .slice ma n n], .int .i64 er]) ∧ Below w.heap.size w w' ∧ Fresh w w' (MaskF (.agg #[.int .i64 m.W, .int .i64 m.H, .slice ma n n]) m)
theorem nilMask_at (w : World) : MaskAt w (.agg #[.int .i64 0, .int .i64 0, .slice none 0 0]) ⟨0, 0, []⟩ :=
  ⟨_, rfl, none, 0, rfl, Nat.le_refl _, by unfold maxLen; omega, fun i hi => by simp at hi⟩
theorem nilMask_end {w w' : World} {M : List Res} (hL : Holds w w' M []) : MaskEnd ⟨0, 0, []⟩ 1 w (.returned (.tuple #[.agg #[.int .i64 0, .int .i64 0, .slice none 0 0], .int .i64 1])) w' :=
  ⟨none, 0, rfl, hL.below, (hL.triv (χ := MaskF (.agg #[.int .i64 0, .int .i64 0, .slice none 0 0]) ⟨0, 0, []⟩) fun w => nilMask_at w).fresh⟩
theorem side_get {n : Int} (h : isSide n = true) : ∃ N : Nat, n = (N : Int) ∧ 1 ≤ N ∧ N ≤ 64 := by
  simp [isSide] at h
  exact ⟨n.toNat, by omega, by omega, by omega⟩
end Go.Proofs.Ytneddfiohekhiaa
