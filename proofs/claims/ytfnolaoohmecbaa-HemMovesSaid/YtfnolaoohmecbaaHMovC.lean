/- HemMoves returns true and leaves its arguments as they were, for every a list of numbers, a number, a number, a number, a number, a number. No condition. -/
import Derived.Test.YtfnolaoohmecbaaHMov
import Derived.Test.YtfnolaoohmecbaaArgM
namespace Go.Proofs.Ytfnolaoohmecbaa
open Go.ChangeShapes Go.WideShapes Go.ChangeAt Go.RowKit

set_option maxRecDepth 100000 in
theorem hemMoves_lifted (os : Os) (started : os.Started) (H : Type) (enc : TypeId × Value → H) :
    ReturnsInHanded {} Try.checked os 9 .any (Rows.hemMovesSpec.pre6 enc Try.prog Try.f9 Rows.hemMovesRow.domain false) (Rows.hemMovesSpec.post enc Try.prog Try.f9 false true false false) := by
  refine returnsInHanded_of_change_sized (C := Try.checked) Try.own started (by kernel_rfl) Try.func9
    (ChangeSpec.witness6 (enc := enc) (C := Try.checked) false ⟨#[], #[.slice none 0 0, .int .i64 0, .int .i64 0, .int .i64 0, .int .i64 0, .int .i64 0], []⟩ 8 (by kernel_rfl) (by kernel_rfl) (by kernel_rfl) (by kernel_rfl)) ?_
  intro W base args ds gs before hval0 hW _ _ _
  have hval : ∀ (j : Nat) t v, Try.f9.params[j]? = some t → args[j]? = some v → Value.okWide Try.prog W .any base t v := hval0
  have hW' := hW
  obtain ⟨p, q, hA0, hV, rfl, _, _⟩ := hW
  have hA : DataW.TrodAll enc Try.prog W 0 (fun _ => true) true Try.f9.params.toList args.toList ds p := hA0
  rw [Try.params9] at hA hval
  obtain ⟨v0, v1, v2, v3, v4, v5, d0, d1, d2, d3, d4, d5, p0, p1, p2, p3, p4, p5, rfl, rfl, rfl, h0, h1, h2, h3, h4, h5⟩ := trodAll_six hA
  obtain ⟨rfl, rfl⟩ := trodVars_none hV
  obtain ⟨l0, hn0⟩ := nums_of Try.underlying58 Try.underlying3 (by kernel_rfl) (hval 0 _ v0 rfl rfl) h0
  obtain ⟨z1, rfl⟩ := okWide_int Try.underlying3 (hval 1 _ v1 rfl rfl)
  obtain ⟨z2, rfl⟩ := okWide_int Try.underlying3 (hval 2 _ v2 rfl rfl)
  obtain ⟨z3, rfl⟩ := okWide_int Try.underlying3 (hval 3 _ v3 rfl rfl)
  obtain ⟨z4, rfl⟩ := okWide_int Try.underlying3 (hval 4 _ v4 rfl rfl)
  obtain ⟨z5, rfl⟩ := okWide_int Try.underlying3 (hval 5 _ v5 rfl rfl)
  refine (moves_calls W _ l0 hn0 z1 z2 z3 z4 z5).mono fun e W' ⟨he, hb⟩ => ?_
  subst he
  exact ⟨_, rfl, law_post Try.laidOut hW' hb rfl rfl Try.underlying4 rfl (by
    intro t ht
    simp only [Try.params9, List.mem_cons, List.not_mem_nil, or_false] at ht
    rcases ht with rfl | rfl | rfl | rfl | rfl | rfl <;> exact ⟨by kernel_rfl, of_decide_eq_true (by kernel_rfl)⟩)⟩

theorem hemMoves_holds : Rows.HemMovesSaid :=
  OpenClaim.holds_of_wide 9 Try.f9 rfl rfl rfl rfl rfl rfl rfl ⟨rfl, rfl, rfl, rfl, rfl⟩ rfl rfl rfl rfl rfl (by kernel_rfl) Try.func9 (by kernel_rfl)
    (of_decide_eq_true (by kernel_rfl)) (by unfold Func.isWrapper; first | (rw [if_pos (by decide +kernel)]; kernel_rfl) | (rw [if_neg (by decide +kernel)]; exact ⟨rfl, rfl⟩))
    (fun os started H enc _ => hemMoves_lifted os started H enc)
end Go.Proofs.Ytfnolaoohmecbaa
