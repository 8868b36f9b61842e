/- ListMoved returns true and leaves its arguments as they were, for every a mark, a small number, a small number, a small number, a small number. No condition. -/
import Derived.Test.YtmnoeoecjfhhbaaGreatLMv
import Derived.Test.YtmnoeoecjfhhbaaGreatArgZ
namespace Go.Proofs.YtmnoeoecjfhhbaaGreat
open Go.ChangeShapes Go.WideShapes Go.ChangeAt Go.RowKit

set_option maxRecDepth 100000 in
theorem listMoved_lifted (os : Os) (started : os.Started) (H : Type) (enc : TypeId × Value → H) :
    ReturnsInHanded {} Tryz.checked os 10 .any (Rows.listMovedSpec.pre6 enc Tryz.prog Tryz.f10 Rows.listMovedRow.domain false) (Rows.listMovedSpec.post enc Tryz.prog Tryz.f10 false true false false) := by
  refine returnsInHanded_of_change_sized (C := Tryz.checked) Tryz.own started (by kernel_rfl) Tryz.func10
    (ChangeSpec.witness6 (enc := enc) (C := Tryz.checked) false ⟨#[], #[.agg #[.int .i64 0, .slice none 0 0, .int .i64 0, .int .i64 0, .int .i64 0, .int .i64 0, .int .i64 0, .int .i64 0, .int .i64 0, .string ByteArray.empty, .int .i64 0, .int .i64 0, .int .i64 0, .int .i64 0, .int .i64 0, .int .i64 0, .int .u8 0, .int .u8 0, .int .u8 0, .int .u8 0, .slice none 0 0], .int .i8 0, .int .i8 0, .int .u8 0, .int .u8 0], []⟩ 8 (by kernel_rfl) (by kernel_rfl) (by kernel_rfl) (by kernel_rfl)) ?_
  intro W base args ds gs before hval0 hW _ _ _
  have hval : ∀ (j : Nat) t v, Tryz.f10.params[j]? = some t → args[j]? = some v → Value.okWide Tryz.prog W .any base t v := hval0
  have hW' := hW
  obtain ⟨p, q, hA0, hV, rfl, _, _⟩ := hW
  have hA : DataW.TrodAll enc Tryz.prog W 0 (fun _ => true) true Tryz.f10.params.toList args.toList ds p := hA0
  rw [Tryz.params10] at hA hval
  obtain ⟨v0, v1, v2, v3, v4, d0, d1, d2, d3, d4, p0, p1, p2, p3, p4, rfl, rfl, rfl, h0, h1, h2, h3, h4⟩ := trodAll_five hA
  obtain ⟨rfl, rfl⟩ := trodVars_none hV
  obtain ⟨i0, hi0⟩ := itm_of (hval 0 _ v0 rfl rfl) h0
  obtain ⟨z1, rfl, lo1, up1⟩ := num_of Tryz.underlying73 (hval 1 _ v1 rfl rfl) h1
  obtain ⟨z2, rfl, lo2, up2⟩ := num_of Tryz.underlying73 (hval 2 _ v2 rfl rfl) h2
  obtain ⟨z3, rfl, lo3, up3⟩ := num_of Tryz.underlying5 (hval 3 _ v3 rfl rfl) h3
  obtain ⟨z4, rfl, lo4, up4⟩ := num_of Tryz.underlying5 (hval 4 _ v4 rfl rfl) h4
  refine (listMoved_calls W _ i0 hi0 z1 z2 z3 z4 ⟨lo1, up1⟩ ⟨lo2, up2⟩ ⟨lo3, up3⟩ ⟨lo4, up4⟩).mono fun e W' ⟨he, hb⟩ => ?_
  subst he
  exact ⟨_, rfl, law_post Tryz.laidOut hW' hb rfl rfl Tryz.underlying4 rfl (by
    intro t ht
    simp only [Tryz.params10, List.mem_cons, List.not_mem_nil, or_false] at ht
    rcases ht with rfl | rfl | rfl | rfl | rfl <;> exact ⟨by kernel_rfl, of_decide_eq_true (by kernel_rfl)⟩)⟩

theorem listMoved_holds : Rows.ListMovedSaid :=
  OpenClaim.holds_of_wide 10 Tryz.f10 rfl rfl rfl rfl rfl rfl rfl ⟨rfl, rfl, rfl, rfl, rfl⟩ rfl rfl rfl rfl rfl (by kernel_rfl) Tryz.func10 (by kernel_rfl)
    (of_decide_eq_true (by kernel_rfl)) (by unfold Func.isWrapper; first | (rw [if_pos (by decide +kernel)]; kernel_rfl) | (rw [if_neg (by decide +kernel)]; exact ⟨rfl, rfl⟩))
    (fun os started H enc _ => listMoved_lifted os started H enc)
end Go.Proofs.YtmnoeoecjfhhbaaGreat
