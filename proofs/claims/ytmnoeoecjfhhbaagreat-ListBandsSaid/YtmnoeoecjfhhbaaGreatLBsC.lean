/- ListBands returns true and leaves its arguments as they were, for every a list of marks, a small number, a small number, a list of small numbers. No condition. -/
import Derived.Test.YtmnoeoecjfhhbaaGreatLBs
import Derived.Test.YtmnoeoecjfhhbaaGreatArgZ
namespace Go.Proofs.YtmnoeoecjfhhbaaGreat
open Go.ChangeShapes Go.WideShapes Go.ChangeAt Go.RowKit

set_option maxRecDepth 100000 in
theorem listBands_lifted (os : Os) (started : os.Started) (H : Type) (enc : TypeId × Value → H) :
    ReturnsInHanded {} Tryz.checked os 6 .any (Rows.listBandsSpec.pre6 enc Tryz.prog Tryz.f6 Rows.listBandsRow.domain false) (Rows.listBandsSpec.post enc Tryz.prog Tryz.f6 false true false false) := by
  refine returnsInHanded_of_change_sized (C := Tryz.checked) Tryz.own started (by kernel_rfl) Tryz.func6
    (ChangeSpec.witness6 (enc := enc) (C := Tryz.checked) false ⟨#[], #[.slice none 0 0, .int .u8 0, .int .u8 0, .slice none 0 0], []⟩ 8 (by kernel_rfl) (by kernel_rfl) (by kernel_rfl) (by kernel_rfl)) ?_
  intro W base args ds gs before hval0 hW _ _ _
  have hval : ∀ (j : Nat) t v, Tryz.f6.params[j]? = some t → args[j]? = some v → Value.okWide Tryz.prog W .any base t v := hval0
  have hW' := hW
  obtain ⟨p, q, hA0, hV, rfl, _, _⟩ := hW
  have hA : DataW.TrodAll enc Tryz.prog W 0 (fun _ => true) true Tryz.f6.params.toList args.toList ds p := hA0
  rw [Tryz.params6] at hA hval
  obtain ⟨v0, v1, v2, v3, d0, d1, d2, d3, p0, p1, p2, p3, rfl, rfl, rfl, h0, h1, h2, h3⟩ := trodAll_four hA
  obtain ⟨rfl, rfl⟩ := trodVars_none hV
  obtain ⟨i0, hi0⟩ := itms_of (hval 0 _ v0 rfl rfl) h0
  obtain ⟨z1, rfl, lo1, up1⟩ := num_of Tryz.underlying5 (hval 1 _ v1 rfl rfl) h1
  obtain ⟨z2, rfl, lo2, up2⟩ := num_of Tryz.underlying5 (hval 2 _ v2 rfl rfl) h2
  obtain ⟨y3, hy3, by3⟩ := bytesG Tryz.underlying51 Tryz.underlying5 (by kernel_rfl) (hval 3 _ v3 rfl rfl) h3
  refine (listBands_calls W _ i0 hi0 z1 z2 ⟨lo1, up1⟩ ⟨lo2, up2⟩ _ y3 hy3 by3).mono fun e W' ⟨he, hb⟩ => ?_
  subst he
  exact ⟨_, rfl, law_post Tryz.laidOut hW' hb rfl rfl Tryz.underlying4 rfl (by
    intro t ht
    simp only [Tryz.params6, List.mem_cons, List.not_mem_nil, or_false] at ht
    rcases ht with rfl | rfl | rfl | rfl <;> exact ⟨by kernel_rfl, of_decide_eq_true (by kernel_rfl)⟩)⟩

theorem listBands_holds : Rows.ListBandsSaid :=
  OpenClaim.holds_of_wide 6 Tryz.f6 rfl rfl rfl rfl rfl rfl rfl ⟨rfl, rfl, rfl, rfl, rfl⟩ rfl rfl rfl rfl rfl (by kernel_rfl) Tryz.func6 (by kernel_rfl)
    (of_decide_eq_true (by kernel_rfl)) (by unfold Func.isWrapper; first | (rw [if_pos (by decide +kernel)]; kernel_rfl) | (rw [if_neg (by decide +kernel)]; exact ⟨rfl, rfl⟩))
    (fun os started H enc _ => listBands_lifted os started H enc)
end Go.Proofs.YtmnoeoecjfhhbaaGreat
