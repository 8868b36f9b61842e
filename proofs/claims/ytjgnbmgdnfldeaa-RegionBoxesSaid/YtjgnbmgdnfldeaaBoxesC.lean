/- For every two arrays of four numbers, RegionBoxes returns true and leaves its arguments as they were. No condition. -/
import Derived.Test.YtjgnbmgdnfldeaaBoxes
import Derived.Test.YtjgnbmgdnfldeaaLaw
namespace Go.Proofs.Ytjgnbmgdnfldeaa
open Go.ChangeShapes Go.WideShapes Go.ChangeAt Go.RowKit

set_option maxRecDepth 100000 in
theorem arrI_of4 {H : Type} {enc : TypeId × Value → H} {W : World} {base : Nat} {v : Value} {d : DataW H} {p : List MemPlace} (hk : Value.okWide Try.prog W .any base 40 v) (h : DataW.Trod enc Try.prog W 0 (fun _ => true) true 40 v d p) :
    ∃ f : Nat → Int, v = .agg (arrI 4 f) := by
  have hu := Try.underlying40
  have hc : Try.prog.cellsOf 40 = 4 := by kernel_rfl
  simp only [Value.okWide, hu] at hk
  obtain ⟨xs, rfl, hsz, _⟩ := hk
  rw [hc] at hsz
  clear hu hc
  obtain ⟨fuel, hf⟩ := h
  match xs, hsz with
  | ⟨[c0, c1, c2, c3]⟩, _ =>
    obtain ⟨y0, y1, y2, y3, n, _, h0, h1, h2, h3⟩ := trod_array4 Try.underlying40 (by kernel_rfl) hf
    obtain ⟨z0, rfl⟩ := trod_int_cell Try.underlying3 h0
    obtain ⟨z1, rfl⟩ := trod_int_cell Try.underlying3 h1
    obtain ⟨z2, rfl⟩ := trod_int_cell Try.underlying3 h2
    obtain ⟨z3, rfl⟩ := trod_int_cell Try.underlying3 h3
    exact ⟨fun k => if k = 0 then z0 else if k = 1 then z1 else if k = 2 then z2 else z3, by rw [arrI_lit4]; rfl⟩

set_option maxRecDepth 100000 in
theorem boxes_lifted (os : Os) (started : os.Started) (H : Type) (enc : TypeId × Value → H) :
    ReturnsInHanded {} Try.checked os 5 .any (Rows.regionBoxesSpec.pre6 enc Try.prog Try.f5 Rows.regionBoxesRow.domain false) (Rows.regionBoxesSpec.post enc Try.prog Try.f5 false true false false) := by
  refine returnsInHanded_of_change_sized (C := Try.checked) Try.own started (by kernel_rfl) Try.func5
    (ChangeSpec.witness6 (enc := enc) (C := Try.checked) false ⟨#[], #[.agg #[.int .i64 0, .int .i64 0, .int .i64 0, .int .i64 0], .agg #[.int .i64 0, .int .i64 0, .int .i64 0, .int .i64 0]], []⟩ 8 (by kernel_rfl) (by kernel_rfl) (by kernel_rfl) (by kernel_rfl)) ?_
  intro W base args ds gs before hval0 hW _ _ _
  have hval : ∀ (j : Nat) t v, Try.f5.params[j]? = some t → args[j]? = some v → Value.okWide Try.prog W .any base t v := hval0
  have hW' := hW
  obtain ⟨p, q, hA0, hV, rfl, _, _⟩ := hW
  have hA : DataW.TrodAll enc Try.prog W 0 (fun _ => true) true Try.f5.params.toList args.toList ds p := hA0
  rw [Try.params5] at hA hval
  obtain ⟨v0, v1, d0, d1, p0, p1, rfl, rfl, rfl, h0, h1⟩ := trodAll_two hA
  obtain ⟨rfl, rfl⟩ := trodVars_none hV
  obtain ⟨f, rfl⟩ := arrI_of4 (hval 0 _ v0 rfl rfl) h0
  obtain ⟨g, rfl⟩ := arrI_of4 (hval 1 _ v1 rfl rfl) h1
  refine (boxes_calls W f g).mono fun e W' ⟨he, hb⟩ => ?_
  subst he
  exact ⟨_, rfl, law_post Try.laidOut hW' hb rfl rfl Try.underlying4 rfl (by
    intro t ht
    simp only [Try.params5, List.mem_cons, List.not_mem_nil, or_false] at ht
    rcases ht with rfl | rfl <;> exact ⟨by kernel_rfl, of_decide_eq_true (by kernel_rfl)⟩)⟩

theorem boxes_holds : Rows.RegionBoxesSaid :=
  OpenClaim.holds_of_wide 5 Try.f5 rfl rfl rfl rfl rfl rfl rfl ⟨rfl, rfl, rfl, rfl, rfl⟩ rfl rfl rfl rfl rfl (by kernel_rfl) Try.func5 (by kernel_rfl)
    (of_decide_eq_true (by kernel_rfl)) (by unfold Func.isWrapper; first | (rw [if_pos (by decide +kernel)]; kernel_rfl) | (rw [if_neg (by decide +kernel)]; exact ⟨rfl, rfl⟩))
    (fun os started H enc _ => boxes_lifted os started H enc)
end Go.Proofs.Ytjgnbmgdnfldeaa
