/- ListPaints returns true and leaves its arguments as they were, for every a list of marks, a number, a number, a number, a number, a truth value. No condition. -/
import Derived.Test.YtmnoeoecjfhhbaaGreatLPn
import Derived.Test.YtmnoeoecjfhhbaaGreatArgZ
namespace Go.Proofs.YtmnoeoecjfhhbaaGreat
open Go.ChangeShapes Go.WideShapes Go.ChangeAt Go.RowKit
set_option maxRecDepth 100000 in
theorem listPaints_lifted (os:Os) (started:os.Started) (H:Type) (enc:TypeId × Value→H) :
  ReturnsInHanded {} Tryz.checked os 5 .any (Rows.listPaintsSpec.pre6 enc Tryz.prog Tryz.f5 Rows.listPaintsRow.domain false) (Rows.listPaintsSpec.post enc Tryz.prog Tryz.f5 false true false false):=by
 refine returnsInHanded_of_change_sized (C:=Tryz.checked) Tryz.own started (by kernel_rfl) Tryz.func5
  (ChangeSpec.witness6 (enc:=enc) (C:=Tryz.checked) false ⟨#[],#[.slice none 0 0,.int .i64 0,.int .i64 0,.int .i64 0,.int .i64 0,.bool false],[]⟩ 8 (by kernel_rfl) (by kernel_rfl) (by kernel_rfl) (by kernel_rfl)) ?_
 intro W base args ds gs before hval0 hW _ _ _
 have hval:∀ (j:Nat) t v,Tryz.f5.params[j]?=some t→args[j]?=some v→Value.okWide Tryz.prog W .any base t v:=hval0
 have hW':=hW
 obtain ⟨p,q,hA0,hV,rfl,_,_⟩:=hW
 have hA:DataW.TrodAll enc Tryz.prog W 0 (fun _=>true) true Tryz.f5.params.toList args.toList ds p:=hA0
 rw [Tryz.params5] at hA hval
 obtain ⟨v0,v1,v2,v3,v4,v5,d0,d1,d2,d3,d4,d5,p0,p1,p2,p3,p4,p5,rfl,rfl,rfl,h0,h1,h2,h3,h4,h5⟩:=trodAll_six hA
 obtain ⟨rfl,rfl⟩:=trodVars_none hV
 obtain ⟨i0,hi0⟩:=itms_of (hval 0 _ v0 rfl rfl) h0
 obtain ⟨z1,rfl⟩:=okWide_int Tryz.underlying3 (hval 1 _ v1 rfl rfl)
 obtain ⟨z2,rfl⟩:=okWide_int Tryz.underlying3 (hval 2 _ v2 rfl rfl)
 obtain ⟨z3,rfl⟩:=okWide_int Tryz.underlying3 (hval 3 _ v3 rfl rfl)
 obtain ⟨z4,rfl⟩:=okWide_int Tryz.underlying3 (hval 4 _ v4 rfl rfl)
 obtain ⟨z5,rfl⟩:=okWide_bool Tryz.underlying4 (hval 5 _ v5 rfl rfl)
 refine (listPaints_calls W _ i0 hi0 z1 z2 z3 z4 z5).mono fun e W' ⟨he,hb⟩=>?_
 subst he
 exact ⟨_,rfl,law_post Tryz.laidOut hW' hb rfl rfl Tryz.underlying4 rfl (by
  intro t ht
  simp only [Tryz.params5,List.mem_cons,List.not_mem_nil,or_false] at ht
  rcases ht with rfl|rfl|rfl|rfl|rfl|rfl <;> exact ⟨by kernel_rfl,of_decide_eq_true (by kernel_rfl)⟩)⟩
theorem listPaints_holds:Rows.ListPaintsSaid :=
 OpenClaim.holds_of_wide 5 Tryz.f5 rfl rfl rfl rfl rfl rfl rfl ⟨rfl,rfl,rfl,rfl,rfl⟩ rfl rfl rfl rfl rfl (by kernel_rfl) Tryz.func5 (by kernel_rfl)
  (of_decide_eq_true (by kernel_rfl)) (by unfold Func.isWrapper;first|(rw [if_pos (by decide +kernel)];kernel_rfl)|(rw [if_neg (by decide +kernel)];exact ⟨rfl,rfl⟩))
  (fun os started H enc _=>listPaints_lifted os started H enc)
end Go.Proofs.YtmnoeoecjfhhbaaGreat
