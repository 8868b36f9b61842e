/- ListMarks returns true and leaves its arguments as they were, for every a mark, a number, a number, a number. No condition. -/
import Derived.Test.YtmnoeoecjfhhbaaGreatLMk
import Derived.Test.YtmnoeoecjfhhbaaGreatArgZ
namespace Go.Proofs.YtmnoeoecjfhhbaaGreat
open Go.ChangeShapes Go.WideShapes Go.ChangeAt Go.RowKit
set_option maxRecDepth 100000 in
theorem listMarks_lifted (os:Os) (started:os.Started) (H:Type) (enc:TypeId × Value→H) :
  ReturnsInHanded {} Tryz.checked os 3 .any (Rows.listMarksSpec.pre6 enc Tryz.prog Tryz.f3 Rows.listMarksRow.domain false) (Rows.listMarksSpec.post enc Tryz.prog Tryz.f3 false true false false):=by
 refine returnsInHanded_of_change_sized (C:=Tryz.checked) Tryz.own started (by kernel_rfl) Tryz.func3
  (ChangeSpec.witness6 (enc:=enc) (C:=Tryz.checked) false ⟨#[],#[.agg #[.int .i64 0,.slice none 0 0,.int .i64 0,.int .i64 0,.int .i64 0,.int .i64 0,.int .i64 0,.int .i64 0,.int .i64 0,.string ByteArray.empty,.int .i64 0,.int .i64 0,.int .i64 0,.int .i64 0,.int .i64 0,.int .i64 0,.int .u8 0,.int .u8 0,.int .u8 0,.int .u8 0,.slice none 0 0],.int .i64 0,.int .i64 0,.int .i64 0],[]⟩ 8 (by kernel_rfl) (by kernel_rfl) (by kernel_rfl) (by kernel_rfl)) ?_
 intro W base args ds gs before hval0 hW _ _ _
 have hval:∀ (j:Nat) t v,Tryz.f3.params[j]?=some t→args[j]?=some v→Value.okWide Tryz.prog W .any base t v:=hval0
 have hW':=hW
 obtain ⟨p,q,hA0,hV,rfl,_,_⟩:=hW
 have hA:DataW.TrodAll enc Tryz.prog W 0 (fun _=>true) true Tryz.f3.params.toList args.toList ds p:=hA0
 rw [Tryz.params3] at hA hval
 obtain ⟨v0,v1,v2,v3,d0,d1,d2,d3,p0,p1,p2,p3,rfl,rfl,rfl,h0,h1,h2,h3⟩:=trodAll_four hA
 obtain ⟨rfl,rfl⟩:=trodVars_none hV
 obtain ⟨i0,hi0⟩:=itm_of (hval 0 _ v0 rfl rfl) h0
 obtain ⟨z1,rfl⟩:=okWide_int Tryz.underlying3 (hval 1 _ v1 rfl rfl)
 obtain ⟨z2,rfl⟩:=okWide_int Tryz.underlying3 (hval 2 _ v2 rfl rfl)
 obtain ⟨z3,rfl⟩:=okWide_int Tryz.underlying3 (hval 3 _ v3 rfl rfl)
 refine (listMarks_calls W _ i0 hi0 z1 z2 z3).mono fun e W' ⟨he,hb⟩=>?_
 subst he
 exact ⟨_,rfl,law_post Tryz.laidOut hW' hb rfl rfl Tryz.underlying4 rfl (by
  intro t ht
  simp only [Tryz.params3,List.mem_cons,List.not_mem_nil,or_false] at ht
  rcases ht with rfl|rfl|rfl|rfl <;> exact ⟨by kernel_rfl,of_decide_eq_true (by kernel_rfl)⟩)⟩
theorem listMarks_holds:Rows.ListMarksSaid :=
 OpenClaim.holds_of_wide 3 Tryz.f3 rfl rfl rfl rfl rfl rfl rfl ⟨rfl,rfl,rfl,rfl,rfl⟩ rfl rfl rfl rfl rfl (by kernel_rfl) Tryz.func3 (by kernel_rfl)
  (of_decide_eq_true (by kernel_rfl)) (by unfold Func.isWrapper;first|(rw [if_pos (by decide +kernel)];kernel_rfl)|(rw [if_neg (by decide +kernel)];exact ⟨rfl,rfl⟩))
  (fun os started H enc _=>listMarks_lifted os started H enc)
end Go.Proofs.YtmnoeoecjfhhbaaGreat
