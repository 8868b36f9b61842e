/- Plain laws: an upright box as a path. -/
import Derived.Test.YtmnoeoecjfhhbaaGreatShM
namespace Go.Proofs.YtmnoeoecjfhhbaaGreat
def NE (c:Ct):Prop:=c.edges≠[]∨c.shut=true
theorem may_right:∀ (l:List Sg) (last:Int),maySF last l=true→∀ s∈l,∃ k,rightS s k=true
 | [],_,_,s,hs=>by cases hs
 | a::l,last,h,s,hs=>by
  rw [maySF,Bool.and_eq_true] at h
  rcases List.mem_cons.1 hs with rfl|hs
  ·exact ⟨_,h.1⟩
  ·exact may_right l _ h.2 s hs
end Go.Proofs.YtmnoeoecjfhhbaaGreat
