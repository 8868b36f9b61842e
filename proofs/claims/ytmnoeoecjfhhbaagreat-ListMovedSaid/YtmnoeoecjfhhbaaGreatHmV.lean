/- Strokes, plain: one run, joined paths, wider ones. -/
import Derived.Test.YtmnoeoecjfhhbaaGreatHmX
import Derived.Test.YtmnoeoecjfhhbaaGreatJnM
import Derived.Test.YtmnoeoecjfhhbaaGreatSpB
namespace Go.Proofs.YtmnoeoecjfhhbaaGreat
open Go.RowKit

/-! runs of a convex set -/
/-! what a piece with its ends covers on a line is convex -/
def Cvx (P : Int → Prop) : Prop := ∀ a b c, a ≤ b → b ≤ c → P a → P c → P b
theorem Cvx.and {P Q : Int → Prop} (h : Cvx P) (k : Cvx Q) : Cvx fun x => P x ∧ Q x := fun a b c h1 h2 ha hc => ⟨h a b c h1 h2 ha.1 hc.1, k a b c h1 h2 ha.2 hc.2⟩
end Go.Proofs.YtmnoeoecjfhhbaaGreat
