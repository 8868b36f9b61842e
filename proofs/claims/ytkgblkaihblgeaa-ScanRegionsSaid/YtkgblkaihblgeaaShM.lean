/- Plain laws: a path moved. -/
import Derived.Test.YtkgblkaihblgeaaCtrM
import Derived.Test.YtkgblkaihblgeaaMkdM
import Derived.Test.YtkgblkaihblgeaaTrnM
namespace Go.Proofs.Ytkgblkaihblgeaa
section
variable (Q : Edg → Prop) (R : Int → Int → Prop)
end
def smallI (v : Int) : Prop := -32 ≤ v ∧ v ≤ 287
def SmallS (s : Sg) : Prop := smallI s.x ∧ smallI s.y ∧ smallI s.cx ∧ smallI s.cy
structure Good (p : List Sg) : Prop where
  small : ∀ s ∈ p, SmallS s
  may : maySF 0 p = true
/-! moved -/
open Go.RowKit

/-! small paths -/
end Go.Proofs.Ytkgblkaihblgeaa
