/- Strokes, plain: a single piece's lines are one run; joined, wider, reversed, moved paths. -/
import Derived.Test.YtfnolaoohmecbaaHmV
import Derived.Test.YtfnolaoohmecbaaShM
namespace Go.Proofs.Ytfnolaoohmecbaa
open Go.RowKit

/-! joined paths -/
end Go.Proofs.Ytfnolaoohmecbaa
