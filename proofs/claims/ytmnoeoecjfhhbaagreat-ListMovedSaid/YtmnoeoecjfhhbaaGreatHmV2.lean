/- Strokes, plain: a single piece's lines are one run; joined, wider, reversed, moved paths. -/
import Derived.Test.YtmnoeoecjfhhbaaGreatHmV
import Derived.Test.YtmnoeoecjfhhbaaGreatShM
namespace Go.Proofs.YtmnoeoecjfhhbaaGreat
open Go.RowKit

/-! joined paths -/
end Go.Proofs.YtmnoeoecjfhhbaaGreat
