/- Strokes, plain: wider ones, reversed paths. -/
import Derived.Test.YtmnoeoecjfhhbaaGreatHmV2
namespace Go.Proofs.YtmnoeoecjfhhbaaGreat
open Go.RowKit

/-! wider -/
end Go.Proofs.YtmnoeoecjfhhbaaGreat
