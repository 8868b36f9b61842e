/- Plain laws: two paths joined. -/
import Derived.Test.YtmnoeoecjfhhbaaGreatMkdM
import Derived.Test.YtmnoeoecjfhhbaaGreatShM
namespace Go.Proofs.YtmnoeoecjfhhbaaGreat
open Go.RowKit

end Go.Proofs.YtmnoeoecjfhhbaaGreat
