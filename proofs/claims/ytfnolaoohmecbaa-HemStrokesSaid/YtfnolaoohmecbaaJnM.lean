/- Plain laws: two paths joined. -/
import Derived.Test.YtfnolaoohmecbaaMkdM
import Derived.Test.YtfnolaoohmecbaaShM
namespace Go.Proofs.Ytfnolaoohmecbaa
open Go.RowKit

end Go.Proofs.Ytfnolaoohmecbaa
