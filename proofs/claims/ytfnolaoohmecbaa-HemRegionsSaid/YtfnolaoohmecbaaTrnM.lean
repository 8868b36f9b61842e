/- Package wind: In, any edges. -/
import Derived.Test.YtfnolaoohmecbaaBentA
import Derived.Test.YtfnolaoohmecbaaBentB
import Derived.Test.YtfnolaoohmecbaaBentC
import Derived.Test.YtfnolaoohmecbaaSgnM
import Derived.Test.YtfnolaoohmecbaaWndM
namespace Go.Proofs.Ytfnolaoohmecbaa
open Go.RowKit

open Go.RowKit

open Go.RowKit

open Go.RowKit

end Go.Proofs.Ytfnolaoohmecbaa
