/- Package bow: bent edges. -/
import Derived.Test.YtfnolaoohmecbaaBentZ
-- lit6
namespace Go.Proofs.Ytfnolaoohmecbaa
open Go.RowKit

end Go.Proofs.Ytfnolaoohmecbaa
