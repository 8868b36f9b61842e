/- Package path: Back: the walk. -/
import Derived.Test.YtfnolaoohmecbaaMkdM
-- lit6
namespace Go.Proofs.Ytfnolaoohmecbaa
open Go.RowKit

end Go.Proofs.Ytfnolaoohmecbaa
