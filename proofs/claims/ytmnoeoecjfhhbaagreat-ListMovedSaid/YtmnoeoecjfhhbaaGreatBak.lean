/- Package path: Back: the walk. -/
import Derived.Test.YtmnoeoecjfhhbaaGreatMkdM
-- lit6
namespace Go.Proofs.YtmnoeoecjfhhbaaGreat
open Go.RowKit

end Go.Proofs.YtmnoeoecjfhhbaaGreat
