/- The document's Count; its Mask by sides as they come. -/
import Derived.Test.YtneddfiohekhiaaRMsk
import Derived.Test.YtneddfiohekhiaaMskM
-- uses arrU
-- lit6
namespace Go.Proofs.Ytneddfiohekhiaa
open Go.RowKit

end Go.Proofs.Ytneddfiohekhiaa
