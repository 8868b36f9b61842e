/- Plain laws: an upright box as a path. -/
import Derived.Test.YtjgnbmgdnfldeaaBak
import Derived.Test.YtjgnbmgdnfldeaaShM
import Derived.Test.YtjgnbmgdnfldeaaMkdM
import Derived.Test.YtjgnbmgdnfldeaaBowM
namespace Go.Proofs.Ytjgnbmgdnfldeaa
/-! a path turned round may be -/
def NE (c : Ct) : Prop := c.edges ≠ [] ∨ c.shut = true
/-! it winds the other way -/
end Go.Proofs.Ytjgnbmgdnfldeaa
