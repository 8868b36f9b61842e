/- What arrays of numbers and slices of edges that are handed in read as. -/
import Derived.Test.YtmnoeoecjfhhbaaGreatArmM
import Derived.ChangeSlices
import Derived.Carry
import Derived.Deep.Slices
import Derived.OpenShut
import Derived.ChangeArms
namespace Go.Proofs.YtmnoeoecjfhhbaaGreat
open Go.ChangeShapes Go.WideShapes Go.ChangeAt Go.RowKit
section
variable {H : Type} {enc : TypeId × Value → H} {P : Program} {W : World} {base : Nat} {spare : Nat → Bool} {held : Bool}
end
open Go.ChangeShapes Go.WideShapes Go.ChangeAt Go.RowKit Go.Deep
section
variable {H : Type} {enc : TypeId × Value → H} {W : World} {fuel : Nat} {v : Value} {x : DataW H × List MemPlace}
end
end Go.Proofs.YtmnoeoecjfhhbaaGreat
