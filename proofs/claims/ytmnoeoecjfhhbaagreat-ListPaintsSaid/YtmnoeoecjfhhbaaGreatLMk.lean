/- ListMarks returns true. -/
import Derived.Test.YtmnoeoecjfhhbaaGreatRf8
import Derived.Test.YtmnoeoecjfhhbaaGreatImT
import Derived.Test.YtmnoeoecjfhhbaaGreatLLi
namespace Go.Proofs.YtmnoeoecjfhhbaaGreat
open Go.RowKit
def wayAny (how:Int):Way how:=if h:how=1 then h▸wayLine else wayPoint how h
end Go.Proofs.YtmnoeoecjfhhbaaGreat
