/- ListWithin returns true. -/
import Derived.Test.YtmnoeoecjfhhbaaGreatLWn
import Derived.Test.YtmnoeoecjfhhbaaGreatImT
-- lit6
-- loadP
-- layer 43
namespace Go.Proofs.YtmnoeoecjfhhbaaGreat
open Go.RowKit

/-- a mark's cells -/
def itmA (vp vc : Value) (i : Itm) : Array Value := #[.int .i64 i.kind, vp, .int .i64 i.rule, .int .i64 i.style.wide, .int .i64 i.style.cap, .int .i64 i.style.join,
  .int .i64 i.image.W, .int .i64 i.image.H, .int .i64 i.image.bits, .string i.image.data,
  .int .i64 i.mat.a, .int .i64 i.mat.b, .int .i64 i.mat.c, .int .i64 i.mat.d, .int .i64 i.mat.e, .int .i64 i.mat.f,
  .int .u8 i.ink.r, .int .u8 i.ink.g, .int .u8 i.ink.b, .int .u8 i.ink.a, vc]
end Go.Proofs.YtmnoeoecjfhhbaaGreat
