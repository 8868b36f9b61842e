/- Lists of one or two marks that a law makes itself; no pixel counted. -/
import Derived.Test.YtmnoeoecjfhhbaaGreatIm6
namespace Go.Proofs.YtmnoeoecjfhhbaaGreat
open Go.RowKit
def ItmPt (w:World) (vp vc:Value) (i:Itm):Prop:=SegsAt w vp i.path∧ClpsAt w vc i.clips∧ItmOk i
theorem ItmPt.below {w w':World} {vp vc:Value} {i:Itm} (h:ItmPt w vp vc i) (hb:Below w.heap.size w w'):ItmPt w' vp vc i:=⟨SliceAt.below h.1 hb,h.2.1.below hb,h.2.2⟩
theorem ItmPt.is {w:World} {vp vc:Value} {i:Itm} (h:ItmPt w vp vc i):ItmIs w (itmV vp vc i) i:=⟨vp,vc,rfl,h.1,h.2.1,h.2.2⟩
section
variable {w0 w : World} {M : List Res} {Φ : List (World → Prop)} {b : Nat} {cs : Array Value} {T : TypeId} (hL : Holds w0 w M Φ) (k : At M (blk b cs T))
include hL k
end
def PgOk (l:List Itm) (W H:Nat) (w:World) (e:Ending) (w':World):Prop :=
 ∃ a n c,e=.returned (.tuple #[.agg #[.int .i64 W,.int .i64 H,.slice a n c],.int .i64 0])∧Below w.heap.size w w'∧Fresh w w' (fun w=>BytesAt w (.slice a n c) (pgB l W H))
theorem PaintOut.ok {l:List Itm} {W H:Nat} {w:World} {e:Ending} {w':World} (h:PaintOut l W H w e w') (h0:paintErr l W H=0):PgOk l W H w e w':=by
 obtain ⟨a,n,c,rfl,hb,hf⟩:=h.any
 unfold pgW at *
 rw [if_pos h0,if_pos h0,h0]
 exact ⟨a,n,c,rfl,hb,hf⟩
theorem PaintOut.some {l:List Itm} {Wi Hi:Int} {w:World} {e:Ending} {w':World} (h:PaintOut l Wi Hi w e w'):∃ a b c n d,e=.returned (.tuple #[.agg #[.int .i64 a,.int .i64 b,.slice c n d],.int .i64 (paintErr l Wi Hi)])∧Below w.heap.size w w':=by
 obtain ⟨a,n,c,rfl,hb,_⟩:=h.any
 exact ⟨_,_,a,n,c,rfl,hb⟩
def clearI (A:Itm):Itm:={ A with ink:={ A.ink with a:=0 } }
theorem ItmPt.clear {w:World} {vp vc:Value} {A:Itm} (h:ItmPt w vp vc A):ItmPt w vp vc (clearI A):=by
 refine ⟨h.1,h.2.1,h.2.2.1,?_⟩
 have:=h.2.2.2
 exact ⟨this.1,this.2.1,this.2.2.1,by show (0:Int)≤0∧(0:Int)≤255;omega⟩
end Go.Proofs.YtmnoeoecjfhhbaaGreat
