/- Package list: the way by points, with hems. -/
import Derived.Test.YtmnoeoecjfhhbaaGreatIm5
import Derived.Test.YtmnoeoecjfhhbaaGreatStM
namespace Go.Proofs.YtmnoeoecjfhhbaaGreat
open Go.RowKit
set_option maxRecDepth 100000 in
set_option maxHeartbeats 8000000 in
theorem pointHem_calls {W H:Nat} (hs:Sides W H) (w:World) (v:Value) (l:List Sg) (hv:SegsAt w v l) (s:Sty) (hst:straightS l=true) (hmy:mayY s=true):Calls Tryz.prog 226 #[.agg #[],v,.agg #[.int .i64 s.wide,.int .i64 s.cap,.int .i64 s.join],.int .i64 W,.int .i64 H] w (PixOut W H (hemP l s) w):=by
 have HR:=Lib.hid (fun w' (hb:Below w.heap.size w w')=>show Calls Tryz.prog 229 #[v,.agg #[.int .i64 s.wide,.int .i64 s.cap,.int .i64 s.join],.int .i64 W,.int .i64 H] w' (MaskOut W H (hemP l s) w') from strokeMask_calls hs w' v l (SliceAt.below hv hb) hst s hmy)
 have HOf:=Lib.hid (fun w ma (h:MaskF (.agg #[.int .i64 W,.int .i64 H,.slice ma (W*H) (W*H)]) (pixMask W H (hemP l s)) w)=>pixOf_calls hs w ma (hemP l s) h)
 obtain ⟨a,c,rfl,_⟩:=SegsAt.parts hv
 generalize hemP l s=p at *
 generalize l.length=n at *
 have hL:=Holds.start w
 obtain ⟨n1,n2,n3,n4⟩:=tok4
 go_enter Tryz.func226,Tryz.ntmps226
 go_wp2_with (first|(go_at_call 229;(with_reducible refine (HR.out _ hL.below).mono ?_);rintro e _ ⟨ma,rfl,hb,hf⟩;replace hL:=hL.callF hb hf;clear hb hf)|(go_at_call 191;(with_reducible refine (HOf.out _ _ hL.fact0).mono ?_);rintro e _ ⟨sa,sn,sc,rfl,hb,hf⟩;replace hL:=hL.callF hb hf;clear hb hf)|(with_reducible first|(clear hL n1;intro b1 w1 hL)|(clear hL n2;intro b2 w2 hL)|(clear hL n3;intro b3 w3 hL)|(clear hL n4;intro b4 w4 hL)|(clear hL;intro _ hL))|((with_reducible refine goJ rfl ?_);refine goW ?_))
 exact bodyPost_ret (results_row2 inferInstance rfl _ hL b3 rfl _ _ (by (repeat (first|with_reducible exact At.here|with_reducible apply At.there))) rfl) rfl ⟨sa,sn,sc,rfl,hL.below,hL.fresh⟩
def wayPoint (how:Int) (h:how≠1):Way how where
 T:=135
 f1:=225
 f2:=226
 f3:=227
 by_calls:=byPoint_calls how h
 m1:=fun _ _=>by kernel_rfl
 m2:=fun _ _=>by kernel_rfl
 m3:=fun _ _=>by kernel_rfl
 c1:=fun _ _ _ _ _=>by kernel_rfl
 c2:=fun _ _ _ _ _=>by kernel_rfl
 c3:=fun _ _ _ _ _ _=>by kernel_rfl
 fill:=fun hs w v l hv hm rule hr=>pointFill_calls hs w v l hv hm rule hr
 hem:=fun _ {_ _} hs w v l hv s h1 h2=>pointHem_calls hs w v l hv s h1 h2
 samples:=fun hs i hl hi m hm hD least _ w=>ptSamples_calls hs i hl hi m hm hD least w
end Go.Proofs.YtmnoeoecjfhhbaaGreat
