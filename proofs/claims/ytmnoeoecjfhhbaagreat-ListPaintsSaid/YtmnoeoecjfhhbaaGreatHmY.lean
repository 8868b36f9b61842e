/- tympanlaw34.known: the document's examples; styles by numbers. -/
import Derived.Test.YtmnoeoecjfhhbaaGreatHmN
import Derived.Test.YtmnoeoecjfhhbaaGreatRgnM
namespace Go.Proofs.YtmnoeoecjfhhbaaGreat
open Go.RowKit
set_option maxRecDepth 100000 in
set_option maxHeartbeats 8000000 in
theorem shapesD (w:World) (v:Value) (cx cy:Int) (es:List Edg) (sh:Bool) (hv:EdgesAt w v es) (hlen:es.length≤300) (wd cap join:Int) (hcap:cap=0∨cap=1∨cap=2) (hP:(piecesC ⟨cx,cy,es,sh⟩).length=0) :
  Calls Tryz.prog 196 #[.agg #[.int .i64 cx,.int .i64 cy,v,.bool sh],.agg #[.int .i64 wd,.int .i64 cap,.int .i64 join]] w (ShpsOut (dotS ⟨cx,cy,es,sh⟩ ⟨wd,cap,join⟩) w):=by
 have Hv:=Lib.hid hv
 obtain ⟨ea,ec,rfl,_⟩:=EdgesAt.parts hv
 clear hv
 have hL:Holds w w [own w.heap.size 248 11 (.slice none 0 0) 0 []] []:=(Holds.start w).newOwn
 have HPi:=Lib.hid (fun w' (hb:Below w.heap.size w w')=>hemPieces_calls w' (.slice ea es.length ec) ⟨cx,cy,es,sh⟩ (SliceAt.below Hv.out hb) hlen)
 have hP2:=List.length_eq_zero_iff.1 hP
 rw [hP2] at HPi
 clear hP hP2
 have hD:dotS ⟨cx,cy,es,sh⟩ ⟨wd,cap,join⟩=if es.length=0∧sh=false then [] else if cap=1 then [around 1 cx cy wd] else if cap=2 then [around 2 cx cy wd] else []:=rfl
 generalize dotS ⟨cx,cy,es,sh⟩ ⟨wd,cap,join⟩=R at *
 dsimp only at *
 clear Hv
 generalize es.length=m at *
 rcases (by cases sh <;> simp <;> omega:(m=0∧sh=false)∨(m=0∧sh=true)∨m≠0) with ⟨hm,rfl⟩|⟨hm,rfl⟩|hm
 ·subst hm
  rw [if_pos ⟨rfl,rfl⟩] at hD
  subst hD
  obtain ⟨n1,n2,n3⟩:=tok3
  go_enter Tryz.func196,Tryz.ntmps196
  go_wp2_with (first|(go_at_call 205;(with_reducible refine (HPi.out _ hL.below).mono ?_);rintro e _ ⟨vp,rfl,hb,hf⟩;obtain ⟨pa,pc,rfl,_⟩:=EdgesAt.parts hf.now;replace hL:=hL.callF hb hf;clear hb hf)|(with_reducible first|(clear hL n1;intro b1 w1 hL)|(clear hL n2;intro b2 w2 hL))|((with_reducible refine wpA_lit rfl _ _ _ rfl ?_);first|refine litA1 hL ?_|refine litA2 hL ?_|refine litA3 hL ?_|refine litA4 hL ?_|refine litA6 hL ?_)|((with_reducible refine goJ rfl ?_);refine goW ?_))
  go_loopw [6,57] (fun s6 s57 wr=>s57=.int .i64 0∧Holds w wr [own w.heap.size 248 11 s6 0 ([])] [])
   (fun s6 s57 wr=>0)
  case atStart=>exact ⟨rfl,((hL.drop .here).drop .here).forget⟩
  case round =>
   clear hL
   obtain ⟨rfl,hL⟩:=hrel
   obtain ⟨ga,gc,rfl⟩:=own_slice hL .here
   go_wp2_with (first|(with_reducible first|(clear hL;intro _ _ _ hL;try dsimp only at hL)|(clear hL n3;intro b3 w3 hL))|((with_reducible refine wpA_lit rfl _ _ _ rfl ?_);first|refine litA1 hL ?_|refine litA2 hL ?_|refine litA3 hL ?_|refine litA4 hL ?_|refine litA6 hL ?_)|((with_reducible refine goJ rfl ?_);refine goW ?_))
   go_ret
   exact ⟨_,rfl,hL.below,(hL.settle .here (φ:=fun w=>ShpsAt w (.slice ga 0 gc) []) fun w h=>own_sliceAt h rfl (by simp) (shpC_len _)).fresh⟩
 ·subst hm
  rw [if_neg (by simp)] at hD
  rcases hcap with rfl|rfl|rfl
  ·rw [if_neg (by decide),if_neg (by decide)] at hD
   subst hD
   obtain ⟨n1,n2,n3⟩:=tok3
   go_enter Tryz.func196,Tryz.ntmps196
   go_wp2_with (first|(go_at_call 205;(with_reducible refine (HPi.out _ hL.below).mono ?_);rintro e _ ⟨vp,rfl,hb,hf⟩;obtain ⟨pa,pc,rfl,_⟩:=EdgesAt.parts hf.now;replace hL:=hL.callF hb hf;clear hb hf)|(go_at_call 206;(with_reducible refine (around_calls _ _ _ _ _ _ _).mono ?_);rintro e _ ⟨rfl,hb⟩;replace hL:=hL.call hb;clear hb)|(with_reducible first|(clear hL;intro _ _ _ hL;try dsimp only at hL)|(clear hL n1;intro b1 w1 hL)|(clear hL n2;intro b2 w2 hL)|(clear hL n3;intro b3 w3 hL))|((with_reducible refine wpA_lit rfl _ _ _ rfl ?_);first|refine litA1 hL ?_|refine litA2 hL ?_|refine litA3 hL ?_|refine litA4 hL ?_|refine litA6 hL ?_)|((with_reducible refine goJ rfl ?_);refine goW ?_))
   go_loopw [6,57] (fun s6 s57 wr=>s57=.int .i64 0∧Holds w wr [own w.heap.size 248 11 s6 0 ([])] [])
    (fun s6 s57 wr=>0)
   case atStart=>exact ⟨rfl,((hL.drop .here).drop .here).forget⟩
   case round =>
    clear hL
    obtain ⟨rfl,hL⟩:=hrel
    obtain ⟨ga,gc,rfl⟩:=own_slice hL .here
    go_wp2_with (first|(with_reducible first|(clear hL;intro _ _ _ hL;try dsimp only at hL)|(clear hL n3;intro b3 w3 hL))|((with_reducible refine wpA_lit rfl _ _ _ rfl ?_);first|refine litA1 hL ?_|refine litA2 hL ?_|refine litA3 hL ?_|refine litA4 hL ?_|refine litA6 hL ?_)|((with_reducible refine goJ rfl ?_);refine goW ?_))
    go_ret
    exact ⟨_,rfl,hL.below,(hL.settle .here (φ:=fun w=>ShpsAt w (.slice ga 0 gc) []) fun w h=>own_sliceAt h rfl (by simp) (shpC_len _)).fresh⟩
  ·rw [if_pos rfl] at hD
   subst hD
   obtain ⟨n1,n2,n3⟩:=tok3
   go_enter Tryz.func196,Tryz.ntmps196
   go_wp2_with (first|(go_at_call 205;(with_reducible refine (HPi.out _ hL.below).mono ?_);rintro e _ ⟨vp,rfl,hb,hf⟩;obtain ⟨pa,pc,rfl,_⟩:=EdgesAt.parts hf.now;replace hL:=hL.callF hb hf;clear hb hf)|(go_at_call 206;(with_reducible refine (around_calls _ _ _ _ _ _ _).mono ?_);rintro e _ ⟨rfl,hb⟩;replace hL:=hL.call hb;clear hb)|(with_reducible first|(clear hL;intro _ _ _ hL;try dsimp only at hL)|(clear hL n1;intro b1 w1 hL)|(clear hL n2;intro b2 w2 hL)|(clear hL n3;intro b3 w3 hL))|((with_reducible refine wpA_lit rfl _ _ _ rfl ?_);first|refine litA1 hL ?_|refine litA2 hL ?_|refine litA3 hL ?_|refine litA4 hL ?_|refine litA6 hL ?_)|((with_reducible refine goJ rfl ?_);refine goW ?_))
   go_loopw [6,57] (fun s6 s57 wr=>s57=.int .i64 0∧Holds w wr [own w.heap.size 248 11 s6 1 (shpC (around 1 cx cy wd))] [])
    (fun s6 s57 wr=>0)
   case atStart=>exact ⟨rfl,((hL.drop .here).drop .here).forget⟩
   case round =>
    clear hL
    obtain ⟨rfl,hL⟩:=hrel
    obtain ⟨ga,gc,rfl⟩:=own_slice hL .here
    go_wp2_with (first|(with_reducible first|(clear hL;intro _ _ _ hL;try dsimp only at hL)|(clear hL n3;intro b3 w3 hL))|((with_reducible refine wpA_lit rfl _ _ _ rfl ?_);first|refine litA1 hL ?_|refine litA2 hL ?_|refine litA3 hL ?_|refine litA4 hL ?_|refine litA6 hL ?_)|((with_reducible refine goJ rfl ?_);refine goW ?_))
    go_ret
    exact ⟨_,rfl,hL.below,(hL.settle .here (φ:=fun w=>ShpsAt w (.slice ga 1 gc) [around 1 cx cy wd]) fun w h=>own_sliceAt h rfl (by simp) (shpC_len _)).fresh⟩
  ·rw [if_neg (by decide),if_pos rfl] at hD
   subst hD
   obtain ⟨n1,n2,n3⟩:=tok3
   go_enter Tryz.func196,Tryz.ntmps196
   go_wp2_with (first|(go_at_call 205;(with_reducible refine (HPi.out _ hL.below).mono ?_);rintro e _ ⟨vp,rfl,hb,hf⟩;obtain ⟨pa,pc,rfl,_⟩:=EdgesAt.parts hf.now;replace hL:=hL.callF hb hf;clear hb hf)|(go_at_call 206;(with_reducible refine (around_calls _ _ _ _ _ _ _).mono ?_);rintro e _ ⟨rfl,hb⟩;replace hL:=hL.call hb;clear hb)|(with_reducible first|(clear hL;intro _ _ _ hL;try dsimp only at hL)|(clear hL n1;intro b1 w1 hL)|(clear hL n2;intro b2 w2 hL)|(clear hL n3;intro b3 w3 hL))|((with_reducible refine wpA_lit rfl _ _ _ rfl ?_);first|refine litA1 hL ?_|refine litA2 hL ?_|refine litA3 hL ?_|refine litA4 hL ?_|refine litA6 hL ?_)|((with_reducible refine goJ rfl ?_);refine goW ?_))
   go_loopw [6,57] (fun s6 s57 wr=>s57=.int .i64 0∧Holds w wr [own w.heap.size 248 11 s6 1 (shpC (around 2 cx cy wd))] [])
    (fun s6 s57 wr=>0)
   case atStart=>exact ⟨rfl,((hL.drop .here).drop .here).forget⟩
   case round =>
    clear hL
    obtain ⟨rfl,hL⟩:=hrel
    obtain ⟨ga,gc,rfl⟩:=own_slice hL .here
    go_wp2_with (first|(with_reducible first|(clear hL;intro _ _ _ hL;try dsimp only at hL)|(clear hL n3;intro b3 w3 hL))|((with_reducible refine wpA_lit rfl _ _ _ rfl ?_);first|refine litA1 hL ?_|refine litA2 hL ?_|refine litA3 hL ?_|refine litA4 hL ?_|refine litA6 hL ?_)|((with_reducible refine goJ rfl ?_);refine goW ?_))
    go_ret
    exact ⟨_,rfl,hL.below,(hL.settle .here (φ:=fun w=>ShpsAt w (.slice ga 1 gc) [around 2 cx cy wd]) fun w h=>own_sliceAt h rfl (by simp) (shpC_len _)).fresh⟩
 ·rw [if_neg (fun h=>hm h.1)] at hD
  have hmi:((m:Int) == 0)=false:=by simp;omega
  rcases hcap with rfl|rfl|rfl
  ·rw [if_neg (by decide),if_neg (by decide)] at hD
   subst hD
   obtain ⟨n1,n2,n3⟩:=tok3
   go_enter Tryz.func196,Tryz.ntmps196
   go_wp2_with (first|(go_at_call 205;(with_reducible refine (HPi.out _ hL.below).mono ?_);rintro e _ ⟨vp,rfl,hb,hf⟩;obtain ⟨pa,pc,rfl,_⟩:=EdgesAt.parts hf.now;replace hL:=hL.callF hb hf;clear hb hf)|(go_at_call 206;(with_reducible refine (around_calls _ _ _ _ _ _ _).mono ?_);rintro e _ ⟨rfl,hb⟩;replace hL:=hL.call hb;clear hb)|(with_reducible first|(clear hL;intro _ _ _ hL;try dsimp only at hL)|(clear hL n1;intro b1 w1 hL)|(clear hL n2;intro b2 w2 hL)|(clear hL n3;intro b3 w3 hL))|((with_reducible refine wpA_lit rfl _ _ _ rfl ?_);first|refine litA1 hL ?_|refine litA2 hL ?_|refine litA3 hL ?_|refine litA4 hL ?_|refine litA6 hL ?_)|((with_reducible refine goJ rfl ?_);refine goW ?_))
   go_loopw [6,57] (fun s6 s57 wr=>s57=.int .i64 0∧Holds w wr [own w.heap.size 248 11 s6 0 ([])] [])
    (fun s6 s57 wr=>0)
   case atStart=>exact ⟨rfl,((hL.drop .here).drop .here).forget⟩
   case round =>
    clear hL
    obtain ⟨rfl,hL⟩:=hrel
    obtain ⟨ga,gc,rfl⟩:=own_slice hL .here
    go_wp2_with (first|(with_reducible first|(clear hL;intro _ _ _ hL;try dsimp only at hL)|(clear hL n3;intro b3 w3 hL))|((with_reducible refine wpA_lit rfl _ _ _ rfl ?_);first|refine litA1 hL ?_|refine litA2 hL ?_|refine litA3 hL ?_|refine litA4 hL ?_|refine litA6 hL ?_)|((with_reducible refine goJ rfl ?_);refine goW ?_))
    go_ret
    exact ⟨_,rfl,hL.below,(hL.settle .here (φ:=fun w=>ShpsAt w (.slice ga 0 gc) []) fun w h=>own_sliceAt h rfl (by simp) (shpC_len _)).fresh⟩
  ·rw [if_pos rfl] at hD
   subst hD
   obtain ⟨n1,n2,n3⟩:=tok3
   go_enter Tryz.func196,Tryz.ntmps196
   go_wp2_with (first|(go_at_call 205;(with_reducible refine (HPi.out _ hL.below).mono ?_);rintro e _ ⟨vp,rfl,hb,hf⟩;obtain ⟨pa,pc,rfl,_⟩:=EdgesAt.parts hf.now;replace hL:=hL.callF hb hf;clear hb hf)|(go_at_call 206;(with_reducible refine (around_calls _ _ _ _ _ _ _).mono ?_);rintro e _ ⟨rfl,hb⟩;replace hL:=hL.call hb;clear hb)|(with_reducible first|(clear hL;intro _ _ _ hL;try dsimp only at hL)|(clear hL n1;intro b1 w1 hL)|(clear hL n2;intro b2 w2 hL)|(clear hL n3;intro b3 w3 hL))|((with_reducible refine wpA_lit rfl _ _ _ rfl ?_);first|refine litA1 hL ?_|refine litA2 hL ?_|refine litA3 hL ?_|refine litA4 hL ?_|refine litA6 hL ?_)|((with_reducible refine goJ rfl ?_);refine goW ?_))
   go_loopw [6,57] (fun s6 s57 wr=>s57=.int .i64 0∧Holds w wr [own w.heap.size 248 11 s6 1 (shpC (around 1 cx cy wd))] [])
    (fun s6 s57 wr=>0)
   case atStart=>exact ⟨rfl,((hL.drop .here).drop .here).forget⟩
   case round =>
    clear hL
    obtain ⟨rfl,hL⟩:=hrel
    obtain ⟨ga,gc,rfl⟩:=own_slice hL .here
    go_wp2_with (first|(with_reducible first|(clear hL;intro _ _ _ hL;try dsimp only at hL)|(clear hL n3;intro b3 w3 hL))|((with_reducible refine wpA_lit rfl _ _ _ rfl ?_);first|refine litA1 hL ?_|refine litA2 hL ?_|refine litA3 hL ?_|refine litA4 hL ?_|refine litA6 hL ?_)|((with_reducible refine goJ rfl ?_);refine goW ?_))
    go_ret
    exact ⟨_,rfl,hL.below,(hL.settle .here (φ:=fun w=>ShpsAt w (.slice ga 1 gc) [around 1 cx cy wd]) fun w h=>own_sliceAt h rfl (by simp) (shpC_len _)).fresh⟩
  ·rw [if_neg (by decide),if_pos rfl] at hD
   subst hD
   obtain ⟨n1,n2,n3⟩:=tok3
   go_enter Tryz.func196,Tryz.ntmps196
   go_wp2_with (first|(go_at_call 205;(with_reducible refine (HPi.out _ hL.below).mono ?_);rintro e _ ⟨vp,rfl,hb,hf⟩;obtain ⟨pa,pc,rfl,_⟩:=EdgesAt.parts hf.now;replace hL:=hL.callF hb hf;clear hb hf)|(go_at_call 206;(with_reducible refine (around_calls _ _ _ _ _ _ _).mono ?_);rintro e _ ⟨rfl,hb⟩;replace hL:=hL.call hb;clear hb)|(with_reducible first|(clear hL;intro _ _ _ hL;try dsimp only at hL)|(clear hL n1;intro b1 w1 hL)|(clear hL n2;intro b2 w2 hL)|(clear hL n3;intro b3 w3 hL))|((with_reducible refine wpA_lit rfl _ _ _ rfl ?_);first|refine litA1 hL ?_|refine litA2 hL ?_|refine litA3 hL ?_|refine litA4 hL ?_|refine litA6 hL ?_)|((with_reducible refine goJ rfl ?_);refine goW ?_))
   go_loopw [6,57] (fun s6 s57 wr=>s57=.int .i64 0∧Holds w wr [own w.heap.size 248 11 s6 1 (shpC (around 2 cx cy wd))] [])
    (fun s6 s57 wr=>0)
   case atStart=>exact ⟨rfl,((hL.drop .here).drop .here).forget⟩
   case round =>
    clear hL
    obtain ⟨rfl,hL⟩:=hrel
    obtain ⟨ga,gc,rfl⟩:=own_slice hL .here
    go_wp2_with (first|(with_reducible first|(clear hL;intro _ _ _ hL;try dsimp only at hL)|(clear hL n3;intro b3 w3 hL))|((with_reducible refine wpA_lit rfl _ _ _ rfl ?_);first|refine litA1 hL ?_|refine litA2 hL ?_|refine litA3 hL ?_|refine litA4 hL ?_|refine litA6 hL ?_)|((with_reducible refine goJ rfl ?_);refine goW ?_))
    go_ret
    exact ⟨_,rfl,hL.below,(hL.settle .here (φ:=fun w=>ShpsAt w (.slice ga 1 gc) [around 2 cx cy wd]) fun w h=>own_sliceAt h rfl (by simp) (shpC_len _)).fresh⟩
open Go.RowKit
theorem hemShapes_calls (w:World) (v:Value) (c:Ct) (hv:EdgesAt w v c.edges) (hlen:c.edges.length≤300) (s:Sty) (hs:mayY s=true) :
  Calls Tryz.prog 196 #[.agg #[.int .i64 c.x,.int .i64 c.y,v,.bool c.shut],.agg #[.int .i64 s.wide,.int .i64 s.cap,.int .i64 s.join]] w (ShpsOut (shapesC s c) w):=by
 obtain ⟨h1,h2,h3,h4,h5,h6⟩:=mayY_bd hs
 obtain ⟨cx,cy,es,sh⟩:=c
 obtain ⟨wd,cap,join⟩:=s
 dsimp only at *
 unfold shapesC
 by_cases h0:(piecesC ⟨cx,cy,es,sh⟩).length=0
 ·rw [if_pos h0,h0,show shapesL sh ⟨wd,cap,join⟩ (piecesC ⟨cx,cy,es,sh⟩) 0=[] from rfl,List.append_nil]
  exact shapesD w v cx cy es sh hv hlen wd cap join (by omega) h0
 ·rw [if_neg h0,List.nil_append]
  exact hemShapes1 w v cx cy es sh hv hlen wd cap join h0
theorem appendSh {P:Program} {w0 w:World} {M:List Res} {Φ:List (World→Prop)} {K2:Value→World→Prop} {t ty e bytes:Nat} {z v u:Value} [ht:SliceT P t e] [hi:ElemT P e 11 bytes z] {l:List Shp} (hs:ShpsAt w u l)
  (hL:Holds w0 w M Φ) {n:Nat} {xs:List Value} {f:Res→List Res}
  (h:∀ v' w',Holds w0 w' (f (own w0.heap.size e 11 v' (n+l.length) (xs++(l.map shpC).flatten))) Φ→K2 v' w')
  (hu:∀ r',Upd M (own w0.heap.size e 11 v n xs) r' (f r'):=by intro _;(repeat (first|with_reducible exact Upd.here|with_reducible apply Upd.there)))
  (hz:z.cells.size=11:=by rfl) (h63:n+l.length≤maxLen:=by (unfold maxLen;omega)) (hbytes:(n+l.length)*bytes≤140737488355328:=by omega):AppendAt P t ty v u w K2 :=
 appendOld hs (shpC_len l) (by intro x hx y hy;obtain ⟨e,_,rfl⟩:=List.mem_map.1 hx;unfold shpC at hy;simp only [List.mem_cons,List.not_mem_nil,or_false] at hy;rcases hy with h|h|h|h|h|h|h|h|h|h|h <;> subst h <;> rfl) hL hu hz (by decide) (by rw [List.length_map];exact h63) (by rw [List.length_map];exact hbytes) (by intro v' w' h';rw [List.length_map] at h';exact h v' w' h')
theorem take_shapes (s:Sty) (l:List Ct) (k:Nat) (h:k<l.length):(l.take (k+1)).flatMap (shapesC s)=(l.take k).flatMap (shapesC s)++shapesC s (l.getD k default):=by
 rw [List.take_succ_eq_append_getElem h,List.flatMap_append]
 simp [h]
theorem ct_edges_len {l:List Ct} (h:(l.map ctW).sum≤300):∀ c∈l,c.edges.length≤300:=by
 intro c hc
 have:ctW c≤(l.map ctW).sum:=by
  induction l with
  | nil=>cases hc
  | cons d l ih =>
   rw [List.map_cons,List.sum_cons] at h ⊢
   rcases List.mem_cons.1 hc with rfl|hc
   ·omega
   ·have:=ih (by omega) hc;omega
 have e:ctW c=c.edges.length+1:=rfl
 omega
set_option maxRecDepth 100000 in
set_option maxHeartbeats 4000000 in
theorem hemAll_calls (w:World) (v:Value) (l:List Sg) (hv:SegsAt w v l) (s:Sty) (hs:mayY s=true):Calls Tryz.prog 189 #[v,.agg #[.int .i64 s.wide,.int .i64 s.cap,.int .i64 s.join]] w (ShpsOut (allS l s) w):=by
 have Hv:=Lib.hid hv
 obtain ⟨a,cap,rfl,hlc,hcm,hel⟩:=hv.parts
 clear hv hel
 unfold maxLen at hcm
 have hL:=Holds.start w
 have HR:=Lib.hid (show allS l s=((contoursS l).take (contoursS l).length).flatMap (shapesC s) by rw [List.take_length];rfl)
 have hlS:=allS_len l s
 have hW:=contours_weight l
 have hC:=contours_len l
 have Hc:∀ w':World,Below w.heap.size w w'→Calls Tryz.prog 194 #[.slice a l.length cap] w' (CtsOut (contoursS l) w'):=fun w' hb=>contours_calls w' _ l (SliceAt.below Hv.out hb)
 have HC:=Lib.hid Hc
 clear Hc
 have HPre:=Lib.hid (show ∀ k,(((contoursS l).take k).flatMap (shapesC s)).length≤900 from fun k=>by
  have h1:=shapes_weight s ((contoursS l).take k)
  have h2:((contoursS l).map ctW).sum=(((contoursS l).take k).map ctW).sum+(((contoursS l).drop k).map ctW).sum:=by
   rw [←List.sum_append,←List.map_append,List.take_append_drop]
  omega)
 generalize allS l s=L at *
 generalize contoursS l=cts at *
 have HW:=Lib.hid (ct_edges_len hW)
 clear hW
 have HSh:=Lib.hid (fun w v c hv hlen=>hemShapes_calls w v c hv hlen s hs)
 have n1:True:=trivial
 go_enter Tryz.func189,Tryz.ntmps189
 go_wp2_with (first|(go_at_call 194;(with_reducible refine (HC.out _ hL.below).mono ?_);rintro e _ ⟨vc,vs,rfl,hvl,hb,hf⟩;obtain ⟨sa,sc,rfl⟩:∃ sa sc,vc=.slice sa cts.length sc:=(by obtain ⟨h1,_⟩:=hf.now;obtain ⟨a,c,h,_⟩:=h1;refine ⟨a,c,?_⟩;rw [h,List.length_zipWith,hvl,Nat.min_self]);replace hL:=hL.callF hb hf;clear hb hf)|(with_reducible (clear hL n1;intro b1 w1 hL))|((with_reducible refine goJ rfl ?_);refine goW ?_))
 go_loopw [5,11] (fun s5 s11 wr=>∃ (k:Nat) (acc:List Shp),k≤cts.length∧s11=.int .i64 k∧acc=(cts.take k).flatMap (shapesC s)∧Holds w wr [own w.heap.size 248 11 s5 acc.length (acc.map shpC).flatten,blk b1 #[.int .i64 s.wide,.int .i64 s.cap,.int .i64 s.join] 24] [fun w=>CtsAt w (.slice sa cts.length sc) vs cts])
  (fun s5 s11 wr=>cts.length-(intOf s11).toNat)
 case atStart=>exact ⟨0,[],by omega,rfl,by simp,hL.newOwn⟩
 case round =>
  clear hL
  obtain ⟨k,acc,hk,rfl,hacc,hL⟩:=hrel
  have hal:acc.length≤900:=by rw [hacc];exact HPre.out k
  by_cases hkt:k<cts.length
  ·have hnext:=take_shapes s cts k hkt
   rw [←hacc] at hnext
   have hcl:=HW.out (cts.getD k default) (by rw [show cts.getD k default=cts[k] by simp [hkt]];exact List.getElem_mem hkt)
   have hsl:(shapesC s (cts.getD k default)).length≤903:=by
    have:=shapesC_len s (cts.getD k default)
    unfold ctW at this
    omega
   have hget:∃ bx ox u,sa=some ⟨bx,ox,none⟩∧vs[k]?=some u∧wr.rangeAt bx (ox+k*4) (ctC u (cts.getD k default)):=by
    obtain ⟨⟨a',c',he,_,_,h5⟩,_⟩:=hL.fact0
    injection he with he _ _
    subst he
    have hzl:(List.zipWith ctC vs cts).length=cts.length:=by rw [List.length_zipWith,hvl,Nat.min_self]
    obtain ⟨bx,ox,e,hr⟩:=h5 k (by omega)
    obtain ⟨u,hu,hz⟩:=zip_get vs cts hvl k hkt
    rw [hz (by omega)] at hr
    exact ⟨bx,ox,u,e,hu,hr⟩
   obtain ⟨bx,ox,u,rfl,hu,hc⟩:=hget
   have hkb:(k:Int)<(cts.length:Int):=by omega
   replace hL:=(hL.dup).map (χ:=fun w=>EdgesAt w u (cts.getD k default).edges) fun w h=>h.2 k u hu
   have HN:=Lib.hid hnext
   clear hnext hu hacc
   generalize cts.getD k default=c at *
   have HSc:=Lib.hid (fun w hv=>HSh.out w u c hv hcl)
   clear hcl
   generalize shapesC s c=SC at *
   obtain ⟨cx,cy,ces,csh⟩:=c
   unfold ctC at hc
   dsimp only at hc hL HSc
   obtain ⟨ea,ec,rfl,_⟩:=EdgesAt.parts hL.fact0
   obtain ⟨g3,c3,rfl⟩:=own_slice hL .here
   obtain ⟨n1,n2,n3⟩:=tok3
   clear n1
   go_wp2_with (first|(go_at_call 196;(with_reducible refine (HSc.out _ hL.fact0).mono ?_);rintro e _ ⟨vsh,rfl,hb,hf⟩;replace hL:=hL.callF hb hf;clear hb hf)|((with_reducible refine wpA_append rfl _ _ _ rfl vsh rfl ?_);intro vq hvq;simp [go_sem] at hvq;subst hvq;refine appendSh hL.fact0 hL ?_;clear hL;intro ve2 _ hL)|(with_reducible first|(clear hL n2;intro b2 w2 hL)|(clear hL;intro _ hL))|((with_reducible refine goJ rfl ?_);refine goW ?_))
   go_roundw
   case rel =>
    refine ⟨k+1,acc++SC,by omega,by go_num,HN.out.symm,?_⟩
    rw [List.length_append,List.map_append,List.flatten_append]
    exact ((hL.drop .here).forget).forget
   case measure=>simp [intOf];omega
  ·have e:k=cts.length:=by omega
   subst e
   have HA:=Lib.hid (show L=acc by rw [hacc,HR.out])
   clear hacc
   obtain ⟨g,oc,rfl⟩:=own_slice hL .here
   go_wp2_with (first|(with_reducible first|(clear hL;intro _ _ _ hL;try dsimp only at hL)|(clear hL n1;intro b1 w1 hL)|(clear hL n2;intro b2 w2 hL)|(clear hL n3;intro b3 w3 hL)|(clear hL;intro _ _ hL)|(clear hL;intro _ hL))|((with_reducible refine goJ rfl ?_);refine goW ?_))
   go_ret
   rw [HA.out]
   exact ⟨_,rfl,hL.below,(hL.settle .here (φ:=fun w=>ShpsAt w (.slice g acc.length oc) acc) fun w h=>own_sliceAt h (by rw [List.length_map]) rfl (shpC_len _)).fresh⟩
open Go.RowKit
theorem fnK_enter (k:Nat) (a b:Value) (w:World):(callFunc (fnK k) #[a,b]).run Tryz.prog w=.ok (.enter (fnK k) #[a,b]) w:=by
 unfold fnK
 split
 ·kernel_rfl
 ·split <;> kernel_rfl
theorem run_snoc (p:List (Int × Int)) (r:Int × Int):((p++[r]).map runC).flatten=(p.map runC).flatten++runC r:=by simp
theorem run_len (p:List (Int × Int)) (r:Int × Int):(p++[r]).length=p.length+1:=by simp
theorem runC_lens (l:List (Int × Int)):∀ c∈l.map runC,c.length=2:=by
 intro c hc
 obtain ⟨s,_,rfl⟩:=List.mem_map.1 hc
 rfl
theorem normTo {acc:List (Int × Int)} {p:Nat→Bool} {W:Int} (hW:0≤W∧W≤64) (h:∀ i,i<64→inRuns acc i=p i):runsTo (shiftP acc 0 W) 64=runsTo p W.toNat:=by
 have hc:cutI W=W:=by unfold cutI;omega
 rw [runsTo_beyond (n:=W.toNat) (by omega) (fun i h1 h2=>?_)]
 ·refine runsTo_congr fun i hi=>?_
  unfold shiftP
  rw [hc,Int.sub_zero,Int.toNat_natCast,h i (by omega),decide_eq_true (show (i:Int)<W by omega),decide_eq_true (show (0:Int)≤(i:Int) by omega)]
  rfl
 ·unfold shiftP
  rw [hc,decide_eq_false (show ¬(i:Int)<W by omega)]
  rfl
theorem cover_run {s:Shp} {lo hi y:Int} (h:∀ x,-8191≤x→x≤8191→((lo≤x∧x≤hi) ↔ covS s x y=true)) {i:Nat} (hi64:i<64):inRun (-((8-lo) / 16),(hi-8) / 16+1) i=covS s (16*(i:Int)+8) y:=by
 have k:=h (16*(i:Int)+8) (by omega) (by omega)
 have e:inRun (-((8-lo) / 16),(hi-8) / 16+1) i=true ↔ (lo≤16*(i:Int)+8∧16*(i:Int)+8≤hi):=by
  unfold inRun
  simp only [Bool.and_eq_true,decide_eq_true_eq]
  omega
 rw [Bool.eq_iff_iff,e,k]
set_option maxRecDepth 100000 in
set_option maxHeartbeats 4000000 in
theorem hemRow_calls (w:World) (v:Value) (L:List Shp) (hv:ShpsAt w v L) (hlen:L.length≤1000) (hg:∀ s∈L,GoodS s) (y W:Int) (hy : -8191≤y∧y≤8191) (hW:0≤W∧W≤64) :
  Calls Tryz.prog 190 #[v,.int .i64 y,.int .i64 W] w (RunsOut (runsTo (fun i=>covL L (16*(i:Int)+8) y) W.toNat) w):=by
 obtain ⟨a,cap,rfl,hlc,hcm,hel⟩:=hv.parts
 clear hv
 unfold maxLen at hcm
 have Hel:=Lib.hid hel;clear hel
 have HG:=Lib.hid hg;clear hg
 have hL:=Holds.start w
 have HCL:=Lib.hid (show ∀ i:Nat,covL L (16*(i:Int)+8) y=covL (L.take L.length) (16*(i:Int)+8) y by intro i;rw [List.take_length])
 generalize hR:runsTo (fun i=>covL L (16*(i:Int)+8) y) W.toNat=R
 have HR:=Lib.hid hR
 clear hR
 go_enter Tryz.func190,Tryz.ntmps190
 go_wp2_with (first|(with_reducible first|(clear hL;intro _ _ _ hL;try dsimp only at hL)|(clear hL;intro _ _ hL)|(clear hL;intro _ hL))|((with_reducible refine wpA_lit rfl _ _ _ rfl ?_);first|refine litA1 hL ?_|refine litA2 hL ?_|refine litA3 hL ?_|refine litA4 hL ?_|refine litA6 hL ?_)|((with_reducible refine goJ rfl ?_);refine goW ?_))
 go_loopw [7,15] (fun s7 s15 wr=>∃ (k:Nat) (acc:List (Int × Int)),k≤L.length∧s15=.int .i64 k∧acc.length≤k∧(∀ i:Nat,i<64→inRuns acc i=covL (L.take k) (16*(i:Int)+8) y)∧Holds w wr [own w.heap.size 124 2 s7 acc.length (acc.map runC).flatten] [])
  (fun s7 s15 wr=>L.length-(intOf s15).toNat)
 case atStart=>exact ⟨0,[],by omega,rfl,Nat.le_refl _,fun i _=>rfl,hL.newOwn⟩
 case round =>
  clear hL
  obtain ⟨k,acc,hk,rfl,hal,hin,hL⟩:=hrel
  obtain ⟨ga,gc,rfl⟩:=own_slice hL .here
  by_cases hkt:k<L.length
  ·obtain ⟨b,o,rfl,hc⟩:=Hel.out k hkt
   have hkb:(k:Int)<(L.length:Int):=by omega
   have hgs:=HG.out (L.getD k default) (by rw [show L.getD k default=L[k] by simp [hkt]];exact List.getElem_mem hkt)
   have hstep:∀ x,covL (L.take (k+1)) x y=(covL (L.take k) x y || covS (L.getD k default) x y):=by
    intro x
    rw [List.take_succ_eq_append_getElem hkt]
    unfold covL
    rw [List.any_append]
    simp [hkt]
   have HE:=Lib.hid (fun w=>ends_calls (L.getD k default) hgs y hy w)
   have HST:=Lib.hid hstep
   have HIN:=Lib.hid hin
   clear hgs hstep hin
   generalize hs0:L.getD k default=s at *
   clear hs0
   have hG2:=fnK_enter s.kind
   unfold CovOut at HE
   obtain ⟨C,hC⟩:∃ C,covS s=C:=⟨_,rfl⟩
   have HCo:=Lib.hid hC
   clear hC
   have HCR:=Lib.hid (fun (lo hi:Int) h i hi64=>cover_run (s:=s) (y:=y) (lo:=lo) (hi:=hi) h (i:=i) hi64)
   unfold shpC at hc HE
   obtain ⟨⟨x0,y0,bt,cx,cy,x1,y1⟩,wd,fi,la,kd⟩:=s
   dsimp only at hc HE hG2
   generalize fnK kd=G at *
   obtain ⟨n1,n2,n3⟩:=tok3
   go_wp2_with (first|((refine (HE.out _).mono ?_);rintro e _ ⟨⟨lo,hi,rfl,hsb,hcov⟩,hb⟩;have HCV:=Lib.hid (HCR.out lo hi hcov);clear hcov;replace hL:=hL.call hb;clear hb)|(with_reducible first|(clear hL n1;intro b1 w1 hL)|(clear hL n2;intro b2 w2 hL)|(clear hL;intro _ hL))|((with_reducible refine wpA_lit rfl _ _ _ rfl ?_);first|refine litA1 hL ?_|refine litA2 hL ?_|refine litA3 hL ?_|refine litA4 hL ?_|refine litA6 hL ?_)|((with_reducible refine goJ rfl ?_);refine goW ?_))
   obtain ⟨q1,q2,q3,q4⟩:=hsb
   have HD1:=Lib.hid (fun w=>down_calls (8-lo) 16 (by omega) (by omega) (by omega) (by omega) w)
   have HD2:=Lib.hid (fun w=>down_calls (hi-8) 16 (by omega) (by omega) (by omega) (by omega) w)
   have wP1:IntKind.i64.wrap (8-lo)=8-lo:=by rw [IntKind.wrap_i64];omega
   have wP2:IntKind.i64.wrap (hi-8)=hi-8:=by rw [IntKind.wrap_i64];omega
   have r1:=div_bd (v:=8-lo) (m:=16) (B:=17592186044500) (by omega) (by omega) (by omega) (by omega)
   have r2:=div_bd (v:=hi-8) (m:=16) (B:=17592186044500) (by omega) (by omega) (by omega) (by omega)
   generalize hP1:8-lo=P1 at *
   generalize hP2:hi-8=P2 at *
   generalize P1 / 16=D1 at *
   generalize P2 / 16=D2 at *
   have wD1:IntKind.i64.wrap (-D1) = -D1:=by rw [IntKind.wrap_i64];omega
   have wD2:IntKind.i64.wrap (D2+1)=D2+1:=by rw [IntKind.wrap_i64];omega
   replace hL:=hL.drew
   have hS:(fun w':World=>w'.rangeAt b2 0 [.int .i64 lo,.int .i64 hi]) _:=hL.range (by (repeat (first|with_reducible exact At.here|with_reducible apply At.there)))
   refine wpH_begin (by kernel_rfl) (fun w':World=>w'.rangeAt b2 0 [.int .i64 lo,.int .i64 hi]) ?_
   refine dsH 0 (.pointer (some ⟨b2,0,none⟩)) hS ?_
   refine drH 1 (.int .i64 lo) hS ?_ ?_;(· exact fun w' hw=>(load_cell (hw 0 _ rfl)))
   refine dsH 2 (.int .i64 P1) hS ?_
   refine dsH 5 (.pointer (some ⟨b2,1,none⟩)) hS ?_
   refine drH 6 (.int .i64 hi) hS ?_ ?_;(· exact fun w' hw=>(load_cell (hw 1 _ rfl)))
   refine dsH 7 (.int .i64 P2) hS ?_
   refine wpH_one (i:=3) (by kernel_rfl) (wpOf ?_)
   refine st_call rfl 197 #[.int .i64 P1,.int .i64 16] (by go_simp) (HD1.out _) ?_
   rintro e _ ⟨rfl,rfl⟩
   refine ⟨_,rfl,hS,?_⟩
   simp only [Act.put,setP]
   refine dsH 4 (.int .i64 (-D1)) hS ?_
   refine wpH_one (i:=8) (by kernel_rfl) (wpOf ?_)
   refine st_call rfl 197 #[.int .i64 P2,.int .i64 16] (by go_simp) (HD2.out _) ?_
   rintro e _ ⟨rfl,rfl⟩
   refine ⟨_,rfl,hS,?_⟩
   simp only [Act.put,setP]
   refine dsH 9 (.int .i64 (D2+1)) hS ?_
   refine dsH 10 (.int .i64 (-D1)) hS ?_
   refine dsH 11 (.int .i64 (D2+1)) hS ?_
   refine wpAnyH_done (by kernel_rfl) ?_ _
   clear hS
   by_cases hft : -D1<D2+1
   ·have n3:True:=trivial
    go_wp2_with (first|(with_reducible first|(clear hL;intro _ _ _ hL;try dsimp only at hL)|(clear hL n3;intro b3 w3 hL))|((with_reducible refine wpA_lit rfl _ _ _ rfl ?_);first|refine litA1 hL ?_|refine litA2 hL ?_|refine litA3 hL ?_|refine litA4 hL ?_|refine litA6 hL ?_)|((with_reducible refine goJ rfl ?_);refine goW ?_))
    go_roundw
    case rel =>
     refine ⟨k+1,acc++[(-D1,D2+1)],by omega,by go_num,by rw [run_len];omega,fun i hi=>?_,?_⟩
     ·rw [inRuns_append,HIN.out i hi,HST.out,←HCV.out i hi]
      simp [inRuns]
     ·rw [run_snoc,run_len]
      exact (hL.drop .here).drop .here
    case measure=>simp [intOf];omega
   ·go_wp2_with (first|(with_reducible first|(clear hL;intro _ _ _ hL;try dsimp only at hL)|(clear hL n1;intro b1 w1 hL)|(clear hL n2;intro b2 w2 hL)|(clear hL n3;intro b3 w3 hL)|(clear hL;intro _ _ hL)|(clear hL;intro _ hL))|((with_reducible refine wpA_lit rfl _ _ _ rfl ?_);first|refine litA1 hL ?_|refine litA2 hL ?_|refine litA3 hL ?_|refine litA4 hL ?_|refine litA6 hL ?_)|((with_reducible refine goJ rfl ?_);refine goW ?_))
    go_roundw
    case rel =>
     refine ⟨k+1,acc,by omega,by go_num,by omega,fun i hi=>?_,(hL.drop .here).drop .here⟩
     rw [HIN.out i hi,HST.out,←HCV.out i hi]
     have:inRun (-D1,D2+1) i=false:=by unfold inRun;simp;omega
     rw [this,Bool.or_false]
    case measure=>simp [intOf];omega
  ·have e:k=L.length:=by omega
   subst e
   have HN:=Lib.hid (fun w v (h:RunsAt w v acc)=>spanNorm_calls w v acc h W)
   rw [normTo hW (fun i hi=>(hin i hi).trans (HCL.out i).symm),HR.out] at HN
   clear hin
   replace hL:=hL.settle .here (φ:=fun w=>RunsAt w (.slice ga acc.length gc) acc) fun w h=>own_sliceAt h (by rw [List.length_map]) rfl (runC_lens _)
   go_wp2_with (first|(go_at_call 132;(with_reducible refine (HN.out _ _ hL.fact0).mono ?_);rintro e _ ⟨vr,rfl,hb,hf⟩;replace hL:=hL.callF hb hf;clear hb hf)|((with_reducible refine wpA_lit rfl _ _ _ rfl ?_);first|refine litA1 hL ?_|refine litA2 hL ?_|refine litA3 hL ?_|refine litA4 hL ?_|refine litA6 hL ?_))
   go_ret
   exact ⟨_,rfl,hL.below,hL.fresh⟩
open Go.RowKit
theorem six_boolsG:∀ b0 b1 b2 b3 b4 _b5:Bool,b0=false∨(b0=true∧b1=false)∨(b0=true∧b1=true∧b2=false)∨(b0=true∧b1=true∧b2=true∧b3=false)∨(b0=true∧b1=true∧b2=true∧b3=true∧b4=false)∨(b0=true∧b1=true∧b2=true∧b3=true∧b4=true):=by
 intro b0 b1 b2 b3 b4 b5
 cases b0 <;> cases b1 <;> cases b2 <;> cases b3 <;> cases b4 <;> simp
set_option maxRecDepth 100000 in
set_option maxHeartbeats 4000000 in
theorem strokeMay_calls (s:Sty) (w:World):Calls Tryz.prog 48 #[.agg #[.int .i64 s.wide,.int .i64 s.cap,.int .i64 s.join]] w fun e w'=>e=.returned (.bool (mayY s))∧Below w.heap.size w w':=by
 have hL:=Holds.start w
 have hR:mayY s=(decide (0≤s.wide)&&(decide (s.wide≤2048)&&(decide (0≤s.cap)&&(decide (s.cap≤2)&&(decide (0≤s.join)&&decide (s.join≤1)))))):=rfl
 generalize mayY s=R at *
 obtain ⟨wd,cap,join⟩:=s
 dsimp only at *
 obtain ⟨b0,d0⟩:∃ b,decide (0≤wd)=b:=⟨_,rfl⟩
 obtain ⟨b1,d1⟩:∃ b,decide (wd≤2048)=b:=⟨_,rfl⟩
 obtain ⟨b2,d2⟩:∃ b,decide (0≤cap)=b:=⟨_,rfl⟩
 obtain ⟨b3,d3⟩:∃ b,decide (cap≤2)=b:=⟨_,rfl⟩
 obtain ⟨b4,d4⟩:∃ b,decide (0≤join)=b:=⟨_,rfl⟩
 obtain ⟨b5,d5⟩:∃ b,decide (join≤1)=b:=⟨_,rfl⟩
 rw [d0,d1,d2,d3,d4,d5] at hR
 rcases six_boolsG b0 b1 b2 b3 b4 b5 with rfl|⟨rfl,rfl⟩|⟨rfl,rfl,rfl⟩|⟨rfl,rfl,rfl,rfl⟩|⟨rfl,rfl,rfl,rfl,rfl⟩|⟨rfl,rfl,rfl,rfl,rfl⟩
 all_goals
  have HR:=Lib.hid hR
  clear hR
  have n1:True:=trivial
  go_enter Tryz.func48,Tryz.ntmps48
  go_wp2_with (first|(clear hL n1;with_reducible intro bx wx hL)|((with_reducible refine goJ rfl ?_);refine goW ?_))
  go_ret
  exact ⟨ret_bool (by rw [HR.out];rfl),hL.below⟩
set_option maxRecDepth 100000 in
set_option maxHeartbeats 4000000 in
theorem hemMay_calls (w:World) (v:Value) (l:List Sg) (hv:SegsAt w v l) (s:Sty):Calls Tryz.prog 188 #[v,.agg #[.int .i64 s.wide,.int .i64 s.cap,.int .i64 s.join]] w fun e w'=>e=.returned (.bool (straightS l&&mayY s))∧Below w.heap.size w w':=by
 have Hv:=Lib.hid hv
 obtain ⟨a,cap,rfl,hlc,hcm,hel⟩:=hv.parts
 clear hv
 unfold maxLen at hcm
 have Hel:=Lib.hid hel;clear hel
 have hL:=Holds.start w
 have HNo:=Lib.hid (show ∀ k,k<l.length→(l.getD k default).kind=3→(straightS l&&mayY s)=false by
  intro k hk h
  have:(l.all fun s=>decide (s.kind≠3))=false:=by
   rw [List.all_eq_false]
   refine ⟨l[k],List.getElem_mem hk,?_⟩
   rw [show l[k]=l.getD k default by simp [hk],h];simp
  unfold straightS
  rw [this];simp)
 have HYes:=Lib.hid (show (∀ i,i<l.length→(l.getD i default).kind≠3)→(straightS l&&mayY s)=(pathMay l&&mayY s) by
  intro h
  have:(l.all fun s=>decide (s.kind≠3))=true:=by
   rw [List.all_eq_true]
   intro x hx
   obtain ⟨i,hi,rfl⟩:=List.getElem_of_mem hx
   have:=h i hi
   rw [show l.getD i default=l[i] by simp [hi]] at this
   simpa using this
  unfold straightS
  rw [this,Bool.and_true])
 have HMy:=Lib.hid (fun w=>strokeMay_calls s w)
 have HPm:=Lib.hid (fun w' (hb:Below w.heap.size w w')=>pathMay_calls w' (.slice a l.length cap) l (SliceAt.below Hv.out hb))
 generalize mayY s=my at *
 generalize straightS l=st at *
 generalize pathMay l=pm at *
 have n1:True:=trivial
 go_enter Tryz.func188,Tryz.ntmps188
 go_wp2_with (first|(with_reducible (clear hL n1;intro b1 w1 hL))|((with_reducible refine goJ rfl ?_);refine goW ?_))
 go_loopw [9] (fun s9 wr=>∃ k:Nat,k≤l.length∧s9=.int .i64 k∧(∀ i,i<k→(l.getD i default).kind≠3)∧Holds w wr [blk b1 #[.int .i64 s.wide,.int .i64 s.cap,.int .i64 s.join] 24] [])
  (fun s9 wr=>l.length-(intOf s9).toNat)
 case atStart=>exact ⟨0,by omega,rfl,fun i hi=>absurd hi (by omega),hL⟩
 case round =>
  clear hL
  obtain ⟨k,hk,rfl,hall,hL⟩:=hrel
  by_cases hkt:k<l.length
  ·obtain ⟨b,o,rfl,hc⟩:=Hel.out k hkt
   have hkb:(k:Int)<(l.length:Int):=by omega
   have HN:=Lib.hid (HNo.out k hkt)
   have HST:=Lib.hid (show (l.getD k default).kind≠3→∀ i,i<k+1→(l.getD i default).kind≠3 from fun h i hi=>by
    rcases (by omega:i<k∨i=k) with h2|rfl
    ·exact hall i h2
    ·exact h)
   clear hall
   generalize l.getD k default=q at *
   obtain ⟨kind,x,y,cx,cy⟩:=q
   unfold segC at hc
   dsimp only at hc HN HST
   by_cases h3:kind=3
   ·have HF:=Lib.hid (HN.out h3)
    subst h3
    obtain ⟨n1,n2⟩:=tok2
    clear n1
    go_wp2_with (first|(with_reducible first|(clear hL n2;intro b2 w2 hL)|(clear hL;intro _ hL))|((with_reducible refine goJ rfl ?_);refine goW ?_))
    go_ret
    exact ⟨ret_bool HF.out.symm,hL.below⟩
   ·have HS3:=Lib.hid (HST.out h3)
    have e3:(kind == 3)=false:=by simp [h3]
    clear h3
    obtain ⟨n1,n2⟩:=tok2
    clear n1
    go_wp2_with (first|(with_reducible first|(clear hL n2;intro b2 w2 hL)|(clear hL;intro _ hL))|((with_reducible refine goJ rfl ?_);refine goW ?_))
    go_roundw
    case rel=>exact ⟨k+1,by omega,by go_num,HS3.out,hL.drop .here⟩
    case measure=>simp [intOf];omega
  ·have e:k=l.length:=by omega
   subst e
   have HF:=Lib.hid (HYes.out hall)
   clear hall
   cases pm with
   | true =>
    go_wp2_with (first|(go_at_call 45;(with_reducible refine (HPm.out _ hL.below).mono ?_);rintro e _ ⟨rfl,hb⟩;replace hL:=hL.call hb;clear hb)|(go_at_call 48;(with_reducible refine (HMy.out _).mono ?_);rintro e _ ⟨rfl,hb⟩;replace hL:=hL.call hb;clear hb)|((with_reducible refine goJ rfl ?_);refine goW ?_))
    go_ret
    exact ⟨ret_bool HF.out.symm,hL.below⟩
   | false =>
    go_wp2_with (first|(go_at_call 45;(with_reducible refine (HPm.out _ hL.below).mono ?_);rintro e _ ⟨rfl,hb⟩;replace hL:=hL.call hb;clear hb)|(go_at_call 48;(with_reducible refine (HMy.out _).mono ?_);rintro e _ ⟨rfl,hb⟩;replace hL:=hL.call hb;clear hb)|((with_reducible refine goJ rfl ?_);refine goW ?_))
    go_ret
    exact ⟨ret_bool HF.out.symm,hL.below⟩
open Go.RowKit
def strokeReg (l:List Sg) (s:Sty) (W H:Nat):Reg:=⟨W,H,(List.range H).map fun (j:Nat)=>runsTo (fun i=>covL (allS l s) (16*(i:Int)+8) (16*(j:Int)+8)) W⟩
theorem wrapSm {a:Int} (h1 : -9223372036854775808≤a) (h2:a≤9223372036854775807):IntKind.i64.wrap a=a:=by rw [IntKind.wrap_i64];omega
set_option maxRecDepth 100000 in
set_option maxHeartbeats 4000000 in
theorem hemRegion_ok {W H:Nat} (hw0:0<W) (hw1:W≤64) (hh0:0<H) (hh1:H≤64) (w:World) (v:Value) (l:List Sg) (hv:SegsAt w v l) (s:Sty) (hst:straightS l=true) (hmy:mayY s=true) :
  Calls Tryz.prog 183 #[v,.agg #[.int .i64 s.wide,.int .i64 s.cap,.int .i64 s.join],.int .i64 W,.int .i64 H] w (RegOut (strokeReg l s W H) 0 w):=by
 have Hv:=Lib.hid hv
 obtain ⟨a,cap,rfl,_⟩:=hv.parts
 clear hv
 have hpm:pathMay l=true:=by unfold straightS at hst;simp at hst;exact hst.1
 have hgood:=allS_good (s:=s) hpm hmy
 have hlen:=allS_len l s
 have HM:=Lib.hid (fun w' (hb:Below w.heap.size w w')=>hemMay_calls w' (.slice a l.length cap) l (SliceAt.below Hv.out hb) s)
 rw [hst,hmy] at HM
 have HA:=Lib.hid (fun w' (hb:Below w.heap.size w w')=>hemAll_calls w' (.slice a l.length cap) l (SliceAt.below Hv.out hb) s hmy)
 have HR:=Lib.hid (show strokeReg l s W H=⟨W,H,(List.range H).map fun (j:Nat)=>runsTo (fun i=>covL (allS l s) (16*(i:Int)+8) (16*(j:Int)+8)) W⟩ from rfl)
 generalize allS l s=E at *
 have HI:=Lib.hid (show ∀ w' ve (j:Nat),j<H→ShpsAt w' ve E→Calls Tryz.prog 190 #[ve,.int .i64 (16*(j:Int)+8),.int .i64 W] w' (RunsOut ((fun (j:Nat)=>runsTo (fun i=>covL E (16*(i:Int)+8) (16*(j:Int)+8)) W) j) w') from
  fun w' ve j hj hv=>by
   have:=hemRow_calls w' ve E hv (by omega) hgood (16*(j:Int)+8) W (by omega) (by omega)
   rwa [Int.toNat_natCast] at this)
 generalize (fun (j:Nat)=>runsTo (fun i=>covL E (16*(i:Int)+8) (16*(j:Int)+8)) W)=row at *
 clear hlen hgood hpm hst hmy
 have hL:=Holds.start w
 obtain ⟨n1,n2,n3,n4⟩:=tok4
 go_enter Tryz.func183,Tryz.ntmps183
 go_wp2_with (first|(go_at_call 188;(with_reducible refine (HM.out _ hL.below).mono ?_);rintro e _ ⟨rfl,hb⟩;replace hL:=hL.call hb;clear hb)|(go_at_call 189;(with_reducible refine (HA.out _ hL.below).mono ?_);rintro e _ ⟨ve,rfl,hb,hf⟩;obtain ⟨ea,ec,rfl,_⟩:=ShpsAt.parts hf.now;replace hL:=hL.callF hb hf;clear hb hf)|(with_reducible first|(clear hL n1;intro b1 w1 hL)|(clear hL n2;intro b2 w2 hL)|(clear hL n3;intro b3 w3 hL)|(clear hL n4;intro b4 w4 hL)|(clear hL;intro _ hL))|((with_reducible refine goJ rfl ?_);refine goW ?_))
 go_loopw [45] (fun s45 wr=>∃ (j:Nat) (cs:Array Value),j≤H∧s45=.int .i64 j∧cs.size=H ∧
   Holds w wr [blk b4 #[.int .i64 W,.int .i64 H,.slice (some ⟨b3,0,none⟩) H H] 39,blk b3 cs 115,blk b2 #[.int .i64 0,.int .i64 0,.slice none 0 0] 39,blk b1 #[.int .i64 s.wide,.int .i64 s.cap,.int .i64 s.join] 24]
    [fun w=>∀ i,i<j→∃ v,cs[i]?=some v∧RunsAt w v (row i),fun w=>ShpsAt w (.slice ea E.length ec) E])
  (fun s45 wr=>(H-intOf s45).toNat)
 case atStart=>exact ⟨0,_,by omega,rfl,by simp,hL.triv (fun _ i hi=>by omega)⟩
 case round =>
  clear hL
  obtain ⟨j,cs,hj,rfl,hcs,hL⟩:=hrel
  have Hcs:=Lib.hid hcs;clear hcs
  by_cases hlt:j<H
  ·have hj2:(j:Int)<(H:Int):=by omega
   have hw16:IntKind.i64.wrap (16*(j:Int))=16*(j:Int):=wrapSm (by omega) (by omega)
   have hw8:IntKind.i64.wrap (16*(j:Int)+8)=16*(j:Int)+8:=wrapSm (by omega) (by omega)
   go_wp2_with (first|(with_reducible (clear hL;intro _ hL))|((with_reducible refine goJ rfl ?_);refine goW ?_))
   replace hL:=hL.drew
   have hS:(fun w':World=>w'.cell? ⟨b4,2,none⟩=some (.slice (some ⟨b3,0,none⟩) H H)) _:=(hL.cell (o:=2) .here).trans rfl
   refine wpM_begin (by kernel_rfl) (fun w':World=>w'.cell? ⟨b4,2,none⟩=some (.slice (some ⟨b3,0,none⟩) H H)) 10 ?_
   refine dsM 0 (.pointer (some ⟨b4,2,none⟩)) hS ?_
   refine drM 1 (.slice (some ⟨b3,0,none⟩) H H) hS ?_ ?_;(· exact fun w' hw=>(load_cell hw))
   refine dsM 2 (.int .i64 j) hS ?_
   refine dsM 3 (.slice ea E.length ec) hS ?_
   refine dsM 4 (.int .i64 j) hS ?_
   refine dsM 5 (.int .i64 (16*(j:Int))) hS ?_
   refine dsM 6 (.int .i64 (16*(j:Int)+8)) hS ?_
   refine dsM 7 (.int .i64 W) hS ?_
   refine wpM_one (i:=8) (by kernel_rfl) (wpOf ?_)
   refine st_call rfl 190 #[.slice ea E.length ec,.int .i64 (16*(j:Int)+8),.int .i64 W] (by go_simp) (HI.out _ _ j hlt hL.fact1) ?_
   rintro e w3 ⟨v3,rfl,hb,hf⟩
   obtain ⟨sa,sn,sc,rfl⟩:=SliceAt.shape hf.now
   replace hL:=hL.callF hb hf
   clear hb hf hS
   have hS:(fun w':World=>w'.cell? ⟨b4,2,none⟩=some (.slice (some ⟨b3,0,none⟩) H H)) w3:=(hL.cell (o:=2) .here).trans rfl
   refine ⟨_,rfl,fun _=>hS,?_⟩
   simp only [Act.put,setP]
   refine dsM 9 (.pointer (some ⟨b3,j,none⟩)) hS ?_
   refine wpM_one (i:=10) (by kernel_rfl) (wpOf ?_)
   refine st_store rfl _ _ _ rfl ⟨b3,j,none⟩ rfl (.slice sa sn sc) rfl (storeA hL (cs':=cs.setIfInBounds j (.slice sa sn sc)) (hu:=.there .here) (hoff:=by rw [Hcs.out];exact hlt) (hcs:=rfl) ?_)
   clear hL hS
   intro w8 hL
   refine ⟨fun h=>absurd rfl h,wpM_done (by kernel_rfl) ?_⟩
   simp only [Act.put]
   go_wp2
   go_roundw
   case rel =>
    refine ⟨j+1,cs.setIfInBounds j (.slice sa sn sc),by omega,by go_num,by rw [Array.size_setIfInBounds];exact Hcs.out,hL.join fun w' h1 h2 i hi=>?_⟩
    by_cases hij:i=j
    ·subst hij
     exact ⟨_,by rw [Array.getElem?_setIfInBounds,if_pos rfl,if_pos (by rw [Hcs.out];exact hlt)],h1⟩
    ·obtain ⟨v',e1,e2⟩:=h2 i (by omega)
     exact ⟨v',by rw [Array.getElem?_setIfInBounds,if_neg (fun e=>hij e.symm)];exact e1,e2⟩
   case measure=>simp [intOf];omega
  ·have e:j=H:=by omega
   subst e
   go_wp2_with (first|(with_reducible (clear hL;intro _ hL))|((with_reducible refine goJ rfl ?_);refine goW ?_))
   refine bodyPost_ret (results_row2 inferInstance rfl _ hL b2 rfl _ _ (.there (.there .here)) rfl) rfl ⟨_,rfl,hL.below,?_⟩
   rw [HR.out]
   refine ((hL.settle (.there .here) (φ:=fun w=>w.heap[b3]?=some (.cells cs 115 (0,0))) fun _ h=>h).join fun w' h1 h2=>?_).fresh
   exact ⟨_,rfl,by simpa using rows_of h1 Hcs.out (by unfold maxLen;omega) h2⟩
open Go.RowKit
theorem segs_blk {w0 w:World} {M:List Res} {Φ:List (World→Prop)} {b n:Nat} {cs:Array Value} {T:TypeId} {l:List Sg} (hL:Holds w0 w M Φ) (k:At M (blk b cs T)) (hn:n=l.length) (hcs:cs.toList=(l.map segC).flatten) (hm:n≤maxLen):SegsAt w (.slice (some ⟨b,0,none⟩) n n) l:=by
 subst hn
 exact hL.segsLit l k hcs hm
end Go.Proofs.YtmnoeoecjfhhbaaGreat
