/- Package hem: the shapes of a contour that goes somewhere. -/
import Derived.Test.YtmnoeoecjfhhbaaGreatHmC
import Derived.Deep.CutRange
namespace Go.Proofs.YtmnoeoecjfhhbaaGreat
open Go.RowKit
set_option maxRecDepth 100000 in
set_option maxHeartbeats 8000000 in
theorem hemShapes1 (w:World) (v:Value) (cx cy:Int) (es:List Edg) (sh:Bool) (hv:EdgesAt w v es) (hlen:es.length≤300) (wd cap join:Int) (hP:(piecesC ⟨cx,cy,es,sh⟩).length≠0) :
  Calls Tryz.prog 196 #[.agg #[.int .i64 cx,.int .i64 cy,v,.bool sh],.agg #[.int .i64 wd,.int .i64 cap,.int .i64 join]] w (ShpsOut (shapesL sh ⟨wd,cap,join⟩ (piecesC ⟨cx,cy,es,sh⟩) (piecesC ⟨cx,cy,es,sh⟩).length) w):=by
 have Hv:=Lib.hid hv
 obtain ⟨ea,ec,rfl,_⟩:=EdgesAt.parts hv
 clear hv
 have hL:=Holds.start w
 have hpl:=pieces_len ⟨cx,cy,es,sh⟩
 have HPi:=Lib.hid (fun w' (hb:Below w.heap.size w w')=>hemPieces_calls w' (.slice ea es.length ec) ⟨cx,cy,es,sh⟩ (SliceAt.below Hv.out hb) hlen)
 generalize piecesC ⟨cx,cy,es,sh⟩=P at *
 dsimp only at *
 have hP0:(0:Int)<(P.length:Int):=by omega
 have hP0n:decide (0<P.length)=true:=decide_eq_true (by omega)
 have HSE:Hid (∀ n i e,shapesE sh ⟨wd,cap,join⟩ n i e=[⟨e,wd,(decide (i=0)&&!sh)&&(cap == 2),(decide (i+1=n)&&!sh)&&(cap == 2),0⟩]++((if ((decide (i=0)&&!sh)&&(cap == 1)) || (!(decide (i=0)&&!sh)&&(join == 1)) then [around 1 e.x0 e.y0 wd] else [])++(if (decide (i+1=n)&&!sh)&&(cap == 1) then [around 1 e.x1 e.y1 wd] else []))):=Lib.hid fun n i e=>rfl
 obtain ⟨c2,hc2⟩:∃ c2,(cap == 2)=c2:=⟨_,rfl⟩
 obtain ⟨c1,hc1⟩:∃ c1,(cap == 1)=c1:=⟨_,rfl⟩
 obtain ⟨j1,hj1⟩:∃ j1,(join == 1)=j1:=⟨_,rfl⟩
 rw [hc1,hc2,hj1] at HSE
 obtain ⟨n1,n2⟩:=tok2
 go_enter Tryz.func196,Tryz.ntmps196
 go_wp2_with (first|(go_at_call 205;(with_reducible refine (HPi.out _ hL.below).mono ?_);rintro e _ ⟨vp,rfl,hb,hf⟩;obtain ⟨pa,pc,rfl,_⟩:=EdgesAt.parts hf.now;replace hL:=hL.callF hb hf;clear hb hf)|(with_reducible first|(clear hL n1;intro b1 w1 hL)|(clear hL n2;intro b2 w2 hL))|((with_reducible refine wpA_lit rfl _ _ _ rfl ?_);first|refine litA1 hL ?_|refine litA2 hL ?_|refine litA3 hL ?_|refine litA4 hL ?_|refine litA6 hL ?_)|((with_reducible refine goJ rfl ?_);refine goW ?_))
 go_loopw [6,57] (fun s6 s57 wr=>∃ (k:Nat) (acc:List Shp),k≤P.length∧s57=.int .i64 k∧acc=shapesL sh ⟨wd,cap,join⟩ P k∧Holds w wr [own w.heap.size 248 11 s6 acc.length (acc.map shpC).flatten,blk b2 #[.int .i64 wd,.int .i64 cap,.int .i64 join] 24,blk b1 #[.int .i64 cx,.int .i64 cy,.slice ea es.length ec,.bool sh] 239] [fun w=>EdgesAt w (.slice pa P.length pc) P])
  (fun s6 s57 wr=>P.length-(intOf s57).toNat)
 case atStart=>exact ⟨0,[],by omega,rfl,rfl,hL.newOwn⟩
 case round =>
  clear hL
  obtain ⟨k,acc,hk,rfl,hacc,hL⟩:=hrel
  obtain ⟨ga,gc,rfl⟩:=own_slice hL .here
  have hal:acc.length≤3*k:=by rw [hacc];exact shapesL_len _ _ _ _
  by_cases hkt:k<P.length
  ·obtain ⟨be,oe,rfl,hc⟩:∃ be oe,pa=some ⟨be,oe,none⟩∧World.rangeAt _ be (oe+k*7) (edgeC (P.getD k default)):=by
    obtain ⟨a',c',he,_,_,hel⟩:=EdgesAt.parts hL.fact0
    injection he with he _ _
    subst he
    exact hel k hkt
   have hkb:(k:Int)<(P.length:Int):=by omega
   have HST:=Lib.hid (shapesL_step sh ⟨wd,cap,join⟩ P k)
   rw [←hacc,HSE.out] at HST
   clear hacc
   generalize P.getD k default=e at *
   have wn:IntKind.i64.wrap ((P.length:Int)-1)=(P.length:Int)-1:=by rw [IntKind.wrap_i64];omega
   obtain ⟨x0,y0,bt,dx,dy,x1,y1⟩:=e
   unfold edgeC at hc
   dsimp only at hc HST
   obtain ⟨fb,hfb⟩:∃ fb,(decide (k=0)&&!sh)=fb:=⟨_,rfl⟩
   obtain ⟨lb,hlb⟩:∃ lb,(decide (k+1=P.length)&&!sh)=lb:=⟨_,rfl⟩
   rw [hfb,hlb] at HST
   have HFB:=Lib.hid hfb
   have HLB:=Lib.hid hlb
   clear hfb hlb
   obtain ⟨n1,n2,n3⟩:=tok3
   clear n1 n2
   go_upto_region 12 with (first|(with_reducible first|(clear hL n3;intro b3 w3 hL)|(clear hL;intro _ hL))|((with_reducible refine wpA_lit rfl _ _ _ rfl ?_);first|refine litA1 hL ?_|refine litA2 hL ?_|refine litA3 hL ?_|refine litA4 hL ?_|refine litA6 hL ?_)|((with_reducible refine goJ rfl ?_);refine goW ?_))
   try simp only [Act.put]
   go_cut [9,10] from 58 to 139 (fun s9 s10 wc=>s9=.bool fb∧s10=.bool lb∧Holds w wc [blk b3 #[.int .i64 x0,.int .i64 y0,.bool bt,.int .i64 dx,.int .i64 dy,.int .i64 x1,.int .i64 y1] 177,own w.heap.size 248 11 (.slice ga acc.length gc) acc.length (acc.map shpC).flatten,blk b2 #[.int .i64 wd,.int .i64 cap,.int .i64 join] 24,blk b1 #[.int .i64 cx,.int .i64 cy,.slice ea es.length ec,.bool sh] 239] [fun w=>EdgesAt w (.slice (some ⟨be,oe,none⟩) P.length pc) P])
   case first =>
    rcases (by omega:(k=0∧k+1=P.length)∨(k=0∧¬k+1=P.length)∨(¬k=0∧k+1=P.length)∨(¬k=0∧¬k+1=P.length)) with ⟨hk0,hkn⟩|⟨hk0,hkn⟩|⟨hk0,hkn⟩|⟨hk0,hkn⟩
    ·have e0:((k:Int) == 0)=true:=by simp;omega
     have en:((k:Int) == (P.length:Int)-1)=true:=by simp;omega
     have hF:(!sh)=fb:=by rw [←HFB.out];simp [hk0]
     have hG:(!sh)=lb:=by rw [←HLB.out];simp;omega
     have HF:=Lib.hid hF
     have HG:=Lib.hid hG
     clear hF hG hk0 hkn
     replace hL:=hL.drew
     have hS:(fun w':World=>w'.rangeAt b1 0 [.int .i64 cx,.int .i64 cy,.slice ea es.length ec,.bool sh]) _:=hL.range (by (repeat (first|with_reducible exact At.here|with_reducible apply At.there)))
     refine wpH_begin (by kernel_rfl) (fun w':World=>w'.rangeAt b1 0 [.int .i64 cx,.int .i64 cy,.slice ea es.length ec,.bool sh]) ?_
     refine dsH 0 (.int .i64 k) hS ?_
     refine dsH 1 (.bool true) hS ?_
     refine dsH 2 (.bool true) hS ?_
     refine dsH 3 (.pointer (some ⟨b1,3,none⟩)) hS ?_
     refine drH 4 (.bool sh) hS ?_ ?_;(· exact fun w' hw=>(load_cell (hw 3 _ rfl)))
     refine dsH 5 (.bool (!sh)) hS ?_
     refine dsH 6 (.bool (!sh)) hS ?_
     refine dsH 7 (.int .i64 k) hS ?_
     refine dsH 8 (.slice (some ⟨be,oe,none⟩) P.length pc) hS ?_
     refine dsH 9 (.int .i64 (P.length:Int)) hS ?_
     refine dsH 10 (.int .i64 ((P.length:Int)-1)) hS ?_
     refine dsH 11 (.bool true) hS ?_
     refine dsH 12 (.bool true) hS ?_
     refine dsH 13 (.pointer (some ⟨b1,3,none⟩)) hS ?_
     refine drH 14 (.bool sh) hS ?_ ?_;(· exact fun w' hw=>(load_cell (hw 3 _ rfl)))
     refine dsH 15 (.bool (!sh)) hS ?_
     refine dsH 16 (.bool (!sh)) hS ?_
     refine dsH 17 (.bool (!sh)) hS ?_
     refine dsH 18 (.bool (!sh)) hS ?_
     refine wpAnyH_done (by kernel_rfl) ?_ _
     clear hS
     go_wp2
     go_meet
     case rel=>exact ⟨by rw [HF.out],by rw [HG.out],hL⟩
    ·have e0:((k:Int) == 0)=true:=by simp;omega
     have en:((k:Int) == (P.length:Int)-1)=false:=by simp;omega
     have hF:(!sh)=fb:=by rw [←HFB.out];simp [hk0]
     have hG:false=lb:=by rw [←HLB.out];simp;omega
     have HF:=Lib.hid hF
     have HG:=Lib.hid hG
     clear hF hG hk0 hkn
     replace hL:=hL.drew
     have hS:(fun w':World=>w'.rangeAt b1 0 [.int .i64 cx,.int .i64 cy,.slice ea es.length ec,.bool sh]) _:=hL.range (by (repeat (first|with_reducible exact At.here|with_reducible apply At.there)))
     refine wpH_begin (by kernel_rfl) (fun w':World=>w'.rangeAt b1 0 [.int .i64 cx,.int .i64 cy,.slice ea es.length ec,.bool sh]) ?_
     refine dsH 0 (.int .i64 k) hS ?_
     refine dsH 1 (.bool true) hS ?_
     refine dsH 2 (.bool true) hS ?_
     refine dsH 3 (.pointer (some ⟨b1,3,none⟩)) hS ?_
     refine drH 4 (.bool sh) hS ?_ ?_;(· exact fun w' hw=>(load_cell (hw 3 _ rfl)))
     refine dsH 5 (.bool (!sh)) hS ?_
     refine dsH 6 (.bool (!sh)) hS ?_
     refine dsH 7 (.int .i64 k) hS ?_
     refine dsH 8 (.slice (some ⟨be,oe,none⟩) P.length pc) hS ?_
     refine dsH 9 (.int .i64 (P.length:Int)) hS ?_
     refine dsH 10 (.int .i64 ((P.length:Int)-1)) hS ?_
     refine dsH 11 (.bool false) hS ?_
     refine dsH 12 (.bool false) hS ?_
     refine skH (i:=13) hS ?_
     simp only [Act.put,setP]
     refine skH (i:=14) hS ?_
     simp only [Act.put,setP]
     refine skH (i:=15) hS ?_
     simp only [Act.put,setP]
     refine dsH 16 (.bool false) hS ?_
     refine dsH 17 (.bool (!sh)) hS ?_
     refine dsH 18 (.bool false) hS ?_
     refine wpAnyH_done (by kernel_rfl) ?_ _
     clear hS
     go_wp2
     go_meet
     case rel=>exact ⟨by rw [HF.out],by rw [HG.out],hL⟩
    ·have e0:((k:Int) == 0)=false:=by simp;omega
     have en:((k:Int) == (P.length:Int)-1)=true:=by simp;omega
     have hF:false=fb:=by rw [←HFB.out];simp [hk0]
     have hG:(!sh)=lb:=by rw [←HLB.out];simp;omega
     have HF:=Lib.hid hF
     have HG:=Lib.hid hG
     clear hF hG hk0 hkn
     replace hL:=hL.drew
     have hS:(fun w':World=>w'.rangeAt b1 0 [.int .i64 cx,.int .i64 cy,.slice ea es.length ec,.bool sh]) _:=hL.range (by (repeat (first|with_reducible exact At.here|with_reducible apply At.there)))
     refine wpH_begin (by kernel_rfl) (fun w':World=>w'.rangeAt b1 0 [.int .i64 cx,.int .i64 cy,.slice ea es.length ec,.bool sh]) ?_
     refine dsH 0 (.int .i64 k) hS ?_
     refine dsH 1 (.bool false) hS ?_
     refine dsH 2 (.bool false) hS ?_
     refine skH (i:=3) hS ?_
     simp only [Act.put,setP]
     refine skH (i:=4) hS ?_
     simp only [Act.put,setP]
     refine skH (i:=5) hS ?_
     simp only [Act.put,setP]
     refine dsH 6 (.bool false) hS ?_
     refine dsH 7 (.int .i64 k) hS ?_
     refine dsH 8 (.slice (some ⟨be,oe,none⟩) P.length pc) hS ?_
     refine dsH 9 (.int .i64 (P.length:Int)) hS ?_
     refine dsH 10 (.int .i64 ((P.length:Int)-1)) hS ?_
     refine dsH 11 (.bool true) hS ?_
     refine dsH 12 (.bool true) hS ?_
     refine dsH 13 (.pointer (some ⟨b1,3,none⟩)) hS ?_
     refine drH 14 (.bool sh) hS ?_ ?_;(· exact fun w' hw=>(load_cell (hw 3 _ rfl)))
     refine dsH 15 (.bool (!sh)) hS ?_
     refine dsH 16 (.bool (!sh)) hS ?_
     refine dsH 17 (.bool false) hS ?_
     refine dsH 18 (.bool (!sh)) hS ?_
     refine wpAnyH_done (by kernel_rfl) ?_ _
     clear hS
     go_wp2
     go_meet
     case rel=>exact ⟨by rw [HF.out],by rw [HG.out],hL⟩
    ·have e0:((k:Int) == 0)=false:=by simp;omega
     have en:((k:Int) == (P.length:Int)-1)=false:=by simp;omega
     have hF:false=fb:=by rw [←HFB.out];simp [hk0]
     have hG:false=lb:=by rw [←HLB.out];simp;omega
     have HF:=Lib.hid hF
     have HG:=Lib.hid hG
     clear hF hG hk0 hkn
     replace hL:=hL.drew
     have hS:(fun w':World=>w'.rangeAt b1 0 [.int .i64 cx,.int .i64 cy,.slice ea es.length ec,.bool sh]) _:=hL.range (by (repeat (first|with_reducible exact At.here|with_reducible apply At.there)))
     refine wpH_begin (by kernel_rfl) (fun w':World=>w'.rangeAt b1 0 [.int .i64 cx,.int .i64 cy,.slice ea es.length ec,.bool sh]) ?_
     refine dsH 0 (.int .i64 k) hS ?_
     refine dsH 1 (.bool false) hS ?_
     refine dsH 2 (.bool false) hS ?_
     refine skH (i:=3) hS ?_
     simp only [Act.put,setP]
     refine skH (i:=4) hS ?_
     simp only [Act.put,setP]
     refine skH (i:=5) hS ?_
     simp only [Act.put,setP]
     refine dsH 6 (.bool false) hS ?_
     refine dsH 7 (.int .i64 k) hS ?_
     refine dsH 8 (.slice (some ⟨be,oe,none⟩) P.length pc) hS ?_
     refine dsH 9 (.int .i64 (P.length:Int)) hS ?_
     refine dsH 10 (.int .i64 ((P.length:Int)-1)) hS ?_
     refine dsH 11 (.bool false) hS ?_
     refine dsH 12 (.bool false) hS ?_
     refine skH (i:=13) hS ?_
     simp only [Act.put,setP]
     refine skH (i:=14) hS ?_
     simp only [Act.put,setP]
     refine skH (i:=15) hS ?_
     simp only [Act.put,setP]
     refine dsH 16 (.bool false) hS ?_
     refine dsH 17 (.bool false) hS ?_
     refine dsH 18 (.bool false) hS ?_
     refine wpAnyH_done (by kernel_rfl) ?_ _
     clear hS
     go_wp2
     go_meet
     case rel=>exact ⟨by rw [HF.out],by rw [HG.out],hL⟩
   case rest =>
    clear hL
    obtain ⟨rfl,rfl,hL⟩:=hcut
    clear HFB HLB
    obtain ⟨pc1,hpc1⟩:∃ q:Shp,(⟨⟨x0,y0,bt,dx,dy,x1,y1⟩,wd,fb&&c2,lb&&c2,0⟩:Shp)=q:=⟨_,rfl⟩
    rw [hpc1] at HST
    have HPC:=Lib.hid hpc1
    clear hpc1
    go_upto_region 13 with (fail)
    go_cut [6] from 58 to 139 (fun s6 wc=>Holds w wc [blk b3 #[.int .i64 x0,.int .i64 y0,.bool bt,.int .i64 dx,.int .i64 dy,.int .i64 x1,.int .i64 y1] 177,own w.heap.size 248 11 s6 (acc.length+1) ((acc++[pc1]).map shpC).flatten,blk b2 #[.int .i64 wd,.int .i64 cap,.int .i64 join] 24,blk b1 #[.int .i64 cx,.int .i64 cy,.slice ea es.length ec,.bool sh] 239] [fun w=>EdgesAt w (.slice (some ⟨be,oe,none⟩) P.length pc) P])
    case first =>
     cases fb <;> cases lb
     all_goals
      have n3:True:=trivial
      go_wp2_with (first|(with_reducible first|(clear hL;intro _ _ _ hL;try dsimp only at hL)|(clear hL n3;intro b3 w3 hL))|((with_reducible refine wpA_lit rfl _ _ _ rfl ?_);first|refine litA1 hL ?_|refine litA2 hL ?_|refine litA3 hL ?_|refine litA4 hL ?_|refine litA6 hL ?_)|((with_reducible refine goJ rfl ?_);refine goW ?_))
      go_meet
      case rel =>
       rw [←HPC.out,shp_snoc]
       exact hL
    case rest =>
     clear hL
     have hL:=hcut
     clear hcut HPC
     obtain ⟨g4,c4,rfl⟩:=own_slice hL (.there .here)
     obtain ⟨db,hdb⟩:∃ db,((fb&&c1) || (!fb&&j1))=db:=⟨_,rfl⟩
     rw [hdb] at HST
     have HDB:=Lib.hid hdb
     clear hdb
     go_upto_region 14 with (fail)
     go_cut [112] from 58 to 139 (fun s112 wc=>s112=.bool db∧Holds w wc [blk b3 #[.int .i64 x0,.int .i64 y0,.bool bt,.int .i64 dx,.int .i64 dy,.int .i64 x1,.int .i64 y1] 177,own w.heap.size 248 11 (.slice g4 (acc.length+1) c4) (acc.length+1) ((acc++[pc1]).map shpC).flatten,blk b2 #[.int .i64 wd,.int .i64 cap,.int .i64 join] 24,blk b1 #[.int .i64 cx,.int .i64 cy,.slice ea es.length ec,.bool sh] 239] [fun w=>EdgesAt w (.slice (some ⟨be,oe,none⟩) P.length pc) P])
     case first =>
      cases fb
      ·go_wp2_with (first|((with_reducible refine wpA_lit rfl _ _ _ rfl ?_);first|refine litA1 hL ?_|refine litA2 hL ?_|refine litA3 hL ?_|refine litA4 hL ?_|refine litA6 hL ?_)|((with_reducible refine goJ rfl ?_);refine goW ?_))
       go_meet
       case rel=>exact ⟨by rw [←HDB.out];simp,hL⟩
      ·cases c1
       ·go_wp2_with (first|((with_reducible refine wpA_lit rfl _ _ _ rfl ?_);first|refine litA1 hL ?_|refine litA2 hL ?_|refine litA3 hL ?_|refine litA4 hL ?_|refine litA6 hL ?_)|((with_reducible refine goJ rfl ?_);refine goW ?_))
        go_meet
        case rel=>exact ⟨by rw [←HDB.out];simp,hL⟩
       ·go_wp2_with (first|((with_reducible refine wpA_lit rfl _ _ _ rfl ?_);first|refine litA1 hL ?_|refine litA2 hL ?_|refine litA3 hL ?_|refine litA4 hL ?_|refine litA6 hL ?_)|((with_reducible refine goJ rfl ?_);refine goW ?_))
        go_meet
        case rel=>exact ⟨by rw [←HDB.out];simp,hL⟩
     case rest =>
      clear hL HDB
      obtain ⟨rfl,hL⟩:=hcut
      go_upto_if 112 with (fail)
      go_cut [6] from 58 to 139 (fun s6 wc=>Holds w wc [blk b3 #[.int .i64 x0,.int .i64 y0,.bool bt,.int .i64 dx,.int .i64 dy,.int .i64 x1,.int .i64 y1] 177,own w.heap.size 248 11 s6 (acc.length+1+(if db then [around 1 x0 y0 wd] else []).length) ((acc++[pc1]).map shpC++(if db then [around 1 x0 y0 wd] else []).map shpC).flatten,blk b2 #[.int .i64 wd,.int .i64 cap,.int .i64 join] 24,blk b1 #[.int .i64 cx,.int .i64 cy,.slice ea es.length ec,.bool sh] 239] [fun w=>EdgesAt w (.slice (some ⟨be,oe,none⟩) P.length pc) P])
      case first =>
       cases db
       ·go_wp2_with (first|((with_reducible refine wpA_lit rfl _ _ _ rfl ?_);first|refine litA1 hL ?_|refine litA2 hL ?_|refine litA3 hL ?_|refine litA4 hL ?_|refine litA6 hL ?_)|((with_reducible refine goJ rfl ?_);refine goW ?_))
        go_meet
        case rel=>simpa using hL
       ·have n3:True:=trivial
        go_wp2_with (first|(go_at_call 206;(with_reducible refine (around_calls _ _ _ _ _ _ _).mono ?_);rintro e _ ⟨rfl,hb⟩;replace hL:=hL.call hb;clear hb)|(with_reducible first|(clear hL;intro _ _ _ hL;try dsimp only at hL)|(clear hL n3;intro b3 w3 hL))|((with_reducible refine wpA_lit rfl _ _ _ rfl ?_);first|refine litA1 hL ?_|refine litA2 hL ?_|refine litA3 hL ?_|refine litA4 hL ?_|refine litA6 hL ?_)|((with_reducible refine goJ rfl ?_);refine goW ?_))
        go_meet
        case rel =>
         rw [List.flatten_append]
         exact hL
      case rest =>
       clear hL
       have hL:=hcut
       clear hcut
       rw [←List.map_append] at hL
       have hD1:(if db then [around 1 x0 y0 wd] else []).length≤1:=by split <;> simp
       generalize (if db then [around 1 x0 y0 wd] else [])=D1 at *
       obtain ⟨g5,c5,rfl⟩:=own_slice hL (.there .here)
       have n3:True:=trivial
       cases lb
       ·go_wp2_with (first|((with_reducible refine wpA_lit rfl _ _ _ rfl ?_);first|refine litA1 hL ?_|refine litA2 hL ?_|refine litA3 hL ?_|refine litA4 hL ?_|refine litA6 hL ?_)|((with_reducible refine goJ rfl ?_);refine goW ?_))
        go_roundw
        case rel =>
         refine ⟨k+1,acc++[pc1]++D1,by omega,by go_num,by rw [HST.out];simp,?_⟩
         rw [show (acc++[pc1]++D1).length=acc.length+1+D1.length by simp;omega]
         exact hL.drop .here
        case measure=>simp [intOf];omega
       ·cases c1
        ·go_wp2_with (first|((with_reducible refine wpA_lit rfl _ _ _ rfl ?_);first|refine litA1 hL ?_|refine litA2 hL ?_|refine litA3 hL ?_|refine litA4 hL ?_|refine litA6 hL ?_)|((with_reducible refine goJ rfl ?_);refine goW ?_))
         go_roundw
         case rel =>
          refine ⟨k+1,acc++[pc1]++D1,by omega,by go_num,by rw [HST.out];simp,?_⟩
          rw [show (acc++[pc1]++D1).length=acc.length+1+D1.length by simp;omega]
          exact hL.drop .here
         case measure=>simp [intOf];omega
        ·go_wp2_with (first|(go_at_call 206;(with_reducible refine (around_calls _ _ _ _ _ _ _).mono ?_);rintro e _ ⟨rfl,hb⟩;replace hL:=hL.call hb;clear hb)|(with_reducible first|(clear hL;intro _ _ _ hL;try dsimp only at hL)|(clear hL n3;intro b3 w3 hL))|((with_reducible refine wpA_lit rfl _ _ _ rfl ?_);first|refine litA1 hL ?_|refine litA2 hL ?_|refine litA3 hL ?_|refine litA4 hL ?_|refine litA6 hL ?_)|((with_reducible refine goJ rfl ?_);refine goW ?_))
         go_roundw
         case rel =>
          refine ⟨k+1,acc++[pc1]++D1++[around 1 x1 y1 wd],by omega,by go_num,by rw [HST.out];simp,?_⟩
          rw [show (acc++[pc1]++D1++[around 1 x1 y1 wd]).length=acc.length+1+D1.length+1 by simp;omega,shp_snoc]
          exact hL.drop .here
         case measure=>simp [intOf];omega
  ·have e:k=P.length:=by omega
   subst e
   have HA:=Lib.hid hacc
   clear hacc
   go_wp2_with (first|(with_reducible first|(clear hL;intro _ _ _ hL;try dsimp only at hL)|(clear hL n3;intro b3 w3 hL))|((with_reducible refine wpA_lit rfl _ _ _ rfl ?_);first|refine litA1 hL ?_|refine litA2 hL ?_|refine litA3 hL ?_|refine litA4 hL ?_|refine litA6 hL ?_)|((with_reducible refine goJ rfl ?_);refine goW ?_))
   go_ret
   rw [←HA.out]
   exact ⟨_,rfl,hL.below,(hL.settle .here (φ:=fun w=>ShpsAt w (.slice ga acc.length gc) acc) fun w h=>own_sliceAt h (by rw [List.length_map]) rfl (shpC_len _)).fresh⟩
end Go.Proofs.YtmnoeoecjfhhbaaGreat
