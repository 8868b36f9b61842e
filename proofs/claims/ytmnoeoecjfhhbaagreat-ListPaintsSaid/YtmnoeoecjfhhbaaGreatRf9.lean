/- Package tympanref36: Paint. -/
import Derived.Test.YtmnoeoecjfhhbaaGreatRf7
namespace Go.Proofs.YtmnoeoecjfhhbaaGreat
open Go.RowKit
set_option maxRecDepth 100000 in
theorem rBlend_calls (u o a:Int) (hu:0≤u∧u≤255) (ho:0≤o∧o≤255) (ha:0≤a∧a≤255) (w:World):Calls Tryz.prog 107 #[.int .i64 u,.int .i64 o,.int .i64 a] w fun e w'=>e=.returned (.int .u8 (blend u o a))∧w=w':=by
 have hR:blend u o a=(2*(u*(255-a)+o*a)+255) / 510:=rfl
 have hb:=blend_bd hu.1 hu.2 ho.1 ho.2 ha.1 ha.2
 have m1:=Int.mul_le_mul (show u≤255 by omega) (show 255-a≤255 by omega) (by omega) (by omega)
 have m2:=Int.mul_le_mul (show o≤255 by omega) (show a≤255 by omega) (by omega) (by omega)
 have m3:0≤u*(255-a):=Int.mul_nonneg (by omega) (by omega)
 have m4:0≤o*a:=Int.mul_nonneg (by omega) (by omega)
 generalize blend u o a=R at *
 have w0:IntKind.i64.wrap (255-a)=255-a:=wrapS (by omega) (by omega)
 generalize hx:u*(255-a)=x at *
 generalize hy:o*a=y at *
 have hq:(2*(x+y)+255).tdiv 510=R:=by rw [hR,Int.tdiv_eq_ediv_of_nonneg (by omega)]
 clear hR
 have w1:IntKind.i64.wrap x=x:=wrapS (by omega) (by omega)
 have w2:IntKind.i64.wrap y=y:=wrapS (by omega) (by omega)
 have w3:IntKind.u8.wrap R=R:=convU hb.1 hb.2
 go_enter Tryz.func107,Tryz.ntmps107
 go_wp2
 go_ret
 exact ⟨by first|rfl|(rw [←hq];go_num),rfl⟩
set_option maxRecDepth 100000 in
set_option maxHeartbeats 4000000 in
theorem rGrey_calls (i:Img) (ok:ImgOk i) (v:Int) (h0:0≤v) (h1:v<2^i.bits.toNat) (w:World):Calls Tryz.prog 106 #[imgV i,.int .i64 v] w fun e w'=>e=.returned (.int .u8 (greyI i v))∧Below w.heap.size w w':=by
 have hR:greyI i v=v*255 / (2^i.bits.toNat-1):=rfl
 have hb:=greyI_bd ok h0 h1
 have hbits:=ok.bits
 generalize greyI i v=R at *
 clear ok
 obtain ⟨W,H,bits,data⟩:=i
 unfold imgV
 dsimp only at *
 have hv:v≤255:=by rcases hbits with e|e|e|e <;> rw [e] at h1 <;> simp at h1 <;> omega
 have w1:IntKind.i64.wrap (255*v)=255*v:=wrapS (by omega) (by omega)
 have w3:IntKind.i64.wrap R=R:=wrapS (by omega) (by omega)
 have w4:IntKind.u8.wrap R=R:=convU hb.1 hb.2
 have hL:=Holds.start w
 rcases hbits with rfl|rfl|rfl|rfl
 ·have hdv:255*v=R:=by rw [hR,show ((2:Int)^(1:Int).toNat-1)=1 from by decide];omega
  clear hR h1
  have n1:True:=trivial
  go_enter Tryz.func106,Tryz.ntmps106
  go_wp2_with (first|(with_reducible (clear hL n1;intro b1 w1 hL))|((with_reducible refine goJ rfl ?_);refine goP ?_))
  go_ret
  exact ⟨by first|rfl|(rw [←hdv];go_num),hL.below⟩
 ·have hdv:(255*v).tdiv 3=R:=by rw [hR,show ((2:Int)^(2:Int).toNat-1)=3 from by decide,Int.mul_comm 255 v];exact Int.tdiv_eq_ediv_of_nonneg (by omega)
  clear hR h1
  have n1:True:=trivial
  go_enter Tryz.func106,Tryz.ntmps106
  go_wp2_with (first|(with_reducible (clear hL n1;intro b1 w1 hL))|((with_reducible refine goJ rfl ?_);refine goP ?_))
  go_ret
  exact ⟨by first|rfl|(rw [←hdv];go_num),hL.below⟩
 ·have hdv:(255*v).tdiv 15=R:=by rw [hR,show ((2:Int)^(4:Int).toNat-1)=15 from by decide,Int.mul_comm 255 v];exact Int.tdiv_eq_ediv_of_nonneg (by omega)
  clear hR h1
  have n1:True:=trivial
  go_enter Tryz.func106,Tryz.ntmps106
  go_wp2_with (first|(with_reducible (clear hL n1;intro b1 w1 hL))|((with_reducible refine goJ rfl ?_);refine goP ?_))
  go_ret
  exact ⟨by first|rfl|(rw [←hdv];go_num),hL.below⟩
 ·have hdv:(255*v).tdiv 255=R:=by rw [hR,show ((2:Int)^(8:Int).toNat-1)=255 from by decide,Int.mul_comm 255 v];exact Int.tdiv_eq_ediv_of_nonneg (by omega)
  clear hR h1
  have n1:True:=trivial
  go_enter Tryz.func106,Tryz.ntmps106
  go_wp2_with (first|(with_reducible (clear hL n1;intro b1 w1 hL))|((with_reducible refine goJ rfl ?_);refine goP ?_))
  go_ret
  exact ⟨by first|rfl|(rw [←hdv];go_num),hL.below⟩
set_option maxRecDepth 100000 in
set_option maxHeartbeats 8000000 in
theorem rNew_calls {W H:Nat} (hs:Sides W H) (w:World):Calls Tryz.prog 64 #[.int .i64 W,.int .i64 H] w (PageOut W H (fun _=>255) w):=by
 obtain ⟨m1,m2,m3,m4⟩:=page_mul hs
 have HW:=Lib.hid (fun w=>rIsSide_calls (W:Int) w)
 have HH:=Lib.hid (fun w=>rIsSide_calls (H:Int) w)
 rw [side_nat hs.w0 hs.w1] at HW
 rw [side_nat hs.h0 hs.h1] at HH
 have hw0:=hs.w0;have hw1:=hs.w1;have hh0:=hs.h0;have hh1:=hs.h1
 generalize hN:3*W*H=N at *
 have Hn:=Lib.hid hN
 clear hN
 have hL:=Holds.start w
 obtain ⟨n1,n2,n3⟩:=tok3
 go_enter Tryz.func64,Tryz.ntmps64
 go_wp2_with (first|(go_at_call 33;(with_reducible first|refine (HW.out _).mono ?_|refine (HH.out _).mono ?_);rintro e _ ⟨rfl,rfl⟩)|((with_reducible refine wpA_make rfl _ _ _ rfl _ rfl rfl ?_);refine makeP N (by omega) (by omega) hL ?_)|(with_reducible first|(clear hL n1;intro b1 w1 hL)|(clear hL n2;intro b2 w2 hL)|(clear hL n3;intro b3 w3 hL)|(clear hL;intro _ hL))|((with_reducible refine goJ rfl ?_);refine goP ?_))
 rw [show arrU N (fun _=>0)=arrU N (fun x=>if x<0 then 255 else 0) from arrU_congr fun x _=>by simp] at hL
 go_loopw [7] (fun s7 wr=>∃ k:Nat,k≤N∧s7=.int .i64 k∧Holds w wr [blk b3 #[.int .i64 W,.int .i64 H,.slice (some ⟨b2,0,none⟩) N N] 53,blk b2 (arrU N (fun x=>if x<k then 255 else 0)) 5,blk b1 #[.int .i64 0,.int .i64 0,.slice none 0 0] 53] [])
  (fun s7 wr=>N-(intOf s7).toNat)
 case atStart=>exact ⟨0,by omega,rfl,hL⟩
 case round =>
  clear hL
  obtain ⟨k,hk,rfl,hL⟩:=hrel
  by_cases hkt:k<N
  ·have hkb:(k:Int)<(N:Int):=by omega
   go_wp2_with (first|(with_reducible (clear hL;intro _ hL))|((with_reducible refine goJ rfl ?_);refine goP ?_))
   go_roundw
   case rel =>
    rw [ones_put] at hL
    exact ⟨k+1,by omega,by go_num,hL⟩
   case measure=>simp [intOf];omega
  ·have e:k=N:=by omega
   subst e
   go_wp2_with (first|(with_reducible (clear hL;intro _ hL))|((with_reducible refine goJ rfl ?_);refine goP ?_))
   have hr:=Hn.out
   subst hr
   refine bodyPost_ret (results_row2 inferInstance rfl _ hL b1 rfl _ _ (by (repeat (first|with_reducible exact At.here|with_reducible apply At.there))) rfl) rfl ⟨_,_,rfl,hL.below,?_⟩
   refine ((hL.settle (.there .here) (φ:=fun w=>w.heap[b2]?=some (.cells (arrU (3*W*H) (fun x=>if x<3*W*H then 255 else 0)) 5 (0,0))) fun _ h=>h).map fun w' h1=>?_).fresh
   refine ⟨_,rfl,?_⟩
   have:=bytes_of h1 (by unfold maxLen;omega)
   rwa [show (List.range (3*W*H)).map (fun x=>if x<3*W*H then (255:Int) else 0)=(List.range (3*W*H)).map (fun _=>255) from List.map_congr_left fun x hx=>by rw [if_pos (by simpa using hx)]] at this
set_option maxRecDepth 100000 in
set_option maxHeartbeats 8000000 in
theorem rNew_no (w:World) (Wi Hi:Int) (h:(isSide Wi&&isSide Hi)=false):Calls Tryz.prog 64 #[.int .i64 Wi,.int .i64 Hi] w fun e w'=>e=.returned (.tuple #[.agg #[.int .i64 0,.int .i64 0,.slice none 0 0],.int .i64 1])∧Below w.heap.size w w':=by
 have HW:=Lib.hid (fun w=>rIsSide_calls Wi w)
 have HH:=Lib.hid (fun w=>rIsSide_calls Hi w)
 generalize isSide Wi=b0 at *
 generalize isSide Hi=b1' at *
 have hL:=Holds.start w
 rcases (show ∀ b1 b2:Bool,(b1&&b2)=false→b1=false∨(b1=true∧b2=false) by decide) b0 b1' h with rfl|⟨rfl,rfl⟩
 all_goals
  clear h
  have n1:True:=trivial
  go_enter Tryz.func64,Tryz.ntmps64
  go_wp2_with (first|(go_at_call 33;(with_reducible first|refine (HW.out _).mono ?_|refine (HH.out _).mono ?_);rintro e _ ⟨rfl,rfl⟩)|(with_reducible first|(clear hL n1;intro b1 w1 hL)|(clear hL;intro _ hL))|((with_reducible refine goJ rfl ?_);refine goP ?_))
  exact bodyPost_ret (results_row2 inferInstance rfl _ hL b1 rfl _ _ .here rfl) rfl ⟨rfl,hL.below⟩
set_option maxRecDepth 100000 in
set_option maxHeartbeats 8000000 in
theorem rPageMay_calls {W H:Nat} (hs:Sides W H) (a:Option Addr) (c:Nat) (w:World):Calls Tryz.prog 131 #[.agg #[.int .i64 W,.int .i64 H,.slice a (3*W*H) c]] w fun e w'=>e=.returned (.bool true)∧Below w.heap.size w w':=by
 obtain ⟨m1,m2,m3,m4⟩:=page_mul hs
 have HW:=Lib.hid (fun w=>rIsSide_calls (W:Int) w)
 have HH:=Lib.hid (fun w=>rIsSide_calls (H:Int) w)
 rw [side_nat hs.w0 hs.w1] at HW
 rw [side_nat hs.h0 hs.h1] at HH
 generalize 3*W*H=N at *
 clear hs
 have hL:=Holds.start w
 have n1:True:=trivial
 go_enter Tryz.func131,Tryz.ntmps131
 go_wp2_with (first|(go_at_call 33;(with_reducible first|refine (HW.out _).mono ?_|refine (HH.out _).mono ?_);rintro e _ ⟨rfl,rfl⟩)|(with_reducible (clear hL n1;intro b1 w1 hL))|((with_reducible refine goJ rfl ?_);refine goP ?_))
 go_ret
 exact ⟨ret_bool (by simp),hL.below⟩
set_option maxRecDepth 100000 in
set_option maxHeartbeats 8000000 in
theorem rFairP_calls {W H:Nat} (hs:Sides W H) (a:Option Addr) (c:Nat) (sa:Option Addr) (sn sc:Nat) (q:Nat→Nat→Bool) (w:World) (hr:RegAt w (.agg #[.int .i64 W,.int .i64 H,.slice sa sn sc]) (pixReg W H q)):Calls Tryz.prog 102 #[.agg #[.int .i64 W,.int .i64 H,.slice a (3*W*H) c],.agg #[.int .i64 W,.int .i64 H,.slice sa sn sc]] w fun e w'=>e=.returned (.bool true)∧Below w.heap.size w w':=by
 have HM:=Lib.hid (fun w=>rPageMay_calls hs a c w)
 have HR:=Lib.hid (fun w' (hb:Below w.heap.size w w')=>refMayRegT_calls w' _ _ (hr.below hb) (pix_may hs.w0 hs.w1 hs.h0 hs.h1 q))
 generalize 3*W*H=N at *
 clear hs hr
 have hL:=Holds.start w
 obtain ⟨n1,n2⟩:=tok2
 go_enter Tryz.func102,Tryz.ntmps102
 go_wp2_with (first|(go_at_call 131;(with_reducible refine (HM.out _).mono ?_);rintro e _ ⟨rfl,hb⟩;replace hL:=hL.call hb;clear hb)|(go_at_call 75;(with_reducible refine (HR.out _ hL.below).mono ?_);rintro e _ ⟨rfl,hb⟩;replace hL:=hL.call hb;clear hb)|(with_reducible first|(clear hL n1;intro b1 w1 hL)|(clear hL n2;intro b2 w2 hL))|((with_reducible refine goJ rfl ?_);refine goP ?_))
 go_ret
 exact ⟨ret_bool (by simp),hL.below⟩
set_option maxRecDepth 100000 in
set_option maxHeartbeats 8000000 in
theorem rCopied_calls {W H:Nat} (hs:Sides W H) (v:Value) (f:Nat→Int) (w:World) (hp:PageF v W H f w):Calls Tryz.prog 103 #[v] w fun e w'=>∃ a c B,e=.returned (.agg #[.int .i64 W,.int .i64 H,.slice a (3*W*H) c])∧Holds w w' [pix B (.slice a (3*W*H) c) (3*W*H) f] []:=by
 obtain ⟨pa,pc,rfl,_,_,hB⟩:=hp.shape
 obtain ⟨m1,_,_,_⟩:=page_mul hs
 clear hp
 generalize 3*W*H=N at *
 have HB:=Lib.hid (fun w' (hb:Below w.heap.size w w')=>SliceAt.below hB hb)
 clear hB hs
 have hL:=Holds.start w
 obtain ⟨n1,n2,n3⟩:=tok3
 go_enter Tryz.func103,Tryz.ntmps103
 go_wp2_with (first|(with_reducible first|(clear hL n1;intro b1 w1 hL)|(clear hL n2;intro b2 w2 hL))|((with_reducible refine wpA_lit rfl _ _ _ rfl ?_);first|refine litA1 hL ?_|refine litA2 hL ?_|refine litA3 hL ?_|refine litA4 hL ?_|refine litA6 hL ?_)|((with_reducible refine goJ rfl ?_);refine goP ?_))
 replace hL:=hL.drew
 refine wpV_begin (by kernel_rfl) (fun (k':Nat) (w':World)=>k'<9→w'.cell? ⟨b1,0,none⟩=some (.int .i64 W)∧w'.cell? ⟨b1,1,none⟩=some (.int .i64 H)∧w'.cell? ⟨b1,2,none⟩=some (.slice pa N pc)) 9 ?_
 refine deV 0 (fun k' _ _=>⟨(hL.cellA).trans rfl,(hL.cellA).trans rfl,(hL.cellA).trans rfl⟩) ?_
 refine dlV 1 ?_ (fun k' _ _=>⟨(hL.cellA).trans rfl,(hL.cellA).trans rfl,(hL.cellA).trans rfl⟩) (fun w' hw=>?_) ?_;rotate_left;(· obtain ⟨hw1,hw2,hw3⟩:=hw (by decide);refine loadD ?_;rfl)
 simp only [Act.put,setP]
 refine deV 2 (fun k' _ _=>⟨(hL.cellA).trans rfl,(hL.cellA).trans rfl,(hL.cellA).trans rfl⟩) ?_
 refine dlV 3 ?_ (fun k' _ _=>⟨(hL.cellA).trans rfl,(hL.cellA).trans rfl,(hL.cellA).trans rfl⟩) (fun w' hw=>?_) ?_;rotate_left;(· obtain ⟨hw1,hw2,hw3⟩:=hw (by decide);refine loadD ?_;rfl)
 simp only [Act.put,setP]
 refine deV 5 (fun k' _ _=>⟨(hL.cellA).trans rfl,(hL.cellA).trans rfl,(hL.cellA).trans rfl⟩) ?_
 refine dlV 6 ?_ (fun k' _ _=>⟨(hL.cellA).trans rfl,(hL.cellA).trans rfl,(hL.cellA).trans rfl⟩) (fun w' hw=>?_) ?_;rotate_left;(· obtain ⟨hw1,hw2,hw3⟩:=hw (by decide);refine loadD ?_;rfl)
 simp only [Act.put,setP]
 refine wpV_one (i:=4) (by kernel_rfl) (wpOf ?_)
 refine st_lit rfl _ _ _ rfl (litA0 hL ?_)
 intro b60 w9 hL2
 clear hL;have hL:=hL2;clear hL2
 refine ⟨fun k' _ _=>⟨(hL.cellA).trans rfl,(hL.cellA).trans rfl,(hL.cellA).trans rfl⟩,?_⟩
 simp only [Act.put,setP]
 refine wpV_one (i:=7) (by kernel_rfl) (wpOf ?_)
 refine st_append rfl _ _ _ rfl (.slice (some ⟨b60,0,none⟩) 0 0) (.slice pa N pc) rfl rfl (appendB (N:=N) (g:=f) (HB.out _ hL.below) hL (fun _=>.here) rfl (by omega) (by decide) ?_)
 intro v58 w9 hL2
 clear hL;have hL:=hL2;clear hL2;obtain ⟨sa,sc,rfl⟩:=own_slice hL .here
 refine ⟨fun k' _ _=>⟨(hL.cellA).trans rfl,(hL.cellA).trans rfl,(hL.cellA).trans rfl⟩,?_⟩
 simp only [Act.put,setP]
 refine deV 8 (fun k' _ _=>⟨(hL.cellA).trans rfl,(hL.cellA).trans rfl,(hL.cellA).trans rfl⟩) ?_
 refine wpV_one (i:=9) (by kernel_rfl) (wpOf ?_)
 refine st_store rfl _ _ _ rfl _ rfl (.agg _) rfl ?_
 first|refine storeA hL ?_|refine storeO hL ?_|refine storeR hL ?_
 clear hL;intro w9 hL
 refine ⟨fun k9 hk9 hm9=>?_,?_⟩
 (· exact ⟨(hL.cellA).trans rfl,(hL.cellA).trans rfl,(hL.cellA).trans rfl⟩)
 try simp only [Act.put]
 refine wpV_done (by kernel_rfl) ?_
 go_wp2_with (first|(with_reducible first|(clear hL n1;intro b1 w1 hL)|(clear hL n2;intro b2 w2 hL))|((with_reducible refine wpA_lit rfl _ _ _ rfl ?_);first|refine litA1 hL ?_|refine litA2 hL ?_|refine litA3 hL ?_|refine litA4 hL ?_|refine litA6 hL ?_)|((with_reducible refine goJ rfl ?_);refine goP ?_))
 exact bodyPost_ret (results_row inferInstance rfl _ hL b2 rfl _ _ (by (repeat (first|with_reducible exact At.here|with_reducible apply At.there))) rfl) rfl ⟨sa,sc,_,rfl,(hL.drop (.there .here)).drop (.there .here)⟩
open Go.RowKit
set_option maxRecDepth 100000 in
set_option maxHeartbeats 16000000 in
theorem rLine_calls (i:Img) (hl:i.data.size≤maxLen) (hi:mayImg i=true) (m:Mtx) (hm:mayMtx m=true) (hD:detM m≠0) (y:Int) (hy : -8191≤y∧y≤8191) (W:Nat) (hW:W≤64) (w:World) :
  Calls Tryz.prog 105 #[imgV i,mtxV m,.int .i64 y,.int .i64 W] w fun e w'=>∃ v,e=.returned v∧Below w.heap.size w w'∧Fresh w w' (fun w=>NumsAt w v ((List.range W).map (lineV i m y))):=by
 have HA:=Lib.hid (fun (k:Nat) (hk:k<64) w=>show Calls Tryz.prog 78 #[imgV i,mtxV m,.int .i64 (16*(k:Int)+8),.int .i64 y] w (fun e w'=>e=.returned (.int .i64 (lineV i m y k))∧Below w.heap.size w w') from rAtI_calls i hl hi m hm hD (16*(k:Int)+8) y (by omega) hy w)
 generalize lineV i m y=A at *
 obtain ⟨iw,ih,bits,data⟩:=i
 obtain ⟨a,b,c,d,e,f⟩:=m
 unfold imgV mtxV at *
 dsimp only at *
 clear hi hm hl hD hy
 have hL:=Holds.start w
 have g1:decide ((64:Int)<(W:Int))=false:=by simp;omega
 obtain ⟨n1,n2⟩:=tok2
 go_enter Tryz.func105,Tryz.ntmps105
 go_wp2_with (first|(with_reducible first|(clear hL n1;intro b1 w1 hL)|(clear hL n2;intro b2 w2 hL))|((with_reducible refine wpA_lit rfl _ _ _ rfl ?_);first|refine litA1 hL ?_|refine litA2 hL ?_|refine litA3 hL ?_|refine litA4 hL ?_|refine litA6 hL ?_)|((with_reducible refine goJ rfl ?_);refine goP ?_))
 go_loopw [9,10] (fun s9 s10 wr=>∃ k:Nat,k≤W∧s10=.int .i64 k∧Holds w wr [own w.heap.size 3 1 s9 k (numC A k),blk b2 #[.int .i64 a,.int .i64 b,.int .i64 c,.int .i64 d,.int .i64 e,.int .i64 f] 28,blk b1 #[.int .i64 iw,.int .i64 ih,.int .i64 bits,.string data] 26] [])
  (fun s9 s10 wr=>W-(intOf s10).toNat)
 case atStart=>exact ⟨0,by omega,rfl,hL.newOwn⟩
 case round =>
  clear hL
  obtain ⟨k,hk,rfl,hL⟩:=hrel
  by_cases hkt:k<W
  ·have hkb:(k:Int)<(W:Int):=by omega
   have HAk:=Lib.hid (HA.out k (by omega))
   have w2:IntKind.i64.wrap (16*(k:Int))=16*(k:Int):=wrapS (by omega) (by omega)
   have w3:IntKind.i64.wrap (16*(k:Int)+8)=16*(k:Int)+8:=wrapS (by omega) (by omega)
   go_wp2_with (first|(go_at_call 78;(with_reducible refine (HAk.out _).mono ?_);rintro e _ ⟨rfl,hb⟩;replace hL:=hL.call hb;clear hb)|(with_reducible first|(clear hL;intro _ _ _ hL;try dsimp only at hL)|(clear hL;intro _ _ hL))|((with_reducible refine wpA_lit rfl _ _ _ rfl ?_);first|refine litA1 hL ?_|refine litA2 hL ?_|refine litA3 hL ?_|refine litA4 hL ?_|refine litA6 hL ?_)|((with_reducible refine goJ rfl ?_);refine goP ?_))
   go_roundw
   case rel =>
    rw [show numC A k++#[Value.int .i64 (A k)].toList=numC A (k+1) from numC_next A k] at hL
    exact ⟨k+1,by omega,by go_num,hL⟩
   case measure=>simp [intOf];omega
  ·have e:k=W:=by omega
   subst e
   go_wp2_with (first|(with_reducible first|(clear hL n1;intro b1 w1 hL)|(clear hL n2;intro b2 w2 hL))|((with_reducible refine wpA_lit rfl _ _ _ rfl ?_);first|refine litA1 hL ?_|refine litA2 hL ?_|refine litA3 hL ?_|refine litA4 hL ?_|refine litA6 hL ?_)|((with_reducible refine goJ rfl ?_);refine goP ?_))
   go_ret
   exact ⟨_,rfl,hL.below,(hL.settle (φ:=fun w=>NumsAt w _ ((List.range k).map A)) .here fun w' h=>own_sliceAt h (by simp) (numC_flat A k) (by intro e he;obtain ⟨n,_,rfl⟩:=List.mem_map.1 he;rfl)).fresh⟩
open Go.RowKit
def stepF (G f:Nat→Int) (m n:Nat):Int:=if n<m then G n else f n
theorem stepF_zero (N:Nat) (G f:Nat→Int):arrU N f=arrU N (stepF G f 0):=arrU_congr fun x _=>by unfold stepF;rw [if_neg (by omega)]
theorem stepF_set {N m:Nat} (G f:Nat→Int):arrU N (fun x=>if x=m then G m else stepF G f m x)=arrU N (stepF G f (m+1)):=by
 refine arrU_congr fun x _=>?_
 unfold stepF
 by_cases hx:x=m
 ·subst hx;rw [if_pos rfl,if_pos (by omega)]
 ·have:x<m+1 ↔ x<m:=by omega
  simp [hx,this]
theorem stepF_skip {N m n:Nat} {G f:Nat→Int} (hmn:m≤n) (h:∀ x,m≤x→x<n→G x=f x):arrU N (stepF G f m)=arrU N (stepF G f n):=by
 refine arrU_congr fun x _=>?_
 unfold stepF
 by_cases h1:x<m
 ·rw [if_pos h1,if_pos (by omega)]
 ·rw [if_neg h1]
  by_cases h2:x<n
  ·rw [if_pos h2,h x (by omega) h2]
  ·rw [if_neg h2]
theorem stepF_all {N:Nat} (G f:Nat→Int):arrU N (stepF G f N)=arrU N G:=arrU_congr fun x hx=>by unfold stepF;rw [if_pos hx]
theorem byte_at {W j i n:Nat} (hi:i<W) (hn:n<3):(3*(W*j+i)+n) / 3 / W=j∧(3*(W*j+i)+n) / 3%W=i∧(3*(W*j+i)+n)%3=n:=by
 have e:(3*(W*j+i)+n) / 3=W*j+i:=by omega
 rw [e]
 refine ⟨?_,?_,by omega⟩
 ·rw [Nat.mul_add_div (by omega),Nat.div_eq_of_lt hi];omega
 ·rw [Nat.mul_add_mod,Nat.mod_eq_of_lt hi]
theorem byte_of {W j i x:Nat} (hi:i<W) (h1:3*(W*j+i)≤x) (h2:x<3*(W*j+i)+3):x / 3 / W=j∧x / 3%W=i:=by
 have:=byte_at (W:=W) (j:=j) (i:=i) (n:=x-3*(W*j+i)) hi (by omega)
 rw [show 3*(W*j+i)+(x-3*(W*j+i))=x by omega] at this
 exact ⟨this.1,this.2.1⟩
set_option maxRecDepth 100000 in
set_option maxHeartbeats 16000000 in
theorem rPut_calls {W H:Nat} (hs:Sides W H) (w:World) (v:Value) (f:Nat→Int) (hp:PageF v W H f w) (hf:∀ n,0≤f n∧f n≤255) (sa:Option Addr) (sn sc:Nat) (q:Nat→Nat→Bool) (hr:RegAt w (.agg #[.int .i64 W,.int .i64 H,.slice sa sn sc]) (pixReg W H q)) (k:Ink) (hk:InkOk k):Calls Tryz.prog 66 #[v,.agg #[.int .i64 W,.int .i64 H,.slice sa sn sc],.agg #[.int .u8 k.r,.int .u8 k.g,.int .u8 k.b,.int .u8 k.a]] w (PageOut W H (putF W q k f) w):=by
 have HCp:=Lib.hid (fun w' (hb:Below w.heap.size w w')=>rCopied_calls hs v f w' (hp.below hb))
 obtain ⟨pa,pc,rfl,_,_,hB⟩:=hp.shape
 have HFr:=Lib.hid (fun w' (hb:Below w.heap.size w w')=>rFairP_calls hs pa pc sa sn sc q w' (hr.below hb))
 obtain ⟨m1,m2,m3,m4⟩:=page_mul hs
 have hl:(pixReg W H q).rows.length=H:=by unfold pixReg;simp
 obtain ⟨xa,xn,xc,he,hsa⟩:=hr.shape
 simp only [Value.agg.injEq,Array.mk.injEq,List.cons.injEq,Value.slice.injEq,and_true] at he
 obtain ⟨_,_,rfl,rfl,rfl⟩:=he
 obtain ⟨a1,cap1,hs1,hlc1,hcm1,hel1⟩:=hsa.parts
 cases hs1
 rw [hl] at hlc1 hel1
 unfold maxLen at hcm1
 have HEl:=Lib.hid (fun j (hj:j<H)=>hel1 j hj)
 have HPl:=Lib.hid (fun j (hj:j<H) w' (va:Value) (h1:RunsAt w' va ((pixReg W H q).rows.getD j []))=>show Calls Tryz.prog 104 #[va] w' (fun e w2=>e=.returned (.agg (arrB fun c=>decide (c<W)&&q j c))∧Below w'.heap.size w' w2) from by
  have h3:=refPlaces_calls w' va _ h1
  rw [pix_row q hj,show inRuns (runsTo (q j) W)=fun c=>decide (c<W)&&q j c from funext fun c=>inRuns_runsTo _ hs.w1 c] at h3
  exact h3)
 have hw0:=hs.w0;have hw1:=hs.w1;have hh0:=hs.h0;have hh1:=hs.h1
 have HOn:=Lib.hid (fun (j i n:Nat) (hi:i<W) (hn:n<3) (hq:q j i=true)=>show putF W q k f (3*(W*j+i)+n)=blend (f (3*(W*j+i)+n)) (chan k n) k.a from by
  obtain ⟨e1,e2,e3⟩:=byte_at (j:=j) hi hn
  unfold putF
  rw [e1,e2,e3,hq,if_pos rfl])
 have HOff:=Lib.hid (fun (j i:Nat) (hi:i<W) (hq:q j i=false) x (h1:3*(W*j+i)≤x) (h2:x<3*(W*j+i)+3)=>show putF W q k f x=f x from by
  obtain ⟨e1,e2⟩:=byte_of (j:=j) hi h1 h2
  unfold putF
  rw [e1,e2,hq,if_neg (by decide)])
 have HCh:=Lib.hid (fun (n:Nat)=>show 0≤chan k n∧chan k n≤255 from by unfold chan;split;(· exact hk.1);split;(· exact hk.2.1);exact hk.2.2.1)
 have hka:=hk.2.2.2
 have HC0:=Lib.hid (show chan k 0=k.r∧chan k 1=k.g∧chan k 2=k.b from ⟨rfl,rfl,rfl⟩)
 have Hf:=Lib.hid hf
 rw [hl] at HFr ⊢
 clear hr hsa hel1 hl hs hp hB hf hk
 have hN:3*W*H=3*(W*H):=Nat.mul_assoc 3 W H
 have hN0:0<3*W*H:=Nat.mul_pos (Nat.mul_pos (by decide) hw0) hh0
 unfold PageOut
 generalize putF W q k f=G at *
 generalize chan k=ch at *
 obtain ⟨kr,kg,kb,ka⟩:=k
 dsimp only at *
 have HN:=Lib.hid hN
 clear hN
 generalize hNn:3*W*H=N at *
 have HNn:=Lib.hid hNn
 clear hNn
 have hL:=Holds.start w
 obtain ⟨n1,n2,n3,n4,n5,n6,n7⟩:=tok7
 go_enter Tryz.func66,Tryz.ntmps66
 go_wp2_with (first|(go_at_call 102;(with_reducible refine (HFr.out _ hL.below).mono ?_);rintro e _ ⟨rfl,hb⟩;replace hL:=hL.call hb;clear hb)|(go_at_call 103;(with_reducible refine (HCp.out _ hL.below).mono ?_);rintro e _ ⟨ga,gc,B,rfl,hk⟩;replace hL:=hL.comp hk;clear hk;dsimp only [List.cons_append,List.nil_append] at hL)|(with_reducible first|(clear hL n1;intro b1 w1 hL)|(clear hL n2;intro b2 w2 hL)|(clear hL n3;intro b3 w3 hL)|(clear hL n4;intro b4 w4 hL)|(clear hL n5;intro b5 w5 hL)|(clear hL n6;intro b6 w6 hL)|(clear hL;intro _ hL))|((with_reducible refine goJ rfl ?_);refine goP ?_))
 obtain ⟨g,gc',hge⟩:=own_shape hL (by (repeat (first|with_reducible exact At.here|with_reducible apply At.there))) hN0
 cases hge
 rw [show (#[.int .u8 kr,.int .u8 kg,.int .u8 kb]:Array Value)=arrU 3 ch from by rw [←HC0.out.1,←HC0.out.2.1,←HC0.out.2.2];simp [arrU,List.range_succ]] at hL
 unfold pix at hL
 rw [stepF_zero N G f] at hL
 go_loopw [10] (fun s10 wr=>∃ j:Nat,j≤H∧s10=.int .i64 j∧Holds w wr [blk b6 (arrU 3 ch) 152,blk b5 #[.int .i64 W,.int .i64 H,.slice (some ⟨g,0,none⟩) N gc] 53,pix B (.slice (some ⟨g,0,none⟩) N gc) N (stepF G f (3*(W*j))),blk b4 #[.int .i64 0,.int .i64 0,.slice none 0 0] 53,blk b3 #[.int .u8 kr,.int .u8 kg,.int .u8 kb,.int .u8 ka] 30,blk b2 #[.int .i64 W,.int .i64 H,.slice sa H sc] 39,blk b1 #[.int .i64 W,.int .i64 H,.slice pa N pc] 53] [])
  (fun s10 wr=>H-(intOf s10).toNat)
 case atStart=>exact ⟨0,by omega,rfl,hL⟩
 case round =>
  clear hL
  obtain ⟨j,hj,rfl,hL⟩:=hrel
  by_cases hjt:j<H
  ·have hjb:(j:Int)<(H:Int):=by omega
   obtain ⟨ba,oa,rfl,la,ln,lc,hca,hra⟩:=HEl.out j hjt
   have HPj:=Lib.hid (fun w' (hw:Below w.heap.size w w')=>HPl.out j hjt w' _ (SliceAt.below hra hw))
   clear hra
   obtain ⟨row,hrow⟩:∃ row:Nat→Bool,row=fun c=>decide (c<W)&&q j c:=⟨_,rfl⟩
   rw [←hrow] at HPj
   have HRow:=Lib.hid (fun (i:Nat) (hi:i<W)=>show row i=q j i from by rw [hrow];simp [hi])
   clear hrow
   go_wp2_with (first|(go_at_call 104;(with_reducible refine (HPj.out _ hL.below).mono ?_);rintro e _ ⟨rfl,hb⟩;replace hL:=hL.call hb;clear hb)|(with_reducible first|(clear hL n7;intro b7 w7 hL)|(clear hL;intro _ hL))|((with_reducible refine goJ rfl ?_);refine goP ?_))
   have hfit:W*j+W≤W*H:=by
    have:=Nat.mul_le_mul_left W (show j+1≤H by omega)
    rw [Nat.mul_add,Nat.mul_one] at this
    exact this
   go_loopw [12] (fun s12 wq=>∃ i:Nat,i≤W∧s12=.int .i64 i∧Holds w wq [blk b7 (arrB row) 131,blk b6 (arrU 3 ch) 152,blk b5 #[.int .i64 W,.int .i64 H,.slice (some ⟨g,0,none⟩) N gc] 53,pix B (.slice (some ⟨g,0,none⟩) N gc) N (stepF G f (3*(W*j+i))),blk b4 #[.int .i64 0,.int .i64 0,.slice none 0 0] 53,blk b3 #[.int .u8 kr,.int .u8 kg,.int .u8 kb,.int .u8 ka] 30,blk b2 #[.int .i64 W,.int .i64 H,.slice (some ⟨ba,oa,none⟩) H sc] 39,blk b1 #[.int .i64 W,.int .i64 H,.slice pa N pc] 53] [])
    (fun s12 wq=>W-(intOf s12).toNat)
   case atStart=>exact ⟨0,by omega,rfl,hL⟩
   case round =>
    clear hL
    obtain ⟨i,hi,rfl,hL⟩:=hrel
    by_cases hit:i<W
    ·have hib:(i:Int)<(W:Int):=by omega
     have hi64:i<64:=by omega
     cases hq:q j i with
     | false =>
      have hrw:row i=false:=(HRow.out i hit).trans hq
      have HSk:=Lib.hid (stepF_skip (N:=N) (show 3*(W*j+i)≤3*(W*j+(i+1)) by omega) (fun x h1 h2=>HOff.out j i hit hq x h1 (by omega)))
      clear hq
      go_wp2_with (first|(with_reducible (clear hL;intro _ hL))|((with_reducible refine goJ rfl ?_);refine goP ?_))
      go_loopw [13] (fun s13 wz=>s13=.int .i64 0∧Holds w wz [blk b7 (arrB row) 131,blk b6 (arrU 3 ch) 152,blk b5 #[.int .i64 W,.int .i64 H,.slice (some ⟨g,0,none⟩) N gc] 53,pix B (.slice (some ⟨g,0,none⟩) N gc) N (stepF G f (3*(W*j+i))),blk b4 #[.int .i64 0,.int .i64 0,.slice none 0 0] 53,blk b3 #[.int .u8 kr,.int .u8 kg,.int .u8 kb,.int .u8 ka] 30,blk b2 #[.int .i64 W,.int .i64 H,.slice (some ⟨ba,oa,none⟩) H sc] 39,blk b1 #[.int .i64 W,.int .i64 H,.slice pa N pc] 53] [])
       (fun s13 wz=>0)
      case atStart=>exact ⟨rfl,hL⟩
      case round =>
       clear hL
       obtain ⟨rfl,hL⟩:=hrel
       go_wp2_with (first|(with_reducible (clear hL;intro _ hL))|((with_reducible refine goJ rfl ?_);refine goP ?_))
       go_roundw
       case rel =>
        unfold pix at hL
        rw [HSk.out] at hL
        exact ⟨i+1,by omega,by go_num,hL⟩
       case measure=>simp [intOf];omega
     | true =>
      have hrw:row i=true:=(HRow.out i hit).trans hq
      have HOnj:=Lib.hid (fun n (hn:n<3)=>HOn.out j i n hit hn hq)
      clear hq
      go_wp2_with (first|(with_reducible (clear hL;intro _ hL))|((with_reducible refine goJ rfl ?_);refine goP ?_))
      go_loopw [13] (fun s13 wz=>∃ n:Nat,n≤3∧s13=.int .i64 n∧Holds w wz [blk b7 (arrB row) 131,blk b6 (arrU 3 ch) 152,blk b5 #[.int .i64 W,.int .i64 H,.slice (some ⟨g,0,none⟩) N gc] 53,pix B (.slice (some ⟨g,0,none⟩) N gc) N (stepF G f (3*(W*j+i)+n)),blk b4 #[.int .i64 0,.int .i64 0,.slice none 0 0] 53,blk b3 #[.int .u8 kr,.int .u8 kg,.int .u8 kb,.int .u8 ka] 30,blk b2 #[.int .i64 W,.int .i64 H,.slice (some ⟨ba,oa,none⟩) H sc] 39,blk b1 #[.int .i64 W,.int .i64 H,.slice pa N pc] 53] [])
       (fun s13 wz=>3-(intOf s13).toNat)
      case atStart=>exact ⟨0,by omega,rfl,hL⟩
      case round =>
       clear hL
       obtain ⟨n,hn,rfl,hL⟩:=hrel
       by_cases hnt:n<3
       ·have hnb:(n:Int)<3:=by omega
        have HOnn:=Lib.hid (HOnj.out n hnt)
        have hch:=HCh.out n
        have hjw:(W:Int)*(j:Int)=((W*j:Nat):Int):=by simp
        obtain ⟨t,ht⟩:∃ t,W*j=t:=⟨_,rfl⟩
        rw [ht] at hL HOnn hjw hfit
        obtain ⟨m,hm⟩:∃ m,3*(t+i)+n=m:=⟨_,rfl⟩
        have hmN:m<N:=by have:=HN.out;omega
        have hmb:(m:Int)<(N:Int):=by omega
        have hfm:=Hf.out m
        have w1:IntKind.i64.wrap ((W:Int)*(j:Int))=(t:Int):=by rw [hjw];exact wrapS (by omega) (by omega)
        have w2:IntKind.i64.wrap ((t:Int)+(i:Int))=(t:Int)+(i:Int):=wrapS (by omega) (by omega)
        have w3:IntKind.i64.wrap (3*((t:Int)+(i:Int)))=3*((t:Int)+(i:Int)):=wrapS (by omega) (by omega)
        have w4:IntKind.i64.wrap (3*((t:Int)+(i:Int))+(n:Int))=(m:Int):=by rw [show 3*((t:Int)+(i:Int))+(n:Int)=(m:Int) by omega];exact wrapS (by omega) (by omega)
        rw [hm] at hL HOnn
        have HSt:=Lib.hid (stepF_set (N:=N) (m:=m) G f)
        have hst:stepF G f m m=f m:=by unfold stepF;rw [if_neg (by omega)]
        rw [HOnn.out] at HSt
        have HBl:=Lib.hid (fun w=>rBlend_calls (f m) (ch n) ka hfm hch hka w)
        have w5:IntKind.i64.wrap (f m)=f m:=wrapS (by omega) (by omega)
        have w6:IntKind.i64.wrap (ch n)=ch n:=wrapS (by omega) (by omega)
        have w7:IntKind.i64.wrap ka=ka:=wrapS (by omega) (by omega)
        have Hm:=Lib.hid hm
        have Ht:=Lib.hid ht
        clear hm ht hjw HOnn hfit
        go_wp2_with (first|(with_reducible (clear hL;intro _ hL))|((with_reducible refine goJ rfl ?_);refine goP ?_))
        replace hL:=hL.drew
        refine wpV_begin (by kernel_rfl) (fun (k':Nat) (w':World)=>k'<18→Holds w w' [blk b7 (arrB row) 131,blk b6 (arrU 3 ch) 152,blk b5 #[.int .i64 W,.int .i64 H,.slice (some ⟨g,0,none⟩) N gc] 53,pix B (.slice (some ⟨g,0,none⟩) N gc) N (stepF G f m),blk b4 #[.int .i64 0,.int .i64 0,.slice none 0 0] 53,blk b3 #[.int .u8 kr,.int .u8 kg,.int .u8 kb,.int .u8 ka] 30,blk b2 #[.int .i64 W,.int .i64 H,.slice (some ⟨ba,oa,none⟩) H sc] 39,blk b1 #[.int .i64 W,.int .i64 H,.slice pa N pc] 53] []) 18 ?_
        refine deV 0 (fun k' _ _=>hL) ?_
        refine dlV 1 ?_ (fun k' _ _=>hL) (fun w' hw=>?_) ?_;rotate_left;(· replace hw:=hw (by decide);refine loadA hw ?_;rfl)
        simp only [Act.put,setP]
        refine deV 2 (fun k' _ _=>hL) ?_
        refine deV 3 (fun k' _ _=>hL) ?_
        refine dlV 4 ?_ (fun k' _ _=>hL) (fun w' hw=>?_) ?_;rotate_left;(· replace hw:=hw (by decide);refine loadA hw ?_;rfl)
        simp only [Act.put,setP]
        refine deV 5 (fun k' _ _=>hL) ?_
        refine deV 6 (fun k' _ _=>hL) ?_
        refine dlV 7 ?_ (fun k' _ _=>hL) (fun w' hw=>?_) ?_;rotate_left;(· replace hw:=hw (by decide);refine loadU hw ?_;rfl)
        simp only [Act.put,setP]
        refine deV 8 (fun k' _ _=>hL) ?_
        refine deV 9 (fun k' _ _=>hL) ?_
        refine deV 10 (fun k' _ _=>hL) ?_
        refine dlV 11 ?_ (fun k' _ _=>hL) (fun w' hw=>?_) ?_;rotate_left;(· replace hw:=hw (by decide);refine loadA hw ?_;rfl)
        simp only [Act.put,setP]
        refine deV 12 (fun k' _ _=>hL) ?_
        refine deV 13 (fun k' _ _=>hL) ?_
        refine dlV 14 ?_ (fun k' _ _=>hL) (fun w' hw=>?_) ?_;rotate_left;(· replace hw:=hw (by decide);refine loadA hw ?_;rfl)
        simp only [Act.put,setP]
        refine deV 15 (fun k' _ _=>hL) ?_
        refine wpV_one (i:=16) (by kernel_rfl) (wpOf ?_)
        refine st_call rfl _ _ ?_ (HBl.out _) ?_
        (· go_simp;try with_reducible rfl)
        rintro e _ ⟨rfl,rfl⟩
        refine ⟨_,rfl,fun k' _ _=>hL,?_⟩
        simp only [Act.put,setP]
        refine deV 17 (fun k' _ _=>hL) ?_
        refine wpV_one (i:=18) (by kernel_rfl) (wpOf ?_)
        refine st_store rfl _ _ _ rfl _ rfl (.int _ _) rfl ?_
        refine storeO hL ?_ (hoff:=(by rw [arrU_lenL];omega))
        clear hL;intro w9 hL
        rw [arrU_setL _ _ (by omega)] at hL
        refine ⟨fun k9 hk9 hm9=>?_,?_⟩
        (· exact absurd hm9 (pinned_off 18 18 hk9 (by kernel_rfl) (by decide) (by kernel_rfl)))
        try simp only [Act.put]
        refine wpV_done (by kernel_rfl) ?_
        rw [HSt.out] at hL
        go_wp2_with (first|(with_reducible (clear hL;intro _ hL))|((with_reducible refine goJ rfl ?_);refine goP ?_))
        go_roundw
        case rel=>exact ⟨n+1,by omega,by go_num,by rw [show 3*(W*j+i)+(n+1)=m+1 by have:=Hm.out;have:=Ht.out;omega];exact hL⟩
        case measure=>simp [intOf];omega
       ·have e:n=3:=by omega
        subst e
        go_wp2_with (first|(with_reducible (clear hL;intro _ hL))|((with_reducible refine goJ rfl ?_);refine goP ?_))
        go_roundw
        case rel =>
         rw [show 3*(W*j+i)+3=3*(W*j+(i+1)) by omega] at hL
         exact ⟨i+1,by omega,by go_num,hL⟩
        case measure=>simp [intOf];omega
    ·have e:i=W:=by omega
     subst e
     rw [show i*j+i=i*(j+1) by rw [Nat.mul_add,Nat.mul_one]] at hL
     go_wp2_with (first|(with_reducible (clear hL;intro _ hL))|((with_reducible refine goJ rfl ?_);refine goP ?_))
     go_roundw
     case rel=>exact ⟨j+1,by omega,by go_num,hL.drop .here⟩
     case measure=>simp [intOf];omega
  ·have e:j=H:=by omega
   subst e
   rw [show 3*(W*j)=N from HN.out.symm] at hL
   unfold pix at hL
   rw [stepF_all] at hL
   go_wp2_with (first|(with_reducible (clear hL;intro _ hL))|((with_reducible refine goJ rfl ?_);refine goP ?_))
   have hr:=HNn.out
   refine bodyPost_ret (results_row2 inferInstance rfl _ hL b4 rfl _ _ (.there (.there (.there .here))) rfl) rfl ⟨_,_,rfl,hL.below,?_⟩
   subst hr
   exact (hL.settle (.there (.there .here)) (φ:=PageF (.agg #[.int .i64 W,.int .i64 j,.slice (some ⟨g,0,none⟩) (3*W*j) gc]) W j G) fun w h=>⟨_,rfl,page_own h⟩).fresh
open Go.RowKit
theorem numsCell {w:World} {bl ol n lc:Nat} {A:Nat→Int} (h:NumsAt w (.slice (some ⟨bl,ol,none⟩) n lc) ((List.range n).map A)) {i:Nat} (hi:i<n):w.cell? ⟨bl,ol+i,none⟩=some (.int .i64 (A i)):=by
 obtain ⟨a,c,e,_,_,h4⟩:=h.parts
 obtain ⟨b,o,e2,hc⟩:=h4 i (by simpa using hi)
 simp only [List.length_map,List.length_range] at e
 cases e
 cases e2
 rw [hc]
 simp [hi]
set_option maxRecDepth 100000 in
set_option maxHeartbeats 16000000 in
theorem rPaint_calls {W H:Nat} (hs:Sides W H) (w:World) (v:Value) (f:Nat→Int) (hp:PageF v W H f w) (im:Img) (hil:im.data.size≤maxLen) (him:mayImg im=true) (mx:Mtx) (hmx:mayMtx mx=true) (hD:detM mx≠0) (sa:Option Addr) (sn sc:Nat) (q:Nat→Nat→Bool) (hr:RegAt w (.agg #[.int .i64 W,.int .i64 H,.slice sa sn sc]) (pixReg W H q)):Calls Tryz.prog 65 #[v,imgV im,mtxV mx,.agg #[.int .i64 W,.int .i64 H,.slice sa sn sc]] w (PageOut W H (imgF W q im mx f) w):=by
 have HCp:=Lib.hid (fun w' (hb:Below w.heap.size w w')=>rCopied_calls hs v f w' (hp.below hb))
 obtain ⟨pa,pc,rfl,_,_,hB⟩:=hp.shape
 have HFr:=Lib.hid (fun w' (hb:Below w.heap.size w w')=>rFairP_calls hs pa pc sa sn sc q w' (hr.below hb))
 obtain ⟨m1,m2,m3,m4⟩:=page_mul hs
 have hl:(pixReg W H q).rows.length=H:=by unfold pixReg;simp
 obtain ⟨xa,xn,xc,he,hsa⟩:=hr.shape
 simp only [Value.agg.injEq,Array.mk.injEq,List.cons.injEq,Value.slice.injEq,and_true] at he
 obtain ⟨_,_,rfl,rfl,rfl⟩:=he
 obtain ⟨a1,cap1,hs1,hlc1,hcm1,hel1⟩:=hsa.parts
 cases hs1
 rw [hl] at hlc1 hel1
 unfold maxLen at hcm1
 have HEl:=Lib.hid (fun j (hj:j<H)=>hel1 j hj)
 have HPl:=Lib.hid (fun j (hj:j<H) w' (va:Value) (h1:RunsAt w' va ((pixReg W H q).rows.getD j []))=>show Calls Tryz.prog 104 #[va] w' (fun e w2=>e=.returned (.agg (arrB fun c=>decide (c<W)&&q j c))∧Below w'.heap.size w' w2) from by
  have h3:=refPlaces_calls w' va _ h1
  rw [pix_row q hj,show inRuns (runsTo (q j) W)=fun c=>decide (c<W)&&q j c from funext fun c=>inRuns_runsTo _ hs.w1 c] at h3
  exact h3)
 have hw0:=hs.w0;have hw1:=hs.w1;have hh0:=hs.h0;have hh1:=hs.h1
 have HMI:=Lib.hid (fun w=>rMayImage_calls im hil w)
 have HMM:=Lib.hid (fun w=>rMatMay_calls mx w)
 have HDt:=Lib.hid (fun w=>rDet_calls mx hmx w)
 rw [him] at HMI
 rw [hmx] at HMM
 have HLn:=Lib.hid (fun (j:Nat) (hj:j<H) w=>rLine_calls im hil him mx hmx hD (16*(j:Int)+8) (by omega) W hw1 w)
 have ok:=mayImg_ok him
 have HGr:=Lib.hid (fun (j i:Nat) (h0:0≤lineV im mx (16*(j:Int)+8) i) w=>rGrey_calls im ok (lineV im mx (16*(j:Int)+8) i) h0 (sampI_in ok _ _).2.1 w)
 have HOn:=Lib.hid (fun (j i n:Nat) (hi:i<W) (hn:n<3) (hq:q j i=true) (h0:0≤lineV im mx (16*(j:Int)+8) i)=>show imgF W q im mx f (3*(W*j+i)+n)=greyI im (lineV im mx (16*(j:Int)+8) i) from by
  obtain ⟨e1,e2,_⟩:=byte_at (j:=j) hi hn
  unfold imgF sampP
  rw [e1,e2,hq,decide_eq_true (show 0≤atI im mx (16*(i:Int)+8) (16*(j:Int)+8) from h0)]
  rfl)
 have HOff:=Lib.hid (fun (j i:Nat) (hi:i<W) (hq:q j i=false∨lineV im mx (16*(j:Int)+8) i<0) x (h1:3*(W*j+i)≤x) (h2:x<3*(W*j+i)+3)=>show imgF W q im mx f x=f x from by
  obtain ⟨e1,e2⟩:=byte_of (j:=j) hi h1 h2
  unfold imgF sampP
  rw [e1,e2]
  rcases hq with hq|hq
  ·rw [hq];rfl
  ·rw [decide_eq_false (show ¬0≤atI im mx (16*(i:Int)+8) (16*(j:Int)+8) from by unfold lineV at hq;omega),Bool.and_false];rfl)
 rw [hl] at HFr ⊢
 have c0:(detM mx == 0)=false:=by simp;exact hD
 clear hr hsa hel1 hl hs hp hB ok him hmx hD hil
 have hN:3*W*H=3*(W*H):=Nat.mul_assoc 3 W H
 have hN0:0<3*W*H:=Nat.mul_pos (Nat.mul_pos (by decide) hw0) hh0
 unfold PageOut
 generalize imgF W q im mx f=G at *
 generalize hLV:lineV im mx=LV at *
 clear hLV
 generalize hGG:greyI im=GG at *
 clear hGG
 generalize detM mx=D at *
 obtain ⟨iw,ih,bits,data⟩:=im
 obtain ⟨a,b,c,d,e,f'⟩:=mx
 unfold imgV mtxV at *
 dsimp only at *
 have HN:=Lib.hid hN
 clear hN
 generalize hNn:3*W*H=N at *
 have HNn:=Lib.hid hNn
 clear hNn
 have hL:=Holds.start w
 obtain ⟨n1,n2,n3,n4,n5,n6,n7⟩:=tok7
 go_enter Tryz.func65,Tryz.ntmps65
 go_wp2_with (first|(go_at_call 56;(with_reducible refine (HMI.out _).mono ?_);rintro e _ ⟨rfl,hb⟩;replace hL:=hL.call hb;clear hb)|(go_at_call 57;(with_reducible refine (HMM.out _).mono ?_);rintro e _ ⟨rfl,hb⟩;replace hL:=hL.call hb;clear hb)|(go_at_call 58;(with_reducible refine (HDt.out _).mono ?_);rintro e _ ⟨rfl,hb⟩;replace hL:=hL.call hb;clear hb)|(go_at_call 102;(with_reducible refine (HFr.out _ hL.below).mono ?_);rintro e _ ⟨rfl,hb⟩;replace hL:=hL.call hb;clear hb)|(go_at_call 103;(with_reducible refine (HCp.out _ hL.below).mono ?_);rintro e _ ⟨ga,gc,B,rfl,hk⟩;replace hL:=hL.comp hk;clear hk;dsimp only [List.cons_append,List.nil_append] at hL)|(with_reducible first|(clear hL n1;intro b1 w1 hL)|(clear hL n2;intro b2 w2 hL)|(clear hL n3;intro b3 w3 hL)|(clear hL n4;intro b4 w4 hL)|(clear hL n5;intro b5 w5 hL)|(clear hL n6;intro b6 w6 hL)|(clear hL;intro _ hL))|((with_reducible refine goJ rfl ?_);refine goP ?_))
 obtain ⟨g,gc',hge⟩:=own_shape hL (by (repeat (first|with_reducible exact At.here|with_reducible apply At.there))) hN0
 cases hge
 unfold pix at hL
 rw [stepF_zero N G f] at hL
 go_loopw [11] (fun s11 wr=>∃ j:Nat,j≤H∧s11=.int .i64 j∧Holds w wr [blk b6 #[.int .i64 W,.int .i64 H,.slice (some ⟨g,0,none⟩) N gc] 53,pix B (.slice (some ⟨g,0,none⟩) N gc) N (stepF G f (3*(W*j))),blk b5 #[.int .i64 0,.int .i64 0,.slice none 0 0] 53,blk b4 #[.int .i64 W,.int .i64 H,.slice sa H sc] 39,blk b3 #[.int .i64 a,.int .i64 b,.int .i64 c,.int .i64 d,.int .i64 e,.int .i64 f'] 28,blk b2 #[.int .i64 iw,.int .i64 ih,.int .i64 bits,.string data] 26,blk b1 #[.int .i64 W,.int .i64 H,.slice pa N pc] 53] [])
  (fun s11 wr=>H-(intOf s11).toNat)
 case atStart=>exact ⟨0,by omega,rfl,hL⟩
 case round =>
  clear hL
  obtain ⟨j,hj,rfl,hL⟩:=hrel
  by_cases hjt:j<H
  ·have hjb:(j:Int)<(H:Int):=by omega
   obtain ⟨ba,oa,rfl,la,ln,lc0,hca,hra⟩:=HEl.out j hjt
   have HPj:=Lib.hid (fun w' (hw:Below w.heap.size w w')=>HPl.out j hjt w' _ (SliceAt.below hra hw))
   clear hra
   obtain ⟨row,hrow⟩:∃ row:Nat→Bool,row=fun c=>decide (c<W)&&q j c:=⟨_,rfl⟩
   rw [←hrow] at HPj
   have HRow:=Lib.hid (fun (i:Nat) (hi:i<W)=>show row i=q j i from by rw [hrow];simp [hi])
   clear hrow
   have v1:IntKind.i64.wrap (16*(j:Int))=16*(j:Int):=wrapS (by omega) (by omega)
   have v2:IntKind.i64.wrap (16*(j:Int)+8)=16*(j:Int)+8:=wrapS (by omega) (by omega)
   have HLj:=Lib.hid (HLn.out j hjt)
   have HGj:=Lib.hid (HGr.out j)
   have HOnj:=Lib.hid (fun i n hi hn hq h0=>HOn.out j i n hi hn hq h0)
   generalize hA:LV (16*(j:Int)+8)=A at *
   have HA:=Lib.hid hA
   clear hA
   go_wp2_with (first|(go_at_call 104;(with_reducible refine (HPj.out _ hL.below).mono ?_);rintro e _ ⟨rfl,hb⟩;replace hL:=hL.call hb;clear hb)|(go_at_call 105;(with_reducible refine (HLj.out _).mono ?_);rintro e _ ⟨lv,rfl,hb,hf⟩;obtain ⟨lva,lc,rfl,_⟩:=hf.now.parts;simp only [List.length_map,List.length_range] at hf;replace hL:=hL.callF hb hf;clear hb hf)|(with_reducible first|(clear hL n7;intro b7 w7 hL)|(clear hL;intro _ hL))|((with_reducible refine goJ rfl ?_);refine goP ?_))
   have hfit:W*j+W≤W*H:=by
    have:=Nat.mul_le_mul_left W (show j+1≤H by omega)
    rw [Nat.mul_add,Nat.mul_one] at this
    exact this
   obtain ⟨bl,ol,rfl⟩:∃ bl ol,lva=some ⟨bl,ol,none⟩:=by
    obtain ⟨_,_,e1,_,_,h4⟩:=(show NumsAt _ (.slice lva W lc) ((List.range W).map A) from hL.fact0).parts
    obtain ⟨b9,o9,e2,_⟩:=h4 0 (by simp;omega)
    simp only [List.length_map,List.length_range] at e1
    cases e1
    exact ⟨b9,o9,e2⟩
   go_loopw [14] (fun s14 wq=>∃ i:Nat,i≤W∧s14=.int .i64 i∧Holds w wq [blk b7 (arrB row) 131,blk b6 #[.int .i64 W,.int .i64 H,.slice (some ⟨g,0,none⟩) N gc] 53,pix B (.slice (some ⟨g,0,none⟩) N gc) N (stepF G f (3*(W*j+i))),blk b5 #[.int .i64 0,.int .i64 0,.slice none 0 0] 53,blk b4 #[.int .i64 W,.int .i64 H,.slice (some ⟨ba,oa,none⟩) H sc] 39,blk b3 #[.int .i64 a,.int .i64 b,.int .i64 c,.int .i64 d,.int .i64 e,.int .i64 f'] 28,blk b2 #[.int .i64 iw,.int .i64 ih,.int .i64 bits,.string data] 26,blk b1 #[.int .i64 W,.int .i64 H,.slice pa N pc] 53] [fun w=>NumsAt w (.slice (some ⟨bl,ol,none⟩) W lc) ((List.range W).map A)])
    (fun s14 wq=>W-(intOf s14).toNat)
   case atStart=>exact ⟨0,by omega,rfl,hL⟩
   case round =>
    clear hL
    obtain ⟨i,hi,rfl,hL⟩:=hrel
    by_cases hit:i<W
    ·have hib:(i:Int)<(W:Int):=by omega
     have hi64:i<64:=by omega
     have hq3:q j i=false∨(q j i=true∧A i<0)∨(q j i=true∧0≤A i):=by
      cases q j i
      ·exact .inl rfl
      ·rcases (by omega:A i<0∨0≤A i) with h|h
       ·exact .inr (.inl ⟨rfl,h⟩)
       ·exact .inr (.inr ⟨rfl,h⟩)
     have hrw:=HRow.out i hit
     rcases hq3 with hq|⟨hq,hz⟩|⟨hq,hz⟩
     ·have HSk:=Lib.hid (stepF_skip (N:=N) (show 3*(W*j+i)≤3*(W*j+(i+1)) by omega) (fun x h1 h2=>HOff.out j i hit (.inl hq) x h1 (by omega)))
      rw [hq] at hrw
      clear hq
      go_wp2_with (first|(with_reducible (clear hL;intro _ hL))|((with_reducible refine goJ rfl ?_);refine goP ?_))
      go_loopw [15] (fun s15 wz=>s15=.int .i64 0∧Holds w wz [blk b7 (arrB row) 131,blk b6 #[.int .i64 W,.int .i64 H,.slice (some ⟨g,0,none⟩) N gc] 53,pix B (.slice (some ⟨g,0,none⟩) N gc) N (stepF G f (3*(W*j+i))),blk b5 #[.int .i64 0,.int .i64 0,.slice none 0 0] 53,blk b4 #[.int .i64 W,.int .i64 H,.slice (some ⟨ba,oa,none⟩) H sc] 39,blk b3 #[.int .i64 a,.int .i64 b,.int .i64 c,.int .i64 d,.int .i64 e,.int .i64 f'] 28,blk b2 #[.int .i64 iw,.int .i64 ih,.int .i64 bits,.string data] 26,blk b1 #[.int .i64 W,.int .i64 H,.slice pa N pc] 53] [fun w=>NumsAt w (.slice (some ⟨bl,ol,none⟩) W lc) ((List.range W).map A)])
       (fun s15 wz=>0)
      case atStart=>exact ⟨rfl,hL⟩
      case round =>
       clear hL
       obtain ⟨rfl,hL⟩:=hrel
       have e9:=numsCell hL.fact0 hit
       go_wp2_with (first|(with_reducible (clear hL;intro _ hL))|((with_reducible refine goJ rfl ?_);refine goP ?_))
       go_roundw
       case rel =>
        unfold pix at hL
        rw [HSk.out] at hL
        exact ⟨i+1,by omega,by go_num,hL⟩
       case measure=>simp [intOf];omega
     ·have HSk:=Lib.hid (stepF_skip (N:=N) (show 3*(W*j+i)≤3*(W*j+(i+1)) by omega) (fun x h1 h2=>HOff.out j i hit (.inr (by rw [HA.out];exact hz)) x h1 (by omega)))
      rw [hq] at hrw
      clear hq
      have q1:decide (0≤A i)=false:=decide_eq_false (by omega)
      go_wp2_with (first|(with_reducible (clear hL;intro _ hL))|((with_reducible refine goJ rfl ?_);refine goP ?_))
      go_loopw [15] (fun s15 wz=>s15=.int .i64 0∧Holds w wz [blk b7 (arrB row) 131,blk b6 #[.int .i64 W,.int .i64 H,.slice (some ⟨g,0,none⟩) N gc] 53,pix B (.slice (some ⟨g,0,none⟩) N gc) N (stepF G f (3*(W*j+i))),blk b5 #[.int .i64 0,.int .i64 0,.slice none 0 0] 53,blk b4 #[.int .i64 W,.int .i64 H,.slice (some ⟨ba,oa,none⟩) H sc] 39,blk b3 #[.int .i64 a,.int .i64 b,.int .i64 c,.int .i64 d,.int .i64 e,.int .i64 f'] 28,blk b2 #[.int .i64 iw,.int .i64 ih,.int .i64 bits,.string data] 26,blk b1 #[.int .i64 W,.int .i64 H,.slice pa N pc] 53] [fun w=>NumsAt w (.slice (some ⟨bl,ol,none⟩) W lc) ((List.range W).map A)])
       (fun s15 wz=>0)
      case atStart=>exact ⟨rfl,hL⟩
      case round =>
       clear hL
       obtain ⟨rfl,hL⟩:=hrel
       have e9:=numsCell hL.fact0 hit
       go_wp2_with (first|(with_reducible (clear hL;intro _ hL))|((with_reducible refine goJ rfl ?_);refine goP ?_))
       go_roundw
       case rel =>
        unfold pix at hL
        rw [HSk.out] at hL
        exact ⟨i+1,by omega,by go_num,hL⟩
       case measure=>simp [intOf];omega
     ·have HGn:=Lib.hid (HGj.out i hz)
      have HOni:=Lib.hid (fun n (hn:n<3)=>HOnj.out i n hit hn hq hz)
      rw [hq] at hrw
      clear hq
      have q1:decide (0≤A i)=true:=decide_eq_true hz
      go_wp2_with (first|(with_reducible (clear hL;intro _ hL))|((with_reducible refine goJ rfl ?_);refine goP ?_))
      go_loopw [15] (fun s15 wz=>∃ n:Nat,n≤3∧s15=.int .i64 n∧Holds w wz [blk b7 (arrB row) 131,blk b6 #[.int .i64 W,.int .i64 H,.slice (some ⟨g,0,none⟩) N gc] 53,pix B (.slice (some ⟨g,0,none⟩) N gc) N (stepF G f (3*(W*j+i)+n)),blk b5 #[.int .i64 0,.int .i64 0,.slice none 0 0] 53,blk b4 #[.int .i64 W,.int .i64 H,.slice (some ⟨ba,oa,none⟩) H sc] 39,blk b3 #[.int .i64 a,.int .i64 b,.int .i64 c,.int .i64 d,.int .i64 e,.int .i64 f'] 28,blk b2 #[.int .i64 iw,.int .i64 ih,.int .i64 bits,.string data] 26,blk b1 #[.int .i64 W,.int .i64 H,.slice pa N pc] 53] [fun w=>NumsAt w (.slice (some ⟨bl,ol,none⟩) W lc) ((List.range W).map A)])
       (fun s15 wz=>3-(intOf s15).toNat)
      case atStart=>exact ⟨0,by omega,rfl,hL⟩
      case round =>
       clear hL
       obtain ⟨n,hn,rfl,hL⟩:=hrel
       have e9:=numsCell hL.fact0 hit
       by_cases hnt:n<3
       ·have hnb:(n:Int)<3:=by omega
        have HOnn:=Lib.hid (HOni.out n hnt)
        have hjw:(W:Int)*(j:Int)=((W*j:Nat):Int):=by simp
        obtain ⟨t,ht⟩:∃ t,W*j=t:=⟨_,rfl⟩
        rw [ht] at hL HOnn hjw hfit
        obtain ⟨m,hm⟩:∃ m,3*(t+i)+n=m:=⟨_,rfl⟩
        have hmN:m<N:=by have:=HN.out;omega
        have hmb:(m:Int)<(N:Int):=by omega
        have w1:IntKind.i64.wrap ((W:Int)*(j:Int))=(t:Int):=by rw [hjw];exact wrapS (by omega) (by omega)
        have w2:IntKind.i64.wrap ((t:Int)+(i:Int))=(t:Int)+(i:Int):=wrapS (by omega) (by omega)
        have w3:IntKind.i64.wrap (3*((t:Int)+(i:Int)))=3*((t:Int)+(i:Int)):=wrapS (by omega) (by omega)
        have w4:IntKind.i64.wrap (3*((t:Int)+(i:Int))+(n:Int))=(m:Int):=by rw [show 3*((t:Int)+(i:Int))+(n:Int)=(m:Int) by omega];exact wrapS (by omega) (by omega)
        rw [hm] at hL HOnn
        have HSt:=Lib.hid (stepF_set (N:=N) (m:=m) G f)
        rw [HOnn.out] at HSt
        have Hm:=Lib.hid hm
        have Ht:=Lib.hid ht
        clear hm ht hjw HOnn hfit
        go_wp2_with (first|(with_reducible (clear hL;intro _ hL))|((with_reducible refine goJ rfl ?_);refine goP ?_))
        clear e9
        replace hL:=hL.drew
        refine wpV_begin (by kernel_rfl) (fun (k':Nat) (w':World)=>k'<18→Holds w w' [blk b7 (arrB row) 131,blk b6 #[.int .i64 W,.int .i64 H,.slice (some ⟨g,0,none⟩) N gc] 53,pix B (.slice (some ⟨g,0,none⟩) N gc) N (stepF G f (m)),blk b5 #[.int .i64 0,.int .i64 0,.slice none 0 0] 53,blk b4 #[.int .i64 W,.int .i64 H,.slice (some ⟨ba,oa,none⟩) H sc] 39,blk b3 #[.int .i64 a,.int .i64 b,.int .i64 c,.int .i64 d,.int .i64 e,.int .i64 f'] 28,blk b2 #[.int .i64 iw,.int .i64 ih,.int .i64 bits,.string data] 26,blk b1 #[.int .i64 W,.int .i64 H,.slice pa N pc] 53] [fun w=>NumsAt w (.slice (some ⟨bl,ol,none⟩) W lc) ((List.range W).map A)]) 18 ?_
        refine deV 0 (fun k' _ _=>hL) ?_
        refine dlV 1 ?_ (fun k' _ _=>hL) (fun w' hw=>?_) ?_;rotate_left;(· replace hw:=hw (by decide);have e9:=numsCell hw.fact0 hit;refine loadA hw ?_;rfl)
        simp only [Act.put,setP]
        refine deV 2 (fun k' _ _=>hL) ?_
        refine dlV 3 ?_ (fun k' _ _=>hL) (fun w' hw=>?_) ?_;rotate_left;(· replace hw:=hw (by decide);have e9:=numsCell hw.fact0 hit;refine loadA hw ?_;rfl)
        simp only [Act.put,setP]
        refine deV 4 (fun k' _ _=>hL) ?_
        refine deV 5 (fun k' _ _=>hL) ?_
        refine deV 6 (fun k' _ _=>hL) ?_
        refine deV 7 (fun k' _ _=>hL) ?_
        refine deV 8 (fun k' _ _=>hL) ?_
        refine deV 9 (fun k' _ _=>hL) ?_
        refine deV 10 (fun k' _ _=>hL) ?_
        refine dlV 11 ?_ (fun k' _ _=>hL) (fun w' hw=>?_) ?_;rotate_left;(· replace hw:=hw (by decide);have e9:=numsCell hw.fact0 hit;refine loadR hw ?_;rfl)
        simp only [Act.put,setP]
        refine deV 12 (fun k' _ _=>hL) ?_
        refine deV 13 (fun k' _ _=>hL) ?_
        refine deV 14 (fun k' _ _=>hL) ?_
        refine dlV 15 ?_ (fun k' _ _=>hL) (fun w' hw=>?_) ?_;rotate_left;(· replace hw:=hw (by decide);have e9:=numsCell hw.fact0 hit;refine loadD ?_;rfl)
        simp only [Act.put,setP]
        refine wpV_one (i:=16) (by kernel_rfl) (wpOf ?_)
        refine st_call rfl _ _ ?_ (HGn.out _) ?_
        (· go_simp;try with_reducible rfl)
        rintro e _ ⟨rfl,hb⟩
        replace hL:=hL.call hb
        clear hb
        refine ⟨_,rfl,fun k' _ _=>hL,?_⟩
        simp only [Act.put,setP]
        refine deV 17 (fun k' _ _=>hL) ?_
        refine wpV_one (i:=18) (by kernel_rfl) (wpOf ?_)
        refine st_store rfl _ _ _ rfl _ rfl (.int _ _) rfl ?_
        refine storeO hL ?_ (hoff:=(by rw [arrU_lenL];omega))
        clear hL;intro w9 hL
        rw [arrU_setL _ _ (by omega)] at hL
        refine ⟨fun k9 hk9 hm9=>?_,?_⟩
        (· exact absurd hm9 (pinned_off 18 18 hk9 (by kernel_rfl) (by decide) (by kernel_rfl)))
        try simp only [Act.put]
        refine wpV_done (by kernel_rfl) ?_
        rw [HSt.out] at hL
        go_wp2_with (first|(with_reducible (clear hL;intro _ hL))|((with_reducible refine goJ rfl ?_);refine goP ?_))
        go_roundw
        case rel=>exact ⟨n+1,by omega,by go_num,by rw [show 3*(W*j+i)+(n+1)=m+1 by have:=Hm.out;have:=Ht.out;omega];exact hL⟩
        case measure=>simp [intOf];omega
       ·have en:n=3:=by omega
        subst en
        go_wp2_with (first|(with_reducible (clear hL;intro _ hL))|((with_reducible refine goJ rfl ?_);refine goP ?_))
        go_roundw
        case rel =>
         rw [show 3*(W*j+i)+3=3*(W*j+(i+1)) by omega] at hL
         exact ⟨i+1,by omega,by go_num,hL⟩
        case measure=>simp [intOf];omega
    ·have ei:i=W:=by omega
     subst ei
     rw [show i*j+i=i*(j+1) by rw [Nat.mul_add,Nat.mul_one]] at hL
     go_wp2_with (first|(with_reducible (clear hL;intro _ hL))|((with_reducible refine goJ rfl ?_);refine goP ?_))
     go_roundw
     case rel=>exact ⟨j+1,by omega,by go_num,(hL.drop .here).forget⟩
     case measure=>simp [intOf];omega
  ·have ej:j=H:=by omega
   subst ej
   rw [show 3*(W*j)=N from HN.out.symm] at hL
   unfold pix at hL
   rw [stepF_all] at hL
   go_wp2_with (first|(with_reducible (clear hL;intro _ hL))|((with_reducible refine goJ rfl ?_);refine goP ?_))
   have hr:=HNn.out
   refine bodyPost_ret (results_row2 inferInstance rfl _ hL b5 rfl _ _ (.there (.there .here)) rfl) rfl ⟨_,_,rfl,hL.below,?_⟩
   subst hr
   exact (hL.settle (.there .here) (φ:=PageF (.agg #[.int .i64 W,.int .i64 j,.slice (some ⟨g,0,none⟩) (3*W*j) gc]) W j G) fun w h=>⟨_,rfl,page_own h⟩).fresh
end Go.Proofs.YtmnoeoecjfhhbaaGreat
