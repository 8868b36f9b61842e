/- Package image: Paint. -/
import Derived.Test.YtmnoeoecjfhhbaaGreatIm1
namespace Go.Proofs.YtmnoeoecjfhhbaaGreat
open Go.RowKit
theorem inkSide_calls (v:Int) (w:World):Calls Tryz.prog 94 #[.int .i64 v] w fun e w'=>e=.returned (.bool (isSide v))∧w=w':=by
 have hR:isSide v=(decide (1≤v)&&decide (v≤64)):=by simp [isSide]
 generalize isSide v=R at *
 obtain ⟨b0,c0⟩:∃ b,decide (1≤v)=b:=⟨_,rfl⟩
 obtain ⟨b1,c1⟩:∃ b,decide (v≤64)=b:=⟨_,rfl⟩
 rw [c0,c1] at hR
 have HR:=Lib.hid hR
 clear hR
 rcases (show ∀ b0 b1:Bool,b0=false∨(b0=true∧b1=false)∨(b0=true∧b1=true) by decide) b0 b1 with rfl|⟨rfl,rfl⟩|⟨rfl,rfl⟩
 all_goals
  go_enter Tryz.func94,Tryz.ntmps94
  go_wp2
  go_ret
  exact ⟨ret_bool (by rw [HR.out];rfl),rfl⟩
theorem convU {n:Int} (h0:0≤n) (h1:n≤255):IntKind.u8.wrap n=n:=by
 rw [IntKind.wrap_u8];omega
set_option maxRecDepth 100000 in
theorem inkBlend_calls (u o a:Int) (hu:0≤u∧u≤255) (ho:0≤o∧o≤255) (ha:0≤a∧a≤255) (w:World):Calls Tryz.prog 101 #[.int .u8 u,.int .u8 o,.int .u8 a] w fun e w'=>e=.returned (.int .u8 (blend u o a))∧w=w':=by
 have hR:blend u o a=(2*(u*(255-a)+o*a)+255) / 510:=rfl
 have hb:=blend_bd hu.1 hu.2 ho.1 ho.2 ha.1 ha.2
 have m1:=Int.mul_le_mul (show u≤255 by omega) (show 255-a≤255 by omega) (by omega) (by omega)
 have m2:=Int.mul_le_mul (show o≤255 by omega) (show a≤255 by omega) (by omega) (by omega)
 have m3:0≤u*(255-a):=Int.mul_nonneg (by omega) (by omega)
 have m4:0≤o*a:=Int.mul_nonneg (by omega) (by omega)
 generalize blend u o a=R at *
 generalize hx:u*(255-a)=x at *
 generalize hy:o*a=y at *
 have hq:(2*(x+y)+255).tdiv 510=R:=by rw [hR,Int.tdiv_eq_ediv_of_nonneg (by omega)]
 clear hR
 have w1:IntKind.i64.wrap x=x:=wrapS (by omega) (by omega)
 have w2:IntKind.i64.wrap y=y:=wrapS (by omega) (by omega)
 have w3:IntKind.u8.wrap R=R:=convU hb.1 hb.2
 go_enter Tryz.func101,Tryz.ntmps101
 go_wp2
 go_ret
 exact ⟨by first|rfl|(rw [←hq];go_num),rfl⟩
theorem page_mul {W H:Nat} (hs:Sides W H):3*W*H≤12288∧3*(W:Int)*(H:Int)=((3*W*H:Nat):Int)∧IntKind.i64.wrap (3*(W:Int))=3*(W:Int)∧IntKind.i64.wrap (3*(W:Int)*(H:Int))=3*(W:Int)*(H:Int):=by
 have h1:=Nat.mul_le_mul (Nat.mul_le_mul_left 3 hs.w1) hs.h1
 have h2:3*(W:Int)*(H:Int)=((3*W*H:Nat):Int):=by simp
 have hw:=hs.w1
 refine ⟨by omega,h2,wrapS (by omega) (by omega),?_⟩
 rw [h2]
 exact wrapS (by omega) (by omega)
theorem run_makeP {n:Nat} (hn:n≤100000) {L:Int} (hL:L=(n:Int)) (w:World) :
  (Instr.makeSlice 51 (.int .i64 L) (.int .i64 L)).run Tryz.prog w=.ok (.slice (some ⟨w.heap.size,0,none⟩) n n) (w.alloc (.cells (arrU n fun _=>0) 5)):=by
 have hS:SliceT Tryz.prog 51 5:=inferInstance
 have hE:ElemT Tryz.prog 5 1 1 (.int .u8 0):=inferInstance
 obtain ⟨i,hi1,hi2,hi3,hi4⟩:=info_parts hE.info
 subst hL
 have hb':(i.bytes:Int)*(n:Int)≤281474976710656:=by rw [hi4];omega
 have hrun:=run_make (P:=Tryz.prog) w _ _ i _ hS.out hi1 hi2 .i64 .i64 (n:Int) (n:Int) (by omega) (Int.le_refl _) hb' (by omega)
 simp only [Int.toNat_natCast,hi3,Nat.mul_one,Value.cells,madeCells_one,arrU_zero] at hrun
 exact hrun
theorem makeP {w0 w:World} {M:List Res} {Φ:List (World→Prop)} {K2:Value→World→Prop} {L:Int} (n:Nat) (hn:n≤100000) (hLn:L=(n:Int)) (hL:Holds w0 w M Φ)
  (h:∀ b w',Holds w0 w' (blk b (arrU n fun _=>0) 5::M) Φ→K2 (.slice (some ⟨b,0,none⟩) n n) w'):MakeAt Tryz.prog 51 L w K2 :=
 ⟨_,_,run_makeP hn hLn w,h _ _ (hL.alloc _ _)⟩
theorem ones_put (N k:Nat):arrU N (fun x=>if x=k then 255 else if x<k then 255 else 0)=arrU N (fun x=>if x<k+1 then 255 else 0):=by
 refine arrU_congr fun x _=>?_
 by_cases h:x=k
 ·subst h;simp
 ·rw [if_neg h]
  have:x<k ↔ x<k+1:=by omega
  simp [this]
set_option maxRecDepth 100000 in
set_option maxHeartbeats 8000000 in
theorem inkNew_calls {W H:Nat} (hs:Sides W H) (w:World):Calls Tryz.prog 60 #[.int .i64 W,.int .i64 H] w (PageOut W H (fun _=>255) w):=by
 obtain ⟨m1,m2,m3,m4⟩:=page_mul hs
 have HW:=Lib.hid (fun w=>inkSide_calls (W:Int) w)
 have HH:=Lib.hid (fun w=>inkSide_calls (H:Int) w)
 rw [side_nat hs.w0 hs.w1] at HW
 rw [side_nat hs.h0 hs.h1] at HH
 have hw0:=hs.w0;have hw1:=hs.w1;have hh0:=hs.h0;have hh1:=hs.h1
 generalize hN:3*W*H=N at *
 have Hn:=Lib.hid hN
 clear hN
 have hL:=Holds.start w
 obtain ⟨n1,n2,n3⟩:=tok3
 go_enter Tryz.func60,Tryz.ntmps60
 go_wp2_with (first|(go_at_call 94;(with_reducible first|refine (HW.out _).mono ?_|refine (HH.out _).mono ?_);rintro e _ ⟨rfl,rfl⟩)|((with_reducible refine wpA_make rfl _ _ _ rfl _ rfl rfl ?_);refine makeP N (by omega) (by omega) hL ?_)|(with_reducible first|(clear hL n1;intro b1 w1 hL)|(clear hL n2;intro b2 w2 hL)|(clear hL n3;intro b3 w3 hL)|(clear hL;intro _ hL))|((with_reducible refine goJ rfl ?_);refine goW ?_))
 rw [show arrU N (fun _=>0)=arrU N (fun x=>if x<0 then 255 else 0) from arrU_congr fun x _=>by simp] at hL
 go_loopw [28] (fun s28 wr=>∃ k:Nat,k≤N∧s28=.int .i64 k∧Holds w wr [blk b3 #[.int .i64 W,.int .i64 H,.slice (some ⟨b2,0,none⟩) N N] 53,blk b2 (arrU N (fun x=>if x<k then 255 else 0)) 5,blk b1 #[.int .i64 0,.int .i64 0,.slice none 0 0] 53] [])
  (fun s28 wr=>N-(intOf s28).toNat)
 case atStart=>exact ⟨0,by omega,rfl,hL⟩
 case round =>
  clear hL
  obtain ⟨k,hk,rfl,hL⟩:=hrel
  by_cases hkt:k<N
  ·have hkb:(k:Int)<(N:Int):=by omega
   go_wp2_with (first|(with_reducible (clear hL;intro _ hL))|((with_reducible refine goJ rfl ?_);refine goW ?_))
   go_roundw
   case rel =>
    rw [ones_put] at hL
    exact ⟨k+1,by omega,by go_num,hL⟩
   case measure=>simp [intOf];omega
  ·have e:k=N:=by omega
   subst e
   go_wp2_with (first|(with_reducible (clear hL;intro _ hL))|((with_reducible refine goJ rfl ?_);refine goW ?_))
   have hr:=Hn.out
   subst hr
   refine bodyPost_ret (results_row2 inferInstance rfl _ hL b1 rfl _ _ (by (repeat (first|with_reducible exact At.here|with_reducible apply At.there))) rfl) rfl ⟨_,_,rfl,hL.below,?_⟩
   refine ((hL.settle (.there .here) (φ:=fun w=>w.heap[b2]?=some (.cells (arrU (3*W*H) (fun x=>if x<3*W*H then 255 else 0)) 5 (0,0))) fun _ h=>h).map fun w' h1=>?_).fresh
   refine ⟨_,rfl,?_⟩
   have:=bytes_of h1 (by unfold maxLen;omega)
   rwa [show (List.range (3*W*H)).map (fun x=>if x<3*W*H then (255:Int) else 0)=(List.range (3*W*H)).map (fun _=>255) from List.map_congr_left fun x hx=>by rw [if_pos (by simpa using hx)]] at this
open Go.RowKit
set_option maxRecDepth 100000 in
set_option maxHeartbeats 8000000 in
theorem inkMay_calls {W H:Nat} (hs:Sides W H) (a:Option Addr) (c:Nat) (w:World):Calls Tryz.prog 67 #[.agg #[.int .i64 W,.int .i64 H,.slice a (3*W*H) c]] w fun e w'=>e=.returned (.bool true)∧Below w.heap.size w w':=by
 obtain ⟨m1,m2,m3,m4⟩:=page_mul hs
 have HW:=Lib.hid (fun w=>inkSide_calls (W:Int) w)
 have HH:=Lib.hid (fun w=>inkSide_calls (H:Int) w)
 rw [side_nat hs.w0 hs.w1] at HW
 rw [side_nat hs.h0 hs.h1] at HH
 generalize 3*W*H=N at *
 clear hs
 have hL:=Holds.start w
 have n1:True:=trivial
 go_enter Tryz.func67,Tryz.ntmps67
 go_wp2_with (first|(go_at_call 94;(with_reducible first|refine (HW.out _).mono ?_|refine (HH.out _).mono ?_);rintro e _ ⟨rfl,rfl⟩)|(with_reducible (clear hL n1;intro b1 w1 hL))|((with_reducible refine goJ rfl ?_);refine goW ?_))
 go_ret
 exact ⟨ret_bool (by simp),hL.below⟩
set_option maxRecDepth 100000 in
set_option maxHeartbeats 8000000 in
theorem inkFits_calls {W H:Nat} (hs:Sides W H) (a:Option Addr) (c:Nat) (sa:Option Addr) (sn sc:Nat) (q:Nat→Nat→Bool) (w:World) (hr:RegAt w (.agg #[.int .i64 W,.int .i64 H,.slice sa sn sc]) (pixReg W H q)):Calls Tryz.prog 97 #[.agg #[.int .i64 W,.int .i64 H,.slice a (3*W*H) c],.agg #[.int .i64 W,.int .i64 H,.slice sa sn sc]] w fun e w'=>e=.returned (.bool true)∧Below w.heap.size w w':=by
 have HM:=Lib.hid (fun w=>inkMay_calls hs a c w)
 have HR:=Lib.hid (fun w' (hb:Below w.heap.size w w')=>pixMay_calls hs w' _ q (hr.below hb))
 generalize 3*W*H=N at *
 clear hs hr
 have hL:=Holds.start w
 obtain ⟨n1,n2⟩:=tok2
 go_enter Tryz.func97,Tryz.ntmps97
 go_wp2_with (first|(go_at_call 67;(with_reducible refine (HM.out _).mono ?_);rintro e _ ⟨rfl,hb⟩;replace hL:=hL.call hb;clear hb)|(go_at_call 68;(with_reducible refine (HR.out _ hL.below).mono ?_);rintro e _ ⟨rfl,hb⟩;replace hL:=hL.call hb;clear hb)|(with_reducible first|(clear hL n1;intro b1 w1 hL)|(clear hL n2;intro b2 w2 hL))|((with_reducible refine goJ rfl ?_);refine goW ?_))
 go_ret
 exact ⟨ret_bool (by simp),hL.below⟩
abbrev pix (B:Nat) (s:Value) (N:Nat) (f:Nat→Int):Res:=own B 5 1 s N (arrU N f).toList
set_option maxRecDepth 100000 in
set_option maxHeartbeats 8000000 in
theorem inkCopied_calls {W H:Nat} (hs:Sides W H) (v:Value) (f:Nat→Int) (w:World) (hp:PageF v W H f w):Calls Tryz.prog 98 #[v] w fun e w'=>∃ a c B,e=.returned (.agg #[.int .i64 W,.int .i64 H,.slice a (3*W*H) c])∧Holds w w' [pix B (.slice a (3*W*H) c) (3*W*H) f] []:=by
 obtain ⟨pa,pc,rfl,_,_,hB⟩:=hp.shape
 obtain ⟨m1,_,_,_⟩:=page_mul hs
 clear hp
 generalize 3*W*H=N at *
 have HB:=Lib.hid (fun w' (hb:Below w.heap.size w w')=>SliceAt.below hB hb)
 clear hB hs
 have hL:=Holds.start w
 obtain ⟨n1,n2,n3⟩:=tok3
 go_enter Tryz.func98,Tryz.ntmps98
 go_wp2_with (first|((with_reducible refine wpA_lit rfl _ _ _ rfl ?_);refine litA0 hL ?_)|((with_reducible refine wpA_append rfl _ _ _ rfl (.slice _ _ _) rfl ?_);intro vq hvq;simp [go_sem] at hvq;subst hvq;refine appendB (N:=N) (g:=f) (HB.out _ hL.below) hL (fun _=>.here) rfl (by omega) (by decide) ?_;clear hL;intro v' w' hL;obtain ⟨sa,sc,rfl⟩:=own_slice hL .here)|(with_reducible first|(clear hL n1;intro b1 w1 hL)|(clear hL n2;intro b2 w2 hL)|(clear hL n3;intro b3 w3 hL)|(clear hL;intro _ hL))|((with_reducible refine wpA_lit rfl _ _ _ rfl ?_);first|refine litA1 hL ?_|refine litA2 hL ?_|refine litA3 hL ?_|refine litA4 hL ?_|refine litA6 hL ?_)|((with_reducible refine goJ rfl ?_);refine goW ?_))
 exact bodyPost_ret (results_row inferInstance rfl _ hL b2 rfl _ _ (by (repeat (first|with_reducible exact At.here|with_reducible apply At.there))) rfl) rfl ⟨sa,sc,_,rfl,(hL.drop (.there .here)).drop (.there .here)⟩
open Go.RowKit
def putG (F V:Nat→Int) (k:Nat):Nat→Nat→Int
 | 0=>F
 | c+1=>fun x=>if x=k+c then V c else putG F V k c x
theorem putG_at (F V:Nat→Int) (k:Nat):∀ c x,k+c≤x→putG F V k c x=F x
 | 0,_,_=>rfl
 | c+1,x,h=>by
  show (if x=k+c then V c else putG F V k c x)=F x
  rw [if_neg (by omega),putG_at F V k c x (by omega)]
theorem chan_get (K:Ink) (c:Nat) (hc:c<3):(#[Value.int .u8 K.r,.int .u8 K.g,.int .u8 K.b]:Array Value)[((c:Int)).toNat]?=some (.int .u8 (chan K c)):=by
 rcases (by omega:c=0∨c=1∨c=2) with rfl|rfl|rfl <;> rfl
theorem chan_bd {K:Ink} (h:InkOk K) (c:Nat):0≤chan K c∧chan K c≤255:=by
 unfold chan
 split
 ·exact h.1
 split
 ·exact h.2.1
 ·exact h.2.2.1
set_option maxRecDepth 100000 in
set_option maxHeartbeats 16000000 in
theorem putStep_calls {W H:Nat} (K:Ink) (hK:InkOk K) {N k:Nat} (hN:N≤100000) (hk:k+3≤N) {F:Nat→Int} (hF:∀ c,c<3→0≤F (k+c)∧F (k+c)≤255) {w00 w:World} {M:List Res} {Φ:List (World→Prop)} {B bp bk g cap:Nat}
  (hL:Holds w00 w (pix B (.slice (some ⟨g,0,none⟩) N cap) N F::blk bp #[.int .i64 W,.int .i64 H,.slice (some ⟨g,0,none⟩) N cap] 53::blk bk #[.int .u8 K.r,.int .u8 K.g,.int .u8 K.b,.int .u8 K.a] 30::M) Φ) :
  Calls Tryz.prog 100 #[.int .i64 k,.pointer (some ⟨bk,0,none⟩),.pointer (some ⟨bp,0,none⟩)] w fun e w'=>e=.returned (.tuple #[])∧Holds w00 w' (pix B (.slice (some ⟨g,0,none⟩) N cap) N (putG F (fun c=>blend (F (k+c)) (chan K c) K.a) k 3)::blk bp #[.int .i64 W,.int .i64 H,.slice (some ⟨g,0,none⟩) N cap] 53::blk bk #[.int .u8 K.r,.int .u8 K.g,.int .u8 K.b,.int .u8 K.a] 30::M) Φ:=by
 have HC:=Lib.hid (chan_get K)
 have hCb:=fun c=>chan_bd hK c
 have hAb:=hK.2.2.2
 have HG:=Lib.hid (fun c (_:c<3)=>putG_at F (fun c=>blend (F (k+c)) (chan K c) K.a) k c (k+c) (by omega))
 have HB:=Lib.hid (fun c (h:c<3) w=>inkBlend_calls (F (k+c)) (chan K c) K.a (hF c h) (hCb c) hAb w)
 obtain ⟨V,hV⟩:∃ V:Nat→Int,(fun c=>blend (F (k+c)) (chan K c) K.a)=V:=⟨_,rfl⟩
 have hVc:∀ c,blend (F (k+c)) (chan K c) K.a=V c:=fun c=>congrFun hV c
 simp only [hVc] at HB
 rw [hV] at HG ⊢
 clear hV hVc hK hCb hAb
 obtain ⟨kr,kg,kb,ka⟩:=K
 dsimp only at *
 go_enter Tryz.func100,Tryz.ntmps100
 go_wp2_with ((with_reducible refine goJ rfl ?_);refine goW ?_)
 go_loopw [13] (fun s13 wr=>∃ c:Nat,c≤3∧s13=.int .i64 c∧Holds w00 wr (pix B (.slice (some ⟨g,0,none⟩) N cap) N (putG F V k c)::blk bp #[.int .i64 W,.int .i64 H,.slice (some ⟨g,0,none⟩) N cap] 53::blk bk #[.int .u8 kr,.int .u8 kg,.int .u8 kb,.int .u8 ka] 30::M) Φ)
  (fun s13 wr=>3-(intOf s13).toNat)
 case atStart=>exact ⟨0,by omega,rfl,hL⟩
 case round =>
  clear hL
  obtain ⟨c,hc,rfl,hL⟩:=hrel
  by_cases hct:c<3
  ·have hcb:(c:Int)<3:=by omega
   have Hc:=Lib.hid (HC.out c hct)
   have HBc:=Lib.hid (HB.out c hct)
   rw [←HG.out c hct] at HBc
   have Hs:=Lib.hid (show (arrU N (putG F V k c)).toList.set (k+c) (.int .u8 (V c))=(arrU N (putG F V k (c+1))).toList from arrU_setL (putG F V k c) (V c) (by omega))
   generalize chan ⟨kr,kg,kb,ka⟩ c=ch at *
   generalize putG F V k c=G at *
   generalize hG2:putG F V k (c+1)=G2 at *
   have HG2:=Lib.hid hG2
   clear hG2
   generalize V c=vc at *
   have hlen:(arrU N G).toList.length=N:=arrU_lenL N G
   have w1:IntKind.i64.wrap ((k:Int)+(c:Int))=(k:Int)+(c:Int):=wrapS (by omega) (by omega)
   have hix:((k:Int)+(c:Int)).toNat=k+c:=by omega
   have hix0:0≤(k:Int)+(c:Int):=by omega
   have hix1:(k:Int)+(c:Int)<(N:Int):=by omega
   go_wp2_with ((with_reducible refine wpA_index rfl _ _ _ rfl _ rfl _ rfl ?_);refine indexC (v:=.int .u8 ch) ?_ (by omega) (by omega) Hc.out)
   refine wpN_holds 17 (by kernel_rfl) hL fun hS=>?_
   replace hL:=hS
   refine deN 0 hS ?_
   refine stN (i:=1) ?_ hS (fun w' hw=>?_) ?_;rotate_left;(· refine run_loadOp _ _ rfl _ rfl _ ?_;refine loadA hw ?_;rfl)
   simp only [Act.put,setP]
   refine deN 2 hS ?_
   refine deN 3 hS ?_
   refine deN 4 hS ?_
   refine deN 5 hS ?_
   refine stN (i:=6) ?_ hS (fun w' hw=>?_) ?_;rotate_left;(· refine run_loadOp _ _ rfl _ rfl _ ?_;refine loadA hw ?_;rfl)
   simp only [Act.put,setP]
   refine deN 7 hS ?_
   refine deN 8 hS ?_
   refine deN 9 hS ?_
   refine deN 10 hS ?_
   refine stN (i:=11) ?_ hS (fun w' hw=>?_) ?_;rotate_left;(· refine run_loadOp _ _ rfl _ rfl _ ?_;refine loadU hw ?_;rfl)
   simp only [Act.put,setP]
   refine deN 12 hS ?_
   refine deN 13 hS ?_
   refine stN (i:=14) ?_ hS (fun w' hw=>?_) ?_;rotate_left;(· refine run_loadOp _ _ rfl _ rfl _ ?_;refine loadA hw ?_;rfl)
   simp only [Act.put,setP]
   refine wpN_one (i:=15) (by kernel_rfl) (wpOf ?_)
   refine st_call rfl _ _ ?_ (HBc.out _) ?_
   (· go_simp;try with_reducible rfl)
   rintro e _ ⟨rfl,rfl⟩
   refine ⟨_,rfl,fun _=>hS,?_⟩
   simp only [Act.put,setP]
   refine deN 16 hS ?_
   refine wpN_one (i:=17) (by kernel_rfl) (wpOf ?_)
   clear hS
   refine st_store rfl _ _ _ rfl _ rfl (.int _ _) rfl ?_
   first|refine storeA hL ?_|refine storeO hL ?_|refine storeR hL ?_
   clear hL;intro w9 hL
   refine ⟨fun h=>absurd h (by decide),?_⟩
   try simp only [Act.put]
   refine wpN_done (by kernel_rfl) ?_
   go_wp2
   go_roundw
   case rel =>
    rw [Hs.out] at hL
    exact ⟨c+1,by omega,by go_num,by rw [HG2.out];exact hL⟩
   case measure=>simp [intOf];omega
  ·have e:c=3:=by omega
   subst e
   go_wp2_with ((with_reducible refine goJ rfl ?_);refine goW ?_)
   exact bodyPost_end (results_none rfl _ _ _) rfl ⟨rfl,hL⟩
open Go.RowKit
set_option maxRecDepth 100000 in
set_option maxHeartbeats 16000000 in
theorem inkEach_calls {W H:Nat} (hs:Sides W H) (q:Nat→Nat→Bool) {w00 w:World} {sa:Option Addr} {sn sc:Nat} (hv:RegAt w00 (.agg #[.int .i64 W,.int .i64 H,.slice sa sn sc]) (pixReg W H q)) {bk bp:Nat} (MC:Nat→(Nat→Bool)→List Res) {Φ:List (World→Prop)}
  (hf:∀ (j i:Nat) (S:Nat→Bool) (w1:World) (Mr:List Res),j<H→i<W→S i=false→Holds w00 w1 (Mr++MC j S) Φ→Calls Tryz.prog 100 #[.int .i64 (3*((j:Int)*(W:Int)+(i:Int))),.pointer (some ⟨bk,0,none⟩),.pointer (some ⟨bp,0,none⟩)] w1 fun e w2=>e=.returned (.tuple #[])∧Holds w00 w2 (Mr++MC j (fun c=>if c=i then true else S c)) Φ)
  (hnext:∀ j S,(∀ c,c<W→S c=q j c)→MC j S=MC (j+1) fun _=>false)
  (hL:Holds w00 w (MC 0 fun _=>false) Φ) :
  Calls Tryz.prog 99 #[.agg #[.int .i64 W,.int .i64 H,.slice sa sn sc],.func (.func 100) #[] #[.pointer (some ⟨bk,0,none⟩),.pointer (some ⟨bp,0,none⟩)]] w fun e w'=>e=.returned (.tuple #[])∧Holds w00 w' (MC H fun _=>false) Φ:=by
 obtain ⟨hsn,hrow⟩:=regRow hv
 have hsn:=hsn.symm
 subst hsn
 have Hrow:=Lib.hid hrow;clear hrow
 have Hf:=Lib.hid hf;clear hf
 have Hnx:=Lib.hid hnext;clear hnext
 clear hv
 obtain ⟨hw0,hw1,hh0,hh1⟩:=id hs
 have n1:True:=trivial
 go_enter Tryz.func99,Tryz.ntmps99
 go_wp2_with (first|(with_reducible (clear hL n1;intro b1 w1 hL))|((with_reducible refine goJ rfl ?_);refine goW ?_))
 go_loopw [12] (fun s12 wr=>∃ j:Nat,j≤H∧s12=.int .i64 j∧Holds w00 wr (blk b1 #[.int .i64 W,.int .i64 H,.slice sa H sc] 39::MC j (fun _=>false)) Φ)
  (fun s12 wr=>(64-intOf s12).toNat)
 case atStart=>exact ⟨0,by omega,rfl,hL⟩
 case round =>
  clear hL
  obtain ⟨j,hj,rfl,hL⟩:=hrel
  by_cases hjt:j<H
  ·obtain ⟨b,o,va,vn,vc,rfl,hc,hr⟩:=Hrow.out j hjt
   obtain ⟨a2,cap2,he,hlc,hcm,hel⟩:=hr.parts
   cases he
   have HP:=Lib.hid (show ∀ c,c<W→inRuns (runsTo (q j) W) c=q j c from fun c hc=>by rw [inRuns_runsTo _ (by omega)];simp [hc])
   have HB:=Lib.hid (mayFrom_bounds (runsTo (q j) W) (-1) (mayFrom_runsTo (q j) W).1)
   have HR:=Lib.hid (runs_behind (runsTo (q j) W) (-1) (mayFrom_runsTo (q j) W).1)
   generalize runsTo (q j) W=l at *
   have Hl:=Lib.hid hel
   clear hel hr
   unfold maxLen at hcm
   go_wp2_with (first|(with_reducible (clear hL n1;intro b1 w1 hL))|((with_reducible refine goJ rfl ?_);refine goW ?_))
   go_loopw [19] (fun s19 wr=>∃ k:Nat,k≤l.length∧s19=.int .i64 k∧Holds w00 wr (blk b1 #[.int .i64 W,.int .i64 H,.slice (some ⟨b,o,none⟩) H sc] 39::MC j (inRuns (l.take k))) Φ)
    (fun s19 wr=>l.length-(intOf s19).toNat)
   case atStart=>exact ⟨0,by omega,rfl,hL⟩
   case round =>
    clear hL
    obtain ⟨k,hk,rfl,hL⟩:=hrel
    by_cases hkt:k<l.length
    ·obtain ⟨b',o',rfl,hrr⟩:=Hl.out k hkt
     obtain ⟨f1,f2,f3⟩:=HB.out k hkt
     have He:=Lib.hid (ofMid_end l k hkt)
     have Hs:=Lib.hid (ofMid_start l k (l.getD k (0,0)).1)
     have Ht:=Lib.hid (ofMid_step l k (l.getD k (0,0)).1)
     have Hnw:=Lib.hid (fun (i:Nat) (hi:(l.getD k (0,0)).1≤(i:Int))=>ofMid_new (l:=l) (k:=k) (f:=(l.getD k (0,0)).1) (i:=i) (fun m hm hml=>HR.out m k hm hkt) hi)
     generalize (l.getD k (0,0)).1=f at *
     generalize (l.getD k (0,0)).2=t at *
     obtain ⟨n1,n2⟩:=tok2
     clear n1
     go_wp2_with (first|(with_reducible first|(clear hL n2;intro b2 w2 hL)|(clear hL;intro _ hL))|((with_reducible refine goJ rfl ?_);refine goW ?_))
     go_loopw [8] (fun s8 wr=>∃ i:Nat,s8=.int .i64 i∧f≤(i:Int)∧(i:Int)≤t∧Holds w00 wr (blk b2 #[.int .i64 f,.int .i64 t] 124::blk b1 #[.int .i64 W,.int .i64 H,.slice (some ⟨b,o,none⟩) H sc] 39::MC j (ofMid l k f i)) Φ)
      (fun s8 wr=>(64-intOf s8).toNat)
     case atStart =>
      rw [←Hs.out] at hL
      have e1:max 0 f=f:=by omega
      have e2:((f.toNat:Nat):Int)=f:=by omega
      rw [e1] at hL
      exact ⟨f.toNat,by rw [e2],by omega,by omega,by rw [e2];exact hL⟩
     case round =>
      clear hL
      obtain ⟨i,rfl,hi1,hi2,hL⟩:=hrel
      by_cases hit:(i:Int)<t
      ·have hiW:i<W:=by omega
       have hjw:0≤(j:Int)*(W:Int)∧(j:Int)*(W:Int)≤4096:=by
        have:=Nat.mul_le_mul (show j≤64 by omega) hw1
        have h:((j*W:Nat):Int)≤4096:=by omega
        exact ⟨Int.mul_nonneg (by omega) (by omega),by simpa using h⟩
       have HC:=Lib.hid (show ∀ w1,Holds w00 w1 (blk b2 #[.int .i64 f,.int .i64 t] 124::blk b1 #[.int .i64 W,.int .i64 H,.slice (some ⟨b,o,none⟩) H sc] 39::MC j (ofMid l k f i)) Φ→Calls Tryz.prog 100 #[.int .i64 (3*((j:Int)*(W:Int)+(i:Int))),.pointer (some ⟨bk,0,none⟩),.pointer (some ⟨bp,0,none⟩)] w1 fun e w2=>e=.returned (.tuple #[])∧Holds w00 w2 (blk b2 #[.int .i64 f,.int .i64 t] 124::blk b1 #[.int .i64 W,.int .i64 H,.slice (some ⟨b,o,none⟩) H sc] 39::MC j (ofMid l k f (i+1:Nat))) Φ from fun w1 h=>by
        have:=Hf.out j i (ofMid l k f i) w1 [blk b2 #[.int .i64 f,.int .i64 t] 124,blk b1 #[.int .i64 W,.int .i64 H,.slice (some ⟨b,o,none⟩) H sc] 39] hjt hiW (Hnw.out i hi1) h
        rw [Ht.out i (by omega)] at this
        exact this)
       have w1:IntKind.i64.wrap ((j:Int)*(W:Int))=(j:Int)*(W:Int):=wrapS (by omega) (by omega)
       have w2:IntKind.i64.wrap ((j:Int)*(W:Int)+(i:Int))=(j:Int)*(W:Int)+(i:Int):=wrapS (by omega) (by omega)
       have w3:IntKind.i64.wrap (3*((j:Int)*(W:Int)+(i:Int)))=3*((j:Int)*(W:Int)+(i:Int)):=wrapS (by omega) (by omega)
       go_wp2_with (first|(go_at_call 100;(with_reducible refine (HC.out _ hL).mono ?_);rintro e _ ⟨rfl,hL2⟩;replace hL:=hL2;clear hL2)|((with_reducible refine goJ rfl ?_);refine goW ?_))
       go_roundw
       case rel=>exact ⟨i+1,by go_num,by omega,by omega,hL⟩
       case measure=>simp [intOf];omega
      ·have He2:=He.out i (by omega) (by omega) (by omega)
       rw [He2] at hL
       clear He2
       go_wp2_with (first|(with_reducible first|(clear hL n2;intro b2 w2 hL)|(clear hL;intro _ hL))|((with_reducible refine goJ rfl ?_);refine goW ?_))
       go_roundw
       case rel=>exact ⟨k+1,by omega,by go_num,hL.drop .here⟩
       case measure=>simp [intOf];omega
    ·have e:k=l.length:=by omega
     subst e
     rw [List.take_length,Hnx.out j _ HP.out] at hL
     go_wp2_with (first|(with_reducible first|(clear hL n2;intro b2 w2 hL)|(clear hL;intro _ hL))|((with_reducible refine goJ rfl ?_);refine goW ?_))
     go_roundw
     case rel=>exact ⟨j+1,by omega,by go_num,hL⟩
     case measure=>simp [intOf];omega
  ·have e:j=H:=by omega
   subst e
   go_wp2_with (first|(with_reducible first|(clear hL n2;intro b2 w2 hL)|(clear hL;intro _ hL))|((with_reducible refine goJ rfl ?_);refine goW ?_))
   exact bodyPost_end (results_none rfl _ _ _) rfl ⟨rfl,hL.drop .here⟩
theorem three_mod (n:Nat) (c:Nat) (hc:c<3):(3*n+c)%3=c:=by omega
def gPut (K:Ink) (n:Nat) (v:Int):Int:=blend v (chan K (n%3)) K.a
theorem putG_do {W N i j:Nat} (q:Nat→Nat→Bool) (S:Nat→Bool) (K:Ink) (f:Nat→Int) (hi:i<W) (hS:S i=false):arrU N (putG (doF W (pgF q j S) (gPut K) f) (fun c=>blend (doF W (pgF q j S) (gPut K) f (3*(j*W+i)+c)) (chan K c) K.a) (3*(j*W+i)) 3)=arrU N (doF W (pgF q j fun c=>if c=i then true else S c) (gPut K) f):=by
 rw [←doF_set (N:=N) q S (gPut K) f hi]
 refine arrU_congr fun x _=>?_
 have e:∀ c,c<3→blend (doF W (pgF q j S) (gPut K) f (3*(j*W+i)+c)) (chan K c) K.a=gPut K (3*(j*W+i)+c) (f (3*(j*W+i)+c)):=fun c hc=>by
  rw [doF_at q S (gPut K) f hi hc hS]
  unfold gPut
  rw [three_mod _ c hc]
 show (if x=3*(j*W+i)+2 then _ else if x=3*(j*W+i)+1 then _ else if x=3*(j*W+i)+0 then _ else doF W (pgF q j S) (gPut K) f x)=_
 rw [e 2 (by omega),e 1 (by omega),e 0 (by omega)]
 rfl
theorem doF_bd {W:Nat} {P:Nat→Nat→Bool} {K:Ink} (hK:InkOk K) {f:Nat→Int} (hf:∀ n,0≤f n∧f n≤255) (n:Nat):0≤doF W P (gPut K) f n∧doF W P (gPut K) f n≤255:=by
 unfold doF
 split
 ·unfold gPut
  have hc:=chan_bd hK (n%3)
  exact blend_bd (hf n).1 (hf n).2 hc.1 hc.2 hK.2.2.2.1 hK.2.2.2.2
 ·exact hf n
set_option maxRecDepth 100000 in
set_option maxHeartbeats 16000000 in
theorem inkPut_calls {W H:Nat} (hs:Sides W H) (q:Nat→Nat→Bool) (K:Ink) (hK:InkOk K) (f:Nat→Int) (hf:∀ n,0≤f n∧f n≤255) (w:World) (vp:Value) (hp:PageF vp W H f w) {sa:Option Addr} {sn sc:Nat} (hv:RegAt w (.agg #[.int .i64 W,.int .i64 H,.slice sa sn sc]) (pixReg W H q)) :
  Calls Tryz.prog 62 #[vp,.agg #[.int .i64 W,.int .i64 H,.slice sa sn sc],.agg #[.int .u8 K.r,.int .u8 K.g,.int .u8 K.b,.int .u8 K.a]] w (PageOut W H (putF W q K f) w):=by
 obtain ⟨pa,pc,rfl,_,_,_⟩:=hp.shape
 obtain ⟨m1,_,_,_⟩:=page_mul hs
 have hW:=hs.w0
 have HFt:=Lib.hid (fun w' (hb:Below w.heap.size w w')=>inkFits_calls hs pa pc sa sn sc q w' (hv.below hb))
 have HCp:=Lib.hid (fun w' (hb:Below w.heap.size w w')=>inkCopied_calls hs _ f w' (hp.below hb))
 have HE:=Lib.hid (fun (w1:World) (bk bp:Nat) (MC:Nat→(Nat→Bool)→List Res)=>@inkEach_calls W H hs q w w1 sa sn sc hv bk bp MC [])
 have HN:=Lib.hid (show ∀ (g cap:Nat),g<0→cap=cap from fun _ _ _=>rfl)
 clear hp HN
 have hN:0<3*W*H:=by have:=Nat.mul_le_mul hs.w0 hs.h0;rw [Nat.mul_assoc];omega
 have hidx:∀ j i,j<H→i<W→3*(j*W+i)+3≤3*W*H:=fun j i hj hi=>by
  have:=idx_lt hj hi
  rw [Nat.mul_assoc];omega
 have hst:=doF_none (N:=3*W*H) (W:=W) q (gPut K) f
 have hend:=doF_whole (H:=H) hW q (gPut K) f
 have hnx:∀ j S,(∀ c,c<W→S c=q j c)→arrU (3*W*H) (doF W (pgF q j S) (gPut K) f)=arrU (3*W*H) (doF W (pgF q (j+1) fun _=>false) (gPut K) f):=fun j S h=>doF_congr hW (pgF_next q j S h)
 have hstep:=fun (j i:Nat) (S:Nat→Bool) (hi:i<W) (hS:S i=false)=>putG_do (N:=3*W*H) (j:=j) q S K f (i:=i) hi hS
 have hbd:=fun P n=>doF_bd (W:=W) (P:=P) hK hf n
 have hput:putF W q K f=doF W q (gPut K) f:=rfl
 rw [hput]
 generalize hNe:3*W*H=N at *
 have HNe:=Lib.hid hNe
 clear hs hv hf hput hNe
 have HSt:=Lib.hid hst;clear hst
 have HEnd:=Lib.hid hend;clear hend
 have HNx:=Lib.hid hnx;clear hnx
 have HStep:=Lib.hid hstep;clear hstep
 have HBd:=Lib.hid hbd;clear hbd
 have HIdx:=Lib.hid hidx;clear hidx
 have HK:=Lib.hid hK;clear hK
 have hL:=Holds.start w
 obtain ⟨n1,n2,n3,n4⟩:=tok4
 go_enter Tryz.func62,Tryz.ntmps62
 go_wp2_with (first|(go_at_call 97;(with_reducible refine (HFt.out _ hL.below).mono ?_);rintro e _ ⟨rfl,hb⟩;replace hL:=hL.call hb;clear hb)|(go_at_call 98;(with_reducible refine (HCp.out _ hL.below).mono ?_);rintro e wc ⟨ca,cc,B,rfl,hk⟩;replace hL:=hL.comp hk;clear hk;simp only [List.cons_append,List.nil_append] at hL)|(with_reducible first|(clear hL n1;intro b1 w1 hL)|(clear hL n2;intro b2 w2 hL)|(clear hL n3;intro b3 w3 hL)|(clear hL n4;intro b4 w4 hL)|(clear hL;intro _ hL))|((with_reducible refine goJ rfl ?_);refine goW ?_))
 obtain ⟨g,cap,e5⟩:=own_shape hL .here hN
 cases e5
 replace hL:=(((hL.pull (.there .here)).pull (.there (.there .here))).pull (.there (.there (.there (.there .here))))).pull (.there (.there (.there .here)))
 refine (HE.out _ b3 b1 (fun j S=>[pix B (.slice (some ⟨g,0,none⟩) N cc) N (doF W (pgF q j S) (gPut K) f),blk b1 #[.int .i64 W,.int .i64 H,.slice (some ⟨g,0,none⟩) N cc] 53,blk b3 #[.int .u8 K.r,.int .u8 K.g,.int .u8 K.b,.int .u8 K.a] 30,blk b4 #[.int .i64 0,.int .i64 0,.slice none 0 0] 53,blk b2 #[.int .i64 W,.int .i64 H,.slice sa sn sc] 39]) ?_ ?_ ?_).mono ?_
 ·intro j i S w1 Mr hj hi hS h
  have hc:=putStep_calls K HK.out (N:=N) (k:=3*(j*W+i)) (by omega) (HIdx.out j i hj hi) (fun c _=>HBd.out _ _) h.turn
  rw [show (((3*(j*W+i):Nat)):Int)=3*((j:Int)*(W:Int)+(i:Int)) by simp] at hc
  refine hc.mono fun e w2 h3=>⟨h3.1,?_⟩
  have h4:=h3.2
  unfold pix at h4
  rw [HStep.out j i S hi hS] at h4
  exact Holds.turn (M:=[_,_,_,_,_]) h4
 ·intro j S h
  unfold pix
  rw [HNx.out j S h]
 ·unfold pix
  rw [HSt.out]
  exact hL
 ·rintro e _ ⟨rfl,hL2⟩
  unfold pix at hL2
  rw [HEnd.out] at hL2
  clear hL
  have hL:=hL2
  clear hL2
  go_wp2_with (first|(with_reducible (clear hL;intro _ hL))|((with_reducible refine goJ rfl ?_);refine goW ?_))
  have hNe:=HNe.out
  subst hNe
  refine bodyPost_ret (results_row2 inferInstance rfl _ hL b4 rfl _ _ (by (repeat (first|with_reducible exact At.here|with_reducible apply At.there))) rfl) rfl ⟨_,_,rfl,hL.below,?_⟩
  exact (hL.settle .here (φ:=fun w=>PageF (.agg #[.int .i64 W,.int .i64 H,.slice (some ⟨g,0,none⟩) (3*W*H) cc]) W H (doF W q (gPut K) f) w) fun w h=>⟨_,rfl,page_own h⟩).fresh
open Go.RowKit
def gImg (W:Nat) (i:Img) (m:Mtx) (n:Nat) (_:Int):Int:=greyI i (atI i m (16*((n / 3%W:Nat):Int)+8) (16*((n / 3 / W:Nat):Int)+8))
theorem gImg_at {W j x c:Nat} (i:Img) (m:Mtx) (v:Int) (hx:x<W) (hc:c<3):gImg W i m (3*(j*W+x)+c) v=greyI i (atI i m (16*(x:Int)+8) (16*(j:Int)+8)):=by
 obtain ⟨h1,h2⟩:=three_at (W:=W) (j:=j) hx hc
 unfold gImg
 rw [h1,h2]
def andP (S p:Nat→Bool) (c:Nat):Bool:=S c&&p c
theorem andP_set {S p:Nat→Bool} {i:Nat} (h:p i=true):(fun c=>if c=i then true else andP S p c)=andP (fun c=>if c=i then true else S c) p:=by
 funext c
 unfold andP
 by_cases hc:c=i
 ·subst hc;simp [h]
 ·simp [hc]
theorem andP_skip {S p:Nat→Bool} {i:Nat} (h:p i=false):andP S p=andP (fun c=>if c=i then true else S c) p:=by
 funext c
 unfold andP
 by_cases hc:c=i
 ·subst hc;simp [h]
 ·simp [hc]
set_option maxRecDepth 100000 in
set_option maxHeartbeats 16000000 in
theorem imgPaint_calls {W H:Nat} (hs:Sides W H) (q:Nat→Nat→Bool) (i:Img) (hl:i.data.size≤maxLen) (hi:mayImg i=true) (m:Mtx) (hm:mayMtx m=true) (hD:detM m≠0) (f:Nat→Int) (w:World) (vp:Value) (hp:PageF vp W H f w) {sa:Option Addr} {sn sc:Nat} (hv:RegAt w (.agg #[.int .i64 W,.int .i64 H,.slice sa sn sc]) (pixReg W H q)) :
  Calls Tryz.prog 61 #[vp,imgV i,mtxV m,.agg #[.int .i64 W,.int .i64 H,.slice sa sn sc]] w (PageOut W H (imgF W q i m f) w):=by
 obtain ⟨pa,pc,rfl,_,_,hB⟩:=hp.shape
 clear hp
 obtain ⟨m1,_,_,_⟩:=page_mul hs
 obtain ⟨hw0,hw1,hh0,hh1⟩:=id hs
 have HK:=Lib.hid (fun w=>imgLook_calls i hl hi m hm w)
 have HMy:=Lib.hid (fun w=>inkMay_calls hs pa pc w)
 have HRm:=Lib.hid (fun w' (hb:Below w.heap.size w w')=>pixMay_calls hs w' _ q (hv.below hb))
 have ok:=mayImg_ok hi
 have hbits:=ok.bits
 have HAt:=Lib.hid (fun w (j x:Nat) (h1:j<64) (h2:x<64)=>viewAt_calls i ok m hm hD (16*(x:Int)+8) (16*(j:Int)+8) (by omega) (by omega) w)
 have hD0:¬detM m=0:=hD
 have hV:∀ j x:Nat,-1≤atI i m (16*(x:Int)+8) (16*(j:Int)+8)∧atI i m (16*(x:Int)+8) (16*(j:Int)+8)<2^i.bits.toNat∧atI i m (16*(x:Int)+8) (16*(j:Int)+8)≤255:=fun j x=>sampI_in ok _ _
 have hG:∀ v,0≤v→v<2^i.bits.toNat→0≤greyI i v∧greyI i v≤255:=fun v h1 h2=>greyI_bd ok h1 h2
 have hGe:∀ v,greyI i v=v*255 / (2^i.bits.toNat-1):=fun _=>rfl
 have hPv:∀ j x,sampP i m 0 j x=decide (0≤atI i m (16*(x:Int)+8) (16*(j:Int)+8)):=fun _ _=>rfl
 obtain ⟨hsn,hrow⟩:=regRow hv
 have hsn:=hsn.symm
 subst hsn
 have Hrow:=Lib.hid hrow;clear hrow
 have hN:0<3*W*H:=by have:=Nat.mul_le_mul hs.w0 hs.h0;rw [Nat.mul_assoc];omega
 have hidx:∀ j x,j<H→x<W→3*(j*W+x)+3≤3*W*H:=fun j x hj hx=>by
  have:=idx_lt hj hx
  rw [Nat.mul_assoc];omega
 have hst:=doF_none (N:=3*W*H) (W:=W) (fun j x=>q j x&&sampP i m 0 j x) (gImg W i m) f
 have hend:=doF_whole (H:=H) hw0 (fun j x=>q j x&&sampP i m 0 j x) (gImg W i m) f
 have hnx:∀ j (S:Nat→Bool),(∀ c,c<W→S c=q j c)→arrU (3*W*H) (doF W (pgF (fun j x=>q j x&&sampP i m 0 j x) j (andP S (sampP i m 0 j))) (gImg W i m) f)=arrU (3*W*H) (doF W (pgF (fun j x=>q j x&&sampP i m 0 j x) (j+1) fun _=>false) (gImg W i m) f):=fun j S h=>doF_congr hw0 (pgF_next _ j _ fun c hc=>by unfold andP;rw [h c hc])
 have hstep:∀ (j x:Nat) (S:Nat→Bool),x<W→sampP i m 0 j x=true→arrU (3*W*H) (fun y=>if y=3*(j*W+x)+2 then greyI i (atI i m (16*(x:Int)+8) (16*(j:Int)+8)) else if y=3*(j*W+x)+1 then greyI i (atI i m (16*(x:Int)+8) (16*(j:Int)+8)) else if y=3*(j*W+x) then greyI i (atI i m (16*(x:Int)+8) (16*(j:Int)+8)) else doF W (pgF (fun j x=>q j x&&sampP i m 0 j x) j (andP S (sampP i m 0 j))) (gImg W i m) f y)=arrU (3*W*H) (doF W (pgF (fun j x=>q j x&&sampP i m 0 j x) j (andP (fun c=>if c=x then true else S c) (sampP i m 0 j))) (gImg W i m) f):=fun j x S hx hp=>by
  have h:=doF_set (N:=3*W*H) (j:=j) (fun j x=>q j x&&sampP i m 0 j x) (andP S (sampP i m 0 j)) (gImg W i m) f hx
  have g2:∀ v,gImg W i m (3*(j*W+x)+2) v=greyI i (atI i m (16*(x:Int)+8) (16*(j:Int)+8)):=fun v=>gImg_at (j:=j) (c:=2) i m v hx (by omega)
  have g1:∀ v,gImg W i m (3*(j*W+x)+1) v=greyI i (atI i m (16*(x:Int)+8) (16*(j:Int)+8)):=fun v=>gImg_at (j:=j) (c:=1) i m v hx (by omega)
  have g0:∀ v,gImg W i m (3*(j*W+x)) v=greyI i (atI i m (16*(x:Int)+8) (16*(j:Int)+8)):=fun v=>gImg_at (j:=j) (c:=0) i m v hx (by omega)
  rw [andP_set hp] at h
  rw [←h]
  refine arrU_congr fun y _=>?_
  rw [g2,g1,g0]
 have hskip:∀ (j x:Nat) (S:Nat→Bool),sampP i m 0 j x=false→andP S (sampP i m 0 j)=andP (fun c=>if c=x then true else S c) (sampP i m 0 j):=fun j x S h=>andP_skip h
 rw [show imgF W q i m f=doF W (fun j x=>q j x&&sampP i m 0 j x) (gImg W i m) f from rfl]
 obtain ⟨V,hVe⟩:∃ V:Nat→Nat→Int,(fun (j x:Nat)=>atI i m (16*(x:Int)+8) (16*(j:Int)+8))=V:=⟨_,rfl⟩
 have hVv:∀ (j x:Nat),atI i m (16*(x:Int)+8) (16*(j:Int)+8)=V j x:=fun (j x:Nat)=>by rw [←hVe]
 simp only [hVv] at HAt hV hPv hstep
 clear hVe hVv
 generalize gImg W i m=gi at *
 generalize sampP i m 0=sp at *
 generalize greyI i=gr at *
 generalize detM m=D at *
 generalize hNe:3*W*H=N at *
 have HNe:=Lib.hid hNe
 have HB:=Lib.hid (fun w' (hb:Below w.heap.size w w')=>SliceAt.below hB hb)
 have HPv:=Lib.hid hPv
 have HV:=Lib.hid hV
 have HG:=Lib.hid hG
 have HGe:=Lib.hid hGe
 have HSt:=Lib.hid hst
 have HEnd:=Lib.hid hend
 have HNx:=Lib.hid hnx
 have HStep:=Lib.hid hstep
 have HSkip:=Lib.hid hskip
 have HIdx:=Lib.hid hidx
 clear hPv hV hG hGe hst hend hnx hstep hskip hidx hNe hB ok hs hv hl hi hm hD
 obtain ⟨iw,ih,bits,data⟩:=i
 obtain ⟨a,b,c,d,e,f'⟩:=m
 unfold viewV imgV mtxV at *
 dsimp only at *
 have hpw:IntKind.i64.wrap ((2:Int)^bits.toNat)=2^bits.toNat∧IntKind.i64.wrap ((2:Int)^bits.toNat-1)=2^bits.toNat-1:=by rcases hbits with e|e|e|e <;> subst e <;> decide
 have hp3:(1:Int)≤2^bits.toNat-1:=by rcases hbits with e|e|e|e <;> subst e <;> decide
 obtain ⟨hp1,hp2⟩:=hpw
 have hb0:¬bits<0:=by omega
 have hmj:min bits.toNat 64=bits.toNat:=by omega
 clear hbits
 generalize hpp:(2:Int)^bits.toNat=pw at *
 have hL:=Holds.start w
 obtain ⟨n1,n2,n3,n4,n5,n6⟩:=tok6
 go_enter Tryz.func61,Tryz.ntmps61
 go_wp2_with (first|(go_at_call 95;(with_reducible refine (HK.out _).mono ?_);rintro e _ ⟨rfl,hb⟩;replace hL:=hL.call hb;clear hb)|(go_at_call 67;(with_reducible refine (HMy.out _).mono ?_);rintro e _ ⟨rfl,hb⟩;replace hL:=hL.call hb;clear hb)|(go_at_call 68;(with_reducible refine (HRm.out _ hL.below).mono ?_);rintro e _ ⟨rfl,hb⟩;replace hL:=hL.call hb;clear hb)|((with_reducible refine wpA_lit rfl _ _ _ rfl ?_);refine litA0 hL ?_)|((with_reducible refine wpA_append rfl _ _ _ rfl (.slice _ _ _) rfl ?_);intro vq hvq;simp [go_sem] at hvq;subst hvq;refine appendB (N:=N) (g:=f) (HB.out _ hL.below) hL (fun _=>.here) rfl (by omega) (by decide) ?_;clear hL;intro v' w' hL;obtain ⟨g,cc,rfl⟩:=own_shape hL .here hN)|(with_reducible first|(clear hL n1;intro b1 w1 hL)|(clear hL n2;intro b2 w2 hL)|(clear hL n3;intro b3 w3 hL)|(clear hL n4;intro b4 w4 hL)|(clear hL n5;intro b5 w5 hL)|(clear hL n6;intro b6 w6 hL)|(clear hL;intro _ _ hL)|(clear hL;intro _ hL))|((with_reducible refine wpA_lit rfl _ _ _ rfl ?_);first|refine litA1 hL ?_|refine litA2 hL ?_|refine litA3 hL ?_|refine litA4 hL ?_|refine litA6 hL ?_)|((with_reducible refine goJ rfl ?_);refine goW ?_))
 rw [←HSt.out] at hL
 go_loopw [65] (fun s65 wr=>∃ j:Nat,j≤H∧s65=.int .i64 j∧Holds w wr [pix w.heap.size (.slice (some ⟨g,0,none⟩) N cc) N (doF W (pgF (fun j x=>q j x&&sp j x) j (fun _=>false)) gi f),blk b6 #[.int .i64 iw,.int .i64 ih,.int .i64 bits,.string data,.int .i64 a,.int .i64 b,.int .i64 c,.int .i64 d,.int .i64 e,.int .i64 f',.int .i64 D] 145,blk b5 #[.int .i64 0,.int .i64 0,.slice none 0 0] 53,blk b4 #[.int .i64 W,.int .i64 H,.slice sa H sc] 39,blk b3 #[.int .i64 a,.int .i64 b,.int .i64 c,.int .i64 d,.int .i64 e,.int .i64 f'] 28,blk b2 #[.int .i64 iw,.int .i64 ih,.int .i64 bits,.string data] 26,blk b1 #[.int .i64 W,.int .i64 H,.slice (some ⟨g,0,none⟩) N cc] 53] [])
  (fun s65 wr=>(64-intOf s65).toNat)
 case atStart=>exact ⟨0,by omega,rfl,hL⟩
 case round =>
  clear hL
  obtain ⟨j,hj,rfl,hL⟩:=hrel
  by_cases hjt:j<H
  ·obtain ⟨bb,oo,va,vn,vc,rfl,hc,hr⟩:=Hrow.out j hjt
   obtain ⟨a2,cap2,he,hlc,hcm,hel⟩:=hr.parts
   cases he
   have HP:=Lib.hid (show ∀ c,c<W→inRuns (runsTo (q j) W) c=q j c from fun c hc=>by rw [inRuns_runsTo _ (by omega)];simp [hc])
   have HBd:=Lib.hid (mayFrom_bounds (runsTo (q j) W) (-1) (mayFrom_runsTo (q j) W).1)
   generalize runsTo (q j) W=l at *
   have Hl:=Lib.hid hel
   clear hel hr
   unfold maxLen at hcm
   rw [show (fun _=>false)=andP (inRuns (l.take 0)) (sp j) from by funext c;rfl] at hL
   go_wp2_with (first|((with_reducible refine wpA_lit rfl _ _ _ rfl ?_);first|refine litA1 hL ?_|refine litA2 hL ?_|refine litA3 hL ?_|refine litA4 hL ?_|refine litA6 hL ?_)|((with_reducible refine goJ rfl ?_);refine goW ?_))
   go_loopw [72] (fun s72 wr=>∃ k:Nat,k≤l.length∧s72=.int .i64 k∧Holds w wr [pix w.heap.size (.slice (some ⟨g,0,none⟩) N cc) N (doF W (pgF (fun j x=>q j x&&sp j x) j (andP (inRuns (l.take k)) (sp j))) gi f),blk b6 #[.int .i64 iw,.int .i64 ih,.int .i64 bits,.string data,.int .i64 a,.int .i64 b,.int .i64 c,.int .i64 d,.int .i64 e,.int .i64 f',.int .i64 D] 145,blk b5 #[.int .i64 0,.int .i64 0,.slice none 0 0] 53,blk b4 #[.int .i64 W,.int .i64 H,.slice (some ⟨bb,oo,none⟩) H sc] 39,blk b3 #[.int .i64 a,.int .i64 b,.int .i64 c,.int .i64 d,.int .i64 e,.int .i64 f'] 28,blk b2 #[.int .i64 iw,.int .i64 ih,.int .i64 bits,.string data] 26,blk b1 #[.int .i64 W,.int .i64 H,.slice (some ⟨g,0,none⟩) N cc] 53] [])
    (fun s72 wr=>l.length-(intOf s72).toNat)
   case atStart=>exact ⟨0,by omega,rfl,hL⟩
   case round =>
    clear hL
    obtain ⟨k,hk,rfl,hL⟩:=hrel
    by_cases hkt:k<l.length
    ·obtain ⟨b',o',rfl,hrr⟩:=Hl.out k hkt
     obtain ⟨f1,f2,f3⟩:=HBd.out k hkt
     have He:=Lib.hid (ofMid_end l k hkt)
     have Hs:=Lib.hid (ofMid_start l k (l.getD k (0,0)).1)
     have Ht:=Lib.hid (ofMid_step l k (l.getD k (0,0)).1)
     generalize (l.getD k (0,0)).1=fr at *
     generalize (l.getD k (0,0)).2=to at *
     obtain ⟨n1,n2,n3,n4,n5,n6,n7⟩:=tok7
     clear n1 n2 n3 n4 n5 n6
     go_wp2_with (first|(with_reducible first|(clear hL n7;intro b7 w7 hL)|(clear hL;intro _ hL))|((with_reducible refine wpA_lit rfl _ _ _ rfl ?_);first|refine litA1 hL ?_|refine litA2 hL ?_|refine litA3 hL ?_|refine litA4 hL ?_|refine litA6 hL ?_)|((with_reducible refine goJ rfl ?_);refine goW ?_))
     go_loopw [16] (fun s16 wr=>∃ x:Nat,s16=.int .i64 x∧fr≤(x:Int)∧(x:Int)≤to∧Holds w wr [blk b7 #[.int .i64 fr,.int .i64 to] 124,pix w.heap.size (.slice (some ⟨g,0,none⟩) N cc) N (doF W (pgF (fun j x=>q j x&&sp j x) j (andP (ofMid l k fr x) (sp j))) gi f),blk b6 #[.int .i64 iw,.int .i64 ih,.int .i64 bits,.string data,.int .i64 a,.int .i64 b,.int .i64 c,.int .i64 d,.int .i64 e,.int .i64 f',.int .i64 D] 145,blk b5 #[.int .i64 0,.int .i64 0,.slice none 0 0] 53,blk b4 #[.int .i64 W,.int .i64 H,.slice (some ⟨bb,oo,none⟩) H sc] 39,blk b3 #[.int .i64 a,.int .i64 b,.int .i64 c,.int .i64 d,.int .i64 e,.int .i64 f'] 28,blk b2 #[.int .i64 iw,.int .i64 ih,.int .i64 bits,.string data] 26,blk b1 #[.int .i64 W,.int .i64 H,.slice (some ⟨g,0,none⟩) N cc] 53] [])
      (fun s16 wr=>(64-intOf s16).toNat)
     case atStart =>
      rw [←Hs.out] at hL
      have e1:max 0 fr=fr:=by omega
      have e2:((fr.toNat:Nat):Int)=fr:=by omega
      rw [e1] at hL
      exact ⟨fr.toNat,by rw [e2],by omega,by omega,by rw [e2];exact hL⟩
     case round =>
      clear hL
      obtain ⟨x,rfl,hi1,hi2,hL⟩:=hrel
      by_cases hit:(x:Int)<to
      ·have hxW:x<W:=by omega
       have hjw:0≤(j:Int)*(W:Int)∧(j:Int)*(W:Int)≤4096:=by
        have:=Nat.mul_le_mul (show j≤64 by omega) hw1
        have h:((j*W:Nat):Int)≤4096:=by omega
        exact ⟨Int.mul_nonneg (by omega) (by omega),by simpa using h⟩
       have HAx:=Lib.hid (fun w=>HAt.out w j x (by omega) (by omega))
       obtain ⟨v1,v2,v3⟩:=HV.out j x
       have hpv:=HPv.out j x
       have HGx:=Lib.hid (fun h=>HG.out (V j x) h v2)
       have HGex:=HGe.out (V j x)
       have HSx:=Lib.hid (fun h=>HStep.out j x (ofMid l k fr x) hxW h)
       have HKx:=Lib.hid (fun h=>HSkip.out j x (ofMid l k fr x) h)
       have ht3:=HIdx.out j x hjt hxW
       have HTx:=Lib.hid (Ht.out x (by omega))
       have hat:3*((j:Int)*(W:Int)+(x:Int))=((3*(j*W+x):Nat):Int):=by simp
       generalize 3*(j*W+x)=t at *
       generalize V j x=v at *
       cases hsp:sp j x with
       | false =>
        have hvn:v<0:=by rw [hsp] at hpv;have:=of_decide_eq_false hpv.symm;omega
        have HE:=Lib.hid (HKx.out hsp)
        clear hsp hpv HSx HKx HGx HGex hat
        go_wp2_with (first|(go_at_call 96;(with_reducible refine (HAx.out _).mono ?_);rintro e _ ⟨rfl,hb⟩;replace hL:=hL.call hb;clear hb)|((with_reducible refine wpA_lit rfl _ _ _ rfl ?_);first|refine litA1 hL ?_|refine litA2 hL ?_|refine litA3 hL ?_|refine litA4 hL ?_|refine litA6 hL ?_)|((with_reducible refine goJ rfl ?_);refine goW ?_))
        go_roundw
        case rel =>
         rw [HE.out,HTx.out] at hL
         exact ⟨x+1,by go_num,by omega,by omega,hL⟩
        case measure=>simp [intOf];omega
       | true =>
        have hvn:¬v<0:=by rw [hsp] at hpv;have:=of_decide_eq_true hpv.symm;omega
        have hg:=HGx.out (by omega)
        have HE:=Lib.hid (HSx.out hsp)
        clear hsp hpv HSx HKx HGx
        generalize hgr:gr v=gv at *
        have hq:(v*255).tdiv (pw-1)=gv:=by rw [HGex,Int.tdiv_eq_ediv_of_nonneg (by omega)]
        clear HGex
        have HgR:=Lib.hid hgr
        clear hgr
        have z0:(pw-1 == 0)=false:=beq_eq_false_iff_ne.2 (by omega)
        have z1:(pw-1 == -1)=false:=beq_eq_false_iff_ne.2 (by omega)
        have zz:¬pw-1=0:=by omega
        have w1:IntKind.i64.wrap ((j:Int)*(W:Int))=(j:Int)*(W:Int):=wrapS (by omega) (by omega)
        have w2:IntKind.i64.wrap ((j:Int)*(W:Int)+(x:Int))=(j:Int)*(W:Int)+(x:Int):=wrapS (by omega) (by omega)
        have w3:IntKind.i64.wrap ((t:Nat):Int)=(t:Int):=wrapS (by omega) (by omega)
        have w4:IntKind.u8.wrap gv=gv:=convU hg.1 hg.2
        have w5:IntKind.i64.wrap gv=gv:=wrapS (by omega) (by omega)
        have tx0:t<N:=by omega
        have tx1:t+1<N:=by omega
        have tx2:t+2<N:=by omega
        have ty1:(t:Int)+1<(N:Int):=by omega
        have ty2:(t:Int)+2<(N:Int):=by omega
        have tz1:0≤(t:Int)+1:=by omega
        have tz2:0≤(t:Int)+2:=by omega
        have w6:IntKind.i64.wrap ((t:Int)+1)=(t:Int)+1:=wrapS (by omega) (by omega)
        have w7:IntKind.i64.wrap ((t:Int)+2)=(t:Int)+2:=wrapS (by omega) (by omega)
        have ix1:((t:Int)+1).toNat=t+1:=by omega
        have ix2:((t:Int)+2).toNat=t+2:=by omega
        go_wp2_with (first|(go_at_call 96;(with_reducible refine (HAx.out _).mono ?_);rintro e _ ⟨rfl,hb⟩;replace hL:=hL.call hb;clear hb)|((with_reducible refine wpA_lit rfl _ _ _ rfl ?_);first|refine litA1 hL ?_|refine litA2 hL ?_|refine litA3 hL ?_|refine litA4 hL ?_|refine litA6 hL ?_)|((with_reducible refine goJ rfl ?_);refine goW ?_))
        clear HAx hjw w1 w2 w4 w5 hq z0 z1 zz hp1 hp2 hp3 hb0 hmj hvn v1 v2 v3 HV HG HGe HSt HEnd HNx HStep HSkip HIdx HPv HAt Hrow Hl HP HBd He Hs Ht HB HK HMy HRm hcm m1
        replace hL:=hL.drew
        refine wpV_begin (by kernel_rfl) (fun k' w'=>k'<14→∃ F9:Nat→Int,Holds w w' [blk b7 #[.int .i64 fr,.int .i64 to] 124,pix w.heap.size (.slice (some ⟨g,0,none⟩) N cc) N F9,blk b6 #[.int .i64 iw,.int .i64 ih,.int .i64 bits,.string data,.int .i64 a,.int .i64 b,.int .i64 c,.int .i64 d,.int .i64 e,.int .i64 f',.int .i64 D] 145,blk b5 #[.int .i64 0,.int .i64 0,.slice none 0 0] 53,blk b4 #[.int .i64 W,.int .i64 H,.slice (some ⟨bb,oo,none⟩) H sc] 39,blk b3 #[.int .i64 a,.int .i64 b,.int .i64 c,.int .i64 d,.int .i64 e,.int .i64 f'] 28,blk b2 #[.int .i64 iw,.int .i64 ih,.int .i64 bits,.string data] 26,blk b1 #[.int .i64 W,.int .i64 H,.slice (some ⟨g,0,none⟩) N cc] 53] []) 14 ?_
        refine deV 0 (fun k' _ _=>⟨_,hL⟩) ?_
        refine dlV 1 ?_ (fun k' _ _=>⟨_,hL⟩) (fun w' hw=>?_) ?_;rotate_left;(· obtain ⟨F9,hw⟩:=hw (by decide);refine loadA hw ?_;rfl)
        simp only [Act.put,setP]
        refine deV 2 (fun k' _ _=>⟨_,hL⟩) ?_
        refine deV 3 (fun k' _ _=>⟨_,hL⟩) ?_
        refine dlV 4 ?_ (fun k' _ _=>⟨_,hL⟩) (fun w' hw=>?_) ?_;rotate_left;(· obtain ⟨F9,hw⟩:=hw (by decide);refine loadA hw ?_;rfl)
        simp only [Act.put,setP]
        refine deV 5 (fun k' _ _=>⟨_,hL⟩) ?_
        refine deV 6 (fun k' _ _=>⟨_,hL⟩) ?_
        refine deV 7 (fun k' _ _=>⟨_,hL⟩) ?_
        refine dlV 8 ?_ (fun k' _ _=>⟨_,hL⟩) (fun w' hw=>?_) ?_;rotate_left;(· obtain ⟨F9,hw⟩:=hw (by decide);refine loadA hw ?_;rfl)
        simp only [Act.put,setP]
        refine deV 9 (fun k' _ _=>⟨_,hL⟩) ?_
        refine deV 10 (fun k' _ _=>⟨_,hL⟩) ?_
        refine deV 11 (fun k' _ _=>⟨_,hL⟩) ?_
        refine deV 12 (fun k' _ _=>⟨_,hL⟩) ?_
        refine deV 13 (fun k' _ _=>⟨_,hL⟩) ?_
        refine wpV_one (i:=14) (by kernel_rfl) (wpOf ?_)
        refine st_easy rfl ?_ ?_ ?_;rotate_left;(· go_simp;try with_reducible rfl)
        refine ⟨fun k9 hk9 hm9=>?_,?_⟩
        (· exact ⟨_,hL⟩)
        simp only [Act.put,setP]
        refine wpV_one (i:=15) (by kernel_rfl) (wpOf ?_)
        refine st_store rfl _ _ _ rfl _ rfl (.int _ _) rfl ?_
        refine storeO hL ?_ (hoff:=(by rw [arrU_lenL];omega))
        clear hL;intro w9 hL
        rw [arrU_setL _ _ (by omega)] at hL
        refine ⟨fun k9 hk9 hm9=>?_,?_⟩
        (· exact ⟨_,hL⟩)
        try simp only [Act.put]
        refine wpV_one (i:=16) (by kernel_rfl) (wpOf ?_)
        refine st_easy rfl ?_ ?_ ?_;rotate_left;(· go_simp;try with_reducible rfl)
        refine ⟨fun k9 hk9 hm9=>?_,?_⟩
        (· exact ⟨_,hL⟩)
        simp only [Act.put,setP]
        refine wpV_one (i:=17) (by kernel_rfl) (wpOf ?_)
        refine st_store rfl _ _ _ rfl _ rfl (.int _ _) rfl ?_
        refine storeO hL ?_ (hoff:=(by rw [arrU_lenL];omega))
        clear hL;intro w9 hL
        rw [arrU_setL _ _ (by omega)] at hL
        refine ⟨fun k9 hk9 hm9=>?_,?_⟩
        (· exact ⟨_,hL⟩)
        try simp only [Act.put]
        refine wpV_one (i:=18) (by kernel_rfl) (wpOf ?_)
        refine st_easy rfl ?_ ?_ ?_;rotate_left;(· go_simp;try with_reducible rfl)
        refine ⟨fun k9 hk9 hm9=>?_,?_⟩
        (· exact ⟨_,hL⟩)
        simp only [Act.put,setP]
        refine wpV_one (i:=19) (by kernel_rfl) (wpOf ?_)
        refine st_store rfl _ _ _ rfl _ rfl (.int _ _) rfl ?_
        refine storeO hL ?_ (hoff:=(by rw [arrU_lenL];omega))
        clear hL;intro w9 hL
        rw [arrU_setL _ _ (by omega)] at hL
        refine ⟨fun k9 hk9 hm9=>?_,?_⟩
        (· exact ⟨_,hL⟩)
        try simp only [Act.put]
        refine wpV_done (by kernel_rfl) ?_
        go_wp2_with (first|(with_reducible first|(clear hL n7;intro b7 w7 hL)|(clear hL;intro _ hL))|((with_reducible refine wpA_lit rfl _ _ _ rfl ?_);first|refine litA1 hL ?_|refine litA2 hL ?_|refine litA3 hL ?_|refine litA4 hL ?_|refine litA6 hL ?_)|((with_reducible refine goJ rfl ?_);refine goW ?_))
        go_roundw
        case rel =>
         rw [HE.out,HTx.out] at hL
         exact ⟨x+1,by go_num,by omega,by omega,hL⟩
        case measure=>simp [intOf];omega
      ·have He2:=He.out x (by omega) (by omega) (by omega)
       rw [He2] at hL
       clear He2
       go_wp2_with (first|(with_reducible first|(clear hL n7;intro b7 w7 hL)|(clear hL;intro _ hL))|((with_reducible refine wpA_lit rfl _ _ _ rfl ?_);first|refine litA1 hL ?_|refine litA2 hL ?_|refine litA3 hL ?_|refine litA4 hL ?_|refine litA6 hL ?_)|((with_reducible refine goJ rfl ?_);refine goW ?_))
       go_roundw
       case rel=>exact ⟨k+1,by omega,by go_num,hL.drop .here⟩
       case measure=>simp [intOf];omega
    ·have e:k=l.length:=by omega
     subst e
     rw [List.take_length] at hL
     unfold pix at hL
     rw [HNx.out j _ HP.out] at hL
     go_wp2_with (first|(with_reducible first|(clear hL n7;intro b7 w7 hL)|(clear hL;intro _ hL))|((with_reducible refine wpA_lit rfl _ _ _ rfl ?_);first|refine litA1 hL ?_|refine litA2 hL ?_|refine litA3 hL ?_|refine litA4 hL ?_|refine litA6 hL ?_)|((with_reducible refine goJ rfl ?_);refine goW ?_))
     go_roundw
     case rel=>exact ⟨j+1,by omega,by go_num,hL⟩
     case measure=>simp [intOf];omega
  ·have e:j=H:=by omega
   subst e
   unfold pix at hL
   rw [HEnd.out] at hL
   go_wp2_with (first|(with_reducible first|(clear hL n7;intro b7 w7 hL)|(clear hL;intro _ hL))|((with_reducible refine wpA_lit rfl _ _ _ rfl ?_);first|refine litA1 hL ?_|refine litA2 hL ?_|refine litA3 hL ?_|refine litA4 hL ?_|refine litA6 hL ?_)|((with_reducible refine goJ rfl ?_);refine goW ?_))
   have hNe:=HNe.out
   subst hNe
   refine bodyPost_ret (results_row2 inferInstance rfl _ hL b5 rfl _ _ (by (repeat (first|with_reducible exact At.here|with_reducible apply At.there))) rfl) rfl ⟨_,_,rfl,hL.below,?_⟩
   exact (hL.settle .here (φ:=fun w=>PageF (.agg #[.int .i64 W,.int .i64 j,.slice (some ⟨g,0,none⟩) (3*W*j) cc]) W j (doF W (fun j x=>q j x&&sp j x) gi f) w) fun w h=>⟨_,rfl,page_own h⟩).fresh
end Go.Proofs.YtmnoeoecjfhhbaaGreat
