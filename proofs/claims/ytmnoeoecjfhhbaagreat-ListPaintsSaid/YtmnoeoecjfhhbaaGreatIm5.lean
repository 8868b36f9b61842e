/- Package list: Paint. -/
import Derived.Test.YtmnoeoecjfhhbaaGreatIm4
import Derived.Test.YtmnoeoecjfhhbaaGreatIm2
namespace Go.Proofs.YtmnoeoecjfhhbaaGreat
open Go.RowKit
theorem lineReg_pix (l:List Sg) (rule:Int) (W H:Nat):lineReg (edgesS l) rule W H=pixReg W H (fillP l rule):=rfl
theorem strokeReg_pix (l:List Sg) (s:Sty) (W H:Nat):strokeReg l s W H=pixReg W H (hemP l s):=rfl
set_option maxRecDepth 100000 in
set_option maxHeartbeats 8000000 in
theorem lineFill_calls {W H:Nat} (hs:Sides W H) (w:World) (v:Value) (l:List Sg) (hv:SegsAt w v l) (hm:pathMay l=true) (rule:Int) (hr:rule=0∨rule=1):Calls Tryz.prog 179 #[.agg #[],v,.int .i64 rule,.int .i64 W,.int .i64 H] w (PixOut W H (fillP l rule) w):=by
 have HR:=Lib.hid (fun w' (hb:Below w.heap.size w w')=>(scanRegion_ok (W:=W) (H:=H) ⟨hs.w0,hs.w1,hs.h0,hs.h1⟩ w' v l (SliceAt.below hv hb) hm rule hr).mono fun e w2 h=>PixOut.of h (lineReg_pix l rule W H) rfl)
 obtain ⟨a,c,rfl,_⟩:=SegsAt.parts hv
 generalize fillP l rule=p at *
 generalize l.length=n at *
 have hL:=Holds.start w
 obtain ⟨n1,n2⟩:=tok2
 go_enter Tryz.func179,Tryz.ntmps179
 go_wp2_with (first|(go_at_call 182;(with_reducible refine (HR.out _ hL.below).mono ?_);rintro e _ ⟨sa,sn,sc,rfl,hb,hf⟩;replace hL:=hL.callF hb hf;clear hb hf)|(with_reducible first|(clear hL n1;intro b1 w1 hL)|(clear hL n2;intro b2 w2 hL)|(clear hL;intro _ hL))|((with_reducible refine goJ rfl ?_);refine goW ?_))
 exact bodyPost_ret (results_row2 inferInstance rfl _ hL b2 rfl _ _ (by (repeat (first|with_reducible exact At.here|with_reducible apply At.there))) rfl) rfl ⟨sa,sn,sc,rfl,hL.below,hL.fresh⟩
set_option maxRecDepth 100000 in
set_option maxHeartbeats 8000000 in
theorem lineHem_calls {W H:Nat} (hs:Sides W H) (w:World) (v:Value) (l:List Sg) (hv:SegsAt w v l) (s:Sty) (hst:straightS l=true) (hmy:mayY s=true):Calls Tryz.prog 180 #[.agg #[],v,.agg #[.int .i64 s.wide,.int .i64 s.cap,.int .i64 s.join],.int .i64 W,.int .i64 H] w (PixOut W H (hemP l s) w):=by
 have HR:=Lib.hid (fun w' (hb:Below w.heap.size w w')=>(hemRegion_ok (W:=W) (H:=H) hs.w0 hs.w1 hs.h0 hs.h1 w' v l (SliceAt.below hv hb) s hst hmy).mono fun e w2 h=>PixOut.of h (strokeReg_pix l s W H) rfl)
 obtain ⟨a,c,rfl,_⟩:=SegsAt.parts hv
 generalize hemP l s=p at *
 generalize l.length=n at *
 have hL:=Holds.start w
 obtain ⟨n1,n2,n3⟩:=tok3
 go_enter Tryz.func180,Tryz.ntmps180
 go_wp2_with (first|(go_at_call 183;(with_reducible refine (HR.out _ hL.below).mono ?_);rintro e _ ⟨sa,sn,sc,rfl,hb,hf⟩;replace hL:=hL.callF hb hf;clear hb hf)|(with_reducible first|(clear hL n1;intro b1 w1 hL)|(clear hL n2;intro b2 w2 hL)|(clear hL n3;intro b3 w3 hL)|(clear hL;intro _ hL))|((with_reducible refine goJ rfl ?_);refine goW ?_))
 exact bodyPost_ret (results_row2 inferInstance rfl _ hL b3 rfl _ _ (by (repeat (first|with_reducible exact At.here|with_reducible apply At.there))) rfl) rfl ⟨sa,sn,sc,rfl,hL.below,hL.fresh⟩
set_option maxRecDepth 100000 in
set_option maxHeartbeats 8000000 in
theorem pointFill_calls {W H:Nat} (hs:Sides W H) (w:World) (v:Value) (l:List Sg) (hv:SegsAt w v l) (hm:pathMay l=true) (rule:Int) (hr:rule=0∨rule=1):Calls Tryz.prog 225 #[.agg #[],v,.int .i64 rule,.int .i64 W,.int .i64 H] w (PixOut W H (fillP l rule) w):=by
 have HR:=Lib.hid (fun w' (hb:Below w.heap.size w w')=>show Calls Tryz.prog 228 #[v,.int .i64 rule,.int .i64 W,.int .i64 H] w' (MaskOut W H (fillP l rule) w') from coverMask_calls hs w' v l (SliceAt.below hv hb) hm rule hr)
 have HOf:=Lib.hid (fun w ma (h:MaskF (.agg #[.int .i64 W,.int .i64 H,.slice ma (W*H) (W*H)]) (pixMask W H (fillP l rule)) w)=>pixOf_calls hs w ma (fillP l rule) h)
 obtain ⟨a,c,rfl,_⟩:=SegsAt.parts hv
 generalize fillP l rule=p at *
 generalize l.length=n at *
 have hL:=Holds.start w
 obtain ⟨n1,n2,n3⟩:=tok3
 go_enter Tryz.func225,Tryz.ntmps225
 go_wp2_with (first|(go_at_call 228;(with_reducible refine (HR.out _ hL.below).mono ?_);rintro e _ ⟨ma,rfl,hb,hf⟩;replace hL:=hL.callF hb hf;clear hb hf)|(go_at_call 191;(with_reducible refine (HOf.out _ _ hL.fact0).mono ?_);rintro e _ ⟨sa,sn,sc,rfl,hb,hf⟩;replace hL:=hL.callF hb hf;clear hb hf)|(with_reducible first|(clear hL n1;intro b1 w1 hL)|(clear hL n2;intro b2 w2 hL)|(clear hL n3;intro b3 w3 hL)|(clear hL;intro _ hL))|((with_reducible refine goJ rfl ?_);refine goW ?_))
 exact bodyPost_ret (results_row2 inferInstance rfl _ hL b2 rfl _ _ (by (repeat (first|with_reducible exact At.here|with_reducible apply At.there))) rfl) rfl ⟨sa,sn,sc,rfl,hL.below,hL.fresh⟩
structure WayE (how:Int) (E:Prop) where
 T:Nat
 f1:Nat
 f2:Nat
 f3:Nat
 by_calls:∀ w,Calls Tryz.prog 41 #[.int .i64 how] w fun e w'=>e=.returned (.iface T (.agg #[]))∧w=w'
 m1 : ∀ (n : Nat) (w : World), (method (n + 1) T (.agg #[]) "tympan/list.fill").run Tryz.prog w = .ok (f1, .agg #[]) w
 m2 : ∀ (n : Nat) (w : World), (method (n + 1) T (.agg #[]) "tympan/list.hem").run Tryz.prog w = .ok (f2, .agg #[]) w
 m3 : ∀ (n : Nat) (w : World), (method (n + 1) T (.agg #[]) "tympan/list.samples").run Tryz.prog w = .ok (f3, .agg #[]) w
 c1:∀ a b c d w,(callFunc f1 #[.agg #[],a,b,c,d]).run Tryz.prog w=.ok (.enter f1 #[.agg #[],a,b,c,d]) w
 c2:∀ a b c d w,(callFunc f2 #[.agg #[],a,b,c,d]).run Tryz.prog w=.ok (.enter f2 #[.agg #[],a,b,c,d]) w
 c3:∀ a b c d e w,(callFunc f3 #[.agg #[],a,b,c,d,e]).run Tryz.prog w=.ok (.enter f3 #[.agg #[],a,b,c,d,e]) w
 fill:∀ {W H:Nat} (_:Sides W H) (w:World) (v:Value) (l:List Sg) (_:SegsAt w v l) (_:pathMay l=true) (rule:Int) (_:rule=0∨rule=1),Calls Tryz.prog f1 #[.agg #[],v,.int .i64 rule,.int .i64 W,.int .i64 H] w (PixOut W H (fillP l rule) w)
 hem:E→∀ {W H:Nat} (_:Sides W H) (w:World) (v:Value) (l:List Sg) (_:SegsAt w v l) (s:Sty) (_:straightS l=true) (_:mayY s=true),Calls Tryz.prog f2 #[.agg #[],v,.agg #[.int .i64 s.wide,.int .i64 s.cap,.int .i64 s.join],.int .i64 W,.int .i64 H] w (PixOut W H (hemP l s) w)
 samples:∀ {W H:Nat} (_:Sides W H) (i:Img) (_:i.data.size≤maxLen) (_:mayImg i=true) (m:Mtx) (_:mayMtx m=true) (_:detM m≠0) (least:Int) (_:least=0∨least=1) (w:World),Calls Tryz.prog f3 #[.agg #[],imgV i,mtxV m,.int .i64 least,.int .i64 W,.int .i64 H] w (PixOut W H (sampP i m least) w)
abbrev Way (how:Int):=WayE how True
theorem byLine_calls (w:World):Calls Tryz.prog 41 #[.int .i64 1] w fun e w'=>e=.returned (.iface 134 (.agg #[]))∧w=w':=by
 go_enter Tryz.func41,Tryz.ntmps41
 go_wp2
 go_ret
 exact ⟨rfl,rfl⟩
theorem byPoint_calls (how:Int) (h:how≠1) (w:World):Calls Tryz.prog 41 #[.int .i64 how] w fun e w'=>e=.returned (.iface 135 (.agg #[]))∧w=w':=by
 have h1:(how == 1)=false:=beq_eq_false_iff_ne.2 h
 have h2:¬how=1:=h
 go_enter Tryz.func41,Tryz.ntmps41
 go_wp2
 go_ret
 exact ⟨rfl,rfl⟩
def wayLine:Way 1 where
 T:=134
 f1:=179
 f2:=180
 f3:=181
 by_calls:=byLine_calls
 m1:=fun _ _=>by kernel_rfl
 m2:=fun _ _=>by kernel_rfl
 m3:=fun _ _=>by kernel_rfl
 c1:=fun _ _ _ _ _=>by kernel_rfl
 c2:=fun _ _ _ _ _=>by kernel_rfl
 c3:=fun _ _ _ _ _ _=>by kernel_rfl
 fill:=fun hs w v l hv hm rule hr=>lineFill_calls hs w v l hv hm rule hr
 hem:=fun _ {_ _} hs w v l hv s h1 h2=>lineHem_calls hs w v l hv s h1 h2
 samples:=fun hs i hl hi m hm hD least hle w=>lineSamples_calls hs i hl hi m hm hD least hle w
def wayPointF (how:Int) (h:how≠1):WayE how False where
 T:=135
 f1:=225
 f2:=226
 f3:=227
 by_calls:=byPoint_calls how h
 m1:=fun _ _=>by kernel_rfl
 m2:=fun _ _=>by kernel_rfl
 m3:=fun _ _=>by kernel_rfl
 c1:=fun _ _ _ _ _=>by kernel_rfl
 c2:=fun _ _ _ _ _=>by kernel_rfl
 c3:=fun _ _ _ _ _ _=>by kernel_rfl
 fill:=fun hs w v l hv hm rule hr=>pointFill_calls hs w v l hv hm rule hr
 hem:=fun h=>h.elim
 samples:=fun hs i hl hi m hm hD least _ w=>ptSamples_calls hs i hl hi m hm hD least w
open Go.RowKit
def RegE (W H:Nat) (sa:Option Addr) (sn sc:Nat) (q:Nat→Nat→Bool):World→Prop:=RegF (.agg #[.int .i64 W,.int .i64 H,.slice sa sn sc]) (pixReg W H q)
theorem fillP_rule {l:List Clp} (h:mayClips l=true) {k:Nat} (hk:k<l.length):pathMay (l.getD k default).path=true∧((l.getD k default).rule=0∨(l.getD k default).rule=1):=by
 unfold mayClips at h
 rw [Bool.and_eq_true,List.all_eq_true] at h
 have h1:=h.1 _ (List.getElem_mem hk)
 rw [←getD_in default hk,Bool.and_eq_true] at h1
 refine ⟨h1.1,?_⟩
 have:=h1.2
 unfold isRule at this
 simpa using this
set_option maxRecDepth 100000 in
set_option maxHeartbeats 16000000 in
theorem listClips_calls {how:Int} {E:Prop} (Wy:WayE how E) {W H:Nat} (hs:Sides W H) (w:World) (v:Value) (l:List Clp) (hv:ClpsAt w v l) (hm:mayClips l=true):Calls Tryz.prog 16 #[v,.int .i64 W,.int .i64 H,.int .i64 how] w (PixOut W H (clipsP l) w):=by
 have hv':=hv
 obtain ⟨a,cap,rfl,hlc,hcm,_⟩:=hv
 unfold maxLen at hcm
 have HC:=Lib.hid (fun w' (hb:Below w.heap.size w w')=>listMayClips_calls l a cap w' (hv'.below hb))
 rw [hm] at HC
 have HW:=Lib.hid (fun w=>listSize_calls (W:Int) w)
 have HH:=Lib.hid (fun w=>listSize_calls (H:Int) w)
 rw [side_nat hs.w0 hs.w1] at HW
 rw [side_nat hs.h0 hs.h1] at HH
 have HA:=Lib.hid (fun w=>pixAll_calls (W:=W) (H:=H) hs w)
 have HG:=Lib.hid (fun k (hk:k<l.length)=>ClpsAt.get hv' hk)
 have HF:=Lib.hid (fun k (hk:k<l.length) w' (hb:Below w.heap.size w w') v' (h:SegsAt w v' (l.getD k default).path)=>Wy.fill hs w' v' _ (SliceAt.below h hb) (fillP_rule hm hk).1 (l.getD k default).rule (fillP_rule hm hk).2)
 have HM:=Lib.hid (fun w' (v u:Value) (p q:Nat→Nat→Bool) (h:RegAt w' v (pixReg W H p)) (k:RegAt w' u (pixReg W H q))=>pixMeet_calls hs w' v u p q h k)
 have HT:=Lib.hid (fun k (hk:k<l.length)=>show (fun (j x:Nat)=>clipsP (l.take k) j x&&fillP (l.getD k default).path (l.getD k default).rule j x)=clipsP (l.take (k+1)) from by funext j x;rw [clipsP_take l k hk])
 have HT0:=Lib.hid (show (fun (_ _:Nat)=>true)=clipsP (l.take 0) from by funext j x;rfl)
 have HT9:=Lib.hid (show clipsP (l.take l.length)=clipsP l from by rw [List.take_length])
 obtain ⟨T,f1,f2,f3,by_calls,m1,_,_,c1,_,_,_,_,_⟩:=Wy
 dsimp only at HF
 have HBy:=Lib.hid by_calls
 clear by_calls hv' hs hm
 generalize clipsP l=cl at *
 obtain ⟨n,hn⟩:∃ n,l.length=n:=⟨_,rfl⟩
 generalize l.length=n' at *
 subst hn
 have hL:=Holds.start w
 have n1:True:=trivial
 go_enter Tryz.func16,Tryz.ntmps16
 go_wp2_with (first|(go_at_call 42;(with_reducible refine (HC.out _ hL.below).mono ?_);rintro e _ ⟨rfl,hb⟩;replace hL:=hL.call hb;clear hb)|(go_at_call 40;(with_reducible first|refine (HW.out _).mono ?_|refine (HH.out _).mono ?_);rintro e _ ⟨rfl,rfl⟩)|(go_at_call 43;(with_reducible refine (HA.out _).mono ?_);rintro e _ ⟨sa,sn,sc,rfl,hb,hf⟩;replace hL:=hL.callF hb hf;clear hb hf)|(with_reducible first|(clear hL n1;intro b1 w1 hL)|(clear hL;intro _ hL))|((with_reducible refine goJ rfl ?_);refine goP ?_))
 rw [HT0.out] at hL
 go_loopw [9,35] (fun s9 s35 wr=>∃ (k:Nat) (sa:Option Addr) (sn sc:Nat),k≤n'∧s35=.int .i64 k∧s9=.int .i64 0∧Holds w wr [blk b1 #[.int .i64 W,.int .i64 H,.slice sa sn sc] 39] [RegE W H sa sn sc (clipsP (l.take k))])
  (fun s9 s35 wr=>n'-(intOf s35).toNat)
 case atStart=>exact ⟨0,sa,sn,sc,by omega,rfl,rfl,hL⟩
 case round =>
  clear hL
  obtain ⟨k,sa,sn,sc,hk,rfl,rfl,hL⟩:=hrel
  by_cases hkt:k<n'
  ·obtain ⟨b,o,pa,pc,rfl,hr,hsg,hp1,hp2⟩:=HG.out k hkt
   have hkb:(k:Int)<(n':Int):=by omega
   have HFk:=Lib.hid (fun w' (hb:Below w.heap.size w w')=>HF.out k hkt w' hb _ hsg)
   have HTk:=Lib.hid (HT.out k hkt)
   clear hsg
   unfold maxLen at hp1
   generalize hcn:clipsP (l.take (k+1))=cn at *
   have HCn:=Lib.hid hcn
   clear hcn
   generalize clipsP (l.take k)=ck at *
   generalize (l.getD k default)=c at *
   obtain ⟨path,rule⟩:=c
   dsimp only at *
   generalize fillP path rule=fp at *
   generalize path.length=pn at *
   obtain ⟨n1,n2,n3⟩:=tok3
   clear n1
   go_wp2_with (first|(with_reducible first|(clear hL n2;intro b2 w2 hL)|(clear hL n3;intro b3 w3 hL)|(clear hL;intro _ hL))|((with_reducible refine goJ rfl ?_);refine goP ?_))
   replace hL:=hL.drew
   refine wpV_begin (by kernel_rfl) (fun k' w'=>k'<11→Holds w w' [blk b3 #[.int .i64 0,.int .i64 0,.slice none 0 0] 39,blk b2 #[.slice pa pn pc,.int .i64 rule] 71,blk b1 #[.int .i64 W,.int .i64 H,.slice sa sn sc] 39] [RegE W H sa sn sc ck]) 12 ?_
   refine deV 0 (fun k' _ _=>hL) ?_
   refine deV 2 (fun k' _ _=>hL) ?_
   refine dlV 3 ?_ (fun k' _ _=>hL) (fun w' hw=>?_) ?_;rotate_left;(· (try replace hw:=hw (by decide));(first|refine loadA hw ?_|refine loadP hw ?_);rfl)
   simp only [Act.put,setP]
   refine deV 4 (fun k' _ _=>hL) ?_
   refine dlV 5 ?_ (fun k' _ _=>hL) (fun w' hw=>?_) ?_;rotate_left;(· (try replace hw:=hw (by decide));(first|refine loadA hw ?_|refine loadP hw ?_);rfl)
   simp only [Act.put,setP]
   refine deV 6 (fun k' _ _=>hL) ?_
   refine deV 7 (fun k' _ _=>hL) ?_
   refine wpV_one (i:=1) (by kernel_rfl) (wpOf ?_)
   refine st_call rfl _ _ ?_ (HBy.out _) ?_
   (· go_simp;try with_reducible rfl)
   rintro e _ ⟨rfl,rfl⟩
   refine ⟨_,rfl,fun k' _ _=>hL,?_⟩
   simp only [Act.put,setP]
   refine wpV_one (i:=8) (by kernel_rfl) (wpOf ?_)
   refine st_call rfl _ _ ?_ (HFk.out _ hL.below) ?_
   (· go_simp;try with_reducible rfl)
   rintro e _ ⟨ra,rn,rc,rfl,hb,hf⟩
   replace hL:=hL.callF hb hf
   clear hb hf
   refine ⟨_,rfl,fun k' _ _=>hL.forget,?_⟩
   simp only [Act.put,setP]
   refine deV 9 (fun k' _ _=>hL.forget) ?_
   refine deV 10 (fun k' _ _=>hL.forget) ?_
   refine deV 11 (fun k' _ _=>hL.forget) ?_
   refine wpV_one (i:=12) (by kernel_rfl) (wpOf ?_)
   refine st_store rfl _ _ _ rfl _ rfl (.agg _) rfl ?_
   first|refine storeA hL ?_|refine storeO hL ?_|refine storeR hL ?_
   clear hL;intro w9 hL
   refine ⟨fun k9 hk9 hm9=>?_,?_⟩
   (· exact absurd hm9 (pinned_off 12 11 hk9 (by kernel_rfl) (by decide) (by kernel_rfl)))
   try simp only [Act.put]
   refine wpV_one (i:=13) (by kernel_rfl) (wpOf ?_)
   refine st_easy rfl ?_ ?_ ?_;rotate_left;(· go_simp;try with_reducible rfl)
   refine ⟨fun k9 hk9 hm9=>?_,?_⟩
   (· exact absurd hm9 (pinned_off 12 11 hk9 (by kernel_rfl) (by decide) (by kernel_rfl)))
   simp only [Act.put,setP]
   refine wpV_done (by kernel_rfl) ?_
   have hA1:RegAt _ (.agg #[.int .i64 W,.int .i64 H,.slice sa sn sc]) (pixReg W H ck):=hL.fact1
   have hA2:RegAt _ (.agg #[.int .i64 W,.int .i64 H,.slice ra rn rc]) (pixReg W H fp):=hL.fact0
   have Hm:=Lib.hid (HM.out _ _ _ _ _ hA1 hA2)
   clear hA1 hA2
   rw [HTk.out] at Hm
   go_wp2_with (first|(go_at_call 29;(with_reducible refine Hm.out.mono ?_);rintro e _ ⟨ta,tn,tc,rfl,hb,hf⟩;replace hL:=((hL.callF hb hf).swap).forget;replace hL:=(hL.swap).forget;clear hb hf)|(with_reducible (clear hL;intro _ hL))|((with_reducible refine goJ rfl ?_);refine goP ?_))
   go_roundw
   case rel=>exact ⟨k+1,ta,tn,tc,by omega,by go_num,rfl,by rw [HCn.out];exact (hL.drop .here).drop .here⟩
   case measure=>simp [intOf];omega
  ·have e:k=n':=by omega
   subst e
   rw [HT9.out] at hL
   go_wp2_with (first|(with_reducible first|(clear hL n2;intro b2 w2 hL)|(clear hL n3;intro b3 w3 hL)|(clear hL;intro _ hL))|((with_reducible refine goJ rfl ?_);refine goP ?_))
   exact bodyPost_ret (results_row2 inferInstance rfl _ hL b1 rfl _ _ .here rfl) rfl ⟨sa,sn,sc,rfl,hL.below,hL.fresh⟩
open Go.RowKit
theorem mayItm_kind {i:Itm} (h:mayItm i=true):mayClips i.clips=true∧((i.kind=1∧pathMay i.path=true∧(i.rule=0∨i.rule=1))∨(i.kind=2∧straightS i.path=true∧mayY i.style=true)∨((i.kind=3∨i.kind=4)∧mayImg i.image=true∧mayMtx i.mat=true∧detM i.mat≠0)):=by
 unfold mayItm at h
 rw [Bool.and_eq_true] at h
 refine ⟨h.1,?_⟩
 have h2:=h.2
 by_cases k1:i.kind=1
 ·rw [if_pos k1] at h2
  simp only [Bool.and_eq_true] at h2
  refine .inl ⟨k1,h2.1,?_⟩
  have:=h2.2.1
  unfold isRule at this
  simpa using this
 by_cases k2:i.kind=2
 ·rw [if_neg k1,if_pos k2] at h2
  simp only [Bool.and_eq_true] at h2
  exact .inr (.inl ⟨k2,h2.1,h2.2.2.1⟩)
 by_cases k3:i.kind=3∨i.kind=4
 ·rw [if_neg k1,if_neg k2,if_pos k3] at h2
  simp only [Bool.and_eq_true,decide_eq_true_iff] at h2
  exact .inr (.inr ⟨k3,h2.2.2.1,h2.2.2.2.1,h2.2.2.2.2.1⟩)
 ·rw [if_neg k1,if_neg k2,if_neg k3] at h2
  cases h2
set_option maxRecDepth 100000 in
set_option maxHeartbeats 16000000 in
theorem listMarkE_calls {how:Int} {E:Prop} (Wy:WayE how E) {W H:Nat} (hs:Sides W H) (w:World) (v:Value) (i:Itm) (hv:ItmIs w v i) (hm:mayItm i=true) (hE:i.kind=2→E):Calls Tryz.prog 15 #[v,.int .i64 W,.int .i64 H,.int .i64 how] w (PixOut W H (markP i) w):=by
 have HY:=Lib.hid (fun w' (hb:Below w.heap.size w w')=>listMay_calls w' v i (hv.below hb))
 rw [hm] at HY
 obtain ⟨hcl,hk⟩:=mayItm_kind hm
 obtain ⟨pa,pc,ca,cc,rfl,hp2,hp1,hc2,hc1,hP,hC,hOk⟩:=hv.val
 clear hv hm
 have hW:=listSize_calls (W:Int)
 have HW:=Lib.hid (fun w=>hW w)
 have HH:=Lib.hid (fun w=>listSize_calls (H:Int) w)
 rw [side_nat hs.w0 hs.w1] at HW
 rw [side_nat hs.h0 hs.h1] at HH
 have HCl:=Lib.hid (fun w' (hb:Below w.heap.size w w')=>listClips_calls Wy hs w' _ i.clips (hC.below hb) hcl)
 have HM:=Lib.hid (fun w' (v u:Value) (p q:Nat→Nat→Bool) (h:RegAt w' v (pixReg W H p)) (k:RegAt w' u (pixReg W H q))=>pixMeet_calls hs w' v u p q h k)
 have HF:=Lib.hid (fun (h1:pathMay i.path=true) (h2:i.rule=0∨i.rule=1) w' (hb:Below w.heap.size w w')=>Wy.fill hs w' _ i.path (SliceAt.below hP hb) h1 i.rule h2)
 have HE:=Lib.hid (fun (h0:i.kind=2) (h1:straightS i.path=true) (h2:mayY i.style=true) w' (hb:Below w.heap.size w w')=>Wy.hem (hE h0) hs w' _ i.path (SliceAt.below hP hb) i.style h1 h2)
 have HSa:=Lib.hid (fun (h1:mayImg i.image=true) (h2:mayMtx i.mat=true) (h3:detM i.mat≠0) (least:Int) (h4:least=0∨least=1) w'=>Wy.samples hs i.image hOk.1 h1 i.mat h2 h3 least h4 w')
 rw [show markP i=fun j x=>baseP i j x&&clipsP i.clips j x from rfl]
 have HB:=Lib.hid (show baseP i=if i.kind=1 then fillP i.path i.rule else if i.kind=2 then hemP i.path i.style else if i.kind=3 then sampP i.image i.mat 0 else sampP i.image i.mat 1 from rfl)
 obtain ⟨T,f1,f2,f3,by_calls,m1,m2,m3,c1,c2,c3,_,_,_⟩:=Wy
 dsimp only at HF HE HSa
 have HBy:=Lib.hid by_calls
 clear by_calls hcl hP hC hOk hW hs hE
 generalize hbp:baseP i=bp at *
 clear hbp
 generalize clipsP i.clips=cp at *
 generalize fillP i.path i.rule=p1 at *
 generalize hemP i.path i.style=p2 at *
 generalize hs0:sampP i.image i.mat=ps at *
 clear hs0
 obtain ⟨kind,path,rule,⟨wd,cap,join⟩,⟨iw,ih,bits,data⟩,⟨a,b,c,d,e,f⟩,⟨kr,kg,kb,ka⟩,clips⟩:=i
 unfold itmV imgV mtxV at *
 dsimp only at *
 unfold maxLen at hp2 hc2
 have hL:=Holds.start w
 rcases hk with ⟨rfl,h1,h2⟩|⟨rfl,h1,h2⟩|⟨rfl|rfl,h1,h2,h3⟩
 ·have HS:=Lib.hid (fun w' hb=>HF.out h1 h2 w' hb)
  rw [show p1=bp from (HB.out.trans (if_pos rfl)).symm] at HS
  clear HF HE HSa HB h1 h2
  generalize path.length=pn at *
  generalize clips.length=cn at *
  have HS2:=Lib.hid HS.out
  clear HS
  obtain ⟨n1,n2,n3⟩:=tok3
  go_enter Tryz.func15,Tryz.ntmps15
  go_wp2_with (first|(go_at_call 18;(with_reducible refine (HY.out _ hL.below).mono ?_);rintro e _ ⟨rfl,hb⟩;replace hL:=hL.call hb;clear hb)|(go_at_call 40;(with_reducible first|refine (HW.out _).mono ?_|refine (HH.out _).mono ?_);rintro e _ ⟨rfl,rfl⟩)|(with_reducible first|(clear hL n1;intro b1 w1 hL)|(clear hL n2;intro b2 w2 hL))|((with_reducible refine goJ rfl ?_);refine goP ?_))
  replace hL:=hL.drew
  refine wpV_begin (by kernel_rfl) (fun k' w'=>k'<11→Holds w w' [blk b2 #[.int .i64 0,.int .i64 0,.slice none 0 0] 39,blk b1 #[.int .i64 1,.slice pa pn pc,.int .i64 rule,.int .i64 wd,.int .i64 cap,.int .i64 join,.int .i64 iw,.int .i64 ih,.int .i64 bits,.string data,.int .i64 a,.int .i64 b,.int .i64 c,.int .i64 d,.int .i64 e,.int .i64 f,.int .u8 kr,.int .u8 kg,.int .u8 kb,.int .u8 ka,.slice ca cn cc] 33] []) 12 ?_
  refine deV 0 (fun k' _ _=>hL) ?_
  refine deV 2 (fun k' _ _=>hL) ?_
  refine dlV 3 ?_ (fun k' _ _=>hL) (fun w' hw=>?_) ?_;rotate_left;(· (try replace hw:=hw (by decide));(first|refine loadA hw ?_|refine loadP hw ?_);rfl)
  simp only [Act.put,setP]
  refine deV 4 (fun k' _ _=>hL) ?_
  refine dlV 5 ?_ (fun k' _ _=>hL) (fun w' hw=>?_) ?_;rotate_left;(· (try replace hw:=hw (by decide));(first|refine loadA hw ?_|refine loadP hw ?_);rfl)
  simp only [Act.put,setP]
  refine deV 6 (fun k' _ _=>hL) ?_
  refine deV 7 (fun k' _ _=>hL) ?_
  refine wpV_one (i:=1) (by kernel_rfl) (wpOf ?_)
  refine st_call rfl _ _ ?_ (HBy.out _) ?_
  (· go_simp;try with_reducible rfl)
  rintro e _ ⟨rfl,rfl⟩
  refine ⟨_,rfl,fun k' _ _=>hL,?_⟩
  simp only [Act.put,setP]
  refine wpV_one (i:=8) (by kernel_rfl) (wpOf ?_)
  refine st_call rfl _ _ ?_ (HS2.out _ hL.below) ?_
  (· go_simp;try with_reducible rfl)
  rintro e _ ⟨ra,rn,rc,rfl,hb,hf⟩
  replace hL:=hL.callF hb hf
  clear hb hf
  refine ⟨_,rfl,fun k' _ _=>hL.forget,?_⟩
  simp only [Act.put,setP]
  refine deV 9 (fun k' _ _=>hL.forget) ?_
  refine deV 10 (fun k' _ _=>hL.forget) ?_
  refine deV 11 (fun k' _ _=>hL.forget) ?_
  refine wpV_one (i:=12) (by kernel_rfl) (wpOf ?_)
  refine st_store rfl _ _ _ rfl _ rfl (.agg _) rfl ?_
  first|refine storeA hL ?_|refine storeO hL ?_|refine storeR hL ?_
  clear hL;intro w9 hL
  refine ⟨fun k9 hk9 hm9=>?_,?_⟩
  (· exact absurd hm9 (pinned_off 12 11 hk9 (by kernel_rfl) (by decide) (by kernel_rfl)))
  try simp only [Act.put]
  refine wpV_one (i:=13) (by kernel_rfl) (wpOf ?_)
  refine st_easy rfl ?_ ?_ ?_;rotate_left;(· go_simp;try with_reducible rfl)
  refine ⟨fun k9 hk9 hm9=>?_,?_⟩
  (· exact absurd hm9 (pinned_off 12 11 hk9 (by kernel_rfl) (by decide) (by kernel_rfl)))
  simp only [Act.put,setP]
  refine wpV_done (by kernel_rfl) ?_
  go_wp2_with (first|(go_at_call 16;(with_reducible refine (HCl.out _ hL.below).mono ?_);rintro e _ ⟨xa,xn,xc,rfl,hb,hf⟩;replace hL:=hL.callF hb hf;clear hb hf)|(go_at_call 29;(with_reducible refine (HM.out _ _ _ _ _ (hL.reg (.there .here)) (hL.reg .here)).mono ?_);rintro e _ ⟨ta,tn,tc,rfl,hb,hf⟩;replace hL:=hL.callF hb hf;clear hb hf)|(with_reducible first|(clear hL n3;intro b3 w3 hL)|(clear hL;intro _ hL))|((with_reducible refine goJ rfl ?_);refine goP ?_))
  exact bodyPost_ret (results_row2 inferInstance rfl _ hL b2 rfl _ _ (by (repeat (first|with_reducible exact At.here|with_reducible apply At.there))) rfl) rfl ⟨ta,tn,tc,rfl,hL.below,hL.fresh⟩
 ·have HS:=Lib.hid (fun w' hb=>HE.out rfl h1 h2 w' hb)
  rw [show p2=bp from (HB.out.trans ((if_neg (by decide)).trans (if_pos rfl))).symm] at HS
  clear HF HE HSa HB h1 h2
  generalize path.length=pn at *
  generalize clips.length=cn at *
  have HS2:=Lib.hid HS.out
  clear HS
  obtain ⟨n1,n2,n3⟩:=tok3
  go_enter Tryz.func15,Tryz.ntmps15
  go_wp2_with (first|(go_at_call 18;(with_reducible refine (HY.out _ hL.below).mono ?_);rintro e _ ⟨rfl,hb⟩;replace hL:=hL.call hb;clear hb)|(go_at_call 40;(with_reducible first|refine (HW.out _).mono ?_|refine (HH.out _).mono ?_);rintro e _ ⟨rfl,rfl⟩)|(with_reducible first|(clear hL n1;intro b1 w1 hL)|(clear hL n2;intro b2 w2 hL))|((with_reducible refine goJ rfl ?_);refine goP ?_))
  replace hL:=hL.drew
  refine wpV_begin (by kernel_rfl) (fun k' w'=>k'<11→Holds w w' [blk b2 #[.int .i64 0,.int .i64 0,.slice none 0 0] 39,blk b1 #[.int .i64 2,.slice pa pn pc,.int .i64 rule,.int .i64 wd,.int .i64 cap,.int .i64 join,.int .i64 iw,.int .i64 ih,.int .i64 bits,.string data,.int .i64 a,.int .i64 b,.int .i64 c,.int .i64 d,.int .i64 e,.int .i64 f,.int .u8 kr,.int .u8 kg,.int .u8 kb,.int .u8 ka,.slice ca cn cc] 33] []) 12 ?_
  refine deV 0 (fun k' _ _=>hL) ?_
  refine deV 2 (fun k' _ _=>hL) ?_
  refine dlV 3 ?_ (fun k' _ _=>hL) (fun w' hw=>?_) ?_;rotate_left;(· (try replace hw:=hw (by decide));(first|refine loadA hw ?_|refine loadP hw ?_);rfl)
  simp only [Act.put,setP]
  refine deV 4 (fun k' _ _=>hL) ?_
  refine dlV 5 ?_ (fun k' _ _=>hL) (fun w' hw=>?_) ?_;rotate_left;(· (try replace hw:=hw (by decide));(first|refine loadA hw ?_|refine loadP hw ?_);rfl)
  simp only [Act.put,setP]
  refine deV 6 (fun k' _ _=>hL) ?_
  refine deV 7 (fun k' _ _=>hL) ?_
  refine wpV_one (i:=1) (by kernel_rfl) (wpOf ?_)
  refine st_call rfl _ _ ?_ (HBy.out _) ?_
  (· go_simp;try with_reducible rfl)
  rintro e _ ⟨rfl,rfl⟩
  refine ⟨_,rfl,fun k' _ _=>hL,?_⟩
  simp only [Act.put,setP]
  refine wpV_one (i:=8) (by kernel_rfl) (wpOf ?_)
  refine st_call rfl _ _ ?_ (HS2.out _ hL.below) ?_
  (· go_simp;try with_reducible rfl)
  rintro e _ ⟨ra,rn,rc,rfl,hb,hf⟩
  replace hL:=hL.callF hb hf
  clear hb hf
  refine ⟨_,rfl,fun k' _ _=>hL.forget,?_⟩
  simp only [Act.put,setP]
  refine deV 9 (fun k' _ _=>hL.forget) ?_
  refine deV 10 (fun k' _ _=>hL.forget) ?_
  refine deV 11 (fun k' _ _=>hL.forget) ?_
  refine wpV_one (i:=12) (by kernel_rfl) (wpOf ?_)
  refine st_store rfl _ _ _ rfl _ rfl (.agg _) rfl ?_
  first|refine storeA hL ?_|refine storeO hL ?_|refine storeR hL ?_
  clear hL;intro w9 hL
  refine ⟨fun k9 hk9 hm9=>?_,?_⟩
  (· exact absurd hm9 (pinned_off 12 11 hk9 (by kernel_rfl) (by decide) (by kernel_rfl)))
  try simp only [Act.put]
  refine wpV_one (i:=13) (by kernel_rfl) (wpOf ?_)
  refine st_easy rfl ?_ ?_ ?_;rotate_left;(· go_simp;try with_reducible rfl)
  refine ⟨fun k9 hk9 hm9=>?_,?_⟩
  (· exact absurd hm9 (pinned_off 12 11 hk9 (by kernel_rfl) (by decide) (by kernel_rfl)))
  simp only [Act.put,setP]
  refine wpV_done (by kernel_rfl) ?_
  go_wp2_with (first|(go_at_call 16;(with_reducible refine (HCl.out _ hL.below).mono ?_);rintro e _ ⟨xa,xn,xc,rfl,hb,hf⟩;replace hL:=hL.callF hb hf;clear hb hf)|(go_at_call 29;(with_reducible refine (HM.out _ _ _ _ _ (hL.reg (.there .here)) (hL.reg .here)).mono ?_);rintro e _ ⟨ta,tn,tc,rfl,hb,hf⟩;replace hL:=hL.callF hb hf;clear hb hf)|(with_reducible first|(clear hL n3;intro b3 w3 hL)|(clear hL;intro _ hL))|((with_reducible refine goJ rfl ?_);refine goP ?_))
  exact bodyPost_ret (results_row2 inferInstance rfl _ hL b2 rfl _ _ (by (repeat (first|with_reducible exact At.here|with_reducible apply At.there))) rfl) rfl ⟨ta,tn,tc,rfl,hL.below,hL.fresh⟩
 ·have HS:=Lib.hid (fun w'=>HSa.out h1 h2 h3 0 (.inl rfl) w')
  rw [show ps 0=bp from (HB.out.trans ((if_neg (by decide)).trans ((if_neg (by decide)).trans (if_pos rfl)))).symm] at HS
  clear HF HE HSa HB h1 h2 h3
  generalize path.length=pn at *
  generalize clips.length=cn at *
  have HS2:=Lib.hid HS.out
  clear HS
  obtain ⟨n1,n2,n3⟩:=tok3
  go_enter Tryz.func15,Tryz.ntmps15
  go_wp2_with (first|(go_at_call 18;(with_reducible refine (HY.out _ hL.below).mono ?_);rintro e _ ⟨rfl,hb⟩;replace hL:=hL.call hb;clear hb)|(go_at_call 40;(with_reducible first|refine (HW.out _).mono ?_|refine (HH.out _).mono ?_);rintro e _ ⟨rfl,rfl⟩)|(with_reducible first|(clear hL n1;intro b1 w1 hL)|(clear hL n2;intro b2 w2 hL))|((with_reducible refine goJ rfl ?_);refine goP ?_))
  replace hL:=hL.drew
  refine wpV_begin (by kernel_rfl) (fun k' w'=>k'<11→Holds w w' [blk b2 #[.int .i64 0,.int .i64 0,.slice none 0 0] 39,blk b1 #[.int .i64 3,.slice pa pn pc,.int .i64 rule,.int .i64 wd,.int .i64 cap,.int .i64 join,.int .i64 iw,.int .i64 ih,.int .i64 bits,.string data,.int .i64 a,.int .i64 b,.int .i64 c,.int .i64 d,.int .i64 e,.int .i64 f,.int .u8 kr,.int .u8 kg,.int .u8 kb,.int .u8 ka,.slice ca cn cc] 33] []) 12 ?_
  refine deV 0 (fun k' _ _=>hL) ?_
  refine deV 2 (fun k' _ _=>hL) ?_
  refine dlV 3 ?_ (fun k' _ _=>hL) (fun w' hw=>?_) ?_;rotate_left;(· (try replace hw:=hw (by decide));(first|refine loadA hw ?_|refine loadP hw ?_);rfl)
  simp only [Act.put,setP]
  refine deV 4 (fun k' _ _=>hL) ?_
  refine dlV 5 ?_ (fun k' _ _=>hL) (fun w' hw=>?_) ?_;rotate_left;(· (try replace hw:=hw (by decide));(first|refine loadA hw ?_|refine loadP hw ?_);rfl)
  simp only [Act.put,setP]
  refine deV 6 (fun k' _ _=>hL) ?_
  refine deV 7 (fun k' _ _=>hL) ?_
  refine wpV_one (i:=1) (by kernel_rfl) (wpOf ?_)
  refine st_call rfl _ _ ?_ (HBy.out _) ?_
  (· go_simp;try with_reducible rfl)
  rintro e _ ⟨rfl,rfl⟩
  refine ⟨_,rfl,fun k' _ _=>hL,?_⟩
  simp only [Act.put,setP]
  refine wpV_one (i:=8) (by kernel_rfl) (wpOf ?_)
  refine st_call rfl _ _ ?_ (HS2.out _) ?_
  (· go_simp;try with_reducible rfl)
  rintro e _ ⟨ra,rn,rc,rfl,hb,hf⟩
  replace hL:=hL.callF hb hf
  clear hb hf
  refine ⟨_,rfl,fun k' _ _=>hL.forget,?_⟩
  simp only [Act.put,setP]
  refine deV 9 (fun k' _ _=>hL.forget) ?_
  refine deV 10 (fun k' _ _=>hL.forget) ?_
  refine deV 11 (fun k' _ _=>hL.forget) ?_
  refine wpV_one (i:=12) (by kernel_rfl) (wpOf ?_)
  refine st_store rfl _ _ _ rfl _ rfl (.agg _) rfl ?_
  first|refine storeA hL ?_|refine storeO hL ?_|refine storeR hL ?_
  clear hL;intro w9 hL
  refine ⟨fun k9 hk9 hm9=>?_,?_⟩
  (· exact absurd hm9 (pinned_off 12 11 hk9 (by kernel_rfl) (by decide) (by kernel_rfl)))
  try simp only [Act.put]
  refine wpV_one (i:=13) (by kernel_rfl) (wpOf ?_)
  refine st_easy rfl ?_ ?_ ?_;rotate_left;(· go_simp;try with_reducible rfl)
  refine ⟨fun k9 hk9 hm9=>?_,?_⟩
  (· exact absurd hm9 (pinned_off 12 11 hk9 (by kernel_rfl) (by decide) (by kernel_rfl)))
  simp only [Act.put,setP]
  refine wpV_done (by kernel_rfl) ?_
  go_wp2_with (first|(go_at_call 16;(with_reducible refine (HCl.out _ hL.below).mono ?_);rintro e _ ⟨xa,xn,xc,rfl,hb,hf⟩;replace hL:=hL.callF hb hf;clear hb hf)|(go_at_call 29;(with_reducible refine (HM.out _ _ _ _ _ (hL.reg (.there .here)) (hL.reg .here)).mono ?_);rintro e _ ⟨ta,tn,tc,rfl,hb,hf⟩;replace hL:=hL.callF hb hf;clear hb hf)|(with_reducible first|(clear hL n3;intro b3 w3 hL)|(clear hL;intro _ hL))|((with_reducible refine goJ rfl ?_);refine goP ?_))
  exact bodyPost_ret (results_row2 inferInstance rfl _ hL b2 rfl _ _ (by (repeat (first|with_reducible exact At.here|with_reducible apply At.there))) rfl) rfl ⟨ta,tn,tc,rfl,hL.below,hL.fresh⟩
 ·have HS:=Lib.hid (fun w'=>HSa.out h1 h2 h3 1 (.inr rfl) w')
  rw [show ps 1=bp from (HB.out.trans ((if_neg (by decide)).trans ((if_neg (by decide)).trans (if_neg (by decide))))).symm] at HS
  clear HF HE HSa HB h1 h2 h3
  generalize path.length=pn at *
  generalize clips.length=cn at *
  have HS2:=Lib.hid HS.out
  clear HS
  obtain ⟨n1,n2,n3⟩:=tok3
  go_enter Tryz.func15,Tryz.ntmps15
  go_wp2_with (first|(go_at_call 18;(with_reducible refine (HY.out _ hL.below).mono ?_);rintro e _ ⟨rfl,hb⟩;replace hL:=hL.call hb;clear hb)|(go_at_call 40;(with_reducible first|refine (HW.out _).mono ?_|refine (HH.out _).mono ?_);rintro e _ ⟨rfl,rfl⟩)|(with_reducible first|(clear hL n1;intro b1 w1 hL)|(clear hL n2;intro b2 w2 hL))|((with_reducible refine goJ rfl ?_);refine goP ?_))
  replace hL:=hL.drew
  refine wpV_begin (by kernel_rfl) (fun k' w'=>k'<11→Holds w w' [blk b2 #[.int .i64 0,.int .i64 0,.slice none 0 0] 39,blk b1 #[.int .i64 4,.slice pa pn pc,.int .i64 rule,.int .i64 wd,.int .i64 cap,.int .i64 join,.int .i64 iw,.int .i64 ih,.int .i64 bits,.string data,.int .i64 a,.int .i64 b,.int .i64 c,.int .i64 d,.int .i64 e,.int .i64 f,.int .u8 kr,.int .u8 kg,.int .u8 kb,.int .u8 ka,.slice ca cn cc] 33] []) 12 ?_
  refine deV 0 (fun k' _ _=>hL) ?_
  refine deV 2 (fun k' _ _=>hL) ?_
  refine dlV 3 ?_ (fun k' _ _=>hL) (fun w' hw=>?_) ?_;rotate_left;(· (try replace hw:=hw (by decide));(first|refine loadA hw ?_|refine loadP hw ?_);rfl)
  simp only [Act.put,setP]
  refine deV 4 (fun k' _ _=>hL) ?_
  refine dlV 5 ?_ (fun k' _ _=>hL) (fun w' hw=>?_) ?_;rotate_left;(· (try replace hw:=hw (by decide));(first|refine loadA hw ?_|refine loadP hw ?_);rfl)
  simp only [Act.put,setP]
  refine deV 6 (fun k' _ _=>hL) ?_
  refine deV 7 (fun k' _ _=>hL) ?_
  refine wpV_one (i:=1) (by kernel_rfl) (wpOf ?_)
  refine st_call rfl _ _ ?_ (HBy.out _) ?_
  (· go_simp;try with_reducible rfl)
  rintro e _ ⟨rfl,rfl⟩
  refine ⟨_,rfl,fun k' _ _=>hL,?_⟩
  simp only [Act.put,setP]
  refine wpV_one (i:=8) (by kernel_rfl) (wpOf ?_)
  refine st_call rfl _ _ ?_ (HS2.out _) ?_
  (· go_simp;try with_reducible rfl)
  rintro e _ ⟨ra,rn,rc,rfl,hb,hf⟩
  replace hL:=hL.callF hb hf
  clear hb hf
  refine ⟨_,rfl,fun k' _ _=>hL.forget,?_⟩
  simp only [Act.put,setP]
  refine deV 9 (fun k' _ _=>hL.forget) ?_
  refine deV 10 (fun k' _ _=>hL.forget) ?_
  refine deV 11 (fun k' _ _=>hL.forget) ?_
  refine wpV_one (i:=12) (by kernel_rfl) (wpOf ?_)
  refine st_store rfl _ _ _ rfl _ rfl (.agg _) rfl ?_
  first|refine storeA hL ?_|refine storeO hL ?_|refine storeR hL ?_
  clear hL;intro w9 hL
  refine ⟨fun k9 hk9 hm9=>?_,?_⟩
  (· exact absurd hm9 (pinned_off 12 11 hk9 (by kernel_rfl) (by decide) (by kernel_rfl)))
  try simp only [Act.put]
  refine wpV_one (i:=13) (by kernel_rfl) (wpOf ?_)
  refine st_easy rfl ?_ ?_ ?_;rotate_left;(· go_simp;try with_reducible rfl)
  refine ⟨fun k9 hk9 hm9=>?_,?_⟩
  (· exact absurd hm9 (pinned_off 12 11 hk9 (by kernel_rfl) (by decide) (by kernel_rfl)))
  simp only [Act.put,setP]
  refine wpV_done (by kernel_rfl) ?_
  go_wp2_with (first|(go_at_call 16;(with_reducible refine (HCl.out _ hL.below).mono ?_);rintro e _ ⟨xa,xn,xc,rfl,hb,hf⟩;replace hL:=hL.callF hb hf;clear hb hf)|(go_at_call 29;(with_reducible refine (HM.out _ _ _ _ _ (hL.reg (.there .here)) (hL.reg .here)).mono ?_);rintro e _ ⟨ta,tn,tc,rfl,hb,hf⟩;replace hL:=hL.callF hb hf;clear hb hf)|(with_reducible first|(clear hL n3;intro b3 w3 hL)|(clear hL;intro _ hL))|((with_reducible refine goJ rfl ?_);refine goP ?_))
  exact bodyPost_ret (results_row2 inferInstance rfl _ hL b2 rfl _ _ (by (repeat (first|with_reducible exact At.here|with_reducible apply At.there))) rfl) rfl ⟨ta,tn,tc,rfl,hL.below,hL.fresh⟩
open Go.RowKit
def PageN (W H N:Nat) (f:Nat→Int) (w:World) (e:Ending) (w':World):Prop :=
 ∃ a c,e=.returned (.tuple #[.agg #[.int .i64 W,.int .i64 H,.slice a N c],.int .i64 0])∧Below w.heap.size w w'∧Fresh w w' (PageF (.agg #[.int .i64 W,.int .i64 H,.slice a N c]) W H f)
theorem PageOut.n {W H N:Nat} {f:Nat→Int} {w:World} {e:Ending} {w':World} (h:PageOut W H f w e w') (hN:3*W*H=N):PageN W H N f w e w':=by subst hN;exact h
def PaintOut (l:List Itm) (Wi Hi:Int) (w:World) (e:Ending) (w':World):Prop :=
 (paintErr l Wi Hi=0→∃ W H:Nat,Wi=W∧Hi=H∧Sides W H∧PageOut W H (paintL W l) w e w') ∧
 (paintErr l Wi Hi≠0→e=.returned (.tuple #[.agg #[.int .i64 0,.int .i64 0,.slice none 0 0],.int .i64 (paintErr l Wi Hi)])∧Below w.heap.size w w')
theorem mayItm_len {i:Itm} (h:mayItm i=true):i.path.length≤300∧i.clips.length≤10∧∀ c∈i.clips,c.path.length≤300:=by
 have hp:∀ l:List Sg,pathMay l=true→l.length≤300:=fun l h=>by
  unfold pathMay at h
  rw [Bool.and_eq_true] at h
  exact of_decide_eq_true h.1
 have hc:=(mayItm_kind h).1
 have hk:=(mayItm_kind h).2
 refine ⟨?_,?_,fun c hcm=>?_⟩
 ·rcases hk with ⟨_,h1,_⟩|⟨_,h1,_⟩|⟨h0,_⟩
  ·exact hp _ h1
  ·unfold straightS at h1
   rw [Bool.and_eq_true] at h1
   exact hp _ h1.1
  ·unfold mayItm at h
   rw [Bool.and_eq_true,if_neg (by omega),if_neg (by omega),if_pos h0] at h
   have:=h.2
   simp only [Bool.and_eq_true,decide_eq_true_iff] at this
   omega
 ·unfold mayClips at hc
  rw [Bool.and_eq_true] at hc
  exact of_decide_eq_true hc.2
 ·unfold mayClips at hc
  rw [Bool.and_eq_true,List.all_eq_true] at hc
  have:=hc.1 c hcm
  rw [Bool.and_eq_true] at this
  exact hp _ this.1
theorem ItmsAt.get {w:World} {a:Option Addr} {cap:Nat} {l:List Itm} (h:ItmsAt w (.slice a l.length cap) l) {k:Nat} (hk:k<l.length):∃ b o pa pc ca cc,a=some ⟨b,o,none⟩ ∧
  w.rangeAt b (o+k*21) (itmC (.slice pa (l.getD k default).path.length pc) (.slice ca (l.getD k default).clips.length cc) (l.getD k default))∧ItmIs w (itmV (.slice pa (l.getD k default).path.length pc) (.slice ca (l.getD k default).clips.length cc) (l.getD k default)) (l.getD k default)∧pc≤maxLen∧(l.getD k default).path.length≤pc∧cc≤maxLen∧(l.getD k default).clips.length≤cc∧ItmOk (l.getD k default):=by
 obtain ⟨a',cap',e,_,_,h4⟩:=h
 cases e
 obtain ⟨b,o,ea,vp,vc,hr,hp,hc,ho⟩:=h4 k hk
 obtain ⟨pa,pc,rfl,h1,h2,_⟩:=SegsAt.parts hp
 have hc':=hc
 obtain ⟨ca,cc,rfl,h3,h5,_⟩:=hc
 exact ⟨b,o,pa,pc,ca,cc,ea,hr,⟨_,_,rfl,hp,hc',ho⟩,h2,h1,h5,h3,ho⟩
theorem paintL_bd {W:Nat}:∀ l:List Itm,(∀ i∈l,mayItm i=true∧ItmOk i)→∀ n,0≤paintL W l n∧paintL W l n≤255:=by
 intro l
 have key:∀ (l:List Itm) (f:Nat→Int),(∀ i∈l,mayItm i=true∧ItmOk i)→(∀ n,0≤f n∧f n≤255)→∀ n,0≤l.foldl (fun f i=>paintI W i f) f n∧l.foldl (fun f i=>paintI W i f) f n≤255:=by
  intro l
  induction l with
  | nil=>exact fun f _ h n=>h n
  | cons a t ih=>exact fun f h hf=>ih _ (fun i hi=>h i (List.mem_cons_of_mem _ hi)) fun n=>paintI_bd (h a List.mem_cons_self).1 (h a List.mem_cons_self).2.2 (hf n)
 exact fun h n=>key l _ h (fun _=>by omega) n
theorem paintL_take (W:Nat) (l:List Itm) (k:Nat) (h:k<l.length):paintL W (l.take (k+1))=paintI W (l.getD k default) (paintL W (l.take k)):=by
 rw [List.take_succ_eq_append_getElem h,paintL_snoc,getD_in _ h]
theorem err_item {l:List Itm} {Wi Hi:Int} {k:Nat} (hk:k<l.length) (h:mayItm (l.getD k default)=false):paintErr l Wi Hi=1:=by
 unfold paintErr
 rw [if_pos (List.any_eq_true.2 ⟨l[k],List.getElem_mem hk,by rw [getD_in _ hk] at h;rw [h];rfl⟩)]
theorem all_items {l:List Itm} (h:∀ k,k<l.length→mayItm (l.getD k default)=true):(l.any fun i=>!mayItm i)=false:=by
 rw [List.any_eq_false]
 intro x hx
 obtain ⟨k,hk,rfl⟩:=List.getElem_of_mem hx
 have:=h k hk
 rw [getD_in _ hk] at this
 rw [this]
 decide
theorem err_side {l:List Itm} {Wi Hi:Int} (h:∀ k,k<l.length→mayItm (l.getD k default)=true) (hs:(isSide Wi&&isSide Hi)=false):paintErr l Wi Hi=1:=by
 unfold paintErr
 rw [all_items h,if_neg (by decide),hs,if_pos (by decide)]
theorem err_rest {l:List Itm} {Wi Hi:Int} (h:∀ k,k<l.length→mayItm (l.getD k default)=true) (hs:(isSide Wi&&isSide Hi)=true):paintErr l Wi Hi=if 100<l.length∨2000<workL l then 5 else 0:=by
 unfold paintErr
 rw [all_items h,if_neg (by decide),hs,if_neg (by decide)]
theorem workI_le {i:Itm} (h:mayItm i=true):workI i≤10000:=by
 obtain ⟨h1,h2,h3⟩:=mayItm_len h
 rw [workI_to]
 have:=workTo_le (l:=i.clips) (B:=300) h3 i.clips.length
 have h4:=Nat.mul_le_mul_right 300 h2
 omega
set_option maxRecDepth 100000 in
set_option maxHeartbeats 16000000 in
theorem listPaint_no (how:Int) (w:World) (v:Value) (l:List Itm) (hv:ItmsAt w v l) (Wi Hi:Int) (hsd:(isSide Wi&&isSide Hi)=false):Calls Tryz.prog 22 #[v,.int .i64 Wi,.int .i64 Hi,.int .i64 how] w (PaintOut l Wi Hi w):=by
 have hv':=hv
 obtain ⟨a,cap,rfl,hlc,hcm,_⟩:=hv
 unfold maxLen at hcm
 have HG:=Lib.hid (fun k (hk:k<l.length)=>ItmsAt.get hv' hk)
 have HSw:=Lib.hid (fun w=>listSize_calls Wi w)
 have HSh:=Lib.hid (fun w=>listSize_calls Hi w)
 have HE1:=Lib.hid (fun k (hk:k<l.length)=>err_item (Wi:=Wi) (Hi:=Hi) (k:=k) hk)
 have HE2:=Lib.hid (fun h=>err_side (l:=l) (Wi:=Wi) (Hi:=Hi) h hsd)
 have HW0:=Lib.hid (show workL (l.take 0)=0 from rfl)
 have HWn:=Lib.hid (fun k hk=>workL_take l k hk)
 have HWp:=Lib.hid (fun k=>workL_pos (l.take k))
 obtain ⟨b0,hb0⟩:∃ b,isSide Wi=b:=⟨_,rfl⟩
 obtain ⟨b1',hb1⟩:∃ b,isSide Hi=b:=⟨_,rfl⟩
 rw [hb0] at HSw hsd
 rw [hb1] at HSh hsd
 clear hb0 hb1 hv'
 unfold PaintOut
 generalize paintErr l Wi Hi=E at *
 generalize hWk:(fun k=>workL (l.take k))=Wk at *
 have hWk2:∀ k,workL (l.take k)=Wk k:=fun k=>by rw [←hWk]
 simp only [hWk2] at HW0 HWn HWp
 clear hWk hWk2
 generalize l.length=n at *
 have hL:=Holds.start w
 have n1:True:=trivial
 go_enter Tryz.func22,Tryz.ntmps22
 go_wp2_with (first|(with_reducible (clear hL n1;intro b1 w1 hL))|((with_reducible refine goJ rfl ?_);refine goP ?_))
 go_loopw [10,18] (fun s10 s18 wr=>∃ k:Nat,k≤n∧s18=.int .i64 k∧s10=.int .i64 (min (Wk k) 2001)∧(∀ i,i<k→mayItm (l.getD i default)=true)∧Holds w wr [blk b1 #[.int .i64 0,.int .i64 0,.slice none 0 0] 53] [])
  (fun s10 s18 wr=>n-(intOf s18).toNat)
 case atStart=>exact ⟨0,by omega,rfl,by rw [HW0.out];rfl,fun i hi=>absurd hi (by omega),hL⟩
 case round =>
  clear hL
  obtain ⟨k,hk,rfl,rfl,hall,hL⟩:=hrel
  by_cases hkt:k<n
  ·obtain ⟨bi,oi,pa,pc,ca,cc,rfl,hr,hI,hp2,hp1,hc2,hc1,_⟩:=HG.out k hkt
   have hkb:(k:Int)<(n:Int):=by omega
   have HEk:=Lib.hid (HE1.out k hkt)
   have HYk:=Lib.hid (fun w' (hb:Below w.heap.size w w')=>listMay_calls w' _ _ (hI.below hb))
   have HWk:=Lib.hid (fun (hm:mayItm (l.getD k default)=true) w' (hb:Below w.heap.size w w')=>listWork_calls w' _ _ (hI.below hb) (by have:=(mayItm_len hm).1;omega) (by have:=(mayItm_len hm).2.1;omega) (fun c hc=>by have:=(mayItm_len hm).2.2 c hc;omega))
   have HSk:=Lib.hid (show mayItm (l.getD k default)=true→∀ i,i<k+1→mayItm (l.getD i default)=true from fun h i hi=>by
    rcases (by omega:i<k∨i=k) with h2|rfl
    ·exact hall i h2
    ·exact h)
   have hwn:=HWn.out k hkt
   have hwp:=HWp.out k
   have hip:=workI_pos (l.getD k default)
   have hib:mayItm (l.getD k default)=true→workI (l.getD k default)≤10000:=fun hm=>workI_le hm
   have Hwn:=Lib.hid hwn
   clear hI hall hwn
   unfold maxLen at hp2 hc2
   generalize mayItm (l.getD k default)=bm at *
   generalize workI (l.getD k default)=wi at *
   generalize (l.getD k default)=it at *
   obtain ⟨kind,path,rule,⟨wd,cp,join⟩,⟨iw,ih,bits,data⟩,⟨a,b,c,d,e,f⟩,⟨kr,kg,kb,ka⟩,clips⟩:=it
   unfold itmC at hr
   unfold itmV at HYk HWk
   dsimp only at *
   generalize path.length=pn at *
   generalize clips.length=cn at *
   generalize hwk2:Wk (k+1)=wk2 at *
   have HWk3:=Lib.hid hwk2
   clear hwk2
   generalize Wk k=wk at *
   cases bm with
   | false =>
    have HF:=Lib.hid (HEk.out rfl)
    obtain ⟨n1,n2⟩:=tok2
    clear n1
    go_wp2_with (first|(go_at_call 18;(with_reducible refine (HYk.out _ hL.below).mono ?_);rintro e _ ⟨rfl,hb⟩;replace hL:=hL.call hb;clear hb)|(with_reducible first|(clear hL n2;intro b2 w2 hL)|(clear hL;intro _ hL))|((with_reducible refine goJ rfl ?_);refine goP ?_))
    exact bodyPost_ret (results_row2 inferInstance rfl _ hL b1 rfl _ _ (.there .here) rfl) rfl ⟨fun h0=>absurd (HF.out.symm.trans h0) (by decide),fun _=>⟨by rw [HF.out];rfl,hL.below⟩⟩
   | true =>
    have HWk2:=Lib.hid (HWk.out rfl)
    have HF:=Lib.hid (HSk.out rfl)
    have hib2:=hib rfl
    clear HWk HSk hib
    obtain ⟨n1,n2⟩:=tok2
    clear n1
    go_wp2_with (first|(go_at_call 18;(with_reducible refine (HYk.out _ hL.below).mono ?_);rintro e _ ⟨rfl,hb⟩;replace hL:=hL.call hb;clear hb)|(go_at_call 20;(with_reducible refine (HWk2.out _ hL.below).mono ?_);rintro e _ ⟨rfl,hb⟩;replace hL:=hL.call hb;clear hb)|(with_reducible first|(clear hL n2;intro b2 w2 hL)|(clear hL;intro _ hL))|((with_reducible refine goJ rfl ?_);refine goP ?_))
    go_roundw
    case rel =>
     refine ⟨k+1,by omega,by go_num,?_,HF.out,hL.drop .here⟩
     rw [HWk3.out,Hwn.out]
     exact congrArg (Value.int .i64) (work_min 2001 (by omega))
    case measure=>simp [intOf];omega
  ·have e:k=n:=by omega
   subst e
   have HF:=Lib.hid (HE2.out hall)
   clear hall
   rcases (show ∀ b0 b1:Bool,(b0&&b1)=false→b0=false∨(b0=true∧b1=false) by decide) b0 b1' hsd with rfl|⟨rfl,rfl⟩
   all_goals
    go_wp2_with (first|(go_at_call 40;(with_reducible first|refine (HSw.out _).mono ?_|refine (HSh.out _).mono ?_);rintro e _ ⟨rfl,rfl⟩)|(with_reducible (clear hL;intro _ hL))|((with_reducible refine goJ rfl ?_);refine goP ?_))
    exact bodyPost_ret (results_row2 inferInstance rfl _ hL b1 rfl _ _ .here rfl) rfl ⟨fun h0=>absurd (HF.out.symm.trans h0) (by decide),fun _=>⟨by rw [HF.out];rfl,hL.below⟩⟩
set_option maxRecDepth 100000 in
set_option maxHeartbeats 16000000 in
theorem listPaintE_ok {how:Int} {E:Prop} (Wy:WayE how E) {W H:Nat} (hs:Sides W H) (w:World) (v:Value) (l:List Itm) (hv:ItmsAt w v l) (hE:∀ i∈l,i.kind=2→E):Calls Tryz.prog 22 #[v,.int .i64 W,.int .i64 H,.int .i64 how] w (PaintOut l W H w):=by
 have hv':=hv
 obtain ⟨a,cap,rfl,hlc,hcm,_⟩:=hv
 unfold maxLen at hcm
 have HG:=Lib.hid (fun k (hk:k<l.length)=>ItmsAt.get hv' hk)
 have HSw:=Lib.hid (fun w=>listSize_calls (W:Int) w)
 have HSh:=Lib.hid (fun w=>listSize_calls (H:Int) w)
 have hsd:(isSide (W:Int)&&isSide (H:Int))=true:=by rw [side_nat hs.w0 hs.w1,side_nat hs.h0 hs.h1];rfl
 rw [side_nat hs.w0 hs.w1] at HSw
 rw [side_nat hs.h0 hs.h1] at HSh
 have HE1:=Lib.hid (fun k (hk:k<l.length)=>err_item (Wi:=(W:Int)) (Hi:=(H:Int)) (k:=k) hk)
 have HE3:=Lib.hid (fun h=>err_rest (l:=l) (Wi:=(W:Int)) (Hi:=(H:Int)) h hsd)
 have HW0:=Lib.hid (show workL (l.take 0)=0 from rfl)
 have HW9:=Lib.hid (show workL (l.take l.length)=workL l from by rw [List.take_length])
 have HWn:=Lib.hid (fun k hk=>workL_take l k hk)
 have HWp:=Lib.hid (fun k=>workL_pos (l.take k))
 have HNw:=Lib.hid (fun w (N:Nat) (hN:3*W*H=N)=>(inkNew_calls hs w).mono fun e w' h=>PageOut.n h hN)
 have HMk:=Lib.hid (fun w' v' k (hk:k<l.length) (hv:ItmIs w' v' (l.getD k default)) hm=>listMarkE_calls Wy hs w' v' (l.getD k default) hv hm (hE _ (by rw [getD_in _ hk];exact List.getElem_mem hk)))
 clear hE
 have HPt:=Lib.hid (fun (q:Nat→Nat→Bool) (K:Ink) (hK:InkOk K) (f:Nat→Int) (hf:∀ n,0≤f n∧f n≤255) (w:World) (vp:Value) (hp:PageF vp W H f w) (sa:Option Addr) (sn sc:Nat) (hv:RegAt w (.agg #[.int .i64 W,.int .i64 H,.slice sa sn sc]) (pixReg W H q)) (N:Nat) (hN:3*W*H=N)=>(inkPut_calls hs q K hK f hf w vp hp hv).mono fun e w' h=>PageOut.n h hN)
 have HIm:=Lib.hid (fun (q:Nat→Nat→Bool) (i:Img) (hl:i.data.size≤maxLen) (hi:mayImg i=true) (m:Mtx) (hm:mayMtx m=true) (hD:detM m≠0) (f:Nat→Int) (w:World) (vp:Value) (hp:PageF vp W H f w) (sa:Option Addr) (sn sc:Nat) (hv:RegAt w (.agg #[.int .i64 W,.int .i64 H,.slice sa sn sc]) (pixReg W H q)) (N:Nat) (hN:3*W*H=N)=>(imgPaint_calls hs q i hl hi m hm hD f w vp hp hv).mono fun e w' h=>PageOut.n h hN)
 have HPd:=Lib.hid (fun k (h:∀ i,i<l.length→mayItm (l.getD i default)=true)=>paintL_bd (W:=W) (l.take k) fun i hi=>by
  obtain ⟨j,hj,rfl⟩:=List.getElem_of_mem (List.mem_of_mem_take hi)
  have h1:=h j hj
  have h2:=(ItmsAt.get hv' hj)
  obtain ⟨_,_,_,_,_,_,_,_,_,_,_,_,_,ho⟩:=h2
  rw [getD_in _ hj] at h1 ho
  exact ⟨h1,ho⟩)
 have HPn:=Lib.hid (fun k (hk:k<l.length)=>paintL_take W l k hk)
 have HP0:=Lib.hid (show paintL W (l.take 0)=fun _=>255 from rfl)
 have HP9:=Lib.hid (show paintL W (l.take l.length)=paintL W l from by rw [List.take_length])
 have HPi:=Lib.hid (fun (i:Itm) (f:Nat→Int)=>show paintI W i f=if i.kind=3 then imgF W (markP i) i.image i.mat f else putF W (markP i) i.ink f from rfl)
 have hs':=hs
 clear hv' hsd hs
 unfold PaintOut
 generalize paintErr l W H=E at *
 generalize hWk:(fun k=>workL (l.take k))=Wk at *
 have hWk2:∀ k,workL (l.take k)=Wk k:=fun k=>by rw [←hWk]
 simp only [hWk2] at HW0 HW9 HWn HWp
 clear hWk hWk2
 generalize hPk:(fun k=>paintL W (l.take k))=Pk at *
 have hPk2:∀ k,paintL W (l.take k)=Pk k:=fun k=>by rw [←hPk]
 simp only [hPk2] at HPd HPn HP0 HP9
 clear hPk hPk2
 generalize hpa:paintL W l=pall at *
 have HPa:=Lib.hid hpa
 clear hpa
 generalize workL l=wall at *
 generalize l.length=n at *
 obtain ⟨N,hN⟩:∃ N,3*W*H=N:=⟨_,rfl⟩
 have HN:=Lib.hid hN
 clear hN
 have hL:=Holds.start w
 have n1:True:=trivial
 go_enter Tryz.func22,Tryz.ntmps22
 go_wp2_with (first|(with_reducible (clear hL n1;intro b1 w1 hL))|((with_reducible refine goJ rfl ?_);refine goP ?_))
 go_loopw [10,18] (fun s10 s18 wr=>∃ k:Nat,k≤n∧s18=.int .i64 k∧s10=.int .i64 (min (Wk k) 2001)∧(∀ i,i<k→mayItm (l.getD i default)=true)∧Holds w wr [blk b1 #[.int .i64 0,.int .i64 0,.slice none 0 0] 53] [])
  (fun s10 s18 wr=>n-(intOf s18).toNat)
 case atStart=>exact ⟨0,by omega,rfl,by rw [HW0.out];rfl,fun i hi=>absurd hi (by omega),hL⟩
 case round =>
  clear hL
  obtain ⟨k,hk,rfl,rfl,hall,hL⟩:=hrel
  by_cases hkt:k<n
  ·obtain ⟨bi,oi,pa,pc,ca,cc,rfl,hr,hI,hp2,hp1,hc2,hc1,_⟩:=HG.out k hkt
   have hkb:(k:Int)<(n:Int):=by omega
   have HEk:=Lib.hid (HE1.out k hkt)
   have HYk:=Lib.hid (fun w' (hb:Below w.heap.size w w')=>listMay_calls w' _ _ (hI.below hb))
   have HWk:=Lib.hid (fun (hm:mayItm (l.getD k default)=true) w' (hb:Below w.heap.size w w')=>listWork_calls w' _ _ (hI.below hb) (by have:=(mayItm_len hm).1;omega) (by have:=(mayItm_len hm).2.1;omega) (fun c hc=>by have:=(mayItm_len hm).2.2 c hc;omega))
   have HSk:=Lib.hid (show mayItm (l.getD k default)=true→∀ i,i<k+1→mayItm (l.getD i default)=true from fun h i hi=>by
    rcases (by omega:i<k∨i=k) with h2|rfl
    ·exact hall i h2
    ·exact h)
   have hwn:=HWn.out k hkt
   have hwp:=HWp.out k
   have hip:=workI_pos (l.getD k default)
   have hib:mayItm (l.getD k default)=true→workI (l.getD k default)≤10000:=fun hm=>workI_le hm
   have Hwn:=Lib.hid hwn
   clear hI hall hwn
   unfold maxLen at hp2 hc2
   generalize mayItm (l.getD k default)=bm at *
   generalize workI (l.getD k default)=wi at *
   generalize (l.getD k default)=it at *
   obtain ⟨kind,path,rule,⟨wd,cp,join⟩,⟨iw,ih,bits,data⟩,⟨a,b,c,d,e,f⟩,⟨kr,kg,kb,ka⟩,clips⟩:=it
   unfold itmC at hr
   unfold itmV at HYk HWk
   dsimp only at *
   generalize path.length=pn at *
   generalize clips.length=cn at *
   generalize hwk2:Wk (k+1)=wk2 at *
   have HWk3:=Lib.hid hwk2
   clear hwk2
   generalize Wk k=wk at *
   cases bm with
   | false =>
    have HF:=Lib.hid (HEk.out rfl)
    obtain ⟨n1,n2⟩:=tok2
    clear n1
    go_wp2_with (first|(go_at_call 18;(with_reducible refine (HYk.out _ hL.below).mono ?_);rintro e _ ⟨rfl,hb⟩;replace hL:=hL.call hb;clear hb)|(with_reducible first|(clear hL n2;intro b2 w2 hL)|(clear hL;intro _ hL))|((with_reducible refine goJ rfl ?_);refine goP ?_))
    exact bodyPost_ret (results_row2 inferInstance rfl _ hL b1 rfl _ _ (.there .here) rfl) rfl ⟨fun h0=>absurd (HF.out.symm.trans h0) (by decide),fun _=>⟨by rw [HF.out];rfl,hL.below⟩⟩
   | true =>
    have HWk2:=Lib.hid (HWk.out rfl)
    have HF:=Lib.hid (HSk.out rfl)
    have hib2:=hib rfl
    clear HWk HSk hib
    obtain ⟨n1,n2⟩:=tok2
    clear n1
    go_wp2_with (first|(go_at_call 18;(with_reducible refine (HYk.out _ hL.below).mono ?_);rintro e _ ⟨rfl,hb⟩;replace hL:=hL.call hb;clear hb)|(go_at_call 20;(with_reducible refine (HWk2.out _ hL.below).mono ?_);rintro e _ ⟨rfl,hb⟩;replace hL:=hL.call hb;clear hb)|(with_reducible first|(clear hL n2;intro b2 w2 hL)|(clear hL;intro _ hL))|((with_reducible refine goJ rfl ?_);refine goP ?_))
    go_roundw
    case rel =>
     refine ⟨k+1,by omega,by go_num,?_,HF.out,hL.drop .here⟩
     rw [HWk3.out,Hwn.out]
     exact congrArg (Value.int .i64) (work_min 2001 (by omega))
    case measure=>simp [intOf];omega
  ·have e:k=n:=by omega
   subst e
   have HF:=Lib.hid (HE3.out hall)
   have Hall:=Lib.hid hall
   have hw9:=HW9.out
   skip
   clear hall
   by_cases hlim:100<k∨2000<wall
   ·have HE:=Lib.hid (HF.out.trans (if_pos hlim))
    rcases (by omega:100<k∨(¬100<k∧2000<wall)) with g|⟨g,g2⟩
    ·have c0:decide ((100:Int)<(k:Int))=true:=by simp;omega
     go_wp2_with (first|(go_at_call 40;(with_reducible first|refine (HSw.out _).mono ?_|refine (HSh.out _).mono ?_);rintro e _ ⟨rfl,rfl⟩)|(with_reducible (clear hL;intro _ hL))|((with_reducible refine goJ rfl ?_);refine goP ?_))
     exact bodyPost_ret (results_row2 inferInstance rfl _ hL b1 rfl _ _ .here rfl) rfl ⟨fun h0=>absurd (HE.out.symm.trans h0) (by decide),fun _=>⟨by rw [HE.out];rfl,hL.below⟩⟩
    ·have c0:decide ((100:Int)<(k:Int))=false:=by simp;omega
     have c1:decide ((2000:Int)<min wall 2001)=true:=by simp;omega
     go_wp2_with (first|(go_at_call 40;(with_reducible first|refine (HSw.out _).mono ?_|refine (HSh.out _).mono ?_);rintro e _ ⟨rfl,rfl⟩)|(with_reducible (clear hL;intro _ hL))|((with_reducible refine goJ rfl ?_);refine goP ?_))
     exact bodyPost_ret (results_row2 inferInstance rfl _ hL b1 rfl _ _ .here rfl) rfl ⟨fun h0=>absurd (HE.out.symm.trans h0) (by decide),fun _=>⟨by rw [HE.out];rfl,hL.below⟩⟩
   ·have HE:=Lib.hid (HF.out.trans (if_neg hlim))
    have c0:decide ((100:Int)<(k:Int))=false:=by simp;omega
    have c1:decide ((2000:Int)<min wall 2001)=false:=by simp;omega
    clear hlim HF
    go_wp2_with (first|(go_at_call 40;(with_reducible first|refine (HSw.out _).mono ?_|refine (HSh.out _).mono ?_);rintro e _ ⟨rfl,rfl⟩)|(go_at_call 60;(with_reducible refine (HNw.out _ N HN.out).mono ?_);rintro e _ ⟨qa,qc,rfl,hb,hf⟩;replace hL:=hL.callF hb hf;clear hb hf)|(with_reducible (clear hL;intro _ hL))|((with_reducible refine goJ rfl ?_);refine goP ?_))
    rw [←HP0.out] at hL
    clear c0 c1
    go_loopw [9,59] (fun s9 s59 wr=>∃ (j:Nat) (qa:Option Addr) (qc:Nat),j≤k∧s59=.int .i64 j∧s9=.int .i64 0∧Holds w wr [blk b1 #[.int .i64 W,.int .i64 H,.slice qa N qc] 53] [PageF (.agg #[.int .i64 W,.int .i64 H,.slice qa N qc]) W H (Pk j)])
     (fun s9 s59 wr=>k-(intOf s59).toNat)
    case atStart=>exact ⟨0,qa,qc,by omega,rfl,rfl,hL⟩
    case round =>
     clear hL
     obtain ⟨j,qa,qc,hj,rfl,rfl,hL⟩:=hrel
     by_cases hjt:j<k
     ·obtain ⟨bi,oi,pa,pc,ca,cc,rfl,hr,hI,hp2,hp1,hc2,hc1,hOk⟩:=HG.out j hjt
      have hjb:(j:Int)<(k:Int):=by omega
      have hm:=Hall.out j hjt
      have HMj:=Lib.hid (fun w' (hb:Below w.heap.size w w')=>HMk.out w' _ j hjt (hI.below hb) hm)
      have hbd:=HPd.out j Hall.out
      have hpn:=HPn.out j hjt
      have hkd:=(mayItm_kind hm).2
      by_cases hk3:(l.getD j default).kind=3
      ·obtain ⟨hi1,hi2,hi3⟩:mayImg (l.getD j default).image=true∧mayMtx (l.getD j default).mat=true∧detM (l.getD j default).mat≠0:=by
        rcases hkd with ⟨h,_⟩|⟨h,_⟩|⟨_,h⟩
        ·omega
        ·omega
        ·exact h
       have HPj:=Lib.hid (fun w' (hp:PageF (.agg #[.int .i64 W,.int .i64 H,.slice qa N qc]) W H (Pk j) w') (ra:Option Addr) (rn rc:Nat) (hr:RegAt w' (.agg #[.int .i64 W,.int .i64 H,.slice ra rn rc]) (pixReg W H (markP (l.getD j default))))=>HIm.out (markP (l.getD j default)) _ hOk.1 hi1 _ hi2 hi3 (Pk j) w' _ hp ra rn rc hr N HN.out)
       have hpi:=HPi.out (l.getD j default) (Pk j)
       rw [if_pos hk3] at hpi
       rw [←hpi,←hpn] at HPj
       have k3:((l.getD j default).kind == 3)=true:=beq_iff_eq.2 hk3
       clear hI hm hbd hpn hkd hpi hi1 hi2 hi3 hOk
       unfold maxLen at hp2 hc2
       generalize markP (l.getD j default)=mp at *
       generalize (l.getD j default)=it at *
       obtain ⟨kind,path,rule,⟨wd,cp,join⟩,⟨iw,ih,bits,data⟩,⟨a,b,c,d,e,f⟩,⟨kr,kg,kb,ka⟩,clips⟩:=it
       unfold itmC at hr
       unfold itmV at HMj
       unfold imgV mtxV at HPj
       dsimp only at *
       subst hk3
       clear k3
       generalize path.length=pn at *
       generalize clips.length=cn at *
       obtain ⟨n1,n2,n3⟩:=tok3
       clear n1
       go_wp2_with (first|(go_at_call 15;(with_reducible refine (HMj.out _ hL.below).mono ?_);rintro e _ ⟨ra,rn,rc,rfl,hb,hf⟩;replace hL:=hL.callF hb hf;clear hb hf)|(go_at_call 61;(with_reducible refine (HPj.out _ hL.fact1 _ _ _ (hL.reg .here)).mono ?_);rintro e _ ⟨ta,tc,rfl,hb,hf⟩;replace hL:=hL.callF hb hf;clear hb hf)|(with_reducible first|(clear hL n2;intro b2 w2 hL)|(clear hL n3;intro b3 w3 hL)|(clear hL;intro _ hL))|((with_reducible refine goJ rfl ?_);refine goP ?_))
       go_roundw
       case rel=>exact ⟨j+1,ta,tc,by omega,by go_num,rfl,(((((hL.drop .here).drop .here).swap).forget).swap).forget⟩
       case measure=>simp [intOf];omega
      ·have HPj:=Lib.hid (fun w' (hp:PageF (.agg #[.int .i64 W,.int .i64 H,.slice qa N qc]) W H (Pk j) w') (ra:Option Addr) (rn rc:Nat) (hr:RegAt w' (.agg #[.int .i64 W,.int .i64 H,.slice ra rn rc]) (pixReg W H (markP (l.getD j default))))=>HPt.out (markP (l.getD j default)) _ hOk.2 (Pk j) hbd w' _ hp ra rn rc hr N HN.out)
       have hpi:=HPi.out (l.getD j default) (Pk j)
       rw [if_neg hk3] at hpi
       rw [←hpi,←hpn] at HPj
       have k3:((l.getD j default).kind == 3)=false:=beq_eq_false_iff_ne.2 hk3
       clear hI hm hbd hpn hkd hpi hOk
       unfold maxLen at hp2 hc2
       generalize markP (l.getD j default)=mp at *
       generalize (l.getD j default)=it at *
       obtain ⟨kind,path,rule,⟨wd,cp,join⟩,⟨iw,ih,bits,data⟩,⟨a,b,c,d,e,f⟩,⟨kr,kg,kb,ka⟩,clips⟩:=it
       unfold itmC at hr
       unfold itmV at HMj
       dsimp only at *
       generalize path.length=pn at *
       generalize clips.length=cn at *
       obtain ⟨n1,n2,n3⟩:=tok3
       clear n1
       go_wp2_with (first|(go_at_call 15;(with_reducible refine (HMj.out _ hL.below).mono ?_);rintro e _ ⟨ra,rn,rc,rfl,hb,hf⟩;replace hL:=hL.callF hb hf;clear hb hf)|(go_at_call 62;(with_reducible refine (HPj.out _ hL.fact1 _ _ _ (hL.reg .here)).mono ?_);rintro e _ ⟨ta,tc,rfl,hb,hf⟩;replace hL:=hL.callF hb hf;clear hb hf)|(with_reducible first|(clear hL n2;intro b2 w2 hL)|(clear hL n3;intro b3 w3 hL)|(clear hL;intro _ hL))|((with_reducible refine goJ rfl ?_);refine goP ?_))
       go_roundw
       case rel=>exact ⟨j+1,ta,tc,by omega,by go_num,rfl,(((((hL.drop .here).drop .here).swap).forget).swap).forget⟩
       case measure=>simp [intOf];omega
     ·have e:j=k:=by omega
      subst e
      rw [HP9.out] at hL
      go_wp2_with (first|(with_reducible first|(clear hL n2;intro b2 w2 hL)|(clear hL n3;intro b3 w3 hL)|(clear hL;intro _ hL))|((with_reducible refine goJ rfl ?_);refine goP ?_))
      have hN:=HN.out
      subst hN
      exact bodyPost_ret (results_row2 inferInstance rfl _ hL b1 rfl _ _ .here rfl) rfl ⟨fun _=>⟨W,H,rfl,rfl,hs',qa,qc,rfl,hL.below,by rw [HPa.out];exact hL.fresh⟩,fun h0=>absurd HE.out h0⟩
end Go.Proofs.YtmnoeoecjfhhbaaGreat
