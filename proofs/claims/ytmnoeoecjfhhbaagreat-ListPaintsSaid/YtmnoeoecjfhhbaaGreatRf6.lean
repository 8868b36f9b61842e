/- Package tympanref43: May. -/
import Derived.Test.YtmnoeoecjfhhbaaGreatRf5
import Derived.Test.YtmnoeoecjfhhbaaGreatRf3
namespace Go.Proofs.YtmnoeoecjfhhbaaGreat
open Go.RowKit
set_option maxRecDepth 100000 in
set_option maxHeartbeats 8000000 in
theorem segSameNil_calls (w:World) (v:Value) (l:List Sg) (hv:SegsAt w v l):Calls Tryz.prog 92 #[v,.slice none 0 0] w fun e w'=>e=.returned (.bool (decide (l.length=0)))∧Below w.heap.size w w':=by
 obtain ⟨a,c,rfl,h1,h2,_⟩:=SegsAt.parts hv
 unfold maxLen at h2
 clear hv
 generalize l.length=n at *
 have hL:=Holds.start w
 by_cases h0:n=0
 ·subst h0
  go_enter Tryz.func92,Tryz.ntmps92
  go_wp2_with (first|((with_reducible refine goJ rfl ?_);refine goP ?_))
  go_loopw [5] (fun s5 wr=>s5=.int .i64 0∧Holds w wr [] []) (fun s5 wr=>0)
  case atStart=>exact ⟨rfl,hL⟩
  case round =>
   clear hL
   obtain ⟨rfl,hL⟩:=hrel
   go_wp2_with (first|((with_reducible refine goJ rfl ?_);refine goP ?_))
   go_ret
   exact ⟨ret_bool (by simp),hL.below⟩
 ·have d0:((n:Int) != 0)=true:=by simp [h0]
  have HR:=Lib.hid (show decide (n=0)=false by simp [h0])
  clear h0
  go_enter Tryz.func92,Tryz.ntmps92
  go_wp2_with (first|((with_reducible refine goJ rfl ?_);refine goP ?_))
  go_ret
  exact ⟨ret_bool HR.out.symm,hL.below⟩
set_option maxRecDepth 100000 in
set_option maxHeartbeats 8000000 in
theorem segSame_calls (w:World) (v:Value) (l:List Sg) (hv:SegsAt w v l):Calls Tryz.prog 92 #[v,v] w fun e w'=>e=.returned (.bool true)∧Below w.heap.size w w':=by
 obtain ⟨a,c,rfl,h1,h2,hel⟩:=SegsAt.parts hv
 unfold maxLen at h2
 have Hel:=Lib.hid hel
 clear hv hel
 generalize hn:l.length=n at *
 clear hn
 have hL:=Holds.start w
 go_enter Tryz.func92,Tryz.ntmps92
 go_wp2_with (first|((with_reducible refine goJ rfl ?_);refine goP ?_))
 go_loopw [5] (fun s5 wr=>∃ k:Nat,k≤n∧s5=.int .i64 k∧Holds w wr [] []) (fun s5 wr=>n-(intOf s5).toNat)
 case atStart=>exact ⟨0,by omega,rfl,hL⟩
 case round =>
  clear hL
  obtain ⟨k,hk,rfl,hL⟩:=hrel
  by_cases hkt:k<n
  ·obtain ⟨b,o,rfl,hr⟩:=Hel.out k hkt
   have hkb:(k:Int)<(n:Int):=by omega
   generalize l.getD k default=s at *
   obtain ⟨kind,x,y,cx,cy⟩:=s
   unfold segC at hr
   dsimp only at hr
   go_wp2_with (first|((with_reducible refine goJ rfl ?_);refine goP ?_))
   refine wpH_holds (by kernel_rfl) hL fun hS=>?_
   replace hL:=hS
   refine deH 0 hS ?_
   refine deH 1 hS ?_
   refine deH 2 hS ?_
   refine dlH 3 ?_ hS (fun w' hw=>?_) ?_;rotate_left;(· refine loadE hw ?_;rfl)
   simp only [Act.put,setP]
   refine deH 4 hS ?_
   refine deH 5 hS ?_
   refine deH 6 hS ?_
   refine dlH 7 ?_ hS (fun w' hw=>?_) ?_;rotate_left;(· refine loadE hw ?_;rfl)
   simp only [Act.put,setP]
   refine deH 8 hS ?_
   refine wpAnyH_done (by kernel_rfl) ?_ _
   clear hS
   go_wp2_with (first|((with_reducible refine goJ rfl ?_);refine goP ?_))
   go_roundw
   case rel=>exact ⟨k+1,by omega,by go_num,hL⟩
   case measure=>simp [intOf];omega
  ·have e:k=n:=by omega
   subst e
   go_wp2_with (first|((with_reducible refine goJ rfl ?_);refine goP ?_))
   go_ret
   exact ⟨rfl,hL.below⟩
open Go.RowKit
set_option maxRecDepth 100000 in
set_option maxHeartbeats 8000000 in
theorem clipsSame_calls (w:World) (v:Value) (l:List Clp) (hv:ClpsAt w v l):Calls Tryz.prog 93 #[v,v] w fun e w'=>e=.returned (.bool true)∧Below w.heap.size w w':=by
 have hv':=hv
 obtain ⟨a,c,rfl,h1,h2,_⟩:=hv
 unfold maxLen at h2
 have HG:=Lib.hid (fun k (hk:k<l.length)=>ClpsAt.get hv' hk)
 clear hv'
 generalize hn:l.length=n at *
 clear hn
 have hL:=Holds.start w
 go_enter Tryz.func93,Tryz.ntmps93
 go_wp2_with (first|((with_reducible refine goJ rfl ?_);refine goP ?_))
 go_loopw [5] (fun s5 wr=>∃ k:Nat,k≤n∧s5=.int .i64 k∧Holds w wr [] []) (fun s5 wr=>n-(intOf s5).toNat)
 case atStart=>exact ⟨0,by omega,rfl,hL⟩
 case round =>
  clear hL
  obtain ⟨k,hk,rfl,hL⟩:=hrel
  by_cases hkt:k<n
  ·obtain ⟨b,o,pa,pc,rfl,hr,hs,hp1,hp2⟩:=HG.out k hkt
   have hkb:(k:Int)<(n:Int):=by omega
   have e0:w.cell? ⟨b,o+k*2,none⟩=some (.slice pa (l.getD k default).path.length pc):=hr 0 _ rfl
   have e1:w.cell? ⟨b,o+k*2+1,none⟩=some (.int .i64 (l.getD k default).rule):=hr 1 _ rfl
   have HS:=Lib.hid (fun w' (hb:Below w.heap.size w w')=>segSame_calls w' _ _ (SliceAt.below hs hb))
   clear hr hs
   generalize l.getD k default=c at *
   unfold maxLen at hp1
   generalize c.path.length=pn at *
   generalize c.rule=cr at *
   have er:(cr != cr)=false:=by simp
   go_wp2_with (first|((with_reducible refine goJ rfl ?_);refine goP ?_))
   refine wpH_holds (by kernel_rfl) hL fun hS=>?_
   replace hL:=hS
   refine deH 0 hS ?_
   refine deH 1 hS ?_
   refine deH 2 hS ?_
   refine deH 3 hS ?_
   refine dlH 4 ?_ hS (fun w' hw=>?_) ?_;rotate_left;(· refine loadC hw ?_;rfl)
   simp only [Act.put,setP]
   refine deH 5 hS ?_
   refine deH 6 hS ?_
   refine deH 7 hS ?_
   refine deH 8 hS ?_
   refine dlH 9 ?_ hS (fun w' hw=>?_) ?_;rotate_left;(· refine loadC hw ?_;rfl)
   simp only [Act.put,setP]
   refine deH 10 hS ?_
   refine deH 11 hS ?_
   first|(refine stH (i:=12) ?_ hS (fun w' hw=>?_) ?_;rotate_left;(· go_simp;try with_reducible rfl))|refine skH (i:=12) hS ?_
   simp only [Act.put,setP]
   first|(refine stH (i:=13) ?_ hS (fun w' hw=>?_) ?_;rotate_left;(· go_simp;try with_reducible rfl))|refine skH (i:=13) hS ?_
   simp only [Act.put,setP]
   first|(refine stH (i:=14) ?_ hS (fun w' hw=>?_) ?_;rotate_left;(· go_simp;try with_reducible rfl))|refine skH (i:=14) hS ?_
   simp only [Act.put,setP]
   first|(refine stH (i:=15) ?_ hS (fun w' hw=>?_) ?_;rotate_left;(· go_simp;try with_reducible rfl))|refine skH (i:=15) hS ?_
   simp only [Act.put,setP]
   first|(refine dlH 16 ?_ hS (fun w' hw=>?_) ?_;rotate_left;(· refine loadC hw ?_;rfl))|refine skH (i:=16) hS ?_
   simp only [Act.put,setP]
   first|(refine stH (i:=17) ?_ hS (fun w' hw=>?_) ?_;rotate_left;(· go_simp;try with_reducible rfl))|refine skH (i:=17) hS ?_
   simp only [Act.put,setP]
   first|(refine stH (i:=18) ?_ hS (fun w' hw=>?_) ?_;rotate_left;(· go_simp;try with_reducible rfl))|refine skH (i:=18) hS ?_
   simp only [Act.put,setP]
   first|(refine stH (i:=19) ?_ hS (fun w' hw=>?_) ?_;rotate_left;(· go_simp;try with_reducible rfl))|refine skH (i:=19) hS ?_
   simp only [Act.put,setP]
   first|(refine stH (i:=20) ?_ hS (fun w' hw=>?_) ?_;rotate_left;(· go_simp;try with_reducible rfl))|refine skH (i:=20) hS ?_
   simp only [Act.put,setP]
   first|(refine dlH 21 ?_ hS (fun w' hw=>?_) ?_;rotate_left;(· refine loadC hw ?_;rfl))|refine skH (i:=21) hS ?_
   simp only [Act.put,setP]
   first|(refine skH (i:=22) hS ?_;simp only [Act.put,setP])|(refine wpH_one (i:=22) (by kernel_rfl) (wpOf ?_);refine st_call rfl _ _ ?_ (HS.out _ hL.below) ?_;(· go_simp;try with_reducible rfl);rintro e _ ⟨rfl,hb⟩;replace hL:=hL.call hb;replace hS:=hS.call hb;clear hb;refine ⟨_,rfl,hS,?_⟩;simp only [Act.put,setP])
   first|(refine stH (i:=23) ?_ hS (fun w' hw=>?_) ?_;rotate_left;(· go_simp;try with_reducible rfl))|refine skH (i:=23) hS ?_
   simp only [Act.put,setP]
   refine deH 24 hS ?_
   refine wpAnyH_done (by kernel_rfl) ?_ _
   clear hS
   go_wp2_with (first|((with_reducible refine goJ rfl ?_);refine goP ?_))
   go_roundw
   case rel=>exact ⟨k+1,by omega,by go_num,hL⟩
   case measure=>simp [intOf];omega
  ·have e:k=n:=by omega
   subst e
   go_wp2_with (first|((with_reducible refine goJ rfl ?_);refine goP ?_))
   go_ret
   exact ⟨rfl,hL.below⟩
open Go.RowKit
def ITV (kind:Int) (vp vc:Value) (rule wd cp join iw ih bits:Int) (data:ByteArray) (a b c d e f kr kg kb ka:Int):Value:=.agg #[.int .i64 kind,vp,.int .i64 rule,.int .i64 wd,.int .i64 cp,.int .i64 join,.int .i64 iw,.int .i64 ih,.int .i64 bits,.string data,.int .i64 a,.int .i64 b,.int .i64 c,.int .i64 d,.int .i64 e,.int .i64 f,.int .u8 kr,.int .u8 kg,.int .u8 kb,.int .u8 ka,vc]
set_option maxRecDepth 100000 in
set_option maxHeartbeats 32000000 in
theorem helpItem_calls (w:World) (kind rule wd cp join iw ih bits:Int) (data:ByteArray) (a b c d e f kr kg kb ka rule' wd' cp' join' iw' ih' bits':Int) (data':ByteArray) (a' b' c' d' e' f':Int) (pa qa ca:Option Addr) (pn pc qn qc cn cc:Nat) (bp:Bool)
  (hP:∀ w',Below w.heap.size w w'→Calls Tryz.prog 92 #[.slice pa pn pc,.slice qa qn qc] w' fun e w2=>e=.returned (.bool bp)∧Below w'.heap.size w' w2)
  (hC:∀ w',Below w.heap.size w w'→Calls Tryz.prog 93 #[.slice ca cn cc,.slice ca cn cc] w' fun e w2=>e=.returned (.bool true)∧Below w'.heap.size w' w2) :
  Calls Tryz.prog 59 #[ITV kind (.slice pa pn pc) (.slice ca cn cc) rule wd cp join iw ih bits data a b c d e f kr kg kb ka,ITV kind (.slice qa qn qc) (.slice ca cn cc) rule' wd' cp' join' iw' ih' bits' data' a' b' c' d' e' f' kr kg kb ka] w fun r w' =>
   r=.returned (.bool (bp&&(decide (rule=rule')&&((decide (wd=wd')&&(decide (cp=cp')&&decide (join=join')))&&((decide (iw=iw')&&(decide (ih=ih')&&(decide (bits=bits')&&decide (data.toList=data'.toList))))&&(decide (a=a')&&(decide (b=b')&&(decide (c=c')&&(decide (d=d')&&(decide (e=e')&&decide (f=f')))))))))))∧Below w.heap.size w w':=by
 have HP:=Lib.hid hP
 have HC:=Lib.hid hC
 clear hP hC
 unfold ITV
 have hL:=Holds.start w
 cases bp
 all_goals
  obtain ⟨n1,n2⟩:=tok2
  go_enter Tryz.func59,Tryz.ntmps59
  go_wp2_with (first|(go_at_call 92;(with_reducible refine (HP.out _ hL.below).mono ?_);rintro e _ ⟨rfl,hb⟩;replace hL:=hL.call hb;clear hb)|(go_at_call 93;(with_reducible refine (HC.out _ hL.below).mono ?_);rintro e _ ⟨rfl,hb⟩;replace hL:=hL.call hb;clear hb)|(with_reducible first|(clear hL n1;intro b1 w1 hL)|(clear hL n2;intro b2 w2 hL))|((with_reducible refine goJ rfl ?_);refine goP ?_))
  all_goals
   go_ret
   exact ⟨ret_bool (by first|rfl|(simp [*];done)),hL.below⟩
open Go.RowKit
theorem str_empty (d:ByteArray):decide (d.toList=(ByteArray.mk #[]).toList)=decide (d.size=0):=by rw [empty_size,show (ByteArray.mk #[]).toList=[] from by rw [ByteArray.toList_eq]]
theorem storeT {P:Program} {w0 w:World} {M M':List Res} {Φ:List (World→Prop)} {KW:World→Prop} {T:TypeId} {b off n:Nat} {vs cs':Array Value} [hT:RowT P T n] (hL:Holds w0 w M Φ) {cs:Array Value} {T':TypeId} (h:∀ w',Holds w0 w' M' Φ→KW w')
  (hu:Upd M (blk b cs T') (blk b cs' T') M':=by (repeat (first|with_reducible exact Upd.here|with_reducible apply Upd.there))) (hv1:vs.all (·.oneCell')=true:=by (first|exact arrB_one _|exact arrI_one _ _|(simp [Value.oneCell'];done)|rfl)) (hoff:off+n≤cs.size:=by (simp only [List.size_toArray,List.length_cons,List.length_nil];omega)) (hn:n=vs.size:=by (first|rfl|(simp only [arrB_size];done)|(simp only [arrI_size];done)))
  (hcs:(cs.toList.take off++vs.toList++cs.toList.drop (off+n)).toArray=cs':=by (first|(simp only [Nat.reduceAdd,List.toList_toArray,List.drop_zero,List.drop_succ_cons,List.take_succ_cons,List.take_zero,List.cons_append,List.nil_append];rfl)|rfl)):StoreAt P T ⟨b,off,none⟩ (.agg vs) w KW :=
 storeAt_part hT hv1 hL cs T' cs' hu hoff hn hcs h
set_option maxRecDepth 100000 in
set_option maxHeartbeats 40000000 in
theorem rfMay_calls (w:World) (v:Value) (i:Itm) (h:ItmIs w v i):Calls Tryz.prog 19 #[v] w fun e w'=>e=.returned (.bool (mayItm i))∧Below w.heap.size w w':=by
 obtain ⟨pa,pc,ca,cc,rfl,hp2,hp1,_,_,hP,hC,hOk⟩:=h.val
 clear h
 have hR:mayItm i=(mayClips i.clips&&(
  if i.kind=1 then pathMay i.path&&(isRule i.rule&&(noSty i.style&&(noImg i.image&&noMtx i.mat)))
  else if i.kind=2 then straightS i.path&&(decide (i.rule=0)&&(mayY i.style&&(noImg i.image&&noMtx i.mat)))
  else if i.kind=3∨i.kind=4 then (decide (i.path.length=0)&&decide (i.rule=0))&&(noSty i.style&&(mayImg i.image&&(mayMtx i.mat&&(decide (detM i.mat≠0)&&(decide (i.kind=3) || decide (i.image.bits=1))))))
  else false)):=rfl
 have hst:straightS i.path=true→pathMay i.path=true:=fun h=>by
  unfold straightS at h
  rw [Bool.and_eq_true] at h
  exact h.1
 have HC:=Lib.hid (fun w' (hb:Below w.heap.size w w')=>rClips_calls i.clips ca cc w' (hC.below hb))
 have HCS:=Lib.hid (fun w' (hb:Below w.heap.size w w')=>clipsSame_calls w' _ i.clips (hC.below hb))
 have HP:=Lib.hid (fun w' (hb:Below w.heap.size w w')=>rMay_calls w' (.slice pa i.path.length pc) i.path (SliceAt.below hP hb))
 have HPS:=Lib.hid (fun w' (hb:Below w.heap.size w w')=>segSame_calls w' _ i.path (SliceAt.below hP hb))
 have HPN:=Lib.hid (fun w' (hb:Below w.heap.size w w')=>segSameNil_calls w' _ i.path (SliceAt.below hP hb))
 have HSt:=Lib.hid (fun w' (hb:Below w.heap.size w w')=>rStr33_calls w' (.slice pa i.path.length pc) i.path (SliceAt.below hP hb))
 have HRu:=Lib.hid (fun w=>rRule_calls i.rule w)
 have HMy:=Lib.hid (fun w=>rMayY_calls i.style w)
 have HIm:=Lib.hid (fun w=>rMayImage_calls i.image hOk.1 w)
 have HMm:=Lib.hid (fun w=>rMatMay_calls i.mat w)
 have HDt:=Lib.hid (fun (hm:mayMtx i.mat=true) w=>rDet_calls i.mat hm w)
 clear hP hC hOk
 generalize mayItm i=R at *
 generalize mayClips i.clips=bc at *
 generalize pathMay i.path=bp at *
 generalize straightS i.path=bs at *
 generalize isRule i.rule=br at *
 generalize mayY i.style=by1 at *
 generalize mayImg i.image=bi at *
 generalize mayMtx i.mat=bm at *
 generalize detM i.mat=D at *
 obtain ⟨kind,path,rule,⟨wd,cp,join⟩,⟨iw,ih,bits,data⟩,⟨a,b,c,d,e,f⟩,⟨kr,kg,kb,ka⟩,clips⟩:=i
 unfold itmV imgV mtxV at *
 dsimp only at *
 unfold maxLen at hp2
 generalize path.length=pn at *
 generalize clips.length=cn at *
 have hL:=Holds.start w
 rcases (by omega:kind=1∨kind=2∨kind=3∨kind=4∨(kind≠1∧kind≠2∧kind≠3∧kind≠4)) with rfl|rfl|rfl|rfl|⟨k1,k2,k3,k4⟩
 ·rw [if_pos rfl] at hR
  obtain ⟨x,hx⟩:∃ x,x=(noSty ⟨wd,cp,join⟩&&(noImg ⟨iw,ih,bits,data⟩&&noMtx ⟨a,b,c,d,e,f⟩)):=⟨_,rfl⟩
  have HIt:=Lib.hid (fun w' (hb:Below w.heap.size w w')=>show Calls Tryz.prog 59 #[.agg #[.int .i64 1,.slice pa pn pc,.int .i64 rule,.int .i64 wd,.int .i64 cp,.int .i64 join,.int .i64 iw,.int .i64 ih,.int .i64 bits,.string data,.int .i64 a,.int .i64 b,.int .i64 c,.int .i64 d,.int .i64 e,.int .i64 f,.int .u8 kr,.int .u8 kg,.int .u8 kb,.int .u8 ka,.slice ca cn cc],.agg #[.int .i64 1,.slice pa pn pc,.int .i64 rule,.int .i64 0,.int .i64 0,.int .i64 0,.int .i64 0,.int .i64 0,.int .i64 0,.string { data:=#[] },.int .i64 0,.int .i64 0,.int .i64 0,.int .i64 0,.int .i64 0,.int .i64 0,.int .u8 kr,.int .u8 kg,.int .u8 kb,.int .u8 ka,.slice ca cn cc]] w' (fun e w2=>e=.returned (.bool x)∧Below w'.heap.size w' w2) from by
   have h:=helpItem_calls w' 1 rule wd cp join iw ih bits data a b c d e f kr kg kb ka rule 0 0 0 0 0 0 ⟨#[]⟩ 0 0 0 0 0 0 pa pa ca pn pc pn pc cn cc true (fun w2 h2=>HPS.out w2 (hb.trans (h2.mono hb.size))) (fun w2 h2=>HCS.out w2 (hb.trans (h2.mono hb.size)))
   refine h.mono fun e w2 h=>?_
   obtain ⟨rfl,h2⟩:=h
   exact ⟨ret_bool (by rw [hx];(try rw [str_empty]);simp [noSty,noImg,noMtx]),h2⟩)
  have HR:=Lib.hid (show R=(bc&&(bp&&(br&&x))) from by
   rw [hR,hx]
   )
  clear hR hx
  rcases (show ∀ b10 b11 b12:Bool,(b10=false)∨(b10=true∧b11=false)∨(b10=true∧b11=true∧b12=false)∨(b10=true∧b11=true∧b12=true) by decide) bp br x with rfl|⟨rfl,rfl⟩|⟨rfl,rfl,rfl⟩|⟨rfl,rfl,rfl⟩
  all_goals
   obtain ⟨n1,n2⟩:=tok2
   go_enter Tryz.func19,Tryz.ntmps19
   go_wp2_with (first|(with_reducible first|(clear hL n1;intro b1 w1 hL)|(clear hL n2;intro b2 w2 hL)|(clear hL;intro _ hL))|((with_reducible refine goJ rfl ?_);refine goP ?_))
   replace hL:=hL.drew
   refine wpV_begin (by kernel_rfl) (fun (k':Nat) (w':World)=>k'<5→∃ ws:Array Value,Holds w w' [blk b2 ws 33,blk b1 #[.int .i64 1,.slice pa pn pc,.int .i64 rule,.int .i64 wd,.int .i64 cp,.int .i64 join,.int .i64 iw,.int .i64 ih,.int .i64 bits,.string data,.int .i64 a,.int .i64 b,.int .i64 c,.int .i64 d,.int .i64 e,.int .i64 f,.int .u8 kr,.int .u8 kg,.int .u8 kb,.int .u8 ka,.slice ca cn cc] 33] []) 5 ?_
   refine deV 0 (fun _ _ _=>⟨_,hL⟩) ?_
   refine dlV 1 ?_ (fun _ _ _=>⟨_,hL⟩) (fun w' hw=>?_) ?_;rotate_left;(· obtain ⟨ws9,hw⟩:=hw (by decide);(first|refine loadA hw ?_|refine loadP hw ?_);rfl)
   simp only [Act.put,setP]
   refine deV 2 (fun _ _ _=>⟨_,hL⟩) ?_
   refine dlV 3 ?_ (fun _ _ _=>⟨_,hL⟩) (fun w' hw=>?_) ?_;rotate_left;(· obtain ⟨ws9,hw⟩:=hw (by decide);(first|refine loadA hw ?_|refine loadP hw ?_);rfl)
   simp only [Act.put,setP]
   refine deV 4 (fun _ _ _=>⟨_,hL⟩) ?_
   refine wpV_one (i:=5) (by kernel_rfl) (wpOf ?_)
   refine st_store rfl _ _ _ rfl _ rfl (.slice _ _ _) rfl ?_
   first|refine storeA hL ?_|refine storeO hL ?_|refine storeR hL ?_
   clear hL;intro w9 hL
   refine ⟨fun k9 hk9 hm9=>?_,?_⟩
   (· exact ⟨_,hL⟩)
   try simp only [Act.put]
   refine wpV_one (i:=6) (by kernel_rfl) (wpOf ?_)
   refine st_easy rfl ?_ ?_ ?_;rotate_left;(· go_simp;try with_reducible rfl)
   refine ⟨fun k9 hk9 hm9=>?_,?_⟩
   (· exact ⟨_,hL⟩)
   simp only [Act.put,setP]
   refine wpV_one (i:=7) (by kernel_rfl) (wpOf ?_)
   refine st_store rfl _ _ _ rfl _ rfl (.int _ _) rfl ?_
   first|refine storeA hL ?_|refine storeO hL ?_|refine storeR hL ?_
   clear hL;intro w9 hL
   refine ⟨fun k9 hk9 hm9=>?_,?_⟩
   (· exact ⟨_,hL⟩)
   try simp only [Act.put]
   refine wpV_done (by kernel_rfl) ?_
   go_wp2_with (first|(go_at_call 52;(with_reducible refine (HP.out _ hL.below).mono ?_);rintro e _ ⟨rfl,hb⟩;replace hL:=hL.call hb;clear hb)|(go_at_call 53;(with_reducible refine (HRu.out _).mono ?_);rintro e _ ⟨rfl,rfl⟩)|(go_at_call 59;(with_reducible refine (HIt.out _ hL.below).mono ?_);rintro e _ ⟨rfl,hb⟩;replace hL:=hL.call hb;clear hb)|(go_at_call 36;(with_reducible refine (HC.out _ hL.below).mono ?_);rintro e _ ⟨rfl,hb⟩;replace hL:=hL.call hb;clear hb)|((with_reducible refine goJ rfl ?_);refine goP ?_))
   go_ret
   exact ⟨ret_bool (by rw [HR.out];cases bc <;> simp [*]),hL.below⟩
 ·rw [if_neg (by decide),if_pos rfl] at hR
  obtain ⟨x,hx⟩:∃ x,x=(decide (rule=0)&&(noImg ⟨iw,ih,bits,data⟩&&noMtx ⟨a,b,c,d,e,f⟩)):=⟨_,rfl⟩
  have HIt:=Lib.hid (fun w' (hb:Below w.heap.size w w')=>show Calls Tryz.prog 59 #[.agg #[.int .i64 2,.slice pa pn pc,.int .i64 rule,.int .i64 wd,.int .i64 cp,.int .i64 join,.int .i64 iw,.int .i64 ih,.int .i64 bits,.string data,.int .i64 a,.int .i64 b,.int .i64 c,.int .i64 d,.int .i64 e,.int .i64 f,.int .u8 kr,.int .u8 kg,.int .u8 kb,.int .u8 ka,.slice ca cn cc],.agg #[.int .i64 2,.slice pa pn pc,.int .i64 0,.int .i64 wd,.int .i64 cp,.int .i64 join,.int .i64 0,.int .i64 0,.int .i64 0,.string { data:=#[] },.int .i64 0,.int .i64 0,.int .i64 0,.int .i64 0,.int .i64 0,.int .i64 0,.int .u8 kr,.int .u8 kg,.int .u8 kb,.int .u8 ka,.slice ca cn cc]] w' (fun e w2=>e=.returned (.bool x)∧Below w'.heap.size w' w2) from by
   have h:=helpItem_calls w' 2 rule wd cp join iw ih bits data a b c d e f kr kg kb ka 0 wd cp join 0 0 0 ⟨#[]⟩ 0 0 0 0 0 0 pa pa ca pn pc pn pc cn cc true (fun w2 h2=>HPS.out w2 (hb.trans (h2.mono hb.size))) (fun w2 h2=>HCS.out w2 (hb.trans (h2.mono hb.size)))
   refine h.mono fun e w2 h=>?_
   obtain ⟨rfl,h2⟩:=h
   exact ⟨ret_bool (by rw [hx];(try rw [str_empty]);simp [noImg,noMtx]),h2⟩)
  have HR:=Lib.hid (show R=(bc&&(bs&&(by1&&x))) from by
   rw [hR,hx]
   generalize decide (rule=0)=y1
   generalize (noImg ⟨iw,ih,bits,data⟩&&noMtx ⟨a,b,c,d,e,f⟩)=y2
   cases bc <;> cases bs <;> cases by1 <;> cases y1 <;> cases y2 <;> rfl)
  clear hR hx
  have hbp:bs=true→bp=true:=hst
  rcases (show ∀ b10 b11 b12:Bool,(b10=false)∨(b10=true∧b11=false)∨(b10=true∧b11=true∧b12=false)∨(b10=true∧b11=true∧b12=true) by decide) bs by1 x with rfl|⟨rfl,rfl⟩|⟨rfl,rfl,rfl⟩|⟨rfl,rfl,rfl⟩
  all_goals
   obtain ⟨n1,n2⟩:=tok2
   go_enter Tryz.func19,Tryz.ntmps19
   go_wp2_with (first|(with_reducible first|(clear hL n1;intro b1 w1 hL)|(clear hL n2;intro b2 w2 hL)|(clear hL;intro _ hL))|((with_reducible refine goJ rfl ?_);refine goP ?_))
   replace hL:=hL.drew
   refine wpV_begin (by kernel_rfl) (fun (k':Nat) (w':World)=>k'<5→∃ ws:Array Value,Holds w w' [blk b2 ws 33,blk b1 #[.int .i64 2,.slice pa pn pc,.int .i64 rule,.int .i64 wd,.int .i64 cp,.int .i64 join,.int .i64 iw,.int .i64 ih,.int .i64 bits,.string data,.int .i64 a,.int .i64 b,.int .i64 c,.int .i64 d,.int .i64 e,.int .i64 f,.int .u8 kr,.int .u8 kg,.int .u8 kb,.int .u8 ka,.slice ca cn cc] 33] []) 5 ?_
   refine deV 0 (fun _ _ _=>⟨_,hL⟩) ?_
   refine dlV 1 ?_ (fun _ _ _=>⟨_,hL⟩) (fun w' hw=>?_) ?_;rotate_left;(· obtain ⟨ws9,hw⟩:=hw (by decide);(first|refine loadA hw ?_|refine loadP hw ?_);rfl)
   simp only [Act.put,setP]
   refine deV 2 (fun _ _ _=>⟨_,hL⟩) ?_
   refine dlV 3 ?_ (fun _ _ _=>⟨_,hL⟩) (fun w' hw=>?_) ?_;rotate_left;(· obtain ⟨ws9,hw⟩:=hw (by decide);(first|refine loadA hw ?_|refine loadP hw ?_);rfl)
   simp only [Act.put,setP]
   refine deV 4 (fun _ _ _=>⟨_,hL⟩) ?_
   refine wpV_one (i:=5) (by kernel_rfl) (wpOf ?_)
   refine st_store rfl _ _ _ rfl _ rfl (.slice _ _ _) rfl ?_
   first|refine storeA hL ?_|refine storeO hL ?_|refine storeR hL ?_
   clear hL;intro w9 hL
   refine ⟨fun k9 hk9 hm9=>?_,?_⟩
   (· exact ⟨_,hL⟩)
   try simp only [Act.put]
   refine wpV_one (i:=6) (by kernel_rfl) (wpOf ?_)
   refine st_easy rfl ?_ ?_ ?_;rotate_left;(· go_simp;try with_reducible rfl)
   refine ⟨fun k9 hk9 hm9=>?_,?_⟩
   (· exact ⟨_,hL⟩)
   simp only [Act.put,setP]
   refine wpV_one (i:=7) (by kernel_rfl) (wpOf ?_)
   refine st_store rfl _ _ _ rfl _ rfl (.agg #[_,_,_]) rfl ?_
   refine storeT hL ?_
   try clear hV
   clear hL;intro w9 hL
   refine ⟨fun k9 hk9 hm9=>?_,?_⟩
   (· exact ⟨_,hL⟩)
   try simp only [Act.put]
   refine wpV_done (by kernel_rfl) ?_
   go_wp2_with (first|(go_at_call 54;(with_reducible refine (HSt.out _ hL.below).mono ?_);rintro e _ ⟨rfl,hb⟩;replace hL:=hL.call hb;clear hb)|(go_at_call 52;(with_reducible refine (HP.out _ hL.below).mono ?_);rintro e _ ⟨rfl,hb⟩;replace hL:=hL.call hb;clear hb)|(go_at_call 55;(with_reducible refine (HMy.out _).mono ?_);rintro e _ ⟨rfl,hb⟩;replace hL:=hL.call hb;clear hb)|(go_at_call 59;(with_reducible refine (HIt.out _ hL.below).mono ?_);rintro e _ ⟨rfl,hb⟩;replace hL:=hL.call hb;clear hb)|(go_at_call 36;(with_reducible refine (HC.out _ hL.below).mono ?_);rintro e _ ⟨rfl,hb⟩;replace hL:=hL.call hb;clear hb)|((with_reducible refine goJ rfl ?_);refine goP ?_))
   go_ret
   exact ⟨ret_bool (by rw [HR.out];cases bc <;> simp [*]),hL.below⟩
 ·rw [if_neg (by decide),if_neg (by decide),if_pos (by decide)] at hR
  obtain ⟨x,hx⟩:∃ x,x=(decide (pn=0)&&(decide (rule=0)&&noSty ⟨wd,cp,join⟩)):=⟨_,rfl⟩
  have HIt:=Lib.hid (fun w' (hb:Below w.heap.size w w')=>show Calls Tryz.prog 59 #[.agg #[.int .i64 3,.slice pa pn pc,.int .i64 rule,.int .i64 wd,.int .i64 cp,.int .i64 join,.int .i64 iw,.int .i64 ih,.int .i64 bits,.string data,.int .i64 a,.int .i64 b,.int .i64 c,.int .i64 d,.int .i64 e,.int .i64 f,.int .u8 kr,.int .u8 kg,.int .u8 kb,.int .u8 ka,.slice ca cn cc],.agg #[.int .i64 3,.slice none 0 0,.int .i64 0,.int .i64 0,.int .i64 0,.int .i64 0,.int .i64 iw,.int .i64 ih,.int .i64 bits,.string data,.int .i64 a,.int .i64 b,.int .i64 c,.int .i64 d,.int .i64 e,.int .i64 f,.int .u8 kr,.int .u8 kg,.int .u8 kb,.int .u8 ka,.slice ca cn cc]] w' (fun e w2=>e=.returned (.bool x)∧Below w'.heap.size w' w2) from by
   have h:=helpItem_calls w' 3 rule wd cp join iw ih bits data a b c d e f kr kg kb ka 0 0 0 0 iw ih bits data a b c d e f pa none ca pn pc 0 0 cn cc (decide (pn=0)) (fun w2 h2=>HPN.out w2 (hb.trans (h2.mono hb.size))) (fun w2 h2=>HCS.out w2 (hb.trans (h2.mono hb.size)))
   refine h.mono fun e w2 h=>?_
   obtain ⟨rfl,h2⟩:=h
   exact ⟨ret_bool (by rw [hx];(try rw [str_empty]);simp [noSty]),h2⟩)
  have HR:=Lib.hid (show R=(bc&&(bi&&(bm&&(decide (D≠0)&&x)))) from by
   rw [hR,hx]
   generalize decide (pn=0)=y1
   generalize decide (rule=0)=y2
   generalize noSty ⟨wd,cp,join⟩=y3
   generalize decide (D≠0)=y4
   cases bc <;> cases y1 <;> cases y2 <;> cases y3 <;> cases bi <;> cases bm <;> cases y4 <;> rfl)
  clear hR hx
  obtain ⟨bD,hD⟩:∃ x,(D != 0)=x:=⟨_,rfl⟩
  rw [show decide (D≠0)=bD from by rw [←hD];by_cases h:D=0 <;> simp [h]] at HR
  rcases (show ∀ b10 b11 b12 b13:Bool,(b10=false)∨(b10=true∧b11=false)∨(b10=true∧b11=true∧b12=false)∨(b10=true∧b11=true∧b12=true∧b13=false)∨(b10=true∧b11=true∧b12=true∧b13=true) by decide) bi bm bD x with rfl|⟨rfl,rfl⟩|⟨rfl,rfl,rfl⟩|⟨rfl,rfl,rfl,rfl⟩|⟨rfl,rfl,rfl,rfl⟩
  all_goals
   obtain ⟨n1,n2⟩:=tok2
   go_enter Tryz.func19,Tryz.ntmps19
   go_wp2_with (first|(with_reducible first|(clear hL n1;intro b1 w1 hL)|(clear hL n2;intro b2 w2 hL)|(clear hL;intro _ hL))|((with_reducible refine goJ rfl ?_);refine goP ?_))
   replace hL:=hL.drew
   refine wpV_begin (by kernel_rfl) (fun (k':Nat) (w':World)=>k'<5→∃ ws:Array Value,Holds w w' [blk b2 ws 33,blk b1 #[.int .i64 3,.slice pa pn pc,.int .i64 rule,.int .i64 wd,.int .i64 cp,.int .i64 join,.int .i64 iw,.int .i64 ih,.int .i64 bits,.string data,.int .i64 a,.int .i64 b,.int .i64 c,.int .i64 d,.int .i64 e,.int .i64 f,.int .u8 kr,.int .u8 kg,.int .u8 kb,.int .u8 ka,.slice ca cn cc] 33] []) 5 ?_
   refine deV 0 (fun _ _ _=>⟨_,hL⟩) ?_
   refine dlV 1 ?_ (fun _ _ _=>⟨_,hL⟩) (fun w' hw=>?_) ?_;rotate_left;(· obtain ⟨ws9,hw⟩:=hw (by decide);(first|refine loadA hw ?_|refine loadP hw ?_);rfl)
   simp only [Act.put,setP]
   refine deV 2 (fun _ _ _=>⟨_,hL⟩) ?_
   refine dlV 3 ?_ (fun _ _ _=>⟨_,hL⟩) (fun w' hw=>?_) ?_;rotate_left;(· obtain ⟨ws9,hw⟩:=hw (by decide);(first|refine loadA hw ?_|refine loadP hw ?_);rfl)
   simp only [Act.put,setP]
   refine deV 4 (fun _ _ _=>⟨_,hL⟩) ?_
   refine wpV_one (i:=5) (by kernel_rfl) (wpOf ?_)
   refine st_store rfl _ _ _ rfl _ rfl (.agg #[_,_,_,_]) rfl ?_
   refine storeT hL ?_
   try clear hV
   clear hL;intro w9 hL
   refine ⟨fun k9 hk9 hm9=>?_,?_⟩
   (· exact ⟨_,hL⟩)
   try simp only [Act.put]
   refine wpV_one (i:=6) (by kernel_rfl) (wpOf ?_)
   refine st_easy rfl ?_ ?_ ?_;rotate_left;(· go_simp;try with_reducible rfl)
   refine ⟨fun k9 hk9 hm9=>?_,?_⟩
   (· exact ⟨_,hL⟩)
   simp only [Act.put,setP]
   refine wpV_one (i:=7) (by kernel_rfl) (wpOf ?_)
   refine st_store rfl _ _ _ rfl _ rfl (.agg #[_,_,_,_,_,_]) rfl ?_
   refine storeT hL ?_
   try clear hV
   clear hL;intro w9 hL
   refine ⟨fun k9 hk9 hm9=>?_,?_⟩
   (· exact ⟨_,hL⟩)
   try simp only [Act.put]
   refine wpV_done (by kernel_rfl) ?_
   go_wp2_with (first|(go_at_call 56;(with_reducible refine (HIm.out _).mono ?_);rintro e _ ⟨rfl,hb⟩;replace hL:=hL.call hb;clear hb)|(go_at_call 57;(with_reducible refine (HMm.out _).mono ?_);rintro e _ ⟨rfl,hb⟩;replace hL:=hL.call hb;clear hb)|(go_at_call 58;(with_reducible refine (HDt.out (by trivial) _).mono ?_);rintro e _ ⟨rfl,hb⟩;replace hL:=hL.call hb;clear hb)|(go_at_call 59;(with_reducible refine (HIt.out _ hL.below).mono ?_);rintro e _ ⟨rfl,hb⟩;replace hL:=hL.call hb;clear hb)|(go_at_call 36;(with_reducible refine (HC.out _ hL.below).mono ?_);rintro e _ ⟨rfl,hb⟩;replace hL:=hL.call hb;clear hb)|((with_reducible refine goJ rfl ?_);refine goP ?_))
   go_ret
   exact ⟨ret_bool (by rw [HR.out];cases bc <;> simp [*]),hL.below⟩
 ·rw [if_neg (by decide),if_neg (by decide),if_pos (by decide)] at hR
  obtain ⟨x,hx⟩:∃ x,x=(decide (pn=0)&&(decide (rule=0)&&noSty ⟨wd,cp,join⟩)):=⟨_,rfl⟩
  have HIt:=Lib.hid (fun w' (hb:Below w.heap.size w w')=>show Calls Tryz.prog 59 #[.agg #[.int .i64 4,.slice pa pn pc,.int .i64 rule,.int .i64 wd,.int .i64 cp,.int .i64 join,.int .i64 iw,.int .i64 ih,.int .i64 bits,.string data,.int .i64 a,.int .i64 b,.int .i64 c,.int .i64 d,.int .i64 e,.int .i64 f,.int .u8 kr,.int .u8 kg,.int .u8 kb,.int .u8 ka,.slice ca cn cc],.agg #[.int .i64 4,.slice none 0 0,.int .i64 0,.int .i64 0,.int .i64 0,.int .i64 0,.int .i64 iw,.int .i64 ih,.int .i64 bits,.string data,.int .i64 a,.int .i64 b,.int .i64 c,.int .i64 d,.int .i64 e,.int .i64 f,.int .u8 kr,.int .u8 kg,.int .u8 kb,.int .u8 ka,.slice ca cn cc]] w' (fun e w2=>e=.returned (.bool x)∧Below w'.heap.size w' w2) from by
   have h:=helpItem_calls w' 4 rule wd cp join iw ih bits data a b c d e f kr kg kb ka 0 0 0 0 iw ih bits data a b c d e f pa none ca pn pc 0 0 cn cc (decide (pn=0)) (fun w2 h2=>HPN.out w2 (hb.trans (h2.mono hb.size))) (fun w2 h2=>HCS.out w2 (hb.trans (h2.mono hb.size)))
   refine h.mono fun e w2 h=>?_
   obtain ⟨rfl,h2⟩:=h
   exact ⟨ret_bool (by rw [hx];(try rw [str_empty]);simp [noSty]),h2⟩)
  have HR:=Lib.hid (show R=(bc&&(bi&&(bm&&(decide (D≠0)&&(decide (bits=1)&&x))))) from by
   rw [hR,hx]
   generalize decide (pn=0)=y1
   generalize decide (rule=0)=y2
   generalize noSty ⟨wd,cp,join⟩=y3
   generalize decide (D≠0)=y4
   generalize decide (bits=1)=y5
   cases bc <;> cases y1 <;> cases y2 <;> cases y3 <;> cases bi <;> cases bm <;> cases y4 <;> cases y5 <;> rfl)
  clear hR hx
  obtain ⟨bD,hD⟩:∃ x,(D != 0)=x:=⟨_,rfl⟩
  rw [show decide (D≠0)=bD from by rw [←hD];by_cases h:D=0 <;> simp [h]] at HR
  obtain ⟨bB,hB⟩:∃ x,(bits == 1)=x:=⟨_,rfl⟩
  rw [show decide (bits=1)=bB from by rw [←hB];by_cases h:bits=1 <;> simp [h]] at HR
  rcases (show ∀ b10 b11 b12 b13 b14:Bool,(b10=false)∨(b10=true∧b11=false)∨(b10=true∧b11=true∧b12=false)∨(b10=true∧b11=true∧b12=true∧b13=false)∨(b10=true∧b11=true∧b12=true∧b13=true∧b14=false)∨(b10=true∧b11=true∧b12=true∧b13=true∧b14=true) by decide) bi bm bD bB x with rfl|⟨rfl,rfl⟩|⟨rfl,rfl,rfl⟩|⟨rfl,rfl,rfl,rfl⟩|⟨rfl,rfl,rfl,rfl,rfl⟩|⟨rfl,rfl,rfl,rfl,rfl⟩
  all_goals
   obtain ⟨n1,n2⟩:=tok2
   go_enter Tryz.func19,Tryz.ntmps19
   go_wp2_with (first|(with_reducible first|(clear hL n1;intro b1 w1 hL)|(clear hL n2;intro b2 w2 hL)|(clear hL;intro _ hL))|((with_reducible refine goJ rfl ?_);refine goP ?_))
   replace hL:=hL.drew
   refine wpV_begin (by kernel_rfl) (fun (k':Nat) (w':World)=>k'<5→∃ ws:Array Value,Holds w w' [blk b2 ws 33,blk b1 #[.int .i64 4,.slice pa pn pc,.int .i64 rule,.int .i64 wd,.int .i64 cp,.int .i64 join,.int .i64 iw,.int .i64 ih,.int .i64 bits,.string data,.int .i64 a,.int .i64 b,.int .i64 c,.int .i64 d,.int .i64 e,.int .i64 f,.int .u8 kr,.int .u8 kg,.int .u8 kb,.int .u8 ka,.slice ca cn cc] 33] []) 5 ?_
   refine deV 0 (fun _ _ _=>⟨_,hL⟩) ?_
   refine dlV 1 ?_ (fun _ _ _=>⟨_,hL⟩) (fun w' hw=>?_) ?_;rotate_left;(· obtain ⟨ws9,hw⟩:=hw (by decide);(first|refine loadA hw ?_|refine loadP hw ?_);rfl)
   simp only [Act.put,setP]
   refine deV 2 (fun _ _ _=>⟨_,hL⟩) ?_
   refine dlV 3 ?_ (fun _ _ _=>⟨_,hL⟩) (fun w' hw=>?_) ?_;rotate_left;(· obtain ⟨ws9,hw⟩:=hw (by decide);(first|refine loadA hw ?_|refine loadP hw ?_);rfl)
   simp only [Act.put,setP]
   refine deV 4 (fun _ _ _=>⟨_,hL⟩) ?_
   refine wpV_one (i:=5) (by kernel_rfl) (wpOf ?_)
   refine st_store rfl _ _ _ rfl _ rfl (.agg #[_,_,_,_]) rfl ?_
   refine storeT hL ?_
   try clear hV
   clear hL;intro w9 hL
   refine ⟨fun k9 hk9 hm9=>?_,?_⟩
   (· exact ⟨_,hL⟩)
   try simp only [Act.put]
   refine wpV_one (i:=6) (by kernel_rfl) (wpOf ?_)
   refine st_easy rfl ?_ ?_ ?_;rotate_left;(· go_simp;try with_reducible rfl)
   refine ⟨fun k9 hk9 hm9=>?_,?_⟩
   (· exact ⟨_,hL⟩)
   simp only [Act.put,setP]
   refine wpV_one (i:=7) (by kernel_rfl) (wpOf ?_)
   refine st_store rfl _ _ _ rfl _ rfl (.agg #[_,_,_,_,_,_]) rfl ?_
   refine storeT hL ?_
   try clear hV
   clear hL;intro w9 hL
   refine ⟨fun k9 hk9 hm9=>?_,?_⟩
   (· exact ⟨_,hL⟩)
   try simp only [Act.put]
   refine wpV_done (by kernel_rfl) ?_
   go_wp2_with (first|(go_at_call 56;(with_reducible refine (HIm.out _).mono ?_);rintro e _ ⟨rfl,hb⟩;replace hL:=hL.call hb;clear hb)|(go_at_call 57;(with_reducible refine (HMm.out _).mono ?_);rintro e _ ⟨rfl,hb⟩;replace hL:=hL.call hb;clear hb)|(go_at_call 58;(with_reducible refine (HDt.out (by trivial) _).mono ?_);rintro e _ ⟨rfl,hb⟩;replace hL:=hL.call hb;clear hb)|(go_at_call 59;(with_reducible refine (HIt.out _ hL.below).mono ?_);rintro e _ ⟨rfl,hb⟩;replace hL:=hL.call hb;clear hb)|(go_at_call 36;(with_reducible refine (HC.out _ hL.below).mono ?_);rintro e _ ⟨rfl,hb⟩;replace hL:=hL.call hb;clear hb)|((with_reducible refine goJ rfl ?_);refine goP ?_))
   go_ret
   exact ⟨ret_bool (by rw [HR.out];cases bc <;> simp [*]),hL.below⟩
 ·rw [if_neg k1,if_neg k2,if_neg (by omega),Bool.and_false] at hR
  have HR:=Lib.hid hR
  clear hR
  obtain ⟨n1,n2⟩:=tok2
  go_enter Tryz.func19,Tryz.ntmps19
  go_wp2_with (first|(with_reducible first|(clear hL n1;intro b1 w1 hL)|(clear hL n2;intro b2 w2 hL)|(clear hL;intro _ hL))|((with_reducible refine goJ rfl ?_);refine goP ?_))
  go_ret
  exact ⟨ret_bool HR.out.symm,hL.below⟩
end Go.Proofs.YtmnoeoecjfhhbaaGreat
