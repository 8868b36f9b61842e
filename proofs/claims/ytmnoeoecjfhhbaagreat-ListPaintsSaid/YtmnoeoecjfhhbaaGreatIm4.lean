/- Package list: May. -/
import Derived.Test.YtmnoeoecjfhhbaaGreatIm3
import Derived.Test.YtmnoeoecjfhhbaaGreatHmY
namespace Go.Proofs.YtmnoeoecjfhhbaaGreat
open Go.RowKit
theorem listRule_calls (v:Int) (w:World):Calls Tryz.prog 46 #[.int .i64 v] w fun e w'=>e=.returned (.bool (isRule v))∧w=w':=by
 have HR:=Lib.hid (show isRule v=((v == 0) || (v == 1)) from rfl)
 generalize isRule v=R at *
 go_enter Tryz.func46,Tryz.ntmps46
 go_wp2
 all_goals
  go_ret
  exact ⟨ret_bool (by first|exact HR.out.symm|(rw [HR.out];simp [*])),rfl⟩
theorem listSize_calls (v:Int) (w:World):Calls Tryz.prog 40 #[.int .i64 v] w fun e w'=>e=.returned (.bool (isSide v))∧w=w':=by
 have hR:isSide v=(decide (1≤v)&&decide (v≤64)):=by simp [isSide]
 generalize isSide v=R at *
 obtain ⟨b0,c0⟩:∃ b,decide (1≤v)=b:=⟨_,rfl⟩
 obtain ⟨b1,c1⟩:∃ b,decide (v≤64)=b:=⟨_,rfl⟩
 rw [c0,c1] at hR
 have HR:=Lib.hid hR
 clear hR
 rcases (show ∀ b0 b1:Bool,b0=false∨(b0=true∧b1=false)∨(b0=true∧b1=true) by decide) b0 b1 with rfl|⟨rfl,rfl⟩|⟨rfl,rfl⟩
 all_goals
  go_enter Tryz.func40,Tryz.ntmps40
  go_wp2
  go_ret
  exact ⟨ret_bool (by rw [HR.out];rfl),rfl⟩
def itmV (vp vc:Value) (i:Itm):Value:=.agg #[.int .i64 i.kind,vp,.int .i64 i.rule,.int .i64 i.style.wide,.int .i64 i.style.cap,.int .i64 i.style.join,
 .int .i64 i.image.W,.int .i64 i.image.H,.int .i64 i.image.bits,.string i.image.data,
 .int .i64 i.mat.a,.int .i64 i.mat.b,.int .i64 i.mat.c,.int .i64 i.mat.d,.int .i64 i.mat.e,.int .i64 i.mat.f,
 .int .u8 i.ink.r,.int .u8 i.ink.g,.int .u8 i.ink.b,.int .u8 i.ink.a,vc]
theorem ItmIs.val {w:World} {v:Value} {i:Itm} (h:ItmIs w v i):∃ pa pc ca cc,v=itmV (.slice pa i.path.length pc) (.slice ca i.clips.length cc) i∧pc≤maxLen∧i.path.length≤pc∧cc≤maxLen∧i.clips.length≤cc∧SegsAt w (.slice pa i.path.length pc) i.path∧ClpsAt w (.slice ca i.clips.length cc) i.clips∧ItmOk i:=by
 obtain ⟨vp,vc,rfl,hp,hc,ho⟩:=h
 obtain ⟨pa,pc,rfl,h1,h2,_⟩:=SegsAt.parts hp
 have hc':=hc
 obtain ⟨ca,cc,rfl,h3,h4,_⟩:=hc
 exact ⟨pa,pc,ca,cc,rfl,h2,h1,h4,h3,hp,hc',ho⟩
set_option maxRecDepth 100000 in
set_option maxHeartbeats 8000000 in
theorem noPath_calls (i:Itm) (pa ca:Option Addr) (pc cc:Nat) (w:World):Calls Tryz.prog 49 #[itmV (.slice pa i.path.length pc) (.slice ca i.clips.length cc) i] w fun e w'=>e=.returned (.bool (decide (i.path.length=0)&&decide (i.rule=0)))∧Below w.heap.size w w':=by
 obtain ⟨kind,path,rule,⟨wd,cap,join⟩,⟨iw,ih,bits,data⟩,⟨a,b,c,d,e,f⟩,⟨kr,kg,kb,ka⟩,clips⟩:=i
 unfold itmV
 dsimp only
 generalize path.length=pn at *
 generalize clips.length=cn at *
 have hL:=Holds.start w
 have n1:True:=trivial
 go_enter Tryz.func49,Tryz.ntmps49
 go_wp2_with (first|(with_reducible (clear hL n1;intro b1 w1 hL))|((with_reducible refine goJ rfl ?_);refine goP ?_))
 all_goals
  go_ret
  exact ⟨ret_bool (by first|rfl|(simp [*];done)|(simp [*];rfl)),hL.below⟩
theorem empty_size (d:ByteArray):decide (d.size=0)=decide (d.toList=[]):=by
 rw [decide_eq_decide,ByteArray.toList_eq]
 constructor
 ·intro h
  have:d.data.size=0:=h
  rw [Array.eq_empty_of_size_eq_zero this]
 ·intro h
  show d.data.size=0
  rw [←Array.length_toList,h]
  rfl
set_option maxRecDepth 100000 in
set_option maxHeartbeats 8000000 in
theorem noImage_calls (i:Itm) (pa ca:Option Addr) (pc cc:Nat) (w:World):Calls Tryz.prog 47 #[itmV (.slice pa i.path.length pc) (.slice ca i.clips.length cc) i] w fun e w'=>e=.returned (.bool (noImg i.image&&noMtx i.mat))∧Below w.heap.size w w':=by
 obtain ⟨kind,path,rule,⟨wd,cap,join⟩,⟨iw,ih,bits,data⟩,⟨a,b,c,d,e,f⟩,⟨kr,kg,kb,ka⟩,clips⟩:=i
 unfold itmV noImg noMtx
 dsimp only
 rw [empty_size]
 have hL:=Holds.start w
 have n1:True:=trivial
 go_enter Tryz.func47,Tryz.ntmps47
 go_wp2_with (first|(with_reducible (clear hL n1;intro b1 w1 hL))|((with_reducible refine goJ rfl ?_);refine goP ?_))
 all_goals
  go_ret
  exact ⟨ret_bool (by first|rfl|(simp [*];done)),hL.below⟩
theorem ClpsAt.get {w:World} {a:Option Addr} {cap:Nat} {l:List Clp} (h:ClpsAt w (.slice a l.length cap) l) {k:Nat} (hk:k<l.length):∃ b o pa pc,a=some ⟨b,o,none⟩∧w.rangeAt b (o+k*2) [.slice pa (l.getD k default).path.length pc,.int .i64 (l.getD k default).rule]∧SegsAt w (.slice pa (l.getD k default).path.length pc) (l.getD k default).path∧pc≤maxLen∧(l.getD k default).path.length≤pc:=by
 obtain ⟨a',cap',e,_,_,h4⟩:=h
 cases e
 obtain ⟨b,o,ea,u,hr,hs⟩:=h4 k hk
 obtain ⟨pa,pc,rfl,h1,h2,_⟩:=SegsAt.parts hs
 exact ⟨b,o,pa,pc,ea,hr,hs,h2,h1⟩
set_option maxRecDepth 100000 in
set_option maxHeartbeats 8000000 in
theorem listMayClips_calls (l:List Clp) (a:Option Addr) (cap:Nat) (w:World) (hv:ClpsAt w (.slice a l.length cap) l):Calls Tryz.prog 42 #[.slice a l.length cap] w fun e w'=>e=.returned (.bool (mayClips l))∧Below w.heap.size w w':=by
 have hcm:l.length≤cap∧cap≤maxLen:=by obtain ⟨_,_,e,h1,h2,_⟩:=hv;cases e;exact ⟨h1,h2⟩
 unfold maxLen at hcm
 have HG:=Lib.hid (fun k (hk:k<l.length)=>ClpsAt.get hv hk)
 have HY:=Lib.hid (show (∀ i,i<l.length→(pathMay (l.getD i default).path&&isRule (l.getD i default).rule)=true)→mayClips l=decide (l.length≤10) from fun h=>by
  unfold mayClips
  rw [List.all_eq_true.2 (fun x hx=>by
   obtain ⟨i,hi,rfl⟩:=List.getElem_of_mem hx
   have:=h i hi
   rwa [getD_in _ hi] at this),Bool.true_and])
 have HN:=Lib.hid (show ∀ i,i<l.length→(pathMay (l.getD i default).path&&isRule (l.getD i default).rule)=false→mayClips l=false from fun i hi h=>by
  unfold mayClips
  rw [List.all_eq_false.2 ⟨l[i],List.getElem_mem hi,by rw [getD_in _ hi] at h;rw [h];decide⟩,Bool.false_and])
 have HPm:=Lib.hid (fun w' (hb:Below w.heap.size w w') v p (h:SegsAt w v p)=>pathMay_calls w' v p (SliceAt.below h hb))
 generalize mayClips l=R at *
 clear hv
 generalize l.length=n at *
 have hL:=Holds.start w
 have n1:True:=trivial
 go_enter Tryz.func42,Tryz.ntmps42
 go_wp2_with (first|(with_reducible first|(clear hL n1;intro b1 w1 hL)|(clear hL;intro _ _ hL)|(clear hL;intro _ hL))|((with_reducible refine goJ rfl ?_);refine goP ?_))
 go_loopw [7] (fun s7 wr=>∃ k:Nat,k≤n∧s7=.int .i64 k∧(∀ i,i<k→(pathMay (l.getD i default).path&&isRule (l.getD i default).rule)=true)∧Holds w wr [] [])
  (fun s7 wr=>n-(intOf s7).toNat)
 case atStart=>exact ⟨0,by omega,rfl,fun i hi=>absurd hi (by omega),hL⟩
 case round =>
  clear hL
  obtain ⟨k,hk,rfl,hall,hL⟩:=hrel
  by_cases hkt:k<n
  ·obtain ⟨b,o,pa,pc,rfl,hr,hs,hp1,hp2⟩:=HG.out k hkt
   have hkb:(k:Int)<(n:Int):=by omega
   have HNk:=Lib.hid (HN.out k hkt)
   have HS:=Lib.hid (show (pathMay (l.getD k default).path&&isRule (l.getD k default).rule)=true→∀ i,i<k+1→(pathMay (l.getD i default).path&&isRule (l.getD i default).rule)=true from fun h i hi=>by
    rcases (by omega:i<k∨i=k) with h2|rfl
    ·exact hall i h2
    ·exact h)
   clear hall
   have HPk:=Lib.hid (fun w' (hb:Below w.heap.size w w')=>HPm.out w' hb _ _ hs)
   have HRk:=Lib.hid (fun w=>listRule_calls (l.getD k default).rule w)
   clear hs
   generalize (l.getD k default)=c at *
   obtain ⟨path,rule⟩:=c
   dsimp only at *
   unfold maxLen at hp1
   generalize pathMay path=bm at *
   generalize isRule rule=br at *
   generalize path.length=pn at *
   rcases (show ∀ b0 b1:Bool,(b0=false)∨(b0=true∧b1=false)∨(b0=true∧b1=true) by decide) bm br with rfl|⟨rfl,rfl⟩|⟨rfl,rfl⟩
   ·have HR:=Lib.hid (HNk.out rfl)
    go_wp2_with (first|(go_at_call 45;(with_reducible refine (HPk.out _ hL.below).mono ?_);rintro e _ ⟨rfl,hb⟩;replace hL:=hL.call hb;clear hb)|(go_at_call 46;(with_reducible refine (HRk.out _).mono ?_);rintro e _ ⟨rfl,rfl⟩)|(with_reducible first|(clear hL n1;intro b1 w1 hL)|(clear hL;intro _ hL))|((with_reducible refine goJ rfl ?_);refine goP ?_))
    go_ret
    exact ⟨ret_bool HR.out.symm,hL.below⟩
   ·have HR:=Lib.hid (HNk.out rfl)
    go_wp2_with (first|(go_at_call 45;(with_reducible refine (HPk.out _ hL.below).mono ?_);rintro e _ ⟨rfl,hb⟩;replace hL:=hL.call hb;clear hb)|(go_at_call 46;(with_reducible refine (HRk.out _).mono ?_);rintro e _ ⟨rfl,rfl⟩)|(with_reducible first|(clear hL n1;intro b1 w1 hL)|(clear hL;intro _ hL))|((with_reducible refine goJ rfl ?_);refine goP ?_))
    go_ret
    exact ⟨ret_bool HR.out.symm,hL.below⟩
   ·have HR:=Lib.hid (HS.out rfl)
    go_wp2_with (first|(go_at_call 45;(with_reducible refine (HPk.out _ hL.below).mono ?_);rintro e _ ⟨rfl,hb⟩;replace hL:=hL.call hb;clear hb)|(go_at_call 46;(with_reducible refine (HRk.out _).mono ?_);rintro e _ ⟨rfl,rfl⟩)|(with_reducible first|(clear hL n1;intro b1 w1 hL)|(clear hL;intro _ hL))|((with_reducible refine goJ rfl ?_);refine goP ?_))
    go_roundw
    case rel=>exact ⟨k+1,by omega,by go_num,HR.out,hL.drop .here⟩
    case measure=>simp [intOf];omega
  ·have e:k=n:=by omega
   subst e
   have HF:=Lib.hid (HY.out hall)
   clear hall
   go_wp2_with (first|(with_reducible first|(clear hL n1;intro b1 w1 hL)|(clear hL;intro _ _ hL)|(clear hL;intro _ hL))|((with_reducible refine goJ rfl ?_);refine goP ?_))
   go_ret
   exact ⟨ret_bool (by rw [HF.out,decide_eq_decide];omega),hL.below⟩
open Go.RowKit
def workTo (l:List Clp) (k:Nat):Nat:=((l.take k).map fun c=>c.path.length).sum
theorem workTo_next (l:List Clp) (k:Nat) (h:k<l.length):workTo l (k+1)=workTo l k+(l.getD k default).path.length:=by
 unfold workTo
 rw [List.take_succ_eq_append_getElem h,List.map_append,List.sum_append]
 simp [h]
theorem workTo_le {l:List Clp} {B:Nat} (h:∀ c∈l,c.path.length≤B):∀ k,workTo l k≤k*B
 | 0=>by simp [workTo]
 | k+1=>by
  have h1:=workTo_le h k
  rw [Nat.succ_mul]
  by_cases hk:k<l.length
  ·rw [workTo_next l k hk]
   have h2:=h (l.getD k default) (by rw [getD_in _ hk];exact List.getElem_mem hk)
   omega
  ·have e:workTo l (k+1)=workTo l k:=by unfold workTo;rw [List.take_of_length_le (by omega),List.take_of_length_le (by omega)]
   rw [e]
   omega
theorem workI_to (i:Itm):workI i=((i.path.length+4+workTo i.clips i.clips.length:Nat):Int):=by
 unfold workI workTo
 rw [List.take_length]
 have:∀ l:List Clp,(l.map fun c=>(c.path.length:Int)).sum=(((l.map fun c=>c.path.length).sum:Nat):Int):=by
  intro l
  induction l with
  | nil=>rfl
  | cons a t ih=>simp only [List.map_cons,List.sum_cons,ih];omega
 rw [this]
 omega
set_option maxRecDepth 100000 in
set_option maxHeartbeats 8000000 in
theorem listWork_calls (w:World) (v:Value) (i:Itm) (h:ItmIs w v i) (hb1:i.path.length≤1000000) (hb2:i.clips.length≤1000000) (hb3:∀ c∈i.clips,c.path.length≤1000000):Calls Tryz.prog 20 #[v] w fun e w'=>e=.returned (.int .i64 (workI i))∧Below w.heap.size w w':=by
 obtain ⟨pa,pc,ca,cc,rfl,_,_,hcc,hcl,_,hC,_⟩:=h.val
 clear h
 unfold maxLen at hcc
 have HG:=Lib.hid (fun k (hk:k<i.clips.length)=>ClpsAt.get hC hk)
 have HR:=Lib.hid (workI_to i)
 have HW:=Lib.hid (fun k hk=>workTo_next i.clips k hk)
 have HL:=Lib.hid (workTo_le hb3)
 generalize workI i=R at *
 obtain ⟨kind,path,rule,⟨wd,cap,join⟩,⟨iw,ih,bits,data⟩,⟨a,b,c,d,e,f⟩,⟨kr,kg,kb,ka⟩,clips⟩:=i
 unfold itmV
 dsimp only at *
 clear hC hb3
 have HT0:=Lib.hid (show workTo clips 0=0 from rfl)
 generalize hT:workTo clips=T at *
 clear hT
 generalize path.length=pn at *
 generalize hcn:clips.length=cn at *
 clear hcn
 have hL:=Holds.start w
 have n1:True:=trivial
 go_enter Tryz.func20,Tryz.ntmps20
 go_wp2_with (first|(with_reducible first|(clear hL n1;intro b1 w1 hL)|(clear hL;intro _ _ hL)|(clear hL;intro _ hL))|((with_reducible refine goJ rfl ?_);refine goP ?_))
 go_loopw [3,13] (fun s3 s13 wr=>∃ k:Nat,k≤cn∧s13=.int .i64 k∧s3=.int .i64 ((pn+4+T k:Nat):Int)∧Holds w wr [] [])
  (fun s3 s13 wr=>cn-(intOf s13).toNat)
 case atStart =>
  refine ⟨0,by omega,rfl,?_,hL.drop .here⟩
  rw [HT0.out]
  go_num
 case round =>
  clear hL
  obtain ⟨k,hk,rfl,rfl,hL⟩:=hrel
  have hTb:=HL.out k
  have hTb2:k*1000000≤cn*1000000:=Nat.mul_le_mul_right _ hk
  by_cases hkt:k<cn
  ·obtain ⟨b,o,pa,pc,rfl,hr,_,hp1,hp2⟩:=HG.out k hkt
   have hkb:(k:Int)<(cn:Int):=by omega
   have hw:=HW.out k hkt
   have hTc:=HL.out (k+1)
   have hTc2:(k+1)*1000000≤cn*1000000:=Nat.mul_le_mul_right _ hkt
   have Hw:=Lib.hid hw
   generalize hT2:T (k+1)=t2 at *
   have HT2:=Lib.hid hT2
   clear hT2
   generalize (clips.getD k default)=c at *
   obtain ⟨path,rule⟩:=c
   dsimp only at *
   generalize path.length=qn at *
   generalize T k=t at *
   unfold maxLen at hp1
   go_wp2_with (first|(with_reducible first|(clear hL n1;intro b1 w1 hL)|(clear hL;intro _ _ hL)|(clear hL;intro _ hL))|((with_reducible refine goJ rfl ?_);refine goP ?_))
   go_roundw
   case rel =>
    refine ⟨k+1,by omega,by go_num,?_,hL.drop .here⟩
    rw [HT2.out]
    go_num
   case measure=>simp [intOf];omega
  ·have e:k=cn:=by omega
   subst e
   go_wp2_with (first|(with_reducible first|(clear hL n1;intro b1 w1 hL)|(clear hL;intro _ _ hL)|(clear hL;intro _ hL))|((with_reducible refine goJ rfl ?_);refine goP ?_))
   go_ret
   exact ⟨ret_int HR.out.symm,hL.below⟩
open Go.RowKit
theorem sty_lit (s:Sty):noSty s=(decide (s.wide=0)&&(decide (s.cap=0)&&decide (s.join=0))):=rfl
theorem not_bow {l:List Sg} (h:∀ k,k<l.length→¬(l.getD k default).kind=3):(l.all fun s=>decide (s.kind≠3))=true:=by
 rw [List.all_eq_true]
 intro x hx
 obtain ⟨k,hk,rfl⟩:=List.getElem_of_mem hx
 have:=h k hk
 rw [getD_in _ hk] at this
 exact decide_eq_true this
theorem is_bow {l:List Sg} {k:Nat} (hk:k<l.length) (h:(l.getD k default).kind=3):(l.all fun s=>decide (s.kind≠3))=false:=by
 rw [List.all_eq_false]
 refine ⟨l[k],List.getElem_mem hk,?_⟩
 rw [getD_in _ hk] at h
 simp [h]
set_option maxRecDepth 100000 in
set_option maxHeartbeats 16000000 in
theorem listMay_calls (w:World) (v:Value) (i:Itm) (h:ItmIs w v i):Calls Tryz.prog 18 #[v] w fun e w'=>e=.returned (.bool (mayItm i))∧Below w.heap.size w w':=by
 obtain ⟨pa,pc,ca,cc,rfl,hp2,hp1,_,_,hP,hC,hOk⟩:=h.val
 clear h
 have hR:mayItm i=(mayClips i.clips&&(
  if i.kind=1 then pathMay i.path&&(isRule i.rule&&(noSty i.style&&(noImg i.image&&noMtx i.mat)))
  else if i.kind=2 then straightS i.path&&(decide (i.rule=0)&&(mayY i.style&&(noImg i.image&&noMtx i.mat)))
  else if i.kind=3∨i.kind=4 then (decide (i.path.length=0)&&decide (i.rule=0))&&(noSty i.style&&(mayImg i.image&&(mayMtx i.mat&&(decide (detM i.mat≠0)&&(decide (i.kind=3) || decide (i.image.bits=1))))))
  else false)):=rfl
 have hst:straightS i.path=(pathMay i.path&&i.path.all fun s=>decide (s.kind≠3)):=rfl
 rw [hst,sty_lit] at hR
 clear hst
 have HC:=Lib.hid (fun w' (hb:Below w.heap.size w w')=>listMayClips_calls i.clips ca cc w' (hC.below hb))
 have HP:=Lib.hid (fun w' (hb:Below w.heap.size w w')=>pathMay_calls w' (.slice pa i.path.length pc) i.path (SliceAt.below hP hb))
 have HRu:=Lib.hid (fun w=>listRule_calls i.rule w)
 have HNp:=Lib.hid (fun w=>noPath_calls i pa ca pc cc w)
 have HNi:=Lib.hid (fun w (x y z r:Int)=>noImage_calls { i with style:=⟨x,y,z⟩,rule:=r } pa ca pc cc w)
 dsimp only at HNi
 have HSt:=Lib.hid (fun w=>strokeMay_calls i.style w)
 have HIm:=Lib.hid (fun w=>imgMay_calls i.image hOk.1 w)
 have HMm:=Lib.hid (fun w=>matMay_calls i.mat w)
 have HS:=Lib.hid (show ∀ k,k<i.path.length→∃ b o,pa=some ⟨b,o,none⟩∧w.rangeAt b (o+k*5) (segC (i.path.getD k default)) from fun k hk=>by
  obtain ⟨a',c',e,_,_,h5⟩:=SegsAt.parts hP
  cases e
  exact h5 k hk)
 have HYb:=Lib.hid (not_bow (l:=i.path))
 have HNb:=Lib.hid (fun k=>is_bow (l:=i.path) (k:=k))
 have hDet:mayMtx i.mat=true→IntKind.i64.wrap (i.mat.a*i.mat.d)=i.mat.a*i.mat.d∧IntKind.i64.wrap (i.mat.b*i.mat.c)=i.mat.b*i.mat.c∧IntKind.i64.wrap (detM i.mat)=detM i.mat:=fun hm=>by
  obtain ⟨f1,f2,f3,f4,f5,f6⟩:=fix_bd hm
  have e1:=mul_bd f1.1 f1.2 f4.1 f4.2
  have e2:=mul_bd f2.1 f2.2 f3.1 f3.2
  have e3:=det_bd hm
  exact ⟨wrapS (by omega) (by omega),wrapS (by omega) (by omega),wrapS (by omega) (by omega)⟩
 have hDe:i.mat.a*i.mat.d-i.mat.b*i.mat.c=detM i.mat:=rfl
 clear hP hC hOk
 generalize mayItm i=R at *
 generalize mayClips i.clips=bc at *
 generalize pathMay i.path=bp at *
 generalize (i.path.all fun s=>decide (s.kind≠3))=bs at *
 generalize isRule i.rule=br at *
 generalize (noImg i.image&&noMtx i.mat)=bn at *
 generalize mayY i.style=by1 at *
 generalize mayImg i.image=bi at *
 generalize mayMtx i.mat=bm at *
 generalize detM i.mat=D at *
 obtain ⟨kind,path,rule,⟨wd,cap,join⟩,⟨iw,ih,bits,data⟩,⟨a,b,c,d,e,f⟩,⟨kr,kg,kb,ka⟩,clips⟩:=i
 unfold itmV imgV mtxV at *
 dsimp only at *
 unfold maxLen at hp2
 generalize clips.length=cn at *
 have hL:=Holds.start w
 cases bc with
 | false =>
  have HR:=Lib.hid hR
  clear hR hDe hDet
  generalize path.length=pn at *
  have n1:True:=trivial
  go_enter Tryz.func18,Tryz.ntmps18
  go_wp2_with (first|(go_at_call 42;(with_reducible refine (HC.out _ hL.below).mono ?_);rintro e _ ⟨rfl,hb⟩;replace hL:=hL.call hb;clear hb)|(with_reducible (clear hL n1;intro b1 w1 hL))|((with_reducible refine goJ rfl ?_);refine goP ?_))
  go_ret
  exact ⟨ret_bool (by rw [HR.out];rfl),hL.below⟩
 | true =>
 rw [Bool.true_and] at hR
 rcases (by omega:kind=1∨kind=2∨kind=3∨kind=4∨(kind≠1∧kind≠2∧kind≠3∧kind≠4)) with rfl|rfl|rfl|rfl|⟨k1,k2,k3,k4⟩
 ·rw [if_pos rfl] at hR
  have HR:=Lib.hid hR
  clear hR hDe hDet HYb HNb HS
  generalize path.length=pn at *
  rcases (show ∀ b0 b1:Bool,(b0=false)∨(b0=true∧b1=false)∨(b0=true∧b1=true) by decide) bp br with rfl|⟨rfl,rfl⟩|⟨rfl,rfl⟩
  all_goals
   have n1:True:=trivial
   go_enter Tryz.func18,Tryz.ntmps18
   go_wp2_with (first|(go_at_call 42;(with_reducible refine (HC.out _ hL.below).mono ?_);rintro e _ ⟨rfl,hb⟩;replace hL:=hL.call hb;clear hb)|(go_at_call 45;(with_reducible refine (HP.out _ hL.below).mono ?_);rintro e _ ⟨rfl,hb⟩;replace hL:=hL.call hb;clear hb)|(go_at_call 46;(with_reducible refine (HRu.out _).mono ?_);rintro e _ ⟨rfl,rfl⟩)|(go_at_call 47;(with_reducible refine (HNi.out _ _ _ _ _).mono ?_);rintro e _ ⟨rfl,hb⟩;replace hL:=hL.call hb;clear hb)|(with_reducible (clear hL n1;intro b1 w1 hL))|((with_reducible refine goJ rfl ?_);refine goP ?_))
   all_goals
    go_ret
    exact ⟨ret_bool (by rw [HR.out];first|rfl|(simp [*];done)),hL.below⟩
 ·rw [if_neg (by decide),if_pos rfl] at hR
  have HR:=Lib.hid hR
  clear hR hDe hDet
  generalize path.length=pn at *
  have n1:True:=trivial
  go_enter Tryz.func18,Tryz.ntmps18
  go_wp2_with (first|(go_at_call 42;(with_reducible refine (HC.out _ hL.below).mono ?_);rintro e _ ⟨rfl,hb⟩;replace hL:=hL.call hb;clear hb)|(go_at_call 45;(with_reducible refine (HP.out _ hL.below).mono ?_);rintro e _ ⟨rfl,hb⟩;replace hL:=hL.call hb;clear hb)|(go_at_call 47;(with_reducible refine (HNi.out _ _ _ _ _).mono ?_);rintro e _ ⟨rfl,hb⟩;replace hL:=hL.call hb;clear hb)|(go_at_call 48;(with_reducible refine (HSt.out _).mono ?_);rintro e _ ⟨rfl,hb⟩;replace hL:=hL.call hb;clear hb)|(with_reducible first|(clear hL n1;intro b1 w1 hL)|(clear hL;intro _ _ hL)|(clear hL;intro _ hL))|((with_reducible refine goJ rfl ?_);refine goP ?_))
  go_loopw [37] (fun s37 wr=>∃ k:Nat,k≤pn∧s37=.int .i64 k∧(∀ i,i<k→¬(path.getD i default).kind=3)∧Holds w wr [blk b1 #[.int .i64 2,.slice pa pn pc,.int .i64 rule,.int .i64 wd,.int .i64 cap,.int .i64 join,.int .i64 iw,.int .i64 ih,.int .i64 bits,.string data,.int .i64 a,.int .i64 b,.int .i64 c,.int .i64 d,.int .i64 e,.int .i64 f,.int .u8 kr,.int .u8 kg,.int .u8 kb,.int .u8 ka,.slice ca cn cc] 33] [])
   (fun s37 wr=>pn-(intOf s37).toNat)
  case atStart=>exact ⟨0,by omega,rfl,fun i hi=>absurd hi (by omega),hL⟩
  case round =>
   clear hL
   obtain ⟨k,hk,rfl,hall,hL⟩:=hrel
   by_cases hkt:k<pn
   ·obtain ⟨b',o',rfl,hr⟩:=HS.out k hkt
    have hkb:(k:Int)<(pn:Int):=by omega
    have HNk:=Lib.hid (HNb.out k hkt)
    have HSk:=Lib.hid (show ¬(path.getD k default).kind=3→∀ i,i<k+1→¬(path.getD i default).kind=3 from fun h i hi=>by
     rcases (by omega:i<k∨i=k) with h2|rfl
     ·exact hall i h2
     ·exact h)
    clear hall
    generalize (path.getD k default)=sg at *
    obtain ⟨kd,x,y,cx,cy⟩:=sg
    unfold segC at hr
    dsimp only at *
    by_cases hk3:kd=3
    ·have HF:=Lib.hid (HNk.out hk3)
     subst hk3
     go_wp2_with (first|(go_at_call 42;(with_reducible refine (HC.out _ hL.below).mono ?_);rintro e _ ⟨rfl,hb⟩;replace hL:=hL.call hb;clear hb)|(go_at_call 45;(with_reducible refine (HP.out _ hL.below).mono ?_);rintro e _ ⟨rfl,hb⟩;replace hL:=hL.call hb;clear hb)|(go_at_call 47;(with_reducible refine (HNi.out _ _ _ _ _).mono ?_);rintro e _ ⟨rfl,hb⟩;replace hL:=hL.call hb;clear hb)|(go_at_call 48;(with_reducible refine (HSt.out _).mono ?_);rintro e _ ⟨rfl,hb⟩;replace hL:=hL.call hb;clear hb)|(with_reducible first|(clear hL n1;intro b1 w1 hL)|(clear hL;intro _ _ hL)|(clear hL;intro _ hL))|((with_reducible refine goJ rfl ?_);refine goP ?_))
     go_ret
     exact ⟨ret_bool (by rw [HR.out,HF.out];simp),hL.below⟩
    ·have HF:=Lib.hid (HSk.out hk3)
     have hk4:(kd == 3)=false:=beq_eq_false_iff_ne.2 hk3
     go_wp2_with (first|(go_at_call 42;(with_reducible refine (HC.out _ hL.below).mono ?_);rintro e _ ⟨rfl,hb⟩;replace hL:=hL.call hb;clear hb)|(go_at_call 45;(with_reducible refine (HP.out _ hL.below).mono ?_);rintro e _ ⟨rfl,hb⟩;replace hL:=hL.call hb;clear hb)|(go_at_call 47;(with_reducible refine (HNi.out _ _ _ _ _).mono ?_);rintro e _ ⟨rfl,hb⟩;replace hL:=hL.call hb;clear hb)|(go_at_call 48;(with_reducible refine (HSt.out _).mono ?_);rintro e _ ⟨rfl,hb⟩;replace hL:=hL.call hb;clear hb)|(with_reducible first|(clear hL n1;intro b1 w1 hL)|(clear hL;intro _ _ hL)|(clear hL;intro _ hL))|((with_reducible refine goJ rfl ?_);refine goP ?_))
     go_roundw
     case rel=>exact ⟨k+1,by omega,by go_num,HF.out,hL.drop .here⟩
     case measure=>simp [intOf];omega
   ·have e:k=pn:=by omega
    subst e
    have HF:=Lib.hid (HYb.out hall)
    clear hall
    rcases (show ∀ b0 b1:Bool,(b0=false)∨(b0=true∧b1=false)∨(b0=true∧b1=true) by decide) bp by1 with rfl|⟨rfl,rfl⟩|⟨rfl,rfl⟩
    all_goals
     go_wp2_with (first|(go_at_call 42;(with_reducible refine (HC.out _ hL.below).mono ?_);rintro e _ ⟨rfl,hb⟩;replace hL:=hL.call hb;clear hb)|(go_at_call 45;(with_reducible refine (HP.out _ hL.below).mono ?_);rintro e _ ⟨rfl,hb⟩;replace hL:=hL.call hb;clear hb)|(go_at_call 47;(with_reducible refine (HNi.out _ _ _ _ _).mono ?_);rintro e _ ⟨rfl,hb⟩;replace hL:=hL.call hb;clear hb)|(go_at_call 48;(with_reducible refine (HSt.out _).mono ?_);rintro e _ ⟨rfl,hb⟩;replace hL:=hL.call hb;clear hb)|(with_reducible first|(clear hL n1;intro b1 w1 hL)|(clear hL;intro _ _ hL)|(clear hL;intro _ hL))|((with_reducible refine goJ rfl ?_);refine goP ?_))
     all_goals
      go_ret
      exact ⟨ret_bool (by rw [HR.out,HF.out];first|rfl|(simp [*];done)),hL.below⟩
 ·rw [if_neg (by omega),if_neg (by omega),if_pos (by omega)] at hR
  have HR:=Lib.hid hR
  clear hR HYb HNb HS
  generalize path.length=pn at *
  generalize had:a*d=ad at *
  generalize hbc:b*c=bc1 at *
  have hD2:=hDe
  clear hDe
  obtain ⟨bq,hbq⟩:∃ x,(decide (pn=0)&&decide (rule=0))=x:=⟨_,rfl⟩
  rw [hbq] at HNp HR
  clear hbq
  rcases (show ∀ b0 b1 b2:Bool,(b0=false)∨(b0=true∧b1=false)∨(b0=true∧b1=true∧b2=false)∨(b0=true∧b1=true∧b2=true) by decide) bq bi bm with rfl|⟨rfl,rfl⟩|⟨rfl,rfl,rfl⟩|⟨rfl,rfl,rfl⟩
  iterate 3
   ·clear hDet
    obtain ⟨n1,n2⟩:=tok2
    go_enter Tryz.func18,Tryz.ntmps18
    go_wp2_with (first|(go_at_call 42;(with_reducible refine (HC.out _ hL.below).mono ?_);rintro e _ ⟨rfl,hb⟩;replace hL:=hL.call hb;clear hb)|(go_at_call 49;(with_reducible refine (HNp.out _).mono ?_);rintro e _ ⟨rfl,hb⟩;replace hL:=hL.call hb;clear hb)|(go_at_call 50;(with_reducible refine (HIm.out _).mono ?_);rintro e _ ⟨rfl,hb⟩;replace hL:=hL.call hb;clear hb)|(go_at_call 51;(with_reducible refine (HMm.out _).mono ?_);rintro e _ ⟨rfl,hb⟩;replace hL:=hL.call hb;clear hb)|(with_reducible first|(clear hL n1;intro b1 w1 hL)|(clear hL n2;intro b2 w2 hL)|(clear hL;intro _ hL))|((with_reducible refine goJ rfl ?_);refine goP ?_))
    all_goals
     go_ret
     exact ⟨ret_bool (by rw [HR.out];first|rfl|(simp [*];done)),hL.below⟩
  ·obtain ⟨w1,w2,w3⟩:=hDet rfl
   clear hDet
   by_cases hd:D=0
   ·have hd2:(D == 0)=true:=beq_iff_eq.2 hd
    have HF:=Lib.hid (show R=false by rw [HR.out,hd];simp)
    clear hd
    obtain ⟨n1,n2⟩:=tok2
    go_enter Tryz.func18,Tryz.ntmps18
    go_wp2_with (first|(go_at_call 42;(with_reducible refine (HC.out _ hL.below).mono ?_);rintro e _ ⟨rfl,hb⟩;replace hL:=hL.call hb;clear hb)|(go_at_call 49;(with_reducible refine (HNp.out _).mono ?_);rintro e _ ⟨rfl,hb⟩;replace hL:=hL.call hb;clear hb)|(go_at_call 50;(with_reducible refine (HIm.out _).mono ?_);rintro e _ ⟨rfl,hb⟩;replace hL:=hL.call hb;clear hb)|(go_at_call 51;(with_reducible refine (HMm.out _).mono ?_);rintro e _ ⟨rfl,hb⟩;replace hL:=hL.call hb;clear hb)|(with_reducible first|(clear hL n1;intro b1 w1 hL)|(clear hL n2;intro b2 w2 hL)|(clear hL;intro _ hL))|((with_reducible refine goJ rfl ?_);refine goP ?_))
    all_goals
     go_ret
     exact ⟨ret_bool (by first|exact HF.out.symm|(rw [HR.out];first|rfl|(simp [*];done))),hL.below⟩
   ·have hd2:(D == 0)=false:=beq_eq_false_iff_ne.2 hd
    obtain ⟨n1,n2⟩:=tok2
    go_enter Tryz.func18,Tryz.ntmps18
    go_wp2_with (first|(go_at_call 42;(with_reducible refine (HC.out _ hL.below).mono ?_);rintro e _ ⟨rfl,hb⟩;replace hL:=hL.call hb;clear hb)|(go_at_call 49;(with_reducible refine (HNp.out _).mono ?_);rintro e _ ⟨rfl,hb⟩;replace hL:=hL.call hb;clear hb)|(go_at_call 50;(with_reducible refine (HIm.out _).mono ?_);rintro e _ ⟨rfl,hb⟩;replace hL:=hL.call hb;clear hb)|(go_at_call 51;(with_reducible refine (HMm.out _).mono ?_);rintro e _ ⟨rfl,hb⟩;replace hL:=hL.call hb;clear hb)|(with_reducible first|(clear hL n1;intro b1 w1 hL)|(clear hL n2;intro b2 w2 hL)|(clear hL;intro _ hL))|((with_reducible refine goJ rfl ?_);refine goP ?_))
    all_goals
     go_ret
     exact ⟨ret_bool (by rw [HR.out];first|rfl|(simp [*];done)|(simp [*];rfl)),hL.below⟩
 ·rw [if_neg (by omega),if_neg (by omega),if_pos (by omega)] at hR
  have HR:=Lib.hid hR
  clear hR HYb HNb HS
  generalize path.length=pn at *
  generalize had:a*d=ad at *
  generalize hbc:b*c=bc1 at *
  have hD2:=hDe
  clear hDe
  obtain ⟨bq,hbq⟩:∃ x,(decide (pn=0)&&decide (rule=0))=x:=⟨_,rfl⟩
  rw [hbq] at HNp HR
  clear hbq
  rcases (show ∀ b0 b1 b2:Bool,(b0=false)∨(b0=true∧b1=false)∨(b0=true∧b1=true∧b2=false)∨(b0=true∧b1=true∧b2=true) by decide) bq bi bm with rfl|⟨rfl,rfl⟩|⟨rfl,rfl,rfl⟩|⟨rfl,rfl,rfl⟩
  iterate 3
   ·clear hDet
    obtain ⟨n1,n2⟩:=tok2
    go_enter Tryz.func18,Tryz.ntmps18
    go_wp2_with (first|(go_at_call 42;(with_reducible refine (HC.out _ hL.below).mono ?_);rintro e _ ⟨rfl,hb⟩;replace hL:=hL.call hb;clear hb)|(go_at_call 49;(with_reducible refine (HNp.out _).mono ?_);rintro e _ ⟨rfl,hb⟩;replace hL:=hL.call hb;clear hb)|(go_at_call 50;(with_reducible refine (HIm.out _).mono ?_);rintro e _ ⟨rfl,hb⟩;replace hL:=hL.call hb;clear hb)|(go_at_call 51;(with_reducible refine (HMm.out _).mono ?_);rintro e _ ⟨rfl,hb⟩;replace hL:=hL.call hb;clear hb)|(with_reducible first|(clear hL n1;intro b1 w1 hL)|(clear hL n2;intro b2 w2 hL)|(clear hL;intro _ hL))|((with_reducible refine goJ rfl ?_);refine goP ?_))
    all_goals
     go_ret
     exact ⟨ret_bool (by rw [HR.out];first|rfl|(simp [*];done)),hL.below⟩
  ·obtain ⟨w1,w2,w3⟩:=hDet rfl
   clear hDet
   by_cases hd:D=0
   ·have hd2:(D == 0)=true:=beq_iff_eq.2 hd
    have HF:=Lib.hid (show R=false by rw [HR.out,hd];simp)
    clear hd
    obtain ⟨n1,n2⟩:=tok2
    go_enter Tryz.func18,Tryz.ntmps18
    go_wp2_with (first|(go_at_call 42;(with_reducible refine (HC.out _ hL.below).mono ?_);rintro e _ ⟨rfl,hb⟩;replace hL:=hL.call hb;clear hb)|(go_at_call 49;(with_reducible refine (HNp.out _).mono ?_);rintro e _ ⟨rfl,hb⟩;replace hL:=hL.call hb;clear hb)|(go_at_call 50;(with_reducible refine (HIm.out _).mono ?_);rintro e _ ⟨rfl,hb⟩;replace hL:=hL.call hb;clear hb)|(go_at_call 51;(with_reducible refine (HMm.out _).mono ?_);rintro e _ ⟨rfl,hb⟩;replace hL:=hL.call hb;clear hb)|(with_reducible first|(clear hL n1;intro b1 w1 hL)|(clear hL n2;intro b2 w2 hL)|(clear hL;intro _ hL))|((with_reducible refine goJ rfl ?_);refine goP ?_))
    all_goals
     go_ret
     exact ⟨ret_bool (by first|exact HF.out.symm|(rw [HR.out];first|rfl|(simp [*];done))),hL.below⟩
   ·have hd2:(D == 0)=false:=beq_eq_false_iff_ne.2 hd
    obtain ⟨n1,n2⟩:=tok2
    go_enter Tryz.func18,Tryz.ntmps18
    go_wp2_with (first|(go_at_call 42;(with_reducible refine (HC.out _ hL.below).mono ?_);rintro e _ ⟨rfl,hb⟩;replace hL:=hL.call hb;clear hb)|(go_at_call 49;(with_reducible refine (HNp.out _).mono ?_);rintro e _ ⟨rfl,hb⟩;replace hL:=hL.call hb;clear hb)|(go_at_call 50;(with_reducible refine (HIm.out _).mono ?_);rintro e _ ⟨rfl,hb⟩;replace hL:=hL.call hb;clear hb)|(go_at_call 51;(with_reducible refine (HMm.out _).mono ?_);rintro e _ ⟨rfl,hb⟩;replace hL:=hL.call hb;clear hb)|(with_reducible first|(clear hL n1;intro b1 w1 hL)|(clear hL n2;intro b2 w2 hL)|(clear hL;intro _ hL))|((with_reducible refine goJ rfl ?_);refine goP ?_))
    all_goals
     go_ret
     exact ⟨ret_bool (by rw [HR.out];first|rfl|(simp [*];done)|(simp [*];rfl)),hL.below⟩
 ·rw [if_neg k1,if_neg k2,if_neg (by omega)] at hR
  have HR:=Lib.hid hR
  clear hR hDe hDet HYb HNb HS
  generalize path.length=pn at *
  have n1:True:=trivial
  go_enter Tryz.func18,Tryz.ntmps18
  go_wp2_with (first|(go_at_call 42;(with_reducible refine (HC.out _ hL.below).mono ?_);rintro e _ ⟨rfl,hb⟩;replace hL:=hL.call hb;clear hb)|(with_reducible (clear hL n1;intro b1 w1 hL))|((with_reducible refine goJ rfl ?_);refine goP ?_))
  go_ret
  exact ⟨ret_bool HR.out.symm,hL.below⟩
end Go.Proofs.YtmnoeoecjfhhbaaGreat
