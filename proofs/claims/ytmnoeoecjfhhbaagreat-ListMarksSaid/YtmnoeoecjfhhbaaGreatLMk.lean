/- ListMarks returns true. -/
import Derived.Test.YtmnoeoecjfhhbaaGreatRf8
import Derived.Test.YtmnoeoecjfhhbaaGreatImT
import Derived.Test.YtmnoeoecjfhhbaaGreatLLi
namespace Go.Proofs.YtmnoeoecjfhhbaaGreat
open Go.RowKit
def wayAny (how:Int):Way how:=if h:how=1 then h▸wayLine else wayPoint how h
set_option maxRecDepth 100000 in
set_option maxHeartbeats 40000000 in
theorem listMarks_calls (w:World) (v:Value) (A:Itm) (ha:ItmIs w v A) (Wi Hi how:Int):Calls Tryz.prog 3 #[v,.int .i64 Wi,.int .i64 Hi,.int .i64 how] w fun e w'=>e=.returned (.bool true)∧Below w.heap.size w w':=by
 obtain ⟨pa,pc,ca,cc,rfl,lp,lc,hA⟩:=ha.pt
 have HFw:=Lib.hid (fun w' v l (hv:ItmsAt w' v l)=>few_calls w' v l hv)
 have HI1:=Lib.hid (fun (w':World) (M:List Res) (Φ:List (World→Prop)) (b:Nat) (cs:Array Value) (T:TypeId) (hL:Holds w w' M Φ) (k:At M (blk b cs T)) (e:cs.toList=itmC (.slice pa A.path.length pc) (.slice ca A.clips.length cc) A)=>items_one hL k hA e)
 have HY1:=Lib.hid (fun w' (hb:Below w.heap.size w w')=>listMay_calls w' _ A (ha.below hb))
 have HY2:=Lib.hid (fun w' (hb:Below w.heap.size w w')=>rfMay_calls w' _ A (ha.below hb))
 have HW1:=Lib.hid (fun w' (hb:Below w.heap.size w w')=>listWorkW_calls w' _ A (ha.below hb))
 have HW2:=Lib.hid (fun w' (hb:Below w.heap.size w w')=>rWorkW_calls w' _ A (ha.below hb))
 have HM:=Lib.hid (fun how w' (hb:Below w.heap.size w w')=>(listMarkAll_calls (wayAny how) w' _ A (ha.below hb) Wi Hi).mono fun e w2 h=>MarkOut.any h)
 have HC:=Lib.hid (fun how w' (hb:Below w.heap.size w w')=>listClipsAny (wayAny how) w' _ A.clips (hA.2.1.below hb) Wi Hi)
 have HMr:=Lib.hid (fun w' (hb:Below w.heap.size w w')=>rfMarkAny w' _ A (ha.below hb) Wi Hi)
 have HCr:=Lib.hid (fun w' (hb:Below w.heap.size w w')=>rfClipsAny w' _ A.clips (hA.2.1.below hb) Wi Hi)
 have HRg:=Lib.hid (fun w' (v u:Value) (R:Reg) (h:RegAt w' v R) (k:RegAt w' u R)=>helpReg_calls w' v u R h k)
 generalize markReg A Wi Hi=R at *
 generalize markErr A Wi Hi=me at *
 generalize clipReg A.clips Wi Hi=S at *
 generalize clipErr A.clips Wi Hi=ce at *
 generalize wrkTo A A.clips.length=wk at *
 generalize mayItm A=my at *
 have mN:(me != me)=false:=by simp
 have cN:(ce != ce)=false:=by simp
 have yE:(my == my)=true:=by simp
 have kE:(wk == wk)=true:=by simp
 clear ha hA
 unfold maxLen at lp lc
 obtain ⟨kind,path,rule,⟨wd,cp,join⟩,⟨iw,ih,bits,data⟩,⟨a,b,c,d,e,f⟩,⟨kr,kg,kb,ka⟩,clips⟩:=A
 unfold itmC at HI1
 unfold itmV at *
 dsimp only at *
 have hL:=Holds.start w
 obtain ⟨n1,n2,n3,n4,n5,n6⟩:=tok6
 go_enter Tryz.func3,Tryz.ntmps3
 go_wp2_with (first|(go_at_call 11;(with_reducible refine (known_calls _).mono ?_);rintro e _ ⟨rfl,hb⟩;replace hL:=hL.call hb;clear hb)|(with_reducible first|(clear hL n1;intro b1 w1 hL)|(clear hL n2;intro b2 w2 hL))|((with_reducible refine wpA_lit rfl _ _ _ rfl ?_);first|refine litA1 hL ?_|refine litA2 hL ?_|refine litA3 hL ?_|refine litA4 hL ?_|refine litA6 hL ?_)|((with_reducible refine goJ rfl ?_);refine goP ?_))
 have hI:=HI1.out _ _ _ _ _ _ hL .here rfl
 refine (HFw.out _ _ _ hI).mono ?_
 clear hI
 rintro e _ ⟨⟨bf,rfl,_⟩,hb⟩
 replace hL:=hL.call hb
 clear hb HFw HI1
 cases bf
 ·go_wp2_with (first|(with_reducible first|(clear hL n1;intro b1 w1 hL)|(clear hL n2;intro b2 w2 hL)|(clear hL n3;intro b3 w3 hL)|(clear hL n4;intro b4 w4 hL)|(clear hL n5;intro b5 w5 hL)|(clear hL n6;intro b6 w6 hL)|(clear hL;intro _ _ hL)|(clear hL;intro _ hL))|((with_reducible refine wpA_lit rfl _ _ _ rfl ?_);first|refine litA1 hL ?_|refine litA2 hL ?_|refine litA3 hL ?_|refine litA4 hL ?_|refine litA6 hL ?_)|((with_reducible refine goJ rfl ?_);refine goP ?_))
  go_ret
  exact ⟨rfl,hL.below⟩
 generalize path.length=pn at *
 generalize clips.length=cn at *
 go_wp2_with (first|(go_at_call 13;(with_reducible refine (HMr.out _ hL.below).mono ?_);rintro e _ ⟨rv,rfl,hb,hf⟩;obtain ⟨ra,rn,rc,rfl,_⟩:=RegAt.shape hf.now;replace hL:=hL.callF hb hf;clear hb hf)|(go_at_call 14;(with_reducible refine (HCr.out _ hL.below).mono ?_);rintro e _ ⟨rv,rfl,hb,hf⟩;obtain ⟨sa,sn,sc,rfl,_⟩:=RegAt.shape hf.now;replace hL:=hL.callF hb hf;clear hb hf)|(with_reducible first|(clear hL n3;intro b3 w3 hL)|(clear hL n4;intro b4 w4 hL)|(clear hL;intro _ hL))|((with_reducible refine wpA_lit rfl _ _ _ rfl ?_);first|refine litA1 hL ?_|refine litA2 hL ?_|refine litA3 hL ?_|refine litA4 hL ?_|refine litA6 hL ?_)|((with_reducible refine goJ rfl ?_);refine goP ?_))
 replace hL:=hL.drop (.there (.there .here))
 go_loopw [42] (fun s42 wr=>∃ k:Nat,k≤3∧s42=.int .i64 k∧Holds w wr [blk b4 #[.int .i64 S.W,.int .i64 S.H,.slice sa sn sc] 39,blk b3 #[.int .i64 R.W,.int .i64 R.H,.slice ra rn rc] 39,blk b1 #[.int .i64 kind,.slice pa pn pc,.int .i64 rule,.int .i64 wd,.int .i64 cp,.int .i64 join,.int .i64 iw,.int .i64 ih,.int .i64 bits,.string data,.int .i64 a,.int .i64 b,.int .i64 c,.int .i64 d,.int .i64 e,.int .i64 f,.int .u8 kr,.int .u8 kg,.int .u8 kb,.int .u8 ka,.slice ca cn cc] 33] [fun w=>RegAt w (.agg #[.int .i64 S.W,.int .i64 S.H,.slice sa sn sc]) S,fun w=>RegAt w (.agg #[.int .i64 R.W,.int .i64 R.H,.slice ra rn rc]) R])
  (fun s42 wr=>3-(intOf s42).toNat)
 case atStart=>exact ⟨0,by omega,rfl,hL⟩
 case round =>
  clear hL
  obtain ⟨k,hk,rfl,hL⟩:=hrel
  by_cases hkt:k<3
  ·obtain ⟨x,hx⟩:∃ x:Int,(#[Value.int .i64 how,.int .i64 0,.int .i64 1]:Array Value)[k]?=some (.int .i64 x):=by
    rcases (by omega:k=0∨k=1∨k=2) with rfl|rfl|rfl
    ·exact ⟨how,rfl⟩
    ·exact ⟨0,rfl⟩
    ·exact ⟨1,rfl⟩
   have hkb:(k:Int)<3:=by omega
   have Hx:=Lib.hid hx
   clear hx
   have HMx:=Lib.hid (HM.out x)
   have HCx:=Lib.hid (HC.out x)
   go_wp2_with (first|((with_reducible refine wpA_index rfl _ _ _ rfl _ rfl _ rfl ?_);refine indexC (v:=.int .i64 x) ?_ (hv:=(by rw [Int.toNat_natCast];exact Hx.out)))|(go_at_call 15;(with_reducible refine (HMx.out _ hL.below).mono ?_);rintro e _ ⟨rv,rfl,hb,hf⟩;obtain ⟨ta,tn,tc,rfl,_⟩:=RegAt.shape hf.now;replace hL:=hL.callF hb hf;clear hb hf)|(go_at_call 16;(with_reducible refine (HCx.out _ hL.below).mono ?_);rintro e _ ⟨rv,rfl,hb,hf⟩;obtain ⟨ua,un,uc,rfl,_⟩:=RegAt.shape hf.now;replace hL:=hL.callF hb hf;clear hb hf)|(go_at_call 17;(with_reducible first|refine (HRg.out _ _ _ R hL.fact1 hL.fact3).mono ?_|refine (HRg.out _ _ _ S hL.fact0 hL.fact2).mono ?_);rintro e _ ⟨rfl,hb⟩;replace hL:=hL.call hb;clear hb)|(with_reducible first|(clear hL n5;intro b5 w5 hL)|(clear hL n6;intro b6 w6 hL)|(clear hL;intro _ hL))|((with_reducible refine wpA_lit rfl _ _ _ rfl ?_);first|refine litA1 hL ?_|refine litA2 hL ?_|refine litA3 hL ?_|refine litA4 hL ?_|refine litA6 hL ?_)|((with_reducible refine goJ rfl ?_);refine goP ?_))
   go_roundw
   case rel=>exact ⟨k+1,by omega,by go_num,((hL.drop .here).drop .here).forget.forget⟩
   case measure=>simp [intOf];omega
  ·have e:k=3:=by omega
   subst e
   go_wp2_with (first|(with_reducible first|(clear hL n1;intro b1 w1 hL)|(clear hL n2;intro b2 w2 hL)|(clear hL n3;intro b3 w3 hL)|(clear hL n4;intro b4 w4 hL)|(clear hL n5;intro b5 w5 hL)|(clear hL n6;intro b6 w6 hL)|(clear hL;intro _ _ hL)|(clear hL;intro _ hL))|((with_reducible refine wpA_lit rfl _ _ _ rfl ?_);first|refine litA1 hL ?_|refine litA2 hL ?_|refine litA3 hL ?_|refine litA4 hL ?_|refine litA6 hL ?_)|((with_reducible refine goJ rfl ?_);refine goP ?_))
   refine wpH_holds (by kernel_rfl) hL fun hS=>?_
   replace hL:=hS
   refine stH (i:=0) ?_ hS (fun w' hw=>?_) ?_;rotate_left;(· refine run_loadOp _ _ rfl _ rfl _ ?_;refine loadR hw ?_;rfl)
   simp only [Act.put,setP]
   refine stH (i:=2) ?_ hS (fun w' hw=>?_) ?_;rotate_left;(· refine run_loadOp _ _ rfl _ rfl _ ?_;refine loadR hw ?_;rfl)
   simp only [Act.put,setP]
   refine wpH_one (i:=1) (by kernel_rfl) (wpOf ?_)
   refine st_call rfl _ _ ?_ (HY1.out _ hL.below) ?_
   (· go_simp;try with_reducible rfl)
   rintro e _ ⟨rfl,hb⟩
   replace hL:=hL.call hb
   replace hS:=hS.call hb
   clear hb
   refine ⟨_,rfl,hS,?_⟩
   simp only [Act.put,setP]
   refine wpH_one (i:=3) (by kernel_rfl) (wpOf ?_)
   refine st_call rfl _ _ ?_ (HY2.out _ hL.below) ?_
   (· go_simp;try with_reducible rfl)
   rintro e _ ⟨rfl,hb⟩
   replace hL:=hL.call hb
   replace hS:=hS.call hb
   clear hb
   refine ⟨_,rfl,hS,?_⟩
   simp only [Act.put,setP]
   refine deH 4 hS ?_
   refine deH 5 hS ?_
   first|(refine stH (i:=6) ?_ hS (fun w' hw=>?_) ?_;rotate_left;(· refine run_loadOp _ _ rfl _ rfl _ ?_;refine loadR hw ?_;rfl))|refine skH (i:=6) hS ?_
   simp only [Act.put,setP]
   first|(refine stH (i:=8) ?_ hS (fun w' hw=>?_) ?_;rotate_left;(· refine run_loadOp _ _ rfl _ rfl _ ?_;refine loadR hw ?_;rfl))|refine skH (i:=8) hS ?_
   simp only [Act.put,setP]
   first|(refine skH (i:=7) hS ?_;simp only [Act.put,setP])|(refine wpH_one (i:=7) (by kernel_rfl) (wpOf ?_);refine st_call rfl _ _ ?_ (HW1.out _ hL.below) ?_;(· go_simp;try with_reducible rfl);rintro e _ ⟨rfl,hb⟩;replace hL:=hL.call hb;replace hS:=hS.call hb;clear hb;refine ⟨_,rfl,hS,?_⟩;simp only [Act.put,setP])
   first|(refine skH (i:=9) hS ?_;simp only [Act.put,setP])|(refine wpH_one (i:=9) (by kernel_rfl) (wpOf ?_);refine st_call rfl _ _ ?_ (HW2.out _ hL.below) ?_;(· go_simp;try with_reducible rfl);rintro e _ ⟨rfl,hb⟩;replace hL:=hL.call hb;replace hS:=hS.call hb;clear hb;refine ⟨_,rfl,hS,?_⟩;simp only [Act.put,setP])
   first|(refine stH (i:=10) ?_ hS (fun w' hw=>?_) ?_;rotate_left;(· go_simp;try with_reducible rfl))|refine skH (i:=10) hS ?_
   simp only [Act.put,setP]
   refine deH 11 hS ?_
   refine deH 12 hS ?_
   refine wpAnyH_done (by kernel_rfl) ?_ _
   clear hS
   go_wp2_with (first|(with_reducible first|(clear hL n1;intro b1 w1 hL)|(clear hL n2;intro b2 w2 hL)|(clear hL n3;intro b3 w3 hL)|(clear hL n4;intro b4 w4 hL)|(clear hL n5;intro b5 w5 hL)|(clear hL n6;intro b6 w6 hL)|(clear hL;intro _ _ hL)|(clear hL;intro _ hL))|((with_reducible refine wpA_lit rfl _ _ _ rfl ?_);first|refine litA1 hL ?_|refine litA2 hL ?_|refine litA3 hL ?_|refine litA4 hL ?_|refine litA6 hL ?_)|((with_reducible refine goJ rfl ?_);refine goP ?_))
   go_ret
   exact ⟨ret_bool (by simp [*]),hL.below⟩
end Go.Proofs.YtmnoeoecjfhhbaaGreat
