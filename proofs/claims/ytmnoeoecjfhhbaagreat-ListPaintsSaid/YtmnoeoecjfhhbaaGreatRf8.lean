/- A mark's work, whatever its size. -/
import Derived.Test.YtmnoeoecjfhhbaaGreatRf7
import Derived.Test.YtmnoeoecjfhhbaaGreatRf4
import Derived.Test.YtmnoeoecjfhhbaaGreatRf6
namespace Go.Proofs.YtmnoeoecjfhhbaaGreat
open Go.RowKit
def upM (W:Nat) (P:Nat→Nat→Bool) (k x:Nat):Int:=if x<k∧P (x / W) (x%W)=true then 1 else 0
theorem upM_zero {W n:Nat} (P:Nat→Nat→Bool):arrU n (fun _=>0)=arrU n (upM W P 0):=arrU_congr fun x _=>by unfold upM;rw [if_neg (by omega)]
theorem upM_set {W n k:Nat} {P:Nat→Nat→Bool} (h:P (k / W) (k%W)=true):arrU n (fun x=>if x=k then 1 else upM W P k x)=arrU n (upM W P (k+1)):=by
 refine arrU_congr fun x _=>?_
 unfold upM
 by_cases hx:x=k
 ·subst hx;rw [if_pos rfl,if_pos ⟨by omega,h⟩]
 ·have:x<k+1 ↔ x<k:=by omega
  simp [hx,this]
theorem upM_skip {W n k:Nat} {P:Nat→Nat→Bool} (h:P (k / W) (k%W)=false):arrU n (upM W P k)=arrU n (upM W P (k+1)):=by
 refine arrU_congr fun x _=>?_
 unfold upM
 by_cases hx:x=k
 ·subst hx;rw [if_neg (by omega),if_neg (by rw [h];simp)]
 ·have:x<k+1 ↔ x<k:=by omega
  simp [this]
theorem upM_all {W H:Nat} (P:Nat→Nat→Bool):(List.range (W*H)).map (upM W P (W*H))=(pixMask W H P).B:=by
 unfold pixMask
 refine List.map_congr_left fun x hx=>?_
 have hx:x<W*H:=by simpa using hx
 unfold upM
 simp [hx]
theorem rHem_calls {W H:Nat} (hs:Sides W H) (w:World) (v:Value) (l:List Sg) (hv:SegsAt w v l) (hst:straightS l=true) (s:Sty) (hm:mayY s=true):Calls Tryz.prog 77 #[v,.agg #[.int .i64 s.wide,.int .i64 s.cap,.int .i64 s.join],.int .i64 W,.int .i64 H] w (MaskOut W H (hemP l s) w):=by
 have h:=rMask33_calls hs w v l hv hst s hm
 have e:pixMask W H (strokeQ l s)=pixMask W H (hemP l s):=pixMask_congr hs fun j hj i hi=>by
  have hw1:=hs.w1
  have hh1:=hs.h1
  unfold strokeQ inS
  rw [hst,hm,(near_iff' _).2 (show -8191≤16*(i:Int)+8∧16*(i:Int)+8≤8191 by omega),(near_iff' _).2 (show -8191≤16*(j:Int)+8∧16*(j:Int)+8≤8191 by omega)]
  rfl
 unfold MaskOut at h ⊢
 rw [e] at h
 exact h
def PlainOut (W H:Nat) (q:Nat→Nat→Bool) (w:World) (e:Ending) (w':World):Prop :=
 ∃ sa sn sc,e=.returned (.agg #[.int .i64 W,.int .i64 H,.slice sa sn sc])∧Below w.heap.size w w'∧Fresh w w' (RegF (.agg #[.int .i64 W,.int .i64 H,.slice sa sn sc]) (pixReg W H q))
theorem mayItm_bits {i:Itm} (h:mayItm i=true) (hk:i.kind=4):i.image.bits=1:=by
 unfold mayItm at h
 rw [Bool.and_eq_true,hk] at h
 have h2:=h.2
 simp at h2
 omega
set_option maxRecDepth 100000 in
set_option maxHeartbeats 16000000 in
theorem rPlainFill {W H:Nat} (hs:Sides W H) (w:World) (v:Value) (i:Itm) (hv:ItmIs w v i) (hk:i.kind=1) (h1:pathMay i.path=true) (h2:i.rule=0∨i.rule=1):Calls Tryz.prog 35 #[v,.int .i64 W,.int .i64 H] w (PlainOut W H (baseP i) w):=by
 obtain ⟨pa,pc,ca,cc,rfl,hp2,hp1,hc2,hc1,hP,hC,hOk⟩:=hv.val
 have HM:=Lib.hid (fun w' (hb:Below w.heap.size w w')=>rFill_calls hs w' _ i.path (SliceAt.below hP hb) h1 i.rule h2)
 have HO:=Lib.hid (fun w' v q (h:MaskF v (pixMask W H q) w')=>rOfP_calls hs w' v q h)
 rw [show baseP i=fillP i.path i.rule from by unfold baseP;rw [if_pos hk]]
 generalize fillP i.path i.rule=p at *
 obtain ⟨m1,m2,m3⟩:=mask_bounds hs
 have hwr:IntKind.i64.wrap ((W:Int)*(H:Int))=(W:Int)*(H:Int):=by rw [IntKind.wrap_i64];omega
 clear hv hP hC hOk h1 h2 hs
 obtain ⟨kind,path,rule,⟨wd,cp,join⟩,⟨iw,ih,bits,data⟩,⟨a,b,c,d,e,f⟩,⟨kr,kg,kb,ka⟩,clips⟩:=i
 unfold itmV
 dsimp only at *
 subst hk
 generalize path.length=pn at *
 generalize clips.length=cn at *
 have hL:=Holds.start w
 obtain ⟨n1,n2,n3,n4,n5⟩:=tok5
 go_enter Tryz.func35,Tryz.ntmps35
 go_wp2_with (first|((with_reducible refine wpA_make rfl _ _ _ rfl _ rfl rfl ?_);refine makeU (W*H) (by omega) (by simp) hL ?_)|(go_at_call 38;(with_reducible refine (HM.out _ hL.below).mono ?_);rintro e _ ⟨ma,rfl,hb,hf⟩;replace hL:=hL.callF hb hf;clear hb hf)|(go_at_call 39;(with_reducible refine (HO.out _ _ _ hL.fact0).mono ?_);rintro e _ ⟨ra,rn,rc,rfl,hb,hf⟩;replace hL:=hL.callF hb hf;clear hb hf)|(with_reducible first|(clear hL n1;intro b1 w1 hL)|(clear hL n2;intro b2 w2 hL)|(clear hL n3;intro b3 w3 hL)|(clear hL n4;intro b4 w4 hL)|(clear hL n5;intro b5 w5 hL)|(clear hL;intro _ hL))|((with_reducible refine goJ rfl ?_);refine goP ?_))
 exact bodyPost_ret (results_row inferInstance rfl _ hL b2 rfl _ _ (.there (.there (.there .here))) rfl) rfl ⟨ra,rn,rc,rfl,hL.below,hL.fresh⟩
set_option maxRecDepth 100000 in
set_option maxHeartbeats 16000000 in
theorem rPlainHem {W H:Nat} (hs:Sides W H) (w:World) (v:Value) (i:Itm) (hv:ItmIs w v i) (hk:i.kind=2) (h1:straightS i.path=true) (h2:mayY i.style=true):Calls Tryz.prog 35 #[v,.int .i64 W,.int .i64 H] w (PlainOut W H (baseP i) w):=by
 obtain ⟨pa,pc,ca,cc,rfl,hp2,hp1,hc2,hc1,hP,hC,hOk⟩:=hv.val
 have HM:=Lib.hid (fun w' (hb:Below w.heap.size w w')=>rHem_calls hs w' _ i.path (SliceAt.below hP hb) h1 i.style h2)
 have HO:=Lib.hid (fun w' v q (h:MaskF v (pixMask W H q) w')=>rOfP_calls hs w' v q h)
 rw [show baseP i=hemP i.path i.style from by unfold baseP;rw [if_neg (by omega),if_pos hk]]
 generalize hemP i.path i.style=p at *
 obtain ⟨m1,m2,m3⟩:=mask_bounds hs
 have hwr:IntKind.i64.wrap ((W:Int)*(H:Int))=(W:Int)*(H:Int):=by rw [IntKind.wrap_i64];omega
 clear hv hP hC hOk h1 h2 hs
 obtain ⟨kind,path,rule,⟨wd,cp,join⟩,⟨iw,ih,bits,data⟩,⟨a,b,c,d,e,f⟩,⟨kr,kg,kb,ka⟩,clips⟩:=i
 unfold itmV
 dsimp only at *
 subst hk
 generalize path.length=pn at *
 generalize clips.length=cn at *
 have hL:=Holds.start w
 obtain ⟨n1,n2,n3,n4,n5⟩:=tok5
 go_enter Tryz.func35,Tryz.ntmps35
 go_wp2_with (first|((with_reducible refine wpA_make rfl _ _ _ rfl _ rfl rfl ?_);refine makeU (W*H) (by omega) (by simp) hL ?_)|(go_at_call 77;(with_reducible refine (HM.out _ hL.below).mono ?_);rintro e _ ⟨ma,rfl,hb,hf⟩;replace hL:=hL.callF hb hf;clear hb hf)|(go_at_call 39;(with_reducible refine (HO.out _ _ _ hL.fact0).mono ?_);rintro e _ ⟨ra,rn,rc,rfl,hb,hf⟩;replace hL:=hL.callF hb hf;clear hb hf)|(with_reducible first|(clear hL n1;intro b1 w1 hL)|(clear hL n2;intro b2 w2 hL)|(clear hL n3;intro b3 w3 hL)|(clear hL n4;intro b4 w4 hL)|(clear hL n5;intro b5 w5 hL)|(clear hL;intro _ hL))|((with_reducible refine goJ rfl ?_);refine goP ?_))
 exact bodyPost_ret (results_row inferInstance rfl _ hL b2 rfl _ _ (.there (.there (.there .here))) rfl) rfl ⟨ra,rn,rc,rfl,hL.below,hL.fresh⟩
set_option maxRecDepth 100000 in
set_option maxHeartbeats 16000000 in
theorem rPlainImg {W H:Nat} (hs:Sides W H) (w:World) (v:Value) (i:Itm) (hv:ItmIs w v i) (kd least:Int) (hk:i.kind=kd) (hkl:(kd=3∧least=0)∨(kd=4∧least=1∧i.image.bits=1)) (h1:mayImg i.image=true) (h2:mayMtx i.mat=true) (h3:detM i.mat≠0):Calls Tryz.prog 35 #[v,.int .i64 W,.int .i64 H] w (PlainOut W H (sampP i.image i.mat least) w):=by
 obtain ⟨pa,pc,ca,cc,rfl,hp2,hp1,hc2,hc1,hP,hC,hOk⟩:=hv.val
 have hw1:=hs.w1
 have hh1:=hs.h1
 have HA:=Lib.hid (fun (c r:Nat) (hc:c≤64) (hr:r≤64) w'=>rAtI_calls i.image hOk.1 h1 i.mat h2 h3 (16*(c:Int)+8) (16*(r:Int)+8) (by omega) (by omega) w')
 have HO:=Lib.hid (fun w' v q (h:MaskF v (pixMask W H q) w')=>rOfP_calls hs w' v q h)
 have HP:=Lib.hid (fun (j x:Nat)=>show sampP i.image i.mat least j x=decide (least≤atI i.image i.mat (16*(x:Int)+8) (16*(j:Int)+8)) from rfl)
 have HZ:=Lib.hid (fun (hb:i.image.bits=1) (x y:Int)=>show atI i.image i.mat x y≤1 from by
  have h:=(sampI_in (mayImg_ok h1) ((i.mat.d*(x*65536-i.mat.e)-i.mat.c*(y*65536-i.mat.f)).fdiv (detM i.mat)) ((i.mat.a*(y*65536-i.mat.f)-i.mat.b*(x*65536-i.mat.e)).fdiv (detM i.mat))).2.1
  rw [hb] at h
  have e:atI i.image i.mat x y=sampI i.image ((i.mat.d*(x*65536-i.mat.e)-i.mat.c*(y*65536-i.mat.f)).fdiv (detM i.mat)) ((i.mat.a*(y*65536-i.mat.f)-i.mat.b*(x*65536-i.mat.e)).fdiv (detM i.mat)):=rfl
  rw [e]
  have:(2:Int)^(1:Int).toNat=2:=by decide
  omega)
 generalize sampP i.image i.mat least=p at *
 obtain ⟨m1,m2,m3⟩:=mask_bounds hs
 have hwr:IntKind.i64.wrap ((W:Int)*(H:Int))=(W:Int)*(H:Int):=by rw [IntKind.wrap_i64];omega
 have HU:=Lib.hid (upM_all (W:=W) (H:=H) p)
 have hw0:=hs.w0
 have cW:((W:Int) == 0)=false:=by simp;omega
 have cW2:¬W=0:=by omega
 have HR:=Lib.hid (fun k (hk:k<W*H)=>show k / W<H from Nat.div_lt_of_lt_mul hk)
 clear hv hP hC hOk h1 h2 h3 hs
 generalize hat:atI i.image i.mat=F at *
 clear hat
 obtain ⟨kind,path,rule,⟨wd,cp,join⟩,⟨iw,ih,bits,data⟩,⟨a,b,c,d,e,f⟩,⟨kr,kg,kb,ka⟩,clips⟩:=i
 unfold itmV imgV mtxV at *
 dsimp only at *
 subst hk
 generalize path.length=pn at *
 generalize clips.length=cn at *
 have hL:=Holds.start w
 rcases hkl with ⟨rfl,rfl⟩|⟨rfl,rfl,hbits⟩
 all_goals
  obtain ⟨n1,n2,n3,n4,n5⟩:=tok5
  go_enter Tryz.func35,Tryz.ntmps35
  go_wp2_with (first|((with_reducible refine wpA_make rfl _ _ _ rfl _ rfl rfl ?_);refine makeU (W*H) (by omega) (by simp) hL ?_)|(with_reducible first|(clear hL n1;intro b1 w1 hL)|(clear hL n2;intro b2 w2 hL)|(clear hL n3;intro b3 w3 hL)|(clear hL n4;intro b4 w4 hL)|(clear hL;intro _ hL))|((with_reducible refine goJ rfl ?_);refine goP ?_))
  rw [upM_zero (W:=W) p] at hL
 ·go_loopw [8] (fun s8 wr=>∃ k:Nat,k≤W*H∧s8=.int .i64 k∧Holds w wr [blk b4 #[.int .i64 W,.int .i64 H,.slice (some ⟨b3,0,none⟩) (W*H) (W*H)] 86,blk b3 (arrU (W*H) (upM W p k)) 5,blk b2 #[.int .i64 0,.int .i64 0,.slice none 0 0] 39,blk b1 #[.int .i64 3,.slice pa pn pc,.int .i64 rule,.int .i64 wd,.int .i64 cp,.int .i64 join,.int .i64 iw,.int .i64 ih,.int .i64 bits,.string data,.int .i64 a,.int .i64 b,.int .i64 c,.int .i64 d,.int .i64 e,.int .i64 f,.int .u8 kr,.int .u8 kg,.int .u8 kb,.int .u8 ka,.slice ca cn cc] 33] [])
   (fun s8 wr=>W*H-(intOf s8).toNat)
  case atStart=>exact ⟨0,by omega,rfl,hL⟩
  case round =>
   clear hL
   obtain ⟨k,hk,rfl,hL⟩:=hrel
   by_cases hkt:k<W*H
   ·have hkb:(k:Int)<(W:Int)*(H:Int):=by omega
    have hcm:k%W<W:=Nat.mod_lt _ hw0
    have hrm:=HR.out k hkt
    have d1:(k:Int).tmod (W:Int)=((k%W:Nat):Int):=by rw [Int.tmod_eq_emod_of_nonneg (by omega)];exact (Int.natCast_emod k W).symm
    have d2:(k:Int).tdiv (W:Int)=((k / W:Nat):Int):=by rw [Int.tdiv_eq_ediv_of_nonneg (by omega)];exact (Int.natCast_ediv k W).symm
    have HAk:=Lib.hid (HA.out (k%W) (k / W) (by omega) (by omega))
    have hp:=HP.out (k / W) (k%W)
    generalize hz:F (16*((k%W:Nat):Int)+8) (16*((k / W:Nat):Int)+8)=z at *
    have hcs:(z=1∧p (k / W) (k%W)=true)∨(z≠1∧0≤z∧p (k / W) (k%W)=true)∨(z<0∧p (k / W) (k%W)=false):=by
     rw [hp]
     by_cases h:0≤z
     ·by_cases h':z=1
      ·exact .inl ⟨h',decide_eq_true h⟩
      ·exact .inr (.inl ⟨h',h,decide_eq_true h⟩)
     ·exact .inr (.inr ⟨by omega,decide_eq_false h⟩)
    have Hcs:=Lib.hid hcs
    clear hcs hp
    generalize hcx:k%W=cx at *
    generalize hrx:k / W=rx at *
    have w1:IntKind.i64.wrap (cx:Int)=(cx:Int):=wrapS (by omega) (by omega)
    have w2:IntKind.i64.wrap ((cx:Int)*16)=(cx:Int)*16:=wrapS (by omega) (by omega)
    have w3:IntKind.i64.wrap ((cx:Int)*16+8)=16*(cx:Int)+8:=by rw [Int.mul_comm (cx:Int) 16];exact wrapS (by omega) (by omega)
    have w4:IntKind.i64.wrap (rx:Int)=(rx:Int):=wrapS (by omega) (by omega)
    have w5:IntKind.i64.wrap ((rx:Int)*16)=(rx:Int)*16:=wrapS (by omega) (by omega)
    have w6:IntKind.i64.wrap ((rx:Int)*16+8)=16*(rx:Int)+8:=by rw [Int.mul_comm (rx:Int) 16];exact wrapS (by omega) (by omega)
    have Hcx:=Lib.hid hcx
    have Hrx:=Lib.hid hrx
    clear hcx hrx
    go_wp2_with (first|(with_reducible (clear hL;intro _ hL))|((with_reducible refine goJ rfl ?_);refine goP ?_))
    refine wpH_holds (by kernel_rfl) hL fun hS=>?_
    replace hL:=hS
    refine deH 0 hS ?_
    refine dlH 1 ?_ hS (fun w' hw=>?_) ?_;rotate_left;(· refine loadP hw ?_;rfl)
    simp only [Act.put,setP]
    refine deH 2 hS ?_
    refine dlH 3 ?_ hS (fun w' hw=>?_) ?_;rotate_left;(· refine loadP hw ?_;rfl)
    simp only [Act.put,setP]
    refine deH 4 hS ?_
    refine deH 5 hS ?_
    refine deH 6 hS ?_
    refine deH 7 hS ?_
    refine deH 8 hS ?_
    refine deH 9 hS ?_
    refine deH 10 hS ?_
    refine deH 11 hS ?_
    refine deH 12 hS ?_
    refine deH 13 hS ?_
    refine wpH_one (i:=14) (by kernel_rfl) (wpOf ?_)
    refine st_call rfl _ _ ?_ (HAk.out _) ?_
    (· go_simp;try with_reducible rfl)
    rintro e _ ⟨rfl,hb⟩
    replace hL:=hL.call hb
    replace hS:=hS.call hb
    clear hb
    refine ⟨_,rfl,hS,?_⟩
    simp only [Act.put,setP]
    refine deH 15 hS ?_
    refine wpAnyH_done (by kernel_rfl) ?_ _
    clear hS
    clear d1 d2 w1 w2 w3 w4 w5 w6
    rcases Hcs.out with ⟨rfl,hpk⟩|⟨g1,g2,hpk⟩|⟨g1,hpk⟩
    ·rw [←Hcx.out,←Hrx.out] at hpk
     replace hpk:=Lib.hid hpk
     go_wp2_with (first|(with_reducible (clear hL;intro _ hL))|((with_reducible refine goJ rfl ?_);refine goP ?_))
     go_roundw
     case rel =>
      rw [upM_set hpk.out] at hL
      exact ⟨k+1,by omega,by go_num,hL⟩
     case measure=>simp [intOf];omega
    ·rw [←Hcx.out,←Hrx.out] at hpk
     replace hpk:=Lib.hid hpk
     have q1:(z == 1)=false:=beq_eq_false_iff_ne.2 g1
     have q2:decide (0≤z)=true:=decide_eq_true g2
     go_wp2_with (first|(with_reducible (clear hL;intro _ hL))|((with_reducible refine goJ rfl ?_);refine goP ?_))
     go_roundw
     case rel =>
      rw [upM_set hpk.out] at hL
      exact ⟨k+1,by omega,by go_num,hL⟩
     case measure=>simp [intOf];omega
    ·rw [←Hcx.out,←Hrx.out] at hpk
     replace hpk:=Lib.hid hpk
     have q1:(z == 1)=false:=beq_eq_false_iff_ne.2 (by omega)
     have q2:decide (0≤z)=false:=decide_eq_false (by omega)
     go_wp2_with (first|(with_reducible (clear hL;intro _ hL))|((with_reducible refine goJ rfl ?_);refine goP ?_))
     go_roundw
     case rel =>
      rw [upM_skip hpk.out] at hL
      exact ⟨k+1,by omega,by go_num,hL⟩
     case measure=>simp [intOf];omega
   ·have e:k=W*H:=by omega
    subst e
    replace hL:=hL.settle (.there .here) (φ:=MaskF (.agg #[.int .i64 W,.int .i64 H,.slice (some ⟨b3,0,none⟩) (W*H) (W*H)]) (pixMask W H p)) fun w h=>⟨_,rfl,by
     have h':=bytes_of h (by unfold maxLen;omega)
     rw [HU.out] at h'
     exact h'⟩
    go_wp2_with (first|(go_at_call 39;(with_reducible refine (HO.out _ _ _ hL.fact0).mono ?_);rintro e _ ⟨ra,rn,rc,rfl,hb,hf⟩;replace hL:=hL.callF hb hf;clear hb hf)|(with_reducible first|(clear hL n5;intro b5 w5 hL)|(clear hL;intro _ hL))|((with_reducible refine goJ rfl ?_);refine goP ?_))
    exact bodyPost_ret (results_row inferInstance rfl _ hL b2 rfl _ _ (.there (.there .here)) rfl) rfl ⟨ra,rn,rc,rfl,hL.below,hL.fresh⟩
 ·go_loopw [8] (fun s8 wr=>∃ k:Nat,k≤W*H∧s8=.int .i64 k∧Holds w wr [blk b4 #[.int .i64 W,.int .i64 H,.slice (some ⟨b3,0,none⟩) (W*H) (W*H)] 86,blk b3 (arrU (W*H) (upM W p k)) 5,blk b2 #[.int .i64 0,.int .i64 0,.slice none 0 0] 39,blk b1 #[.int .i64 4,.slice pa pn pc,.int .i64 rule,.int .i64 wd,.int .i64 cp,.int .i64 join,.int .i64 iw,.int .i64 ih,.int .i64 bits,.string data,.int .i64 a,.int .i64 b,.int .i64 c,.int .i64 d,.int .i64 e,.int .i64 f,.int .u8 kr,.int .u8 kg,.int .u8 kb,.int .u8 ka,.slice ca cn cc] 33] [])
   (fun s8 wr=>W*H-(intOf s8).toNat)
  case atStart=>exact ⟨0,by omega,rfl,hL⟩
  case round =>
   clear hL
   obtain ⟨k,hk,rfl,hL⟩:=hrel
   by_cases hkt:k<W*H
   ·have hkb:(k:Int)<(W:Int)*(H:Int):=by omega
    have hcm:k%W<W:=Nat.mod_lt _ hw0
    have hrm:=HR.out k hkt
    have d1:(k:Int).tmod (W:Int)=((k%W:Nat):Int):=by rw [Int.tmod_eq_emod_of_nonneg (by omega)];exact (Int.natCast_emod k W).symm
    have d2:(k:Int).tdiv (W:Int)=((k / W:Nat):Int):=by rw [Int.tdiv_eq_ediv_of_nonneg (by omega)];exact (Int.natCast_ediv k W).symm
    have HAk:=Lib.hid (HA.out (k%W) (k / W) (by omega) (by omega))
    have hp:=HP.out (k / W) (k%W)
    generalize hz:F (16*((k%W:Nat):Int)+8) (16*((k / W:Nat):Int)+8)=z at *
    have hz1:=HZ.out hbits (16*((k%W:Nat):Int)+8) (16*((k / W:Nat):Int)+8)
    rw [hz] at hz1
    have hcs:(z=1∧p (k / W) (k%W)=true)∨(z≠1∧0≤z∧p (k / W) (k%W)=false)∨(z<0∧p (k / W) (k%W)=false):=by
     rw [hp]
     by_cases h:0≤z
     ·by_cases h':z=1
      ·exact .inl ⟨h',decide_eq_true (by omega)⟩
      ·exact .inr (.inl ⟨h',h,decide_eq_false (by omega)⟩)
     ·exact .inr (.inr ⟨by omega,decide_eq_false (by omega)⟩)
    have Hcs:=Lib.hid hcs
    clear hcs hp hz1
    generalize hcx:k%W=cx at *
    generalize hrx:k / W=rx at *
    have w1:IntKind.i64.wrap (cx:Int)=(cx:Int):=wrapS (by omega) (by omega)
    have w2:IntKind.i64.wrap ((cx:Int)*16)=(cx:Int)*16:=wrapS (by omega) (by omega)
    have w3:IntKind.i64.wrap ((cx:Int)*16+8)=16*(cx:Int)+8:=by rw [Int.mul_comm (cx:Int) 16];exact wrapS (by omega) (by omega)
    have w4:IntKind.i64.wrap (rx:Int)=(rx:Int):=wrapS (by omega) (by omega)
    have w5:IntKind.i64.wrap ((rx:Int)*16)=(rx:Int)*16:=wrapS (by omega) (by omega)
    have w6:IntKind.i64.wrap ((rx:Int)*16+8)=16*(rx:Int)+8:=by rw [Int.mul_comm (rx:Int) 16];exact wrapS (by omega) (by omega)
    have Hcx:=Lib.hid hcx
    have Hrx:=Lib.hid hrx
    clear hcx hrx
    go_wp2_with (first|(with_reducible (clear hL;intro _ hL))|((with_reducible refine goJ rfl ?_);refine goP ?_))
    refine wpH_holds (by kernel_rfl) hL fun hS=>?_
    replace hL:=hS
    refine deH 0 hS ?_
    refine dlH 1 ?_ hS (fun w' hw=>?_) ?_;rotate_left;(· refine loadP hw ?_;rfl)
    simp only [Act.put,setP]
    refine deH 2 hS ?_
    refine dlH 3 ?_ hS (fun w' hw=>?_) ?_;rotate_left;(· refine loadP hw ?_;rfl)
    simp only [Act.put,setP]
    refine deH 4 hS ?_
    refine deH 5 hS ?_
    refine deH 6 hS ?_
    refine deH 7 hS ?_
    refine deH 8 hS ?_
    refine deH 9 hS ?_
    refine deH 10 hS ?_
    refine deH 11 hS ?_
    refine deH 12 hS ?_
    refine deH 13 hS ?_
    refine wpH_one (i:=14) (by kernel_rfl) (wpOf ?_)
    refine st_call rfl _ _ ?_ (HAk.out _) ?_
    (· go_simp;try with_reducible rfl)
    rintro e _ ⟨rfl,hb⟩
    replace hL:=hL.call hb
    replace hS:=hS.call hb
    clear hb
    refine ⟨_,rfl,hS,?_⟩
    simp only [Act.put,setP]
    refine deH 15 hS ?_
    refine wpAnyH_done (by kernel_rfl) ?_ _
    clear hS
    clear d1 d2 w1 w2 w3 w4 w5 w6
    rcases Hcs.out with ⟨rfl,hpk⟩|⟨g1,g2,hpk⟩|⟨g1,hpk⟩
    ·rw [←Hcx.out,←Hrx.out] at hpk
     replace hpk:=Lib.hid hpk
     go_wp2_with (first|(with_reducible (clear hL;intro _ hL))|((with_reducible refine goJ rfl ?_);refine goP ?_))
     go_roundw
     case rel =>
      rw [upM_set hpk.out] at hL
      exact ⟨k+1,by omega,by go_num,hL⟩
     case measure=>simp [intOf];omega
    ·rw [←Hcx.out,←Hrx.out] at hpk
     replace hpk:=Lib.hid hpk
     have q1:(z == 1)=false:=beq_eq_false_iff_ne.2 g1
     have q2:decide (0≤z)=true:=decide_eq_true g2
     go_wp2_with (first|(with_reducible (clear hL;intro _ hL))|((with_reducible refine goJ rfl ?_);refine goP ?_))
     go_roundw
     case rel =>
      rw [upM_skip hpk.out] at hL
      exact ⟨k+1,by omega,by go_num,hL⟩
     case measure=>simp [intOf];omega
    ·rw [←Hcx.out,←Hrx.out] at hpk
     replace hpk:=Lib.hid hpk
     have q1:(z == 1)=false:=beq_eq_false_iff_ne.2 (by omega)
     have q2:decide (0≤z)=false:=decide_eq_false (by omega)
     go_wp2_with (first|(with_reducible (clear hL;intro _ hL))|((with_reducible refine goJ rfl ?_);refine goP ?_))
     go_roundw
     case rel =>
      rw [upM_skip hpk.out] at hL
      exact ⟨k+1,by omega,by go_num,hL⟩
     case measure=>simp [intOf];omega
   ·have e:k=W*H:=by omega
    subst e
    replace hL:=hL.settle (.there .here) (φ:=MaskF (.agg #[.int .i64 W,.int .i64 H,.slice (some ⟨b3,0,none⟩) (W*H) (W*H)]) (pixMask W H p)) fun w h=>⟨_,rfl,by
     have h':=bytes_of h (by unfold maxLen;omega)
     rw [HU.out] at h'
     exact h'⟩
    go_wp2_with (first|(go_at_call 39;(with_reducible refine (HO.out _ _ _ hL.fact0).mono ?_);rintro e _ ⟨ra,rn,rc,rfl,hb,hf⟩;replace hL:=hL.callF hb hf;clear hb hf)|(with_reducible first|(clear hL n5;intro b5 w5 hL)|(clear hL;intro _ hL))|((with_reducible refine goJ rfl ?_);refine goP ?_))
    exact bodyPost_ret (results_row inferInstance rfl _ hL b2 rfl _ _ (.there (.there .here)) rfl) rfl ⟨ra,rn,rc,rfl,hL.below,hL.fresh⟩
set_option maxHeartbeats 8000000 in
theorem rPlain_calls {W H:Nat} (hs:Sides W H) (w:World) (v:Value) (i:Itm) (hv:ItmIs w v i) (hm:mayItm i=true):Calls Tryz.prog 35 #[v,.int .i64 W,.int .i64 H] w (PlainOut W H (baseP i) w):=by
 obtain ⟨_,hk⟩:=mayItm_kind hm
 rcases hk with ⟨hk,h1,h2⟩|⟨hk,h1,h2⟩|⟨hk|hk,h1,h2,h3⟩
 ·exact rPlainFill hs w v i hv hk h1 h2
 ·exact rPlainHem hs w v i hv hk h1 h2
 ·rw [show baseP i=sampP i.image i.mat 0 from by unfold baseP;rw [if_neg (by omega),if_neg (by omega),if_pos hk]]
  exact rPlainImg hs w v i hv 3 0 hk (.inl ⟨rfl,rfl⟩) h1 h2 h3
 ·rw [show baseP i=sampP i.image i.mat 1 from by unfold baseP;rw [if_neg (by omega),if_neg (by omega),if_neg (by omega)]]
  exact rPlainImg hs w v i hv 4 1 hk (.inr ⟨rfl,rfl,mayItm_bits hm hk⟩) h1 h2 h3
open Go.RowKit
theorem exContM {G:Prop} {P:Nat→Option Addr→Nat→Nat→Option Addr→Nat→Nat→World→Prop} (H:Nat→Option Addr→Nat→Nat→World→Prop) (h1:(∀ b a n c a2 n2 c2 w8,H b a n c w8→P b a n c a2 n2 c2 w8)→G) (h2:∀ b a n c a2 n2 c2 w8,H b a n c w8→P b a n c a2 n2 c2 w8):G:=h1 h2
set_option maxRecDepth 100000 in
set_option maxHeartbeats 16000000 in
theorem rfMark_calls {W H:Nat} (hs:Sides W H) (w:World) (v:Value) (i:Itm) (hv:ItmIs w v i) (hm:mayItm i=true):Calls Tryz.prog 13 #[v,.int .i64 W,.int .i64 H] w (PixOut W H (markP i) w):=by
 have HY:=Lib.hid (fun w' (hb:Below w.heap.size w w')=>rfMay_calls w' v i (hv.below hb))
 rw [hm] at HY
 have HPl:=Lib.hid (fun w' (hb:Below w.heap.size w w')=>rPlain_calls hs w' v i (hv.below hb) hm)
 obtain ⟨hcl,_⟩:=mayItm_kind hm
 obtain ⟨pa,pc,ca,cc,rfl,hp2,hp1,hc2,hc1,hP,hC,hOk⟩:=hv.val
 have HW:=Lib.hid (fun w=>rIsSide_calls (W:Int) w)
 have HH:=Lib.hid (fun w=>rIsSide_calls (H:Int) w)
 rw [side_nat hs.w0 hs.w1] at HW
 rw [side_nat hs.h0 hs.h1] at HH
 have HCl:=Lib.hid (fun w' (hb:Below w.heap.size w w')=>rfClips_calls hs w' _ i.clips (hC.below hb) hcl)
 have HM:=Lib.hid (fun w' (v u:Value) (h:RegF v (pixReg W H (baseP i)) w') (k:RegF u (pixReg W H (clipsP i.clips)) w')=>rTwoReg_calls hs w' v u _ _ h k)
 rw [show markP i=fun j x=>baseP i j x&&clipsP i.clips j x from rfl]
 clear hv hm hcl hP hC hOk hs
 generalize (fun j x=>baseP i j x&&clipsP i.clips j x)=mq at *
 generalize baseP i=bq at *
 generalize clipsP i.clips=cq at *
 obtain ⟨kind,path,rule,⟨wd,cp,join⟩,⟨iw,ih,bits,data⟩,⟨a,b,c,d,e,f⟩,⟨kr,kg,kb,ka⟩,clips⟩:=i
 unfold itmV at *
 dsimp only at *
 generalize path.length=pn at *
 generalize clips.length=cn at *
 have hL:=Holds.start w
 obtain ⟨n1,n2,n3⟩:=tok3
 go_enter Tryz.func13,Tryz.ntmps13
 go_wp2_with (first|(go_at_call 19;(with_reducible refine (HY.out _ hL.below).mono ?_);rintro e _ ⟨rfl,hb⟩;replace hL:=hL.call hb;clear hb)|(go_at_call 33;(with_reducible first|refine (HW.out _).mono ?_|refine (HH.out _).mono ?_);rintro e _ ⟨rfl,rfl⟩)|(go_at_call 14;(with_reducible refine (HCl.out _ hL.below).mono ?_);rintro e _ ⟨sa,sn,sc,rfl,hb,hf⟩;replace hL:=hL.callF hb hf;clear hb hf)|(with_reducible first|(clear hL n1;intro b1 w1 hL)|(clear hL n2;intro b2 w2 hL)|(clear hL n3;intro b3 w3 hL)|(clear hL;intro _ hL))|((with_reducible refine goJ rfl ?_);refine goP ?_))
 apply exContM (fun b4 ra rn rc w8=>Holds w w8 (blk b4 #[.int .i64 W,.int .i64 H,.slice ra rn rc] 39::[blk b3 #[.int .i64 W,.int .i64 H,.slice sa sn sc] 39,blk b2 #[.int .i64 0,.int .i64 0,.slice none 0 0] 39,blk b1 #[.int .i64 kind,.slice pa pn pc,.int .i64 rule,.int .i64 wd,.int .i64 cp,.int .i64 join,.int .i64 iw,.int .i64 ih,.int .i64 bits,.string data,.int .i64 a,.int .i64 b,.int .i64 c,.int .i64 d,.int .i64 e,.int .i64 f,.int .u8 kr,.int .u8 kg,.int .u8 kb,.int .u8 ka,.slice ca cn cc] 33]) [RegF (.agg #[.int .i64 W,.int .i64 H,.slice ra rn rc]) (pixReg W H mq)])
 ·intro hC
  replace hL:=hL.drew
  refine wpV_begin (by kernel_rfl) (fun (k':Nat) (w':World)=>k'<8→Holds w w' [blk b3 #[.int .i64 W,.int .i64 H,.slice sa sn sc] 39,blk b2 #[.int .i64 0,.int .i64 0,.slice none 0 0] 39,blk b1 #[.int .i64 kind,.slice pa pn pc,.int .i64 rule,.int .i64 wd,.int .i64 cp,.int .i64 join,.int .i64 iw,.int .i64 ih,.int .i64 bits,.string data,.int .i64 a,.int .i64 b,.int .i64 c,.int .i64 d,.int .i64 e,.int .i64 f,.int .u8 kr,.int .u8 kg,.int .u8 kb,.int .u8 ka,.slice ca cn cc] 33] []) 10 ?_
  refine dlV 0 ?_ (fun k' _ _=>hL.forget) (fun w' hw=>?_) ?_;rotate_left;(· (try replace hw:=hw (by decide));refine loadR hw ?_;rfl)
  simp only [Act.put,setP]
  refine deV 1 (fun k' _ _=>hL.forget) ?_
  refine deV 2 (fun k' _ _=>hL.forget) ?_
  refine dlV 4 ?_ (fun k' _ _=>hL.forget) (fun w' hw=>?_) ?_;rotate_left;(· (try replace hw:=hw (by decide));refine loadR hw ?_;rfl)
  simp only [Act.put,setP]
  refine wpV_two (i:=3) (j:=9) (by kernel_rfl) (wpOf ?_) (wpOf ?_)
  ·refine st_call rfl _ _ ?_ (HPl.out _ hL.below) ?_
   (· go_simp;try with_reducible rfl)
   rintro e _ ⟨qa,qn,qc,rfl,hb,hf⟩
   replace hL:=hL.callF hb hf
   clear hb hf
   refine ⟨_,rfl,fun k' _ _=>(by first|exact hL.forget.forget|exact (hL.drop .here).forget.forget),?_⟩
   simp only [Act.put,setP]
   refine wpV_two (i:=5) (j:=9) (by kernel_rfl) (wpOf ?_) (wpOf ?_)
   ·refine st_call rfl _ _ ?_ (HM.out _ _ _ hL.fact0 hL.fact1) ?_
    (· go_simp;try with_reducible rfl)
    rintro e _ ⟨ra,rn,rc,rfl,hb,hf⟩
    replace hL:=hL.callF hb hf
    clear hb hf
    refine ⟨_,rfl,fun k' _ _=>(by first|exact hL.forget.forget.forget|exact (hL.drop .here).forget.forget.forget),?_⟩
    simp only [Act.put,setP]
    refine deV 6 (fun k' _ _=>(by first|exact hL.forget.forget.forget|exact (hL.drop .here).forget.forget.forget)) ?_
    refine deV 7 (fun k' _ _=>(by first|exact hL.forget.forget.forget|exact (hL.drop .here).forget.forget.forget)) ?_
    refine deV 8 (fun k' _ _=>(by first|exact hL.forget.forget.forget|exact (hL.drop .here).forget.forget.forget)) ?_
    refine wpV_one (i:=9) (by kernel_rfl) (wpOf ?_)
    refine st_alloc hL ?_
    intro b4 w9 hb hL2
    clear hb hL
    have hL:=hL2;clear hL2
    refine ⟨fun k' _ _=>(by first|exact (hL.drop .here).forget|exact (hL.drop .here).forget.forget|exact (hL.drop .here).forget.forget.forget),?_⟩
    simp only [Act.put,setP]
    refine wpV_one (i:=10) (by kernel_rfl) (wpOf ?_)
    refine st_store rfl _ _ _ rfl _ rfl (.agg _) rfl ?_
    first|refine storeA hL ?_|refine storeO hL ?_|refine storeR hL ?_
    clear hL;intro w9 hL
    refine ⟨fun k9 hk9 hm9=>?_,?_⟩
    (· exact absurd hm9 (pinned_off 10 8 hk9 (by kernel_rfl) (by decide) (by kernel_rfl)))
    try simp only [Act.put]
    refine wpV_one (i:=11) (by kernel_rfl) (wpOf ?_)
    refine st_easy rfl ?_ ?_ ?_;rotate_left;(· go_simp;try with_reducible rfl)
    refine ⟨fun k9 hk9 hm9=>?_,?_⟩
    (· exact absurd hm9 (pinned_off 10 8 hk9 (by kernel_rfl) (by decide) (by kernel_rfl)))
    simp only [Act.put,setP]
    refine wpV_done (by kernel_rfl) ?_
    exact hC b4 ra rn rc qa qn qc _ ((hL.swap).forget.swap).forget
   ·refine st_alloc hL ?_
    intro b4 w9 hb hL2
    clear hb hL
    have hL:=hL2;clear hL2
    refine ⟨fun k' _ _=>(by first|exact (hL.drop .here).forget|exact (hL.drop .here).forget.forget|exact (hL.drop .here).forget.forget.forget),?_⟩
    simp only [Act.put,setP]
    refine wpV_one (i:=5) (by kernel_rfl) (wpOf ?_)
    refine st_call rfl _ _ ?_ (HM.out _ _ _ hL.fact0 hL.fact1) ?_
    (· go_simp;try with_reducible rfl)
    rintro e _ ⟨ra,rn,rc,rfl,hb,hf⟩
    replace hL:=hL.callF hb hf
    clear hb hf
    refine ⟨_,rfl,fun k' _ _=>(by first|exact hL.forget.forget.forget|exact (hL.drop .here).forget.forget.forget),?_⟩
    simp only [Act.put,setP]
    refine deV 6 (fun k' _ _=>(by first|exact hL.forget.forget.forget|exact (hL.drop .here).forget.forget.forget)) ?_
    refine deV 7 (fun k' _ _=>(by first|exact hL.forget.forget.forget|exact (hL.drop .here).forget.forget.forget)) ?_
    refine deV 8 (fun k' _ _=>(by first|exact hL.forget.forget.forget|exact (hL.drop .here).forget.forget.forget)) ?_
    refine wpV_one (i:=10) (by kernel_rfl) (wpOf ?_)
    refine st_store rfl _ _ _ rfl _ rfl (.agg _) rfl ?_
    first|refine storeA hL ?_|refine storeO hL ?_|refine storeR hL ?_
    clear hL;intro w9 hL
    refine ⟨fun k9 hk9 hm9=>?_,?_⟩
    (· exact absurd hm9 (pinned_off 10 8 hk9 (by kernel_rfl) (by decide) (by kernel_rfl)))
    try simp only [Act.put]
    refine wpV_one (i:=11) (by kernel_rfl) (wpOf ?_)
    refine st_easy rfl ?_ ?_ ?_;rotate_left;(· go_simp;try with_reducible rfl)
    refine ⟨fun k9 hk9 hm9=>?_,?_⟩
    (· exact absurd hm9 (pinned_off 10 8 hk9 (by kernel_rfl) (by decide) (by kernel_rfl)))
    simp only [Act.put,setP]
    refine wpV_done (by kernel_rfl) ?_
    exact hC b4 ra rn rc qa qn qc _ ((hL.swap).forget.swap).forget
  ·refine st_alloc hL ?_
   intro b4 w9 hb hL2
   clear hb hL
   have hL:=hL2;clear hL2
   refine ⟨fun k' _ _=>(by first|exact (hL.drop .here).forget|exact (hL.drop .here).forget.forget|exact (hL.drop .here).forget.forget.forget),?_⟩
   simp only [Act.put,setP]
   refine wpV_one (i:=3) (by kernel_rfl) (wpOf ?_)
   refine st_call rfl _ _ ?_ (HPl.out _ hL.below) ?_
   (· go_simp;try with_reducible rfl)
   rintro e _ ⟨qa,qn,qc,rfl,hb,hf⟩
   replace hL:=hL.callF hb hf
   clear hb hf
   refine ⟨_,rfl,fun k' _ _=>(by first|exact hL.forget.forget|exact (hL.drop .here).forget.forget),?_⟩
   simp only [Act.put,setP]
   refine wpV_one (i:=5) (by kernel_rfl) (wpOf ?_)
   refine st_call rfl _ _ ?_ (HM.out _ _ _ hL.fact0 hL.fact1) ?_
   (· go_simp;try with_reducible rfl)
   rintro e _ ⟨ra,rn,rc,rfl,hb,hf⟩
   replace hL:=hL.callF hb hf
   clear hb hf
   refine ⟨_,rfl,fun k' _ _=>(by first|exact hL.forget.forget.forget|exact (hL.drop .here).forget.forget.forget),?_⟩
   simp only [Act.put,setP]
   refine deV 6 (fun k' _ _=>(by first|exact hL.forget.forget.forget|exact (hL.drop .here).forget.forget.forget)) ?_
   refine deV 7 (fun k' _ _=>(by first|exact hL.forget.forget.forget|exact (hL.drop .here).forget.forget.forget)) ?_
   refine deV 8 (fun k' _ _=>(by first|exact hL.forget.forget.forget|exact (hL.drop .here).forget.forget.forget)) ?_
   refine wpV_one (i:=10) (by kernel_rfl) (wpOf ?_)
   refine st_store rfl _ _ _ rfl _ rfl (.agg _) rfl ?_
   first|refine storeA hL ?_|refine storeO hL ?_|refine storeR hL ?_
   clear hL;intro w9 hL
   refine ⟨fun k9 hk9 hm9=>?_,?_⟩
   (· exact absurd hm9 (pinned_off 10 8 hk9 (by kernel_rfl) (by decide) (by kernel_rfl)))
   try simp only [Act.put]
   refine wpV_one (i:=11) (by kernel_rfl) (wpOf ?_)
   refine st_easy rfl ?_ ?_ ?_;rotate_left;(· go_simp;try with_reducible rfl)
   refine ⟨fun k9 hk9 hm9=>?_,?_⟩
   (· exact absurd hm9 (pinned_off 10 8 hk9 (by kernel_rfl) (by decide) (by kernel_rfl)))
   simp only [Act.put,setP]
   refine wpV_done (by kernel_rfl) ?_
   exact hC b4 ra rn rc qa qn qc _ ((hL.swap).forget.swap).forget
 intro b4 ra rn rc qa qn qc w8 hL
 go_wp2_with (first|(with_reducible (clear hL;intro _ hL))|((with_reducible refine goJ rfl ?_);refine goP ?_))
 exact bodyPost_ret (results_row2 inferInstance rfl _ hL b2 rfl _ _ (.there (.there .here)) rfl) rfl ⟨ra,rn,rc,rfl,hL.below,hL.fresh⟩
theorem MarkOut.of {i:Itm} {Wi Hi:Int} {w:World} {f:Nat} {args:Array Value} (h1:∀ W H:Nat,Wi=W→Hi=H→Sides W H→mayItm i=true→Calls Tryz.prog f args w (PixOut W H (markP i) w)) (h2:(mayItm i&&(isSide Wi&&isSide Hi))=false→Calls Tryz.prog f args w fun e w'=>e=.returned (.tuple #[.agg #[.int .i64 0,.int .i64 0,.slice none 0 0],.int .i64 1])∧Below w.heap.size w w'):Calls Tryz.prog f args w (MarkOut i Wi Hi w):=by
 cases hs:(mayItm i&&(isSide Wi&&isSide Hi)) with
 | false=>exact (h2 hs).mono fun e w' h=>⟨fun h0=>(by rw [hs] at h0;cases h0),fun _=>h⟩
 | true =>
  have hs':=hs
  rw [Bool.and_eq_true,Bool.and_eq_true] at hs
  obtain ⟨hm,g1,g2⟩:=hs
  unfold isSide at g1 g2
  simp only [Bool.and_eq_true,decide_eq_true_iff] at g1 g2
  obtain ⟨W,rfl⟩:=Int.eq_ofNat_of_zero_le (show 0≤Wi by omega)
  obtain ⟨H,rfl⟩:=Int.eq_ofNat_of_zero_le (show 0≤Hi by omega)
  have hS:Sides W H:=⟨by omega,by omega,by omega,by omega⟩
  exact (h1 W H rfl rfl hS hm).mono fun e w' h=>⟨fun _=>⟨W,H,rfl,rfl,hS,h⟩,fun h0=>(by rw [hs'] at h0;cases h0)⟩
open Go.RowKit
end Go.Proofs.YtmnoeoecjfhhbaaGreat
