/- Package list: samples, line by line. -/
import Derived.Test.YtmnoeoecjfhhbaaGreatIm1
namespace Go.Proofs.YtmnoeoecjfhhbaaGreat
open Go.RowKit
set_option maxRecDepth 100000 in
set_option maxHeartbeats 16000000 in
theorem imgRegion_calls {W H:Nat} (hs:Sides W H) (i:Img) (hl:i.data.size≤maxLen) (hi:mayImg i=true) (m:Mtx) (hm:mayMtx m=true) (hD:detM m≠0) (w:World) :
  Calls Tryz.prog 184 #[imgV i,mtxV m,.int .i64 W,.int .i64 H] w (PixOut W H (sampP i m 1) w):=by
 obtain ⟨m1,m2,m3⟩:=mask_bounds hs
 have hw0:=hs.w0;have hw1:=hs.w1;have hh0:=hs.h0;have hh1:=hs.h1
 have HK:=Lib.hid (fun w=>imgLook_calls i hl hi m hm w)
 have hD0:¬detM m=0:=hD
 have HOf:=Lib.hid (fun w ma q h=>pixOf_calls hs w ma q h)
 obtain ⟨V,hV⟩:∃ V:Nat→Nat→Int,(fun (j x:Nat)=>atI i m (16*(x:Int)+8) (16*(j:Int)+8))=V:=⟨_,rfl⟩
 have hq:sampP i m 1=fun (j x:Nat)=>decide (1≤V j x):=by rw [←hV];rfl
 have hv:∀ (j x:Nat),atI i m (16*(x:Int)+8) (16*(j:Int)+8)=V j x:=fun (j x:Nat)=>by rw [←hV]
 have HI:=Lib.hid (fun w (j x:Nat) (h1:j<64) (h2:x<64)=>viewAt_calls i (mayImg_ok hi) m hm hD (16*(x:Int)+8) (16*(j:Int)+8) (by omega) (by omega) w)
 simp only [hv] at HI
 rw [hq]
 generalize hp:(fun (j x:Nat)=>decide (1≤V j x))=p at *
 have HP:=Lib.hid (fun (j x:Nat)=>(congrFun (congrFun hp j) x).symm)
 clear hp hv hV hq
 generalize detM m=D at *
 obtain ⟨iw,ih,bits,data⟩:=i
 obtain ⟨a,b,c,d,e,f⟩:=m
 unfold viewV imgV mtxV at *
 dsimp only at *
 clear hi hm hl hD
 have hL:=Holds.start w
 have hwr:IntKind.i64.wrap ((W:Int)*(H:Int))=(W:Int)*(H:Int):=by rw [IntKind.wrap_i64];omega
 have g0:decide ((W:Int)<1)=false:=by simp;omega
 have g1:decide ((64:Int)<(W:Int))=false:=by simp;omega
 have g2:decide ((H:Int)<1)=false:=by simp;omega
 have g3:decide ((64:Int)<(H:Int))=false:=by simp;omega
 obtain ⟨n1,n2,n3,n4,n5,n6⟩:=tok6
 go_enter Tryz.func184,Tryz.ntmps184
 go_wp2_with (first|(go_at_call 95;(with_reducible refine (HK.out _).mono ?_);rintro e _ ⟨rfl,hb⟩;replace hL:=hL.call hb;clear hb)|((with_reducible refine wpA_make rfl _ _ _ rfl _ rfl rfl ?_);refine makeU (W*H) (by omega) (by simp) hL ?_)|(with_reducible first|(clear hL n1;intro b1 w1 hL)|(clear hL n2;intro b2 w2 hL)|(clear hL n3;intro b3 w3 hL)|(clear hL n4;intro b4 w4 hL)|(clear hL n5;intro b5 w5 hL)|(clear hL n6;intro b6 w6 hL)|(clear hL;intro _ hL))|((with_reducible refine goJ rfl ?_);refine goW ?_))
 rw [show arrU (W*H) (fun _=>0)=arrU (W*H) (partF (fun i=>p (i / W) (i%W)) 0) from arrU_congr fun x _=>by simp [partF]] at hL
 have HO2:=Lib.hid (fun w (h:(blk b5 (arrU (W*H) (partF (fun i=>p (i / W) (i%W)) (W*H))) 5).ok w)=>HOf.out w (some ⟨b5,0,none⟩) p (by
  refine ⟨_,rfl,?_⟩
  have:=bytes_of h (by unfold maxLen;omega)
  rw [show (List.range (W*H)).map (partF (fun i=>p (i / W) (i%W)) (W*H))=(pixMask W H p).B from ?_] at this
  ·exact this
  ·refine List.map_congr_left fun x hx=>?_
   have hx:x<W*H:=by simpa using hx
   simp [partF,hx,bit]))
 clear HOf
 go_loopw [53] (fun sK wr=>∃ k:Nat,k≤W*H∧sK=.int .i64 k∧Holds w wr [blk b6 #[.int .i64 W,.int .i64 H,.slice (some ⟨b5,0,none⟩) (W*H) (W*H)] 86,blk b5 (arrU (W*H) (partF (fun i=>p (i / W) (i%W)) k)) 5,blk b4 #[.int .i64 iw,.int .i64 ih,.int .i64 bits,.string data,.int .i64 a,.int .i64 b,.int .i64 c,.int .i64 d,.int .i64 e,.int .i64 f,.int .i64 D] 145,blk b3 #[.int .i64 0,.int .i64 0,.slice none 0 0] 39,blk b2 #[.int .i64 a,.int .i64 b,.int .i64 c,.int .i64 d,.int .i64 e,.int .i64 f] 28,blk b1 #[.int .i64 iw,.int .i64 ih,.int .i64 bits,.string data] 26] [])
  (fun sK wr=>W*H-(intOf sK).toNat)
 case atStart=>exact ⟨0,by omega,rfl,hL⟩
 case round =>
  clear hL
  obtain ⟨k,hk,rfl,hL⟩:=hrel
  by_cases hkt:k<W*H
  ·have hkb:(k:Int)<((W*H:Nat):Int):=by omega
   have hkw:(k:Int)<(W:Int)*(H:Int):=by rw [←Int.natCast_mul];omega
   have hR0:k / W<H:=Nat.div_lt_of_lt_mul hkt
   have hC0:k%W<W:=Nat.mod_lt k (by omega)
   have hrem:(k:Int).tmod (W:Int)=((k%W:Nat):Int):=by rw [Int.tmod_eq_emod_of_nonneg (by omega)];simp
   have hquo:(k:Int).tdiv (W:Int)=((k / W:Nat):Int):=by rw [Int.tdiv_eq_ediv_of_nonneg (by omega)];simp
   have HI2:=Lib.hid (fun w=>HI.out w (k / W) (k%W) (by omega) (by omega))
   have hpk:=HP.out (k / W) (k%W)
   have hpq:(fun i=>p (i / W) (i%W)) k=p (k / W) (k%W):=rfl
   generalize (fun i=>p (i / W) (i%W))=q at *
   rw [←hpq] at hpk
   clear hpq
   generalize k / W=R at *
   generalize k%W=C at *
   generalize V R C=v at *
   have zW:¬W=0:=by omega
   have z0:((W:Int) == 0)=false:=beq_eq_false_iff_ne.2 (by omega)
   have z1:((W:Int) == -1)=false:=beq_eq_false_iff_ne.2 (by omega)
   have wC:IntKind.i64.wrap (C:Int)=(C:Int):=by rw [IntKind.wrap_i64];omega
   have wR:IntKind.i64.wrap (R:Int)=(R:Int):=by rw [IntKind.wrap_i64];omega
   have wC2:IntKind.i64.wrap (16*(C:Int))=16*(C:Int):=by rw [IntKind.wrap_i64];omega
   have wR2:IntKind.i64.wrap (16*(R:Int))=16*(R:Int):=by rw [IntKind.wrap_i64];omega
   have wC3:IntKind.i64.wrap (16*(C:Int)+8)=16*(C:Int)+8:=by rw [IntKind.wrap_i64];omega
   have wR3:IntKind.i64.wrap (16*(R:Int)+8)=16*(R:Int)+8:=by rw [IntKind.wrap_i64];omega
   cases hp:q k with
   | true =>
    have Hp:=Lib.hid hp
    have hc:decide (0<v)=true:=by rw [hp] at hpk;have:=of_decide_eq_true hpk.symm;simp;omega
    clear hp hpk
    go_wp2_with (first|(with_reducible (clear hL;intro _ hL))|((with_reducible refine goJ rfl ?_);refine goW ?_))
    refine wpH_holds (by kernel_rfl) hL fun hS=>?_
    replace hL:=hS
    refine dlH 0 ?_ hS (fun w' hw=>?_) ?_;rotate_left;(· refine loadR hw ?_;rfl)
    simp only [Act.put,setP]
    refine deH 1 hS ?_
    refine deH 2 hS ?_
    refine deH 3 hS ?_
    refine deH 4 hS ?_
    refine deH 5 hS ?_
    refine deH 6 hS ?_
    refine deH 7 hS ?_
    refine deH 8 hS ?_
    refine deH 9 hS ?_
    refine deH 10 hS ?_
    refine wpH_one (i:=11) (by kernel_rfl) (wpOf ?_)
    refine st_call rfl _ _ ?_ (HI2.out _) ?_
    (· go_simp;try with_reducible rfl)
    rintro e _ ⟨rfl,hb⟩
    replace hL:=hL.call hb
    replace hS:=hS.call hb
    clear hb
    refine ⟨_,rfl,hS,?_⟩
    simp only [Act.put,setP]
    refine deH 12 hS ?_
    refine wpAnyH_done (by kernel_rfl) ?_ _
    clear hS
    go_wp2_with (first|(with_reducible (clear hL;intro _ hL))|((with_reducible refine goJ rfl ?_);refine goW ?_))
    go_roundw
    case rel =>
     rw [partF_set _ _ _ Hp.out] at hL
     exact ⟨k+1,by omega,by go_num,hL⟩
    case measure=>simp [intOf];omega
   | false =>
    have Hp:=Lib.hid hp
    have hc:decide (0<v)=false:=by rw [hp] at hpk;have:=of_decide_eq_false hpk.symm;simp;omega
    clear hp hpk
    go_wp2_with (first|(with_reducible (clear hL;intro _ hL))|((with_reducible refine goJ rfl ?_);refine goW ?_))
    refine wpH_holds (by kernel_rfl) hL fun hS=>?_
    replace hL:=hS
    refine dlH 0 ?_ hS (fun w' hw=>?_) ?_;rotate_left;(· refine loadR hw ?_;rfl)
    simp only [Act.put,setP]
    refine deH 1 hS ?_
    refine deH 2 hS ?_
    refine deH 3 hS ?_
    refine deH 4 hS ?_
    refine deH 5 hS ?_
    refine deH 6 hS ?_
    refine deH 7 hS ?_
    refine deH 8 hS ?_
    refine deH 9 hS ?_
    refine deH 10 hS ?_
    refine wpH_one (i:=11) (by kernel_rfl) (wpOf ?_)
    refine st_call rfl _ _ ?_ (HI2.out _) ?_
    (· go_simp;try with_reducible rfl)
    rintro e _ ⟨rfl,hb⟩
    replace hL:=hL.call hb
    replace hS:=hS.call hb
    clear hb
    refine ⟨_,rfl,hS,?_⟩
    simp only [Act.put,setP]
    refine deH 12 hS ?_
    refine wpAnyH_done (by kernel_rfl) ?_ _
    clear hS
    go_wp2_with (first|(with_reducible (clear hL;intro _ hL))|((with_reducible refine goJ rfl ?_);refine goW ?_))
    go_roundw
    case rel =>
     rw [partF_skip _ _ _ Hp.out] at hL
     exact ⟨k+1,by omega,by go_num,hL⟩
    case measure=>simp [intOf];omega
  ·have e:k=W*H:=by omega
   subst e
   go_wp2_with (first|(go_at_call 191;((with_reducible refine (HO2.out _ (hL.at (.there .here))).mono ?_);rintro e _ ⟨sa,sn,sc,rfl,hb,hf⟩;replace hL:=hL.callF hb hf;clear hb hf))|(with_reducible (clear hL;intro _ hL))|((with_reducible refine goJ rfl ?_);refine goW ?_))
   refine bodyPost_ret (results_row2 inferInstance rfl _ hL b3 rfl _ _ (by (repeat (first|with_reducible exact At.here|with_reducible apply At.there))) rfl) rfl ⟨sa,sn,sc,rfl,hL.below,hL.fresh⟩
set_option maxRecDepth 100000 in
set_option maxHeartbeats 16000000 in
theorem ptSamples_calls {W H:Nat} (hs:Sides W H) (i:Img) (hl:i.data.size≤maxLen) (hi:mayImg i=true) (m:Mtx) (hm:mayMtx m=true) (hD:detM m≠0) (least:Int) (w:World) :
  Calls Tryz.prog 227 #[.agg #[],imgV i,mtxV m,.int .i64 least,.int .i64 W,.int .i64 H] w (PixOut W H (sampP i m least) w):=by
 obtain ⟨m1,m2,m3⟩:=mask_bounds hs
 have hw0:=hs.w0;have hw1:=hs.w1;have hh0:=hs.h0;have hh1:=hs.h1
 skip
 have HOf:=Lib.hid (fun w ma q h=>pixOf_calls hs w ma q h)
 obtain ⟨V,hV⟩:∃ V:Nat→Nat→Int,(fun (j x:Nat)=>atI i m (16*(x:Int)+8) (16*(j:Int)+8))=V:=⟨_,rfl⟩
 have hq:sampP i m least=fun (j x:Nat)=>decide (least≤V j x):=by rw [←hV];rfl
 have hv:∀ (j x:Nat),atI i m (16*(x:Int)+8) (16*(j:Int)+8)=V j x:=fun (j x:Nat)=>by rw [←hV]
 have HI:=Lib.hid (fun w (j x:Nat) (h1:j<64) (h2:x<64)=>imgAt_calls i hl hi m hm hD (16*(x:Int)+8) (16*(j:Int)+8) (by omega) (by omega) w)
 simp only [hv] at HI
 rw [hq]
 generalize hp:(fun (j x:Nat)=>decide (least≤V j x))=p at *
 have HP:=Lib.hid (fun (j x:Nat)=>(congrFun (congrFun hp j) x).symm)
 clear hp hv hV hq
 obtain ⟨iw,ih,bits,data⟩:=i
 obtain ⟨a,b,c,d,e,f⟩:=m
 unfold viewV imgV mtxV at *
 dsimp only at *
 clear hi hm hl hD
 have hL:=Holds.start w
 have hwr:IntKind.i64.wrap ((W:Int)*(H:Int))=(W:Int)*(H:Int):=by rw [IntKind.wrap_i64];omega
 have g0:decide ((W:Int)<1)=false:=by simp;omega
 have g1:decide ((64:Int)<(W:Int))=false:=by simp;omega
 have g2:decide ((H:Int)<1)=false:=by simp;omega
 have g3:decide ((64:Int)<(H:Int))=false:=by simp;omega
 obtain ⟨n1,n2,n3,n4,n5,n6⟩:=tok6
 go_enter Tryz.func227,Tryz.ntmps227
 go_wp2_with (first|((with_reducible refine wpA_make rfl _ _ _ rfl _ rfl rfl ?_);refine makeU (W*H) (by omega) (by simp) hL ?_)|(with_reducible first|(clear hL n1;intro b1 w1 hL)|(clear hL n2;intro b2 w2 hL)|(clear hL n3;intro b3 w3 hL)|(clear hL n4;intro b4 w4 hL)|(clear hL n5;intro b5 w5 hL)|(clear hL n6;intro b6 w6 hL)|(clear hL;intro _ hL))|((with_reducible refine goJ rfl ?_);refine goW ?_))
 rw [show arrU (W*H) (fun _=>0)=arrU (W*H) (partF (fun i=>p (i / W) (i%W)) 0) from arrU_congr fun x _=>by simp [partF]] at hL
 have HO2:=Lib.hid (fun w (h:(blk b5 (arrU (W*H) (partF (fun i=>p (i / W) (i%W)) (W*H))) 5).ok w)=>HOf.out w (some ⟨b5,0,none⟩) p (by
  refine ⟨_,rfl,?_⟩
  have:=bytes_of h (by unfold maxLen;omega)
  rw [show (List.range (W*H)).map (partF (fun i=>p (i / W) (i%W)) (W*H))=(pixMask W H p).B from ?_] at this
  ·exact this
  ·refine List.map_congr_left fun x hx=>?_
   have hx:x<W*H:=by simpa using hx
   simp [partF,hx,bit]))
 clear HOf
 go_loopw [28] (fun sK wr=>∃ k:Nat,k≤W*H∧sK=.int .i64 k∧Holds w wr [blk b6 #[.int .i64 W,.int .i64 H,.slice (some ⟨b5,0,none⟩) (W*H) (W*H)] 86,blk b5 (arrU (W*H) (partF (fun i=>p (i / W) (i%W)) k)) 5,blk b4 #[.int .i64 0,.int .i64 0,.slice none 0 0] 39,blk b3 #[.int .i64 a,.int .i64 b,.int .i64 c,.int .i64 d,.int .i64 e,.int .i64 f] 28,blk b2 #[.int .i64 iw,.int .i64 ih,.int .i64 bits,.string data] 26,blk b1 #[] 135] [])
  (fun sK wr=>W*H-(intOf sK).toNat)
 case atStart=>exact ⟨0,by omega,rfl,hL⟩
 case round =>
  clear hL
  obtain ⟨k,hk,rfl,hL⟩:=hrel
  by_cases hkt:k<W*H
  ·have hkb:(k:Int)<((W*H:Nat):Int):=by omega
   have hkw:(k:Int)<(W:Int)*(H:Int):=by rw [←Int.natCast_mul];omega
   have hR0:k / W<H:=Nat.div_lt_of_lt_mul hkt
   have hC0:k%W<W:=Nat.mod_lt k (by omega)
   have hrem:(k:Int).tmod (W:Int)=((k%W:Nat):Int):=by rw [Int.tmod_eq_emod_of_nonneg (by omega)];simp
   have hquo:(k:Int).tdiv (W:Int)=((k / W:Nat):Int):=by rw [Int.tdiv_eq_ediv_of_nonneg (by omega)];simp
   have HI2:=Lib.hid (fun w=>HI.out w (k / W) (k%W) (by omega) (by omega))
   have hpk:=HP.out (k / W) (k%W)
   have hpq:(fun i=>p (i / W) (i%W)) k=p (k / W) (k%W):=rfl
   generalize (fun i=>p (i / W) (i%W))=q at *
   rw [←hpq] at hpk
   clear hpq
   generalize k / W=R at *
   generalize k%W=C at *
   generalize V R C=v at *
   have zW:¬W=0:=by omega
   have z0:((W:Int) == 0)=false:=beq_eq_false_iff_ne.2 (by omega)
   have z1:((W:Int) == -1)=false:=beq_eq_false_iff_ne.2 (by omega)
   have wC:IntKind.i64.wrap (C:Int)=(C:Int):=by rw [IntKind.wrap_i64];omega
   have wR:IntKind.i64.wrap (R:Int)=(R:Int):=by rw [IntKind.wrap_i64];omega
   have wC2:IntKind.i64.wrap (16*(C:Int))=16*(C:Int):=by rw [IntKind.wrap_i64];omega
   have wR2:IntKind.i64.wrap (16*(R:Int))=16*(R:Int):=by rw [IntKind.wrap_i64];omega
   have wC3:IntKind.i64.wrap (16*(C:Int)+8)=16*(C:Int)+8:=by rw [IntKind.wrap_i64];omega
   have wR3:IntKind.i64.wrap (16*(R:Int)+8)=16*(R:Int)+8:=by rw [IntKind.wrap_i64];omega
   cases hp:q k with
   | true =>
    have Hp:=Lib.hid hp
    have hc:decide (least≤v)=true:=by rw [hp] at hpk;have:=of_decide_eq_true hpk.symm;simp;omega
    clear hp hpk
    go_wp2_with (first|(with_reducible (clear hL;intro _ hL))|((with_reducible refine goJ rfl ?_);refine goW ?_))
    refine wpH_holds (by kernel_rfl) hL fun hS=>?_
    replace hL:=hS
    refine deH 0 hS ?_
    refine deH 1 hS ?_
    refine deH 2 hS ?_
    refine deH 3 hS ?_
    refine deH 4 hS ?_
    refine deH 5 hS ?_
    refine deH 6 hS ?_
    refine deH 7 hS ?_
    refine wpAnyH_done (by kernel_rfl) ?_ _
    clear hS
    go_wp2_with (first|(go_at_call 230;(with_reducible refine (HI2.out _).mono ?_);rintro e _ ⟨rfl,hb⟩;replace hL:=hL.call hb;clear hb)|(with_reducible (clear hL;intro _ hL))|((with_reducible refine goJ rfl ?_);refine goW ?_))
    go_roundw
    case rel =>
     rw [partF_set _ _ _ Hp.out] at hL
     exact ⟨k+1,by omega,by go_num,hL⟩
    case measure=>simp [intOf];omega
   | false =>
    have Hp:=Lib.hid hp
    have hc:decide (least≤v)=false:=by rw [hp] at hpk;have:=of_decide_eq_false hpk.symm;simp;omega
    clear hp hpk
    go_wp2_with (first|(with_reducible (clear hL;intro _ hL))|((with_reducible refine goJ rfl ?_);refine goW ?_))
    refine wpH_holds (by kernel_rfl) hL fun hS=>?_
    replace hL:=hS
    refine deH 0 hS ?_
    refine deH 1 hS ?_
    refine deH 2 hS ?_
    refine deH 3 hS ?_
    refine deH 4 hS ?_
    refine deH 5 hS ?_
    refine deH 6 hS ?_
    refine deH 7 hS ?_
    refine wpAnyH_done (by kernel_rfl) ?_ _
    clear hS
    go_wp2_with (first|(go_at_call 230;(with_reducible refine (HI2.out _).mono ?_);rintro e _ ⟨rfl,hb⟩;replace hL:=hL.call hb;clear hb)|(with_reducible (clear hL;intro _ hL))|((with_reducible refine goJ rfl ?_);refine goW ?_))
    go_roundw
    case rel =>
     rw [partF_skip _ _ _ Hp.out] at hL
     exact ⟨k+1,by omega,by go_num,hL⟩
    case measure=>simp [intOf];omega
  ·have e:k=W*H:=by omega
   subst e
   go_wp2_with (first|(go_at_call 191;((with_reducible refine (HO2.out _ (hL.at (.there .here))).mono ?_);rintro e _ ⟨sa,sn,sc,rfl,hb,hf⟩;replace hL:=hL.callF hb hf;clear hb hf))|(with_reducible (clear hL;intro _ hL))|((with_reducible refine goJ rfl ?_);refine goW ?_))
   refine bodyPost_ret (results_row2 inferInstance rfl _ hL b4 rfl _ _ (by (repeat (first|with_reducible exact At.here|with_reducible apply At.there))) rfl) rfl ⟨sa,sn,sc,rfl,hL.below,hL.fresh⟩
open Go.RowKit
def viewC (i:Img) (m:Mtx) (D:Int):Array Value:=#[.int .i64 i.W,.int .i64 i.H,.int .i64 i.bits,.string i.data,.int .i64 m.a,.int .i64 m.b,.int .i64 m.c,.int .i64 m.d,.int .i64 m.e,.int .i64 m.f,.int .i64 D]
def lineX (m:Mtx) (y:Int) (k:Nat):Int:=m.d*((16*(k:Int)+8)*65536-m.e)-m.c*(y*65536-m.f)
def lineZ (m:Mtx) (y:Int) (k:Nat):Int:=m.a*(y*65536-m.f)-m.b*((16*(k:Int)+8)*65536-m.e)
theorem lineX_next (m:Mtx) (y:Int) (k:Nat):lineX m y (k+1)=lineX m y k+m.d*1048576:=by
 unfold lineX;exact line_step _ _ _ _ k
theorem lineZ_next (m:Mtx) (y:Int) (k:Nat):lineZ m y (k+1)=lineZ m y k-m.b*1048576:=by
 unfold lineZ
 have h:=line_step m.b 0 m.e 0 k
 rw [Int.zero_mul,Int.sub_zero,Int.sub_zero] at h
 rw [h]
 omega
theorem line_bd {m:Mtx} (hm:mayMtx m=true) {y:Int} (hy : -8191≤y∧y≤8191) {k:Nat} (hk:k≤64):(-3458764510599315456≤lineX m y k∧lineX m y k≤3458764510599315456)∧(-3458764510599315456≤lineZ m y k∧lineZ m y k≤3458764510599315456):=by
 obtain ⟨f1,f2,f3,f4,f5,f6⟩:=fix_bd hm
 have bp : -1610612736≤(16*(k:Int)+8)*65536-m.e∧(16*(k:Int)+8)*65536-m.e≤1610612736:=by omega
 have bq : -1610612736≤y*65536-m.f∧y*65536-m.f≤1610612736:=by omega
 obtain ⟨g1,g2⟩:=way_bd f4 f3 bp bq rfl
 obtain ⟨g3,g4⟩:=way_bd f1 f2 bq bp rfl
 unfold lineX lineZ
 omega
theorem line_at (i:Img) (m:Mtx) (y:Int) (k:Nat):sampI i ((lineX m y k).fdiv (detM m)) ((lineZ m y k).fdiv (detM m))=atI i m (16*(k:Int)+8) y:=rfl
set_option maxRecDepth 100000 in
set_option maxHeartbeats 16000000 in
theorem walkNext_calls (i:Img) (ok:ImgOk i) (m:Mtx) (hm:mayMtx m=true) (D:Int) (hD:D≠0) (hDb : -4611686018427387904≤D∧D≤4611686018427387904) {w00 w:World} {M:List Res} {Φ:List (World→Prop)} {bz bx bv:Nat} {x z:Int} (hx : -3458764510599315456≤x∧x≤3458764510599315456) (hz : -3458764510599315456≤z∧z≤3458764510599315456)
  (hL:Holds w00 w (blk bz #[.int .i64 z] 3::blk bx #[.int .i64 x] 3::blk bv (viewC i m D) 145::M) Φ) :
  Calls Tryz.prog 200 #[.pointer (some ⟨bv,0,none⟩),.pointer (some ⟨bx,0,none⟩),.pointer (some ⟨bz,0,none⟩)] w fun e w'=>e=.returned (.int .i64 (sampI i (x.fdiv D) (z.fdiv D)))∧Holds w00 w' (blk bz #[.int .i64 (z-m.b*1048576)] 3::blk bx #[.int .i64 (x+m.d*1048576)] 3::blk bv (viewC i m D) 145::M) Φ:=by
 have HSm:=Lib.hid (fun w=>imgSample_calls i ok (x.fdiv D) (z.fdiv D) w)
 have HD1:=Lib.hid (fun w=>imgDown_calls x D hD (by omega) (by omega) (by omega) (by omega) w)
 have HD2:=Lib.hid (fun w=>imgDown_calls z D hD (by omega) (by omega) (by omega) (by omega) w)
 obtain ⟨f1,f2,f3,f4,f5,f6⟩:=fix_bd hm
 generalize sampI i (x.fdiv D) (z.fdiv D)=R at *
 generalize x.fdiv D=X at *
 generalize z.fdiv D=Z at *
 obtain ⟨W,H,bits,data⟩:=i
 obtain ⟨a,b,c,d,e,f⟩:=m
 unfold viewC imgV at *
 dsimp only at *
 clear ok hm hD
 have w1:IntKind.i64.wrap (d*1048576)=d*1048576:=wrapS (by omega) (by omega)
 have w2:IntKind.i64.wrap (b*1048576)=b*1048576:=wrapS (by omega) (by omega)
 have w3:IntKind.i64.wrap (x+d*1048576)=x+d*1048576:=wrapS (by omega) (by omega)
 have w4:IntKind.i64.wrap (z-b*1048576)=z-b*1048576:=wrapS (by omega) (by omega)
 go_enter Tryz.func200,Tryz.ntmps200
 go_wp2_with (first|(with_reducible (clear hL;intro _ hL))|((with_reducible refine goJ rfl ?_);refine goW ?_))
 refine wpH_holds (by kernel_rfl) hL fun hS=>?_
 replace hL:=hS
 refine deH 0 hS ?_
 refine dlH 1 ?_ hS (fun w' hw=>?_) ?_;rotate_left;(· refine loadP hw ?_;rfl)
 simp only [Act.put,setP]
 refine dlH 2 ?_ hS (fun w' hw=>?_) ?_;rotate_left;(· refine loadA hw ?_;rfl)
 simp only [Act.put,setP]
 refine deH 3 hS ?_
 refine dlH 4 ?_ hS (fun w' hw=>?_) ?_;rotate_left;(· refine loadA hw ?_;rfl)
 simp only [Act.put,setP]
 refine dlH 6 ?_ hS (fun w' hw=>?_) ?_;rotate_left;(· refine loadA hw ?_;rfl)
 simp only [Act.put,setP]
 refine deH 7 hS ?_
 refine dlH 8 ?_ hS (fun w' hw=>?_) ?_;rotate_left;(· refine loadA hw ?_;rfl)
 simp only [Act.put,setP]
 refine wpH_one (i:=5) (by kernel_rfl) (wpOf ?_)
 refine st_call rfl _ _ ?_ (HD1.out _) ?_
 (· go_simp;try with_reducible rfl)
 rintro e _ ⟨rfl,rfl⟩
 refine ⟨_,rfl,hS,?_⟩
 simp only [Act.put,setP]
 refine wpH_one (i:=9) (by kernel_rfl) (wpOf ?_)
 refine st_call rfl _ _ ?_ (HD2.out _) ?_
 (· go_simp;try with_reducible rfl)
 rintro e _ ⟨rfl,rfl⟩
 refine ⟨_,rfl,hS,?_⟩
 simp only [Act.put,setP]
 refine wpH_one (i:=10) (by kernel_rfl) (wpOf ?_)
 refine st_call rfl _ _ ?_ (HSm.out _) ?_
 (· go_simp;try with_reducible rfl)
 rintro e _ ⟨rfl,hb⟩
 replace hL:=hL.call hb
 replace hS:=hS.call hb
 clear hb
 refine ⟨_,rfl,hS,?_⟩
 simp only [Act.put,setP]
 refine deH 11 hS ?_
 refine wpAnyH_done (by kernel_rfl) ?_ _
 clear hS
 go_wp2_with (first|(with_reducible (clear hL;intro _ hL))|((with_reducible refine goJ rfl ?_);refine goW ?_))
 replace hL:=hL.drew
 refine wpV_begin (by kernel_rfl) (fun k w'=>k<12→∃ u:Int,(k<6→u=x)∧Holds w00 w' (blk bz #[.int .i64 z] 3::blk bx #[.int .i64 u] 3::blk bv #[.int .i64 W,.int .i64 H,.int .i64 bits,.string data,.int .i64 a,.int .i64 b,.int .i64 c,.int .i64 d,.int .i64 e,.int .i64 f,.int .i64 D] 145::M) Φ) 12 ?_
 refine dlV 0 ?_ (fun k _ _=>⟨x,fun _=>rfl,hL⟩) (fun w' hw=>?_) ?_;rotate_left;(· obtain ⟨u,hu,hw⟩:=hw (by decide);(try rw [hu (by decide)] at hw);refine loadA hw ?_;rfl)
 simp only [Act.put,setP]
 refine deV 1 (fun k _ _=>⟨x,fun _=>rfl,hL⟩) ?_
 refine deV 2 (fun k _ _=>⟨x,fun _=>rfl,hL⟩) ?_
 refine dlV 3 ?_ (fun k _ _=>⟨x,fun _=>rfl,hL⟩) (fun w' hw=>?_) ?_;rotate_left;(· obtain ⟨u,hu,hw⟩:=hw (by decide);(try rw [hu (by decide)] at hw);refine loadA hw ?_;rfl)
 simp only [Act.put,setP]
 refine deV 4 (fun k _ _=>⟨x,fun _=>rfl,hL⟩) ?_
 refine deV 5 (fun k _ _=>⟨x,fun _=>rfl,hL⟩) ?_
 refine dlV 6 ?_ (fun k _ _=>⟨x,fun _=>rfl,hL⟩) (fun w' hw=>?_) ?_;rotate_left;(· obtain ⟨u,hu,hw⟩:=hw (by decide);(try rw [hu (by decide)] at hw);refine loadA hw ?_;rfl)
 simp only [Act.put,setP]
 refine deV 7 (fun k _ _=>⟨x,fun _=>rfl,hL⟩) ?_
 refine deV 8 (fun k _ _=>⟨x,fun _=>rfl,hL⟩) ?_
 refine dlV 9 ?_ (fun k _ _=>⟨x,fun _=>rfl,hL⟩) (fun w' hw=>?_) ?_;rotate_left;(· obtain ⟨u,hu,hw⟩:=hw (by decide);(try rw [hu (by decide)] at hw);refine loadA hw ?_;rfl)
 simp only [Act.put,setP]
 refine deV 10 (fun k _ _=>⟨x,fun _=>rfl,hL⟩) ?_
 refine deV 11 (fun k _ _=>⟨x,fun _=>rfl,hL⟩) ?_
 refine wpV_one (i:=12) (by kernel_rfl) (wpOf ?_)
 refine st_store rfl _ _ _ rfl _ rfl (.int _ _) rfl ?_
 first|refine storeA hL ?_|refine storeO hL ?_|refine storeR hL ?_
 clear hL;intro w9 hL
 refine ⟨fun k9 hk9 hm9=>?_,?_⟩
 (· exact ⟨_,fun h=>absurd h (pinned_off 12 6 hk9 (by kernel_rfl) (by decide) (by kernel_rfl)),hL⟩)
 try simp only [Act.put]
 refine wpV_one (i:=13) (by kernel_rfl) (wpOf ?_)
 refine st_store rfl _ _ _ rfl _ rfl (.int _ _) rfl ?_
 first|refine storeA hL ?_|refine storeO hL ?_|refine storeR hL ?_
 clear hL;intro w9 hL
 refine ⟨fun k9 hk9 hm9=>?_,?_⟩
 (· exact absurd hm9 (pinned_off 13 12 hk9 (by kernel_rfl) (by decide) (by kernel_rfl)))
 try simp only [Act.put]
 refine wpV_done (by kernel_rfl) ?_
 go_wp2_with (first|(with_reducible (clear hL;intro _ hL))|((with_reducible refine goJ rfl ?_);refine goW ?_))
 go_ret
 exact ⟨rfl,hL⟩
set_option maxRecDepth 100000 in
set_option maxHeartbeats 16000000 in
theorem walk_calls (i:Img) (m:Mtx) (hm:mayMtx m=true) (D:Int) (y:Int) (hy : -8191≤y∧y≤8191) (w:World):Calls Tryz.prog 193 #[.agg (viewC i m D),.int .i64 y] w fun e w'=>∃ bz bx bv,e=.returned (.func (.func 200) #[] #[.pointer (some ⟨bv,0,none⟩),.pointer (some ⟨bx,0,none⟩),.pointer (some ⟨bz,0,none⟩)]) ∧
  Holds w w' [blk bz #[.int .i64 (lineZ m y 0)] 3,blk bx #[.int .i64 (lineX m y 0)] 3,blk bv (viewC i m D) 145] []:=by
 have hX:lineX m y 0=m.d*(524288-m.e)-m.c*(y*65536-m.f):=rfl
 have hZ:lineZ m y 0=m.a*(y*65536-m.f)-m.b*(524288-m.e):=rfl
 have hb:=line_bd hm hy (show 0≤64 by omega)
 generalize lineX m y 0=X at *
 generalize lineZ m y 0=Z at *
 obtain ⟨f1,f2,f3,f4,f5,f6⟩:=fix_bd hm
 obtain ⟨W,H,bits,data⟩:=i
 obtain ⟨a,b,c,d,e,f⟩:=m
 unfold viewC at *
 dsimp only at *
 clear hm
 generalize hp:524288-e=p at *
 generalize hq:y*65536-f=q at *
 have bp : -1610612736≤p∧p≤1610612736:=by omega
 have bq : -1610612736≤q∧q≤1610612736:=by omega
 obtain ⟨g1,g2⟩:=way_bd f4 f3 bp bq rfl
 obtain ⟨g3,g4⟩:=way_bd f1 f2 bq bp rfl
 generalize hdp:d*p=dp at *
 generalize hcq:c*q=cq at *
 generalize haq:a*q=aq at *
 generalize hbp:b*p=bp1 at *
 have w1:IntKind.i64.wrap dp=dp:=wrapS (by omega) (by omega)
 have w2:IntKind.i64.wrap cq=cq:=wrapS (by omega) (by omega)
 have w3:IntKind.i64.wrap aq=aq:=wrapS (by omega) (by omega)
 have w4:IntKind.i64.wrap bp1=bp1:=wrapS (by omega) (by omega)
 have hX2:=hX.symm
 have hZ2:=hZ.symm
 have w5:IntKind.i64.wrap X=X:=wrapS (by omega) (by omega)
 have w6:IntKind.i64.wrap Z=Z:=wrapS (by omega) (by omega)
 have w7:IntKind.i64.wrap (y*65536)=y*65536:=wrapS (by omega) (by omega)
 have w9:IntKind.i64.wrap p=p:=wrapS (by omega) (by omega)
 have w10:IntKind.i64.wrap q=q:=wrapS (by omega) (by omega)
 clear hX hZ
 have hL:=Holds.start w
 have n1:True:=trivial
 go_enter Tryz.func193,Tryz.ntmps193
 go_wp2_with (first|(with_reducible (clear hL n1;intro b1 w1 hL))|((with_reducible refine goJ rfl ?_);refine goW ?_))
 refine wpH_holds (by kernel_rfl) hL fun hS=>?_
 replace hL:=hS
 refine deH 0 hS ?_
 refine deH 1 hS ?_
 refine dlH 2 ?_ hS (fun w' hw=>?_) ?_;rotate_left;(· refine loadA hw ?_;rfl)
 simp only [Act.put,setP]
 refine deH 3 hS ?_
 refine deH 4 hS ?_
 refine deH 5 hS ?_
 refine deH 6 hS ?_
 refine deH 7 hS ?_
 refine dlH 8 ?_ hS (fun w' hw=>?_) ?_;rotate_left;(· refine loadA hw ?_;rfl)
 simp only [Act.put,setP]
 refine deH 9 hS ?_
 refine deH 10 hS ?_
 refine deH 11 hS ?_
 refine wpAnyH_done (by kernel_rfl) ?_ _
 clear hS
 go_wp2_with (first|(with_reducible (clear hL n1;intro b1 w1 hL))|((with_reducible refine goJ rfl ?_);refine goW ?_))
 replace hL:=hL.drew
 refine wpV_begin (by kernel_rfl) (fun k w'=>k<22→Holds w w' [blk b1 #[.int .i64 W,.int .i64 H,.int .i64 bits,.string data,.int .i64 a,.int .i64 b,.int .i64 c,.int .i64 d,.int .i64 e,.int .i64 f,.int .i64 D] 145] []) 22 ?_
 refine deV 0 (fun k _ _=>hL) ?_
 refine deV 1 (fun k _ _=>hL) ?_
 refine dlV 2 ?_ (fun k _ _=>hL) (fun w' hw=>?_) ?_;rotate_left;(· replace hw:=hw (by decide);refine loadA hw ?_;rfl)
 simp only [Act.put,setP]
 refine deV 3 (fun k _ _=>hL) ?_
 refine deV 4 (fun k _ _=>hL) ?_
 refine deV 5 (fun k _ _=>hL) ?_
 refine deV 6 (fun k _ _=>hL) ?_
 refine dlV 7 ?_ (fun k _ _=>hL) (fun w' hw=>?_) ?_;rotate_left;(· replace hw:=hw (by decide);refine loadA hw ?_;rfl)
 simp only [Act.put,setP]
 refine deV 8 (fun k _ _=>hL) ?_
 refine deV 9 (fun k _ _=>hL) ?_
 refine deV 10 (fun k _ _=>hL) ?_
 refine deV 11 (fun k _ _=>hL) ?_
 refine deV 12 (fun k _ _=>hL) ?_
 refine dlV 13 ?_ (fun k _ _=>hL) (fun w' hw=>?_) ?_;rotate_left;(· replace hw:=hw (by decide);refine loadA hw ?_;rfl)
 simp only [Act.put,setP]
 refine deV 14 (fun k _ _=>hL) ?_
 refine deV 15 (fun k _ _=>hL) ?_
 refine deV 16 (fun k _ _=>hL) ?_
 refine deV 17 (fun k _ _=>hL) ?_
 refine dlV 18 ?_ (fun k _ _=>hL) (fun w' hw=>?_) ?_;rotate_left;(· replace hw:=hw (by decide);refine loadA hw ?_;rfl)
 simp only [Act.put,setP]
 refine deV 19 (fun k _ _=>hL) ?_
 refine deV 20 (fun k _ _=>hL) ?_
 refine deV 21 (fun k _ _=>hL) ?_
 refine wpV_two (i:=22) (j:=23) (by kernel_rfl) (wpOf ?_) (wpOf ?_)
 ·refine st_alloc hL ?_
  intro bx w9 hb hL2
  clear hb hL
  have hL:=hL2;clear hL2
  refine ⟨fun k _ _=>(by first|exact hL.drop .here|exact (hL.drop .here).drop .here),?_⟩
  simp only [Act.put,setP]
  refine wpV_one (i:=23) (by kernel_rfl) (wpOf ?_)
  refine st_alloc hL ?_
  intro bz w9 hb hL2
  clear hb hL
  have hL:=hL2;clear hL2
  refine ⟨fun k _ _=>(by first|exact hL.drop .here|exact (hL.drop .here).drop .here),?_⟩
  simp only [Act.put,setP]
  refine wpV_one (i:=24) (by kernel_rfl) (wpOf ?_)
  refine st_store rfl _ _ _ rfl _ rfl (.int _ _) rfl ?_
  first|refine storeA hL ?_|refine storeO hL ?_|refine storeR hL ?_
  clear hL;intro w9 hL
  refine ⟨fun k9 hk9 hm9=>?_,?_⟩
  (· exact (hL.drop .here).drop .here)
  try simp only [Act.put]
  refine wpV_one (i:=25) (by kernel_rfl) (wpOf ?_)
  refine st_store rfl _ _ _ rfl _ rfl (.int _ _) rfl ?_
  first|refine storeA hL ?_|refine storeO hL ?_|refine storeR hL ?_
  clear hL;intro w9 hL
  refine ⟨fun k9 hk9 hm9=>?_,?_⟩
  (· exact (hL.drop .here).drop .here)
  try simp only [Act.put]
  refine wpV_done (by kernel_rfl) ?_
  go_wp2
  go_ret
  first|exact ⟨bz,bx,b1,rfl,hL⟩|exact ⟨bz,bx,b1,rfl,hL.perm (List.Perm.swap _ _ _)⟩
 ·refine st_alloc hL ?_
  intro bz w9 hb hL2
  clear hb hL
  have hL:=hL2;clear hL2
  refine ⟨fun k _ _=>(by first|exact hL.drop .here|exact (hL.drop .here).drop .here),?_⟩
  simp only [Act.put,setP]
  refine wpV_one (i:=22) (by kernel_rfl) (wpOf ?_)
  refine st_alloc hL ?_
  intro bx w9 hb hL2
  clear hb hL
  have hL:=hL2;clear hL2
  refine ⟨fun k _ _=>(by first|exact hL.drop .here|exact (hL.drop .here).drop .here),?_⟩
  simp only [Act.put,setP]
  refine wpV_one (i:=24) (by kernel_rfl) (wpOf ?_)
  refine st_store rfl _ _ _ rfl _ rfl (.int _ _) rfl ?_
  first|refine storeA hL ?_|refine storeO hL ?_|refine storeR hL ?_
  clear hL;intro w9 hL
  refine ⟨fun k9 hk9 hm9=>?_,?_⟩
  (· exact (hL.drop .here).drop .here)
  try simp only [Act.put]
  refine wpV_one (i:=25) (by kernel_rfl) (wpOf ?_)
  refine st_store rfl _ _ _ rfl _ rfl (.int _ _) rfl ?_
  first|refine storeA hL ?_|refine storeO hL ?_|refine storeR hL ?_
  clear hL;intro w9 hL
  refine ⟨fun k9 hk9 hm9=>?_,?_⟩
  (· exact (hL.drop .here).drop .here)
  try simp only [Act.put]
  refine wpV_done (by kernel_rfl) ?_
  go_wp2
  go_ret
  first|exact ⟨bz,bx,b1,rfl,hL⟩|exact ⟨bz,bx,b1,rfl,hL.perm (List.Perm.swap _ _ _)⟩
open Go.RowKit
def lineV (i:Img) (m:Mtx) (y:Int) (k:Nat):Int:=atI i m (16*(k:Int)+8) y
def numC (A:Nat→Int) (k:Nat):List Value:=(List.range k).map fun j=>Value.int .i64 (A j)
theorem numC_next (A:Nat→Int) (k:Nat):numC A k++[Value.int .i64 (A k)]=numC A (k+1):=by
 unfold numC;rw [List.range_succ,List.map_append];rfl
theorem numC_flat (A:Nat→Int) (k:Nat):numC A k=(((List.range k).map A).map fun n=>[Value.int .i64 n]).flatten:=by
 unfold numC
 induction (List.range k) with
 | nil=>rfl
 | cons a t ih=>simpa using ih
set_option maxRecDepth 100000 in
set_option maxHeartbeats 16000000 in
theorem imgLine_calls (i:Img) (hl:i.data.size≤maxLen) (hi:mayImg i=true) (m:Mtx) (hm:mayMtx m=true) (hD:detM m≠0) (y:Int) (hy : -8191≤y∧y≤8191) (W:Nat) (hW:W≤64) (w:World) :
  Calls Tryz.prog 185 #[imgV i,mtxV m,.int .i64 y,.int .i64 W] w fun e w'=>∃ v,e=.returned v∧Below w.heap.size w w'∧Fresh w w' (fun w=>NumsAt w v ((List.range W).map (lineV i m y))):=by
 have HK:=Lib.hid (fun w=>imgLook_calls i hl hi m hm w)
 have hdb:=det_bd hm
 have HW:=Lib.hid (fun w=>walk_calls i m hm (detM m) y hy w)
 have HN:=Lib.hid (fun (k:Nat) (hk:k<64) (w:World) (M:List Res) (Φ:List (World→Prop)) (bz bx bv:Nat) (hL:Holds w w M Φ)=>hL.below)
 have HX:=Lib.hid (fun (k:Nat) (hk:k<64) {w00 w1:World} {M:List Res} {Φ:List (World→Prop)} {bz bx bv:Nat} (hL:Holds w00 w1 (blk bz #[.int .i64 (lineZ m y k)] 3::blk bx #[.int .i64 (lineX m y k)] 3::blk bv (viewC i m (detM m)) 145::M) Φ)=>by
  have h:=walkNext_calls i (mayImg_ok hi) m hm (detM m) hD (by omega) (line_bd hm hy (show k≤64 by omega)).1 (line_bd hm hy (show k≤64 by omega)).2 hL
  rw [line_at,←lineX_next,←lineZ_next] at h
  exact h)
 clear HN
 have hA:∀ k,lineV i m y k=atI i m (16*(k:Int)+8) y:=fun _=>rfl
 simp only [←hA] at HX
 clear hA
 generalize lineV i m y=A at *
 generalize lineX m y=X at *
 generalize lineZ m y=Z at *
 have hD0:decide (detM m=0)=false:=by simp;exact hD
 have hD1:¬detM m=0:=hD
 generalize detM m=D at *
 obtain ⟨iw,ih,bits,data⟩:=i
 obtain ⟨a,b,c,d,e,f⟩:=m
 unfold viewV viewC imgV mtxV at *
 dsimp only at *
 clear hi hm hl hD hdb
 have hL:=Holds.start w
 have g0:decide ((W:Int)<0)=false:=by simp
 have g1:decide ((64:Int)<(W:Int))=false:=by simp;omega
 have g2:decide (y < -8191)=false:=by simp;omega
 have g3:decide (8191<y)=false:=by simp;omega
 obtain ⟨n1,n2,n3⟩:=tok3
 go_enter Tryz.func185,Tryz.ntmps185
 go_wp2_with (first|(go_at_call 95;(with_reducible refine (HK.out _).mono ?_);rintro e _ ⟨rfl,hb⟩;replace hL:=hL.call hb;clear hb)|(go_at_call 193;(with_reducible refine (HW.out _).mono ?_);rintro e _ ⟨bz,bx,bv,rfl,hk⟩;replace hL:=hL.comp hk;clear hk;simp only [List.cons_append,List.nil_append] at hL)|(with_reducible first|(clear hL n1;intro b1 w1 hL)|(clear hL n2;intro b2 w2 hL)|(clear hL n3;intro b3 w3 hL)|(clear hL;intro _ hL))|((with_reducible refine wpA_lit rfl _ _ _ rfl ?_);first|refine litA1 hL ?_|refine litA2 hL ?_|refine litA3 hL ?_|refine litA4 hL ?_|refine litA6 hL ?_)|((with_reducible refine goJ rfl ?_);refine goW ?_))
 go_loopw [12,46] (fun s12 s46 wr=>∃ k:Nat,k≤W∧s46=.int .i64 k∧Holds w wr [blk bz #[.int .i64 (Z k)] 3,blk bx #[.int .i64 (X k)] 3,blk bv #[.int .i64 iw,.int .i64 ih,.int .i64 bits,.string data,.int .i64 a,.int .i64 b,.int .i64 c,.int .i64 d,.int .i64 e,.int .i64 f,.int .i64 D] 145,own w.heap.size 3 1 s12 k (numC A k)] [])
  (fun s12 s46 wr=>W-(intOf s46).toNat)
 case atStart=>exact ⟨0,by omega,rfl,(((hL.drop (.there (.there (.there .here)))).drop (.there (.there (.there .here)))).drop (.there (.there (.there .here)))).newOwn.perm (List.perm_append_singleton _ _).symm⟩
 case round =>
  clear hL
  obtain ⟨k,hk,rfl,hL⟩:=hrel
  by_cases hkt:k<W
  ·have hkb:(k:Int)<(W:Int):=by omega
   have Hn:=Lib.hid (HX.out k (by omega) hL)
   have hsw:=fun (t:Value)=>hL
   clear hsw
   go_wp2_with (first|(go_at_call 200;(with_reducible refine Hn.out.mono ?_);rintro e _ ⟨rfl,hL2⟩;replace hL:=hL2;clear hL2)|(with_reducible first|(clear hL;intro _ _ _ hL;try dsimp only at hL)|(clear hL;intro _ _ hL))|((with_reducible refine wpA_lit rfl _ _ _ rfl ?_);first|refine litA1 hL ?_|refine litA2 hL ?_|refine litA3 hL ?_|refine litA4 hL ?_|refine litA6 hL ?_)|((with_reducible refine goJ rfl ?_);refine goW ?_))
   go_roundw
   case rel =>
    rw [show numC A k++#[Value.int .i64 (A k)].toList=numC A (k+1) from numC_next A k] at hL
    exact ⟨k+1,by omega,by go_num,hL⟩
   case measure=>simp [intOf];omega
  ·have e:k=W:=by omega
   subst e
   go_wp2_with (first|(with_reducible first|(clear hL;intro _ _ _ hL;try dsimp only at hL)|(clear hL n1;intro b1 w1 hL)|(clear hL n2;intro b2 w2 hL)|(clear hL n3;intro b3 w3 hL)|(clear hL;intro _ _ hL)|(clear hL;intro _ hL))|((with_reducible refine wpA_lit rfl _ _ _ rfl ?_);first|refine litA1 hL ?_|refine litA2 hL ?_|refine litA3 hL ?_|refine litA4 hL ?_|refine litA6 hL ?_)|((with_reducible refine goJ rfl ?_);refine goW ?_))
   go_ret
   refine ⟨_,rfl,hL.below,(hL.settle (φ:=fun w=>NumsAt w _ ((List.range k).map A)) (.there (.there (.there .here))) fun w' h=>own_sliceAt h (by simp) (numC_flat A k) (by intro e he;obtain ⟨n,_,rfl⟩:=List.mem_map.1 he;rfl)).fresh⟩
open Go.RowKit
theorem flat1L {α:Type}:∀ l:List α,(l.map fun v=>[v]).flatten=l
 | []=>rfl
 | a::l=>by simp [flat1L l]
theorem rows_ownL {w:World} {B:Nat} {e:TypeId} {v:Value} {n:Nat} {xs:List Value} (h:(own B e 1 v n xs).ok w) (hn:xs.length=n) {F:Nat→List (Int × Int)} (hv:∀ i v,xs[i]?=some v→RunsAt w v (F i)) :
  RowsAt w v ((List.range n).map F):=by
 refine ⟨xs,by simp [hn],own_sliceAt (els:=xs.map fun v=>[v]) h (by simp [hn]) (flat1L xs).symm (by simp),fun i v hi=>?_⟩
 have hlt:i<n:=by rw [←hn];exact (List.getElem?_eq_some_iff.1 hi).1
 have e:((List.range n).map F).getD i []=F i:=by simp [hlt]
 rw [e]
 exact hv i v hi
theorem flat_runC (l:List (Int × Int)):((l.map runC).flatten).length=l.length*2:=by
 induction l with
 | nil=>rfl
 | cons a l ih=>simp [runC] at ih ⊢;omega
theorem last_run {p:Nat→Bool} {n k:Nat} (h:(runsTo p n).length=k+1):∃ t:Int,((runsTo p n).map runC).flatten[k*2+1]?=some (.int .i64 t)∧(t=(n:Int) ↔ 0<n∧p (n-1)=true):=by
 obtain ⟨i1,_⟩:=rruns_inv p n
 cases hr:rruns p n with
 | nil=>rw [runsTo,hr] at h;simp at h
 | cons a r =>
  obtain ⟨f,t⟩:=a
  obtain ⟨_,_,_,d⟩:=i1 f t r hr
  refine ⟨t,?_,d⟩
  have hl:r.length=k:=by rw [runsTo,hr] at h;simpa using h
  have e:runsTo p n=r.reverse++[(f,t)]:=by rw [runsTo,hr,List.reverse_cons]
  rw [e,List.map_append,List.flatten_append,List.getElem?_append_right (by rw [flat_runC];simp;omega),flat_runC]
  simp [runC,hl]
theorem grow_set {p:Nat→Bool} {n k:Nat} (hp:p n=true) (h:(runsTo p n).length=k+1) (hg:0<n∧p (n-1)=true):(runsTo p (n+1)).length=k+1∧((runsTo p n).map runC).flatten.set (k*2+1) (.int .i64 ((n:Int)+1))=((runsTo p (n+1)).map runC).flatten:=by
 obtain ⟨f,r,e1,e2⟩:=rruns_more hp hg.1 hg.2
 have r1:runsTo p n=r.reverse++[(f,(n:Int))]:=by rw [runsTo,e1,List.reverse_cons]
 have r2:runsTo p (n+1)=r.reverse++[(f,(n:Int)+1)]:=by rw [runsTo,e2,List.reverse_cons]
 have hl:r.length=k:=by rw [r1] at h;simpa using h
 rw [r1,r2]
 refine ⟨by simp [hl],?_⟩
 simp only [List.map_append,List.flatten_append]
 rw [List.set_append_right (h:=by rw [flat_runC];simp;omega),flat_runC]
 simp [runC,hl]
theorem new_run {p:Nat→Bool} {n:Nat} (hp:p n=true) (hg:¬(0<n∧p (n-1)=true)):runsTo p (n+1)=runsTo p n++[((n:Int),(n:Int)+1)]:=by
 have h0:n=0∨p (n-1)=false:=by
  rcases Nat.eq_zero_or_pos n with h|h
  ·exact .inl h
  ·refine .inr ?_
   cases hq:p (n-1) with
   | false=>rfl
   | true=>exact absurd ⟨h,hq⟩ hg
 rw [runsTo_run (e:=n+1) h0 (by omega) (fun j h1 h2=>by rw [show j=n by omega];exact hp)]
 rfl
def rowC (p:Nat→Bool) (x:Nat):List Value:=((runsTo p x).map runC).flatten
theorem rowC_new {p:Nat→Bool} {n:Nat} (hp:p n=true) (hg:¬(0<n∧p (n-1)=true)):rowC p n++[.int .i64 (n:Int),.int .i64 ((n:Int)+1)]=rowC p (n+1):=by
 unfold rowC
 rw [new_run hp hg]
 simp [runC]
def LineF (v:Value) (A:Nat→Int) (W:Nat) (w:World):Prop:=NumsAt w v ((List.range W).map A)
theorem LineF.get {w:World} {v:Value} {A:Nat→Int} {W:Nat} (h:LineF v A W w):∃ a c,v=.slice a W c∧∀ x,x<W→∃ b o,a=some ⟨b,o,none⟩∧w.cell? ⟨b,o+x,none⟩=some (.int .i64 (A x)):=by
 obtain ⟨a,c,e,_,_,h4⟩:=NumsAt.parts h
 simp only [List.length_map,List.length_range] at e h4
 refine ⟨a,c,e,fun x hx=>?_⟩
 obtain ⟨b,o,ha,hc⟩:=h4 x hx
 exact ⟨b,o,ha,by rw [hc];simp [hx]⟩
set_option maxRecDepth 100000 in
set_option maxHeartbeats 16000000 in
theorem lineSamples_calls {W H:Nat} (hs:Sides W H) (i:Img) (hl:i.data.size≤maxLen) (hi:mayImg i=true) (m:Mtx) (hm:mayMtx m=true) (hD:detM m≠0) (least:Int) (hle:least=0∨least=1) (w:World) :
  Calls Tryz.prog 181 #[.agg #[],imgV i,mtxV m,.int .i64 least,.int .i64 W,.int .i64 H] w (PixOut W H (sampP i m least) w):=by
 rcases hle with rfl|rfl
 ·have hw0:=hs.w0;have hw1:=hs.w1;have hh0:=hs.h0;have hh1:=hs.h1
  have HLn:=Lib.hid (fun w (j:Nat) (h1:j<64)=>imgLine_calls i hl hi m hm hD (16*(j:Int)+8) (by omega) W hw1 w)
  have HV:=Lib.hid (show ∀ (j x:Nat),sampP i m 0 j x=decide (0≤lineV i m (16*(j:Int)+8) x) from fun _ _=>rfl)
  generalize sampP i m 0=p at *
  obtain ⟨A,hA⟩:∃ A:Nat→Nat→Int,(fun (j:Nat)=>lineV i m (16*(j:Int)+8))=A:=⟨_,rfl⟩
  have hA2:∀ j:Nat,lineV i m (16*(j:Int)+8)=A j:=fun j=>by rw [←hA]
  simp only [hA2] at HLn HV
  clear hA hA2
  obtain ⟨iw,ih,bits,data⟩:=i
  obtain ⟨a,b,c,d,e,f⟩:=m
  unfold imgV mtxV at *
  dsimp only at *
  clear hi hm hl hD hs
  have hL:=Holds.start w
  obtain ⟨n1,n2,n3,n4,n5⟩:=tok5
  go_enter Tryz.func181,Tryz.ntmps181
  go_wp2_with (first|(with_reducible first|(clear hL;intro _ _ _ hL;try dsimp only at hL)|(clear hL n1;intro b1 w1 hL)|(clear hL n2;intro b2 w2 hL)|(clear hL n3;intro b3 w3 hL)|(clear hL n4;intro b4 w4 hL)|(clear hL n5;intro b5 w5 hL)|(clear hL;intro _ _ hL)|(clear hL;intro _ hL))|((with_reducible refine wpA_lit rfl _ _ _ rfl ?_);first|refine litA1 hL ?_|refine litA2 hL ?_|refine litA3 hL ?_|refine litA4 hL ?_|refine litA6 hL ?_)|((with_reducible refine goJ rfl ?_);refine goW ?_))
  go_loopw [33] (fun s33 wr=>∃ (j:Nat) (s:Value) (xs:List Value),j≤H∧s33=.int .i64 j∧xs.length=j∧Holds w wr [own w.heap.size 115 1 s j xs,blk b5 #[.int .i64 W,.int .i64 H,s] 39,blk b4 #[.int .i64 0,.int .i64 0,.slice none 0 0] 39,blk b3 #[.int .i64 a,.int .i64 b,.int .i64 c,.int .i64 d,.int .i64 e,.int .i64 f] 28,blk b2 #[.int .i64 iw,.int .i64 ih,.int .i64 bits,.string data] 26] [fun w=>∀ i v,xs[i]?=some v→RunsAt w v (runsTo (p i) W)])
   (fun s33 wr=>(64-intOf s33).toNat)
  case atStart=>exact ⟨0,.slice none 0 0,[],by omega,rfl,rfl,(hL.drop (.there (.there (.there (.there .here))))).newOwn.triv (fun _ i v h=>by simp at h)⟩
  case round =>
   clear hL
   obtain ⟨j,s,xs,hj,rfl,hxs,hL⟩:=hrel
   obtain ⟨sa,sc,rfl⟩:=own_slice hL .here
   have Hxs:=Lib.hid hxs;clear hxs
   by_cases hjt:j<H
   ·have hjb:(j:Int)<(H:Int):=by omega
    have HLj:=Lib.hid (fun w=>HLn.out w j (by omega))
    have HVj:=Lib.hid (fun x=>HV.out j x)
    generalize A j=Aj at *
    go_wp2_with (first|(go_at_call 185;(with_reducible refine (HLj.out _).mono ?_);rintro e _ ⟨v,rfl,hb,hf⟩;obtain ⟨la,lc,rfl,_⟩:=LineF.get hf.now;replace hL:=hL.callF hb hf;clear hb hf)|((with_reducible refine wpA_lit rfl _ _ _ rfl ?_);first|refine litA1 hL ?_|refine litA2 hL ?_|refine litA3 hL ?_|refine litA4 hL ?_|refine litA6 hL ?_)|((with_reducible refine goJ rfl ?_);refine goW ?_))
    go_loopw [16,44] (fun s16 s44 wq=>∃ x:Nat,x≤W∧s44=.int .i64 x∧Holds w wq [own w.heap.size 124 2 s16 (runsTo (p j) x).length (rowC (p j) x),own w.heap.size 115 1 (.slice sa j sc) j xs,blk b5 #[.int .i64 W,.int .i64 H,.slice sa j sc] 39,blk b4 #[.int .i64 0,.int .i64 0,.slice none 0 0] 39,blk b3 #[.int .i64 a,.int .i64 b,.int .i64 c,.int .i64 d,.int .i64 e,.int .i64 f] 28,blk b2 #[.int .i64 iw,.int .i64 ih,.int .i64 bits,.string data] 26] [LineF (.slice la W lc) Aj W,fun w=>∀ i v,xs[i]?=some v→RunsAt w v (runsTo (p i) W)])
     (fun s16 s44 wq=>(64-intOf s44).toNat)
    case atStart=>exact ⟨0,by omega,rfl,hL.newOwn⟩
    case round =>
     clear hL
     obtain ⟨x,hx,rfl,hL⟩:=hrel
     obtain ⟨ra,rc,hra⟩:=own_slice hL .here
     subst hra
     by_cases hxt:x<W
     ·have hxb:(x:Int)<(W:Int):=by omega
      obtain ⟨la2,lc2,el,hel⟩:=LineF.get hL.fact0
      obtain ⟨bl,ol,e2,c1⟩:=hel x hxt
      injection el with el1 el2 el3
      subst el1
      subst e2
      clear hel el3 el2
      have hv:=HVj.out x
      have HS:=Lib.hid (fun h:p j x=false=>runsTo_off h)
      have hlen:=runsTo_len (p j) x
      have HRl:=Lib.hid (fun k (h:(runsTo (p j) x).length=k+1)=>last_run h)
      have HRg:=Lib.hid (fun k (h1:p j x=true) (h:(runsTo (p j) x).length=k+1) h3=>grow_set h1 h h3)
      have HRn:=Lib.hid (fun (h1:p j x=true) h3=>new_run h1 h3)
      have HRm:=Lib.hid (fun (h1:p j x=true) h3=>rowC_new h1 h3)
      have hfl:(rowC (p j) x).length=(runsTo (p j) x).length*2:=flat_runC _
      cases hp:p j x with
      | false =>
       have hv2:Aj x<0:=by rw [hp] at hv;have:=of_decide_eq_false hv.symm;omega
       have HO:=Lib.hid (HS.out hp)
       clear HS HRl HRg HRn HRm hp hv hfl
       generalize Aj x=av at *
       go_wp2_with (first|(with_reducible first|(clear hL;intro _ _ _ hL;try dsimp only at hL)|(clear hL n1;intro b1 w1 hL)|(clear hL n2;intro b2 w2 hL)|(clear hL n3;intro b3 w3 hL)|(clear hL n4;intro b4 w4 hL)|(clear hL n5;intro b5 w5 hL)|(clear hL;intro _ _ hL)|(clear hL;intro _ hL))|((with_reducible refine wpA_lit rfl _ _ _ rfl ?_);first|refine litA1 hL ?_|refine litA2 hL ?_|refine litA3 hL ?_|refine litA4 hL ?_|refine litA6 hL ?_)|((with_reducible refine goJ rfl ?_);refine goW ?_))
       go_roundw
       case rel =>
        refine ⟨x+1,by omega,by go_num,?_⟩
        unfold rowC at hL ⊢
        rw [HO.out]
        exact hL
       case measure=>simp [intOf];omega
      | true =>
       have hv2:¬Aj x<0:=by rw [hp] at hv;have:=of_decide_eq_true hv.symm;omega
       have Hp:=Lib.hid hp
       clear hp hv HS
       obtain ⟨n,hn⟩:∃ n,(runsTo (p j) x).length=n:=⟨_,rfl⟩
       have Hn:=Lib.hid hn
       rw [hn] at hL hlen hfl ⊢
       clear hn
       rcases n with _|k
       ·have hg:¬(0<x∧p j (x-1)=true):=fun hg=>by
         obtain ⟨f,r,e1,_⟩:=rruns_more Hp.out hg.1 hg.2
         have:=Hn.out
         rw [runsTo,e1] at this
         simp at this
        have HO:=Lib.hid (HRn.out Hp.out hg)
        have HO2:=Lib.hid (HRm.out Hp.out hg)
        clear hg HRl HRg HRn HRm
        generalize Aj x=av at *
        go_wp2_with (first|(with_reducible first|(clear hL;intro _ _ _ hL;try dsimp only at hL)|(clear hL n1;intro b1 w1 hL)|(clear hL n2;intro b2 w2 hL)|(clear hL n3;intro b3 w3 hL)|(clear hL n4;intro b4 w4 hL)|(clear hL n5;intro b5 w5 hL)|(clear hL;intro _ _ hL)|(clear hL;intro _ hL))|((with_reducible refine wpA_lit rfl _ _ _ rfl ?_);first|refine litA1 hL ?_|refine litA2 hL ?_|refine litA3 hL ?_|refine litA4 hL ?_|refine litA6 hL ?_)|((with_reducible refine goJ rfl ?_);refine goW ?_))
        go_roundw
        case rel =>
         refine ⟨x+1,by omega,by go_num,?_⟩
         rw [←HO2.out,HO.out]
         simp only [List.length_append,List.length_cons,List.length_nil,Hn.out]
         exact hL
        case measure=>simp [intOf];omega
       ·obtain ⟨g,cap,e5⟩:=own_shape hL .here (by omega)
        cases e5
        obtain ⟨t,hc2,ht⟩:=HRl.out k Hn.out
        have c2:=hL.ownCell .here hc2
        by_cases htx:t=(x:Int)
        ·obtain ⟨q1,q2⟩:=HRg.out k Hp.out Hn.out (ht.1 htx)
         have HO:=Lib.hid q1
         have HO2:=Lib.hid (show (rowC (p j) x).set (k*2+1) (.int .i64 ((x:Int)+1))=rowC (p j) (x+1) from q2)
         subst htx
         clear q1 q2 HRl HRg HRn HRm ht hc2
         generalize Aj x=av at *
         generalize hC:rowC (p j) x=C at *
         clear hC
         go_wp2_with (first|(with_reducible first|(clear hL;intro _ _ _ hL;try dsimp only at hL)|(clear hL n1;intro b1 w1 hL)|(clear hL n2;intro b2 w2 hL)|(clear hL n3;intro b3 w3 hL)|(clear hL n4;intro b4 w4 hL)|(clear hL n5;intro b5 w5 hL)|(clear hL;intro _ _ hL)|(clear hL;intro _ hL))|((with_reducible refine wpA_lit rfl _ _ _ rfl ?_);first|refine litA1 hL ?_|refine litA2 hL ?_|refine litA3 hL ?_|refine litA4 hL ?_|refine litA6 hL ?_)|((with_reducible refine goJ rfl ?_);refine goW ?_))
         go_roundw
         case rel =>
          refine ⟨x+1,by omega,by go_num,?_⟩
          rw [←HO2.out,HO.out]
          exact hL
         case measure=>simp [intOf];omega
        ·have hg:¬(0<x∧p j (x-1)=true):=fun hg=>htx (ht.2 hg)
         have HO:=Lib.hid (HRn.out Hp.out hg)
         have HO2:=Lib.hid (HRm.out Hp.out hg)
         clear hg HRl HRg HRn HRm ht hc2
         generalize Aj x=av at *
         go_wp2_with (first|(with_reducible first|(clear hL;intro _ _ _ hL;try dsimp only at hL)|(clear hL n1;intro b1 w1 hL)|(clear hL n2;intro b2 w2 hL)|(clear hL n3;intro b3 w3 hL)|(clear hL n4;intro b4 w4 hL)|(clear hL n5;intro b5 w5 hL)|(clear hL;intro _ _ hL)|(clear hL;intro _ hL))|((with_reducible refine wpA_lit rfl _ _ _ rfl ?_);first|refine litA1 hL ?_|refine litA2 hL ?_|refine litA3 hL ?_|refine litA4 hL ?_|refine litA6 hL ?_)|((with_reducible refine goJ rfl ?_);refine goW ?_))
         go_roundw
         case rel =>
          refine ⟨x+1,by omega,by go_num,?_⟩
          rw [←HO2.out,HO.out]
          simp only [List.length_append,List.length_cons,List.length_nil,Hn.out]
          exact hL
         case measure=>simp [intOf];omega
     ·have e:x=W:=by omega
      subst e
      replace hL:=hL.settle .here (φ:=fun w=>RunsAt w (.slice ra (runsTo (p j) x).length rc) (runsTo (p j) x)) fun w' h=>own_sliceAt h (by simp) rfl (runC_len _)
      generalize (runsTo (p j) x).length=rn at *
      replace hL:=(hL.swap).forget
      go_wp2_with (first|(with_reducible first|(clear hL;intro _ _ _ hL;try dsimp only at hL)|(clear hL n1;intro b1 w1 hL)|(clear hL n2;intro b2 w2 hL)|(clear hL n3;intro b3 w3 hL)|(clear hL n4;intro b4 w4 hL)|(clear hL n5;intro b5 w5 hL)|(clear hL;intro _ _ hL)|(clear hL;intro _ hL))|((with_reducible refine wpA_lit rfl _ _ _ rfl ?_);first|refine litA1 hL ?_|refine litA2 hL ?_|refine litA3 hL ?_|refine litA4 hL ?_|refine litA6 hL ?_)|((with_reducible refine goJ rfl ?_);refine goW ?_))
      go_roundw
      case rel =>
       refine ⟨j+1,_,xs++[.slice ra rn rc],by omega,by go_num,by rw [List.length_append,Hxs.out];rfl,hL.join fun w' h1 h2 y v hi=>?_⟩
       rw [List.getElem?_append] at hi
       split at hi
       ·exact h2 y v hi
       ·have hij:y=j:=by
         have h3:=(List.getElem?_eq_some_iff.1 hi).1
         have:=Hxs.out
         simp at h3;omega
        rw [hij,←Hxs.out] at hi
        simp at hi
        subst hi
        rw [hij]
        exact h1
      case measure=>simp [intOf];omega
   ·have e:j=H:=by omega
    subst e
    go_wp2_with (first|(with_reducible first|(clear hL;intro _ _ _ hL;try dsimp only at hL)|(clear hL n1;intro b1 w1 hL)|(clear hL n2;intro b2 w2 hL)|(clear hL n3;intro b3 w3 hL)|(clear hL n4;intro b4 w4 hL)|(clear hL n5;intro b5 w5 hL)|(clear hL;intro _ _ hL)|(clear hL;intro _ hL))|((with_reducible refine wpA_lit rfl _ _ _ rfl ?_);first|refine litA1 hL ?_|refine litA2 hL ?_|refine litA3 hL ?_|refine litA4 hL ?_|refine litA6 hL ?_)|((with_reducible refine goJ rfl ?_);refine goW ?_))
    refine bodyPost_ret (results_row2 inferInstance rfl _ hL b4 rfl _ _ (.there (.there .here)) rfl) rfl ⟨_,_,_,rfl,hL.below,?_⟩
    exact ((hL.settle .here (φ:=fun w'=>(own w.heap.size 115 1 (.slice sa j sc) j xs).ok w') fun _ h=>h).join fun w' h1 h2=>⟨_,rfl,rows_ownL h1 Hxs.out h2⟩).fresh
 ·have HR:=Lib.hid (fun w=>imgRegion_calls hs i hl hi m hm hD w)
  generalize sampP i m 1=p at *
  obtain ⟨iw,ih,bits,data⟩:=i
  obtain ⟨a,b,c,d,e,f⟩:=m
  unfold imgV mtxV at *
  dsimp only at *
  clear hi hm hl hD
  have hL:=Holds.start w
  obtain ⟨n1,n2,n3,n4⟩:=tok4
  go_enter Tryz.func181,Tryz.ntmps181
  go_wp2_with (first|(go_at_call 184;(with_reducible refine (HR.out _).mono ?_);rintro e _ ⟨sa,sn,sc,rfl,hb,hf⟩;replace hL:=hL.callF hb hf;clear hb hf)|(with_reducible first|(clear hL n1;intro b1 w1 hL)|(clear hL n2;intro b2 w2 hL)|(clear hL n3;intro b3 w3 hL)|(clear hL n4;intro b4 w4 hL)|(clear hL;intro _ hL))|((with_reducible refine wpA_lit rfl _ _ _ rfl ?_);first|refine litA1 hL ?_|refine litA2 hL ?_|refine litA3 hL ?_|refine litA4 hL ?_|refine litA6 hL ?_)|((with_reducible refine goJ rfl ?_);refine goW ?_))
  refine bodyPost_ret (results_row2 inferInstance rfl _ hL b4 rfl _ _ .here rfl) rfl ⟨sa,sn,sc,rfl,hL.below,hL.fresh⟩
end Go.Proofs.YtmnoeoecjfhhbaaGreat
