/- Package wind: In, any edges. -/
import Derived.Test.YtmnoeoecjfhhbaaGreatBentS
import Derived.Test.YtmnoeoecjfhhbaaGreatWndM
namespace Go.Proofs.YtmnoeoecjfhhbaaGreat
open Go.RowKit
theorem bent_calls (e:Edg) (y:Int) (hbt:e.bent=true) (hs:Small6 e y) (w:World):Calls Tryz.prog 211 #[edgeV e,.int .i64 y] w fun r w'=>r=.returned (.agg #[.int .i64 (spt1 e y).turn,.int .i64 (spt1 e y).p,.int .i64 (spt1 e y).q,.int .i64 (spt1 e y).d,.int .i64 (spt1 e y).m,.int .i64 (spt2 e y).turn,.int .i64 (spt2 e y).p,.int .i64 (spt2 e y).q,.int .i64 (spt2 e y).d,.int .i64 (spt2 e y).m])∧Below w.heap.size w w':=by
 by_cases hz:bA e=0∨bB e*bB e-bA e*bC e y<0∨(bB e*bB e-bA e*bC e y=0∧bA e<0)
 ·exact bentZ_calls e y hbt hs hz w
 ·have hd:0≤bB e*bB e-bA e*bC e y:=by omega
  rcases (by omega:(bA e<0∧bB e*bB e-bA e*bC e y≠0)∨(0<bA e∧bB e*bB e-bA e*bC e y=0)∨(0<bA e∧bB e*bB e-bA e*bC e y≠0)) with ⟨h1,h2⟩|⟨h1,h2⟩|⟨h1,h2⟩
  ·exact bentA_calls e y hbt hs hd h1 (by simpa using h2) w
  ·exact bentB_calls e y hbt hs hd h1 (by simpa using h2) w
  ·exact bentC_calls e y hbt hs hd h1 (by simpa using h2) w
theorem noSpt_fit {x:Int} (h0 : -8191≤x) (h1:x≤8191):FitAt noSpt x:=⟨h0,h1,by decide,by decide,by decide,by decide,by decide,by decide,by decide,by decide⟩
theorem even_fit {b c ax bx x0 x:Int} (hb:EvOk b c ax bx x0) (h0 : -8191≤x) (h1:x≤8191):FitAt (evenS b c ax bx x0) x:=by
 obtain ⟨b0,b1,c0,c1,a0,a1,e0,e1,x0',x1'⟩:=hb
 obtain ⟨k1,k2⟩:=mul_bd (a:=4*b) (b:=b) (A:=65528) (B:=16382) (by omega) (by omega) (by omega) (by omega)
 obtain ⟨k3,k4⟩:=mul_bd (a:=4*b*b) (b:=x0) (A:=1073479696) (B:=8191) (by omega) (by omega) (by omega) (by omega)
 obtain ⟨k5,k6⟩:=mul_bd (a:=4*b) (b:=c) (A:=65528) (B:=16382) (by omega) (by omega) (by omega) (by omega)
 obtain ⟨k7,k8⟩:=mul_bd (a:=4*b*c) (b:=bx) (A:=1073479696) (B:=16382) (by omega) (by omega) (by omega) (by omega)
 obtain ⟨k9,k10⟩:=mul_bd (a:=ax) (b:=c) (A:=32764) (B:=16382) (by omega) (by omega) (by omega) (by omega)
 obtain ⟨k11,k12⟩:=mul_bd (a:=ax*c) (b:=c) (A:=536739848) (B:=16382) (by omega) (by omega) (by omega) (by omega)
 unfold evenS evP
 split
 ·exact ⟨h0,h1,by dsimp only;omega,by dsimp only;omega,by dsimp only;omega,by dsimp only;omega,by dsimp only;omega,by dsimp only;omega,by dsimp only;omega,by dsimp only;omega⟩
 ·split
  ·exact ⟨h0,h1,by dsimp only;omega,by dsimp only;omega,by dsimp only;omega,by dsimp only;omega,by dsimp only;omega,by dsimp only;omega,by dsimp only;omega,by dsimp only;omega⟩
  ·exact noSpt_fit h0 h1
theorem one_fit {s x0 a b d ax bx x:Int} (hs:s=1∨s = -1) (hb:BOk x0 a b d ax bx) (hbb:b*b+d≤1073479696) (h0 : -8191≤x) (h1:x≤8191):FitAt (oneS s x0 a b d ax bx) x:=by
 obtain ⟨b0,b1,a0,a1,ax0,ax1,bx0,bx1,f0,f1,d0,d1⟩:=hb
 obtain ⟨j1,j2⟩:=mul_bd (a:=b) (b:=b) (A:=16382) (B:=16382) (by omega) (by omega) (by omega) (by omega)
 obtain ⟨m1,m2⟩:=mul_bd (a:=x0) (b:=a) (A:=8191) (B:=32764) (by omega) (by omega) (by omega) (by omega)
 obtain ⟨m3,m4⟩:=mul_bd (a:=x0*a) (b:=a) (A:=268369924) (B:=32764) (by omega) (by omega) (by omega) (by omega)
 obtain ⟨m5,m6⟩:=mul_bd (a:=2*a) (b:=b) (A:=65528) (B:=16382) (by omega) (by omega) (by omega) (by omega)
 obtain ⟨m7,m8⟩:=mul_bd (a:=2*a*b) (b:=bx) (A:=1073479696) (B:=16382) (by omega) (by omega) (by omega) (by omega)
 obtain ⟨m9,m10⟩:=mul_bd (a:=ax) (b:=b*b+d) (A:=32764) (B:=1073479696) (by omega) (by omega) (by omega) (by omega)
 obtain ⟨m11,m12⟩:=mul_bd (a:=2*a) (b:=bx) (A:=65528) (B:=16382) (by omega) (by omega) (by omega) (by omega)
 obtain ⟨m13,m14⟩:=mul_bd (a:=2*b) (b:=ax) (A:=32764) (B:=32764) (by omega) (by omega) (by omega) (by omega)
 obtain ⟨m15,m16⟩:=mul_bd (a:=a) (b:=a) (A:=32764) (B:=32764) (by omega) (by omega) (by omega) (by omega)
 unfold oneS oneP oneQ
 split
 ·exact noSpt_fit h0 h1
 ·rcases hs with rfl|rfl
  ·rw [Int.one_mul]
   exact ⟨h0,h1,by dsimp only;omega,by dsimp only;omega,by dsimp only;omega,by dsimp only;omega,by dsimp only;omega,by dsimp only;omega,by dsimp only;omega,by dsimp only;omega⟩
  ·rw [Int.neg_one_mul]
   exact ⟨h0,h1,by dsimp only;omega,by dsimp only;omega,by dsimp only;omega,by dsimp only;omega,by dsimp only;omega,by dsimp only;omega,by dsimp only;omega,by dsimp only;omega⟩
theorem spt_fit {e:Edg} {y x:Int} (hs:Small6 e y) (h0 : -8191≤x) (h1:x≤8191):FitAt (spt1 e y) x∧FitAt (spt2 e y) x:=by
 obtain ⟨a0,a1,b0,b1,c0,c1,d0,d1,e0,e1,f0,f1,g0,g1⟩:=hs
 unfold spt1 spt2
 cases e.bent with
 | false =>
  obtain ⟨_,⟨p1,p2⟩,⟨m1,m2⟩⟩:=sp_bounds (e:=e) (y:=y) ⟨a0,a1,b0,b1,e0,e1,f0,f1,g0,g1⟩
  simp only [Bool.false_eq_true,if_false]
  exact ⟨⟨h0,h1,by dsimp only;omega,by dsimp only;omega,by dsimp only;omega,by dsimp only;omega,by dsimp only;omega,by dsimp only;omega,by dsimp only;omega,by dsimp only;omega⟩,noSpt_fit h0 h1⟩
 | true =>
  have ha : -32764≤bA e∧bA e≤32764:=by unfold bA;omega
  have hb : -16382≤bB e∧bB e≤16382:=by unfold bB;omega
  have hc : -16382≤bC e y∧bC e y≤16382:=by unfold bC;omega
  have hax : -32764≤bAX e∧bAX e≤32764:=by unfold bAX;omega
  have hbx : -16382≤bBX e∧bBX e≤16382:=by unfold bBX;omega
  obtain ⟨k1,k2⟩:=mul_bd (a:=bB e) (b:=bB e) (A:=16382) (B:=16382) (by omega) (by omega) (by omega) (by omega)
  obtain ⟨k3,k4⟩:=mul_bd (a:=bA e) (b:=bC e y) (A:=32764) (B:=16382) (by omega) (by omega) (by omega) (by omega)
  simp only [if_true]
  unfold bent1 bent2
  by_cases hz:bA e=0
  ·rw [if_pos hz,if_pos hz]
   exact ⟨even_fit ⟨hb.1,hb.2,hc.1,hc.2,hax.1,hax.2,hbx.1,hbx.2,a0,a1⟩ h0 h1,noSpt_fit h0 h1⟩
  ·rw [if_neg hz,if_neg hz]
   by_cases hd:bB e*bB e-bA e*bC e y<0∨(bB e*bB e-bA e*bC e y=0∧bA e<0)
   ·rw [if_pos hd,if_pos hd]
    exact ⟨noSpt_fit h0 h1,noSpt_fit h0 h1⟩
   ·rw [if_neg hd,if_neg hd]
    have hB:BOk e.x0 (bA e) (bB e) (bB e*bB e-bA e*bC e y) (bAX e) (bBX e):=⟨hb.1,hb.2,ha.1,ha.2,hax.1,hax.2,hbx.1,hbx.2,a0,a1,by omega,by omega⟩
    exact ⟨one_fit (.inl rfl) hB (by omega) h0 h1,one_fit (.inr rfl) hB (by omega) h0 h1⟩
theorem spt_turn (e:Edg) (y:Int):(-1≤(spt1 e y).turn∧(spt1 e y).turn≤1)∧(-1≤(spt2 e y).turn∧(spt2 e y).turn≤1):=by
 unfold spt1 spt2 bent1 bent2 evenS oneS spT
 constructor <;> (repeat' split) <;> first|(dsimp only [noSpt];omega)|(dsimp only;(repeat' split) <;> omega)
set_option maxRecDepth 100000 in
set_option maxHeartbeats 1000000 in
theorem spotsG_calls (e:Edg) (y:Int) (hs:Small6 e y) (w:World):Calls Tryz.prog 203 #[edgeV e,.int .i64 y] w fun r w'=>r=.returned (.agg #[.int .i64 (spt1 e y).turn,.int .i64 (spt1 e y).p,.int .i64 (spt1 e y).q,.int .i64 (spt1 e y).d,.int .i64 (spt1 e y).m,.int .i64 (spt2 e y).turn,.int .i64 (spt2 e y).p,.int .i64 (spt2 e y).q,.int .i64 (spt2 e y).d,.int .i64 (spt2 e y).m])∧Below w.heap.size w w':=by
 cases hb:e.bent with
 | false =>
  refine (spots_calls e hb y ⟨hs.a0,hs.a1,hs.b0,hs.b1,hs.e0,hs.e1,hs.f0,hs.f1,hs.g0,hs.g1⟩ w).mono ?_
  rintro r w' ⟨rfl,hB⟩
  have e1:spt1 e y=⟨spT e y,spP e y,0,0,spM e y⟩:=by unfold spt1;rw [hb];rfl
  have e2:spt2 e y=noSpt:=by unfold spt2;rw [hb];rfl
  rw [e1,e2]
  exact ⟨rfl,hB⟩
 | true =>
  have hL:=Holds.start w
  have HB:=Lib.hid (fun w=>bent_calls e y hb hs w)
  obtain ⟨x0,y0,bt,cx,cy,x1,y1⟩:=e
  dsimp only at hb
  subst hb
  generalize spt1 ⟨x0,y0,true,cx,cy,x1,y1⟩ y=t1 at *
  generalize spt2 ⟨x0,y0,true,cx,cy,x1,y1⟩ y=t2 at *
  clear hs
  unfold edgeV at *
  dsimp only at *
  obtain ⟨n1,n2⟩:=tok2
  go_enter Tryz.func203,Tryz.ntmps203
  go_wp2_with (first|(go_at_call 211;(with_reducible refine (HB.out _).mono ?_);rintro e _ ⟨rfl,hb⟩;replace hL:=hL.call hb;clear hb)|(with_reducible first|(clear hL n1;intro b1 w1 hL)|(clear hL n2;intro b2 w2 hL)|(clear hL;intro _ hL))|((with_reducible refine goJ rfl ?_);refine goW ?_))
  exact bodyPost_ret (results_row inferInstance rfl _ hL b2 rfl _ _ .here rfl) rfl ⟨rfl,hL.below⟩
open Go.RowKit
def hitT (s:Spt) (x:Int):Int:=if s.turn≠0∧0<sgR (s.p-x*s.m) s.q s.d then s.turn else 0
def turnG (e:Edg) (x y:Int):Int:=if mayE e&&(near1 x&&near1 y) then hitT (spt1 e y) x+hitT (spt2 e y) x else 0
theorem FitAt.fit {s:Spt} {x:Int} (h:FitAt s x):Fit (s.p-x*s.m) s.q s.d:=by
 obtain ⟨x0,x1,p0,p1,q0,q1,d0,d1,m0,m1⟩:=h
 obtain ⟨k1,k2⟩:=mul_bd (a:=x) (b:=s.m) (A:=8191) (B:=2147483648) (by omega) (by omega) (by omega) (by omega)
 exact ⟨by omega,by omega,q0,q1,d0,d1⟩
theorem hitT_bd (s:Spt) (x:Int) (h : -1≤s.turn∧s.turn≤1) : -1≤hitT s x∧hitT s x≤1:=by unfold hitT;split <;> omega
set_option maxRecDepth 100000 in
set_option maxHeartbeats 4000000 in
theorem turnsG_calls (e:Edg) (x y:Int) (w:World):Calls Tryz.prog 240 #[edgeV e,.int .i64 x,.int .i64 y] w fun r w'=>r=.returned (.int .i64 (turnG e x y))∧Below w.heap.size w w':=by
 have hL:=Holds.start w
 have HM:=Lib.hid (fun w=>bowMay_calls e w)
 cases hm:mayE e with
 | false =>
  have HR:=Lib.hid (show turnG e x y=0 by unfold turnG;rw [hm];rfl)
  rw [hm] at HM
  clear hm
  generalize turnG e x y=T at *
  obtain ⟨ex0,ey0,bt,ecx,ecy,ex1,ey1⟩:=e
  unfold edgeV at *
  dsimp only at *
  obtain ⟨n1,n2,n3⟩:=tok3
  go_enter Tryz.func240,Tryz.ntmps240
  go_wp2_with (first|(go_at_call 201;(with_reducible refine (HM.out _).mono ?_);rintro e _ ⟨rfl,hb⟩;replace hL:=hL.call hb;clear hb)|(with_reducible (clear hL n1;intro b1 w1 hL))|((with_reducible refine wpA_lit rfl _ _ _ rfl ?_);first|refine litA1 hL ?_|refine litA2 hL ?_|refine litA3 hL ?_|refine litA4 hL ?_|refine litA6 hL ?_)|((with_reducible refine goJ rfl ?_);refine goW ?_))
  go_ret
  exact ⟨ret_int HR.out.symm,hL.below⟩
 | true =>
  cases hn:[x,y].all near1 with
  | false =>
   have HR:=Lib.hid (show turnG e x y=0 by
    unfold turnG
    rw [if_neg]
    simp only [List.all_cons,List.all_nil,Bool.and_true] at hn
    rw [hn];simp)
   have Hn:=Lib.hid hn;clear hn
   rw [hm] at HM
   clear hm
   generalize turnG e x y=T at *
   obtain ⟨ex0,ey0,bt,ecx,ecy,ex1,ey1⟩:=e
   unfold edgeV at *
   dsimp only at *
   obtain ⟨n1,n2,n3⟩:=tok3
   go_enter Tryz.func240,Tryz.ntmps240
   go_wp2_with (first|(go_at_call 201;(with_reducible refine (HM.out _).mono ?_);rintro e _ ⟨rfl,hb⟩;replace hL:=hL.call hb;clear hb)|(go_at_call 202;(refine (near_calls _ _ [x,y] (hL.numsLit [x,y] atO (by rfl))).mono ?_);rintro e _ ⟨rfl,hb⟩;rw [Hn.out];replace hL:=hL.call hb;clear hb)|(with_reducible first|(clear hL n1;intro b1 w1 hL)|(clear hL n2;intro b2 w2 hL))|((with_reducible refine wpA_lit rfl _ _ _ rfl ?_);first|refine litA1 hL ?_|refine litA2 hL ?_|refine litA3 hL ?_|refine litA4 hL ?_|refine litA6 hL ?_)|((with_reducible refine goJ rfl ?_);refine goW ?_))
   go_ret
   exact ⟨ret_int HR.out.symm,hL.below⟩
  | true =>
   have hxy:near1 x=true∧near1 y=true:=by simpa using hn
   have hs:=small6_of hm hxy.2
   have HR:=Lib.hid (show turnG e x y=hitT (spt1 e y) x+hitT (spt2 e y) x by unfold turnG;rw [hm,hxy.1,hxy.2];rfl)
   have HS:=Lib.hid (fun w=>spotsG_calls e y hs w)
   have hx : -8191≤x∧x≤8191:=by simpa [near1] using hxy.1
   obtain ⟨x1,x2⟩:=hx
   have hft:=spt_fit hs x1 x2
   have htr:=spt_turn e y
   have Hn:=Lib.hid hn;clear hn
   rw [hm] at HM
   clear hm hs hxy
   generalize turnG e x y=T at *
   generalize spt1 e y=t1 at *
   generalize spt2 e y=t2 at *
   have HF1:=Lib.hid hft.1
   have HF2:=Lib.hid hft.2
   obtain ⟨k1,k2⟩:=mul_bd (a:=x) (b:=t1.m) (A:=8191) (B:=2147483648) (by omega) (by omega) (by have:=hft.1.m0;omega) (by have:=hft.1.m1;omega)
   obtain ⟨k3,k4⟩:=mul_bd (a:=x) (b:=t2.m) (A:=8191) (B:=2147483648) (by omega) (by omega) (by have:=hft.2.m0;omega) (by have:=hft.2.m1;omega)
   have p1:=hft.1.p0
   have p2:=hft.1.p1
   have p3:=hft.2.p0
   have p4:=hft.2.p1
   have h1:=hitT_bd t1 x htr.1
   obtain ⟨⟨u1,u2⟩,⟨u3,u4⟩⟩:=htr
   obtain ⟨h1,h2⟩:=h1
   clear hft
   obtain ⟨ex0,ey0,bt,ecx,ecy,ex1,ey1⟩:=e
   unfold edgeV at *
   dsimp only at *
   obtain ⟨n1,n2,n3⟩:=tok3
   go_enter Tryz.func240,Tryz.ntmps240
   go_wp2_with (first|(go_at_call 201;(with_reducible refine (HM.out _).mono ?_);rintro e _ ⟨rfl,hb⟩;replace hL:=hL.call hb;clear hb)|(go_at_call 202;(refine (near_calls _ _ [x,y] (hL.numsLit [x,y] atO (by rfl))).mono ?_);rintro e _ ⟨rfl,hb⟩;rw [Hn.out];replace hL:=hL.call hb;clear hb)|(go_at_call 203;(with_reducible refine (HS.out _).mono ?_);rintro e _ ⟨rfl,hb⟩;replace hL:=hL.call hb;clear hb)|(with_reducible first|(clear hL n1;intro b1 w1 hL)|(clear hL n2;intro b2 w2 hL))|((with_reducible refine wpA_lit rfl _ _ _ rfl ?_);first|refine litA1 hL ?_|refine litA2 hL ?_|refine litA3 hL ?_|refine litA4 hL ?_|refine litA6 hL ?_)|((with_reducible refine goJ rfl ?_);refine goW ?_))
   go_loopw [7,23] (fun s7 s23 wr=>∃ k:Nat,k≤2∧s23=.int .i64 k∧s7=.int .i64 (if k=0 then 0 else if k=1 then hitT t1 x else hitT t1 x+hitT t2 x)∧Holds w wr [] [])
    (fun s7 s23 wr=>2-(intOf s23).toNat)
   case atStart=>exact ⟨0,by omega,rfl,rfl,(hL.drop .here).drop .here⟩
   case round =>
    clear hL
    obtain ⟨k,hk,rfl,rfl,hL⟩:=hrel
    rcases (by omega:k=0∨k=1∨k=2) with rfl|rfl|rfl
    ·simp only [if_true]
     rcases (by omega:t1.turn=0∨t1.turn≠0) with ht|ht
     ·have d1:(t1.turn != 0)=false:=by simp [ht]
      have HR0:=Lib.hid (show hitT t1 x=0 by unfold hitT;rw [if_neg (fun h=>h.1 ht)])
      clear ht
      obtain ⟨n1,n2,n3⟩:=tok3
      go_wp2_with (first|((with_reducible refine wpA_index rfl _ _ _ rfl _ rfl _ rfl ?_);refine indexS ?_)|(with_reducible first|(clear hL n1;intro b1 w1 hL)|(clear hL;intro _ hL))|((with_reducible refine wpA_lit rfl _ _ _ rfl ?_);first|refine litA1 hL ?_|refine litA2 hL ?_|refine litA3 hL ?_|refine litA4 hL ?_|refine litA6 hL ?_)|((with_reducible refine goJ rfl ?_);refine goW ?_))
      go_roundw
      case rel=>exact ⟨1,by omega,rfl,by (rw [if_neg (by omega),if_pos rfl,HR0.out]),hL.drop .here⟩
      case measure=>simp [intOf]
     ·have d1:(t1.turn != 0)=true:=by simp [ht]
      have HHt:=Lib.hid (show ∀ v,sgR (t1.p-x*t1.m) t1.q t1.d=v→hitT t1 x=if 0<v then t1.turn else 0 from fun v hv=>by
       unfold hitT
       subst hv
       by_cases hp:0<sgR (t1.p-x*t1.m) t1.q t1.d
       ·rw [if_pos ⟨ht,hp⟩,if_pos hp]
       ·rw [if_neg (fun h=>hp h.2),if_neg hp])
      clear ht
      obtain ⟨v,hv⟩:∃ v,sgR (t1.p-x*t1.m) t1.q t1.d=v:=⟨_,rfl⟩
      have hsg:=fun w=>bowSign_calls (t1.p-x*t1.m) t1.q t1.d (HF1.out.fit) w
      rw [hv] at hsg
      have HSG:=Lib.hid hsg
      have HV:=Lib.hid (HHt.out v hv)
      clear hsg hv HHt
      rcases (by omega:0<v∨¬0<v) with hp|hp
      all_goals
       obtain ⟨n1,n2,n3⟩:=tok3
       go_wp2_with (first|((with_reducible refine wpA_index rfl _ _ _ rfl _ rfl _ rfl ?_);refine indexS ?_)|(go_at_call 219;(with_reducible refine (HSG.out _).mono ?_);rintro e _ ⟨rfl,hb⟩;replace hL:=hL.call hb;clear hb)|(with_reducible first|(clear hL n1;intro b1 w1 hL)|(clear hL;intro _ hL))|((with_reducible refine wpA_lit rfl _ _ _ rfl ?_);first|refine litA1 hL ?_|refine litA2 hL ?_|refine litA3 hL ?_|refine litA4 hL ?_|refine litA6 hL ?_)|((with_reducible refine goJ rfl ?_);refine goW ?_))
       go_roundw
       case rel=>exact ⟨1,by omega,rfl,by (rw [if_neg (by omega),if_pos rfl,HV.out];first|rw [if_pos hp]|rw [if_neg (by omega)]),hL.drop .here⟩
       case measure=>simp [intOf]
    ·rw [if_neg (by omega),if_pos rfl]
     rcases (by omega:t2.turn=0∨t2.turn≠0) with ht|ht
     ·have d1:(t2.turn != 0)=false:=by simp [ht]
      have HR0:=Lib.hid (show hitT t2 x=0 by unfold hitT;rw [if_neg (fun h=>h.1 ht)])
      clear ht
      obtain ⟨n1,n2,n3⟩:=tok3
      go_wp2_with (first|((with_reducible refine wpA_index rfl _ _ _ rfl _ rfl _ rfl ?_);refine indexS ?_)|(with_reducible first|(clear hL n1;intro b1 w1 hL)|(clear hL;intro _ hL))|((with_reducible refine wpA_lit rfl _ _ _ rfl ?_);first|refine litA1 hL ?_|refine litA2 hL ?_|refine litA3 hL ?_|refine litA4 hL ?_|refine litA6 hL ?_)|((with_reducible refine goJ rfl ?_);refine goW ?_))
      go_roundw
      case rel=>exact ⟨2,by omega,rfl,by (rw [if_neg (by omega),if_neg (by omega),HR0.out,Int.add_zero]),hL.drop .here⟩
      case measure=>simp [intOf]
     ·have d1:(t2.turn != 0)=true:=by simp [ht]
      have HHt:=Lib.hid (show ∀ v,sgR (t2.p-x*t2.m) t2.q t2.d=v→hitT t2 x=if 0<v then t2.turn else 0 from fun v hv=>by
       unfold hitT
       subst hv
       by_cases hp:0<sgR (t2.p-x*t2.m) t2.q t2.d
       ·rw [if_pos ⟨ht,hp⟩,if_pos hp]
       ·rw [if_neg (fun h=>hp h.2),if_neg hp])
      clear ht
      obtain ⟨v,hv⟩:∃ v,sgR (t2.p-x*t2.m) t2.q t2.d=v:=⟨_,rfl⟩
      have hsg:=fun w=>bowSign_calls (t2.p-x*t2.m) t2.q t2.d (HF2.out.fit) w
      rw [hv] at hsg
      have HSG:=Lib.hid hsg
      have HV:=Lib.hid (HHt.out v hv)
      clear hsg hv HHt
      rcases (by omega:0<v∨¬0<v) with hp|hp
      all_goals
       obtain ⟨n1,n2,n3⟩:=tok3
       go_wp2_with (first|((with_reducible refine wpA_index rfl _ _ _ rfl _ rfl _ rfl ?_);refine indexS ?_)|(go_at_call 219;(with_reducible refine (HSG.out _).mono ?_);rintro e _ ⟨rfl,hb⟩;replace hL:=hL.call hb;clear hb)|(with_reducible first|(clear hL n1;intro b1 w1 hL)|(clear hL;intro _ hL))|((with_reducible refine wpA_lit rfl _ _ _ rfl ?_);first|refine litA1 hL ?_|refine litA2 hL ?_|refine litA3 hL ?_|refine litA4 hL ?_|refine litA6 hL ?_)|((with_reducible refine goJ rfl ?_);refine goW ?_))
       go_roundw
       case rel=>exact ⟨2,by omega,rfl,by (rw [if_neg (by omega),if_neg (by omega),HV.out];first|rw [if_pos hp]|rw [if_neg (by omega),Int.add_zero]),hL.drop .here⟩
       case measure=>simp [intOf]
    ·rw [if_neg (by omega),if_neg (by omega)]
     go_wp2_with (first|(with_reducible first|(clear hL n1;intro b1 w1 hL)|(clear hL n2;intro b2 w2 hL)|(clear hL n3;intro b3 w3 hL)|(clear hL;intro _ _ hL)|(clear hL;intro _ hL))|((with_reducible refine wpA_lit rfl _ _ _ rfl ?_);first|refine litA1 hL ?_|refine litA2 hL ?_|refine litA3 hL ?_|refine litA4 hL ?_|refine litA6 hL ?_)|((with_reducible refine goJ rfl ?_);refine goW ?_))
     go_ret
     exact ⟨ret_int HR.out.symm,hL.below⟩
open Go.RowKit
def windG (l:List Edg) (x y:Int):Int:=(l.map fun e=>turnG e x y).sum
theorem turnG_bd (e:Edg) (x y:Int) : -2≤turnG e x y∧turnG e x y≤2:=by
 have h:=spt_turn e y
 have h1:=hitT_bd _ x h.1
 have h2:=hitT_bd _ x h.2
 unfold turnG;split <;> omega
theorem windG_step {l:List Edg} {k:Nat} (h:k<l.length) (x y:Int):windG (l.take (k+1)) x y=windG (l.take k) x y+turnG (l.getD k default) x y:=by
 unfold windG
 rw [List.take_succ_eq_append_getElem h,List.map_append,List.sum_append]
 simp [h]
theorem windG_bd (x y:Int):∀ l:List Edg,-(2*(l.length:Int))≤windG l x y∧windG l x y≤2*l.length
 | []=>by simp [windG]
 | e::l=>by
  have h1:=windG_bd x y l
  have h2:=turnG_bd e x y
  have h3:windG (e::l) x y=turnG e x y+windG l x y:=by simp [windG]
  rw [h3,List.length_cons]
  omega
set_option maxRecDepth 100000 in
set_option maxHeartbeats 2000000 in
theorem pointAddG_calls (w:World) (b:Nat) (x y n:Int) (T':TypeId) (hp:w.heap[b]?=some (.cells #[.int .i64 x,.int .i64 y,.int .i64 n] T' (0,0))) (e:Edg) (hn1 : -4611686018427387904≤n) (hn2:n≤4611686018427387904) :
  Calls Tryz.prog 237 #[.pointer (some ⟨b,0,none⟩),edgeV e] w fun r w'=>r=.returned (.tuple #[])∧∃ w1,Below w.heap.size w w1∧w'=w1.setCell ⟨b,2,none⟩ (.int .i64 (n+turnG e x y)):=by
 have hblt:b<w.heap.size:=(Array.getElem?_eq_some_iff.1 hp).1
 have q0:w.cell? ⟨b,0,none⟩=some (.int .i64 x):=(cell_of_row w b 0 _ T' (0,0) hp).trans rfl
 have q1:w.cell? ⟨b,1,none⟩=some (.int .i64 y):=(cell_of_row w b 1 _ T' (0,0) hp).trans rfl
 have q2:w.cell? ⟨b,2,none⟩=some (.int .i64 n):=(cell_of_row w b 2 _ T' (0,0) hp).trans rfl
 have HT:=Lib.hid (fun w=>turnsG_calls e x y w)
 have hbd:=turnG_bd e x y
 obtain ⟨d1,d2⟩:=hbd
 generalize turnG e x y=T at *
 obtain ⟨ex0,ey0,bt,ecx,ecy,ex1,ey1⟩:=e
 unfold edgeV at *
 dsimp only at HT
 have hL:=Holds.start w
 have Hp:=Lib.hid hp;clear hp
 have n1:True:=trivial
 go_enter Tryz.func237,Tryz.ntmps237
 go_wp2_with (first|(with_reducible (clear hL n1;intro b1 w1 hL))|((with_reducible refine goJ rfl ?_);refine goW ?_))
 have hK:=(Holds.start w1).drew
 have r0:=hL.old q0
 have r1:=hL.old q1
 have r2:=hL.old q2
 have r3:w1.rangeAt b1 0 [.int .i64 ex0,.int .i64 ey0,.bool bt,.int .i64 ecx,.int .i64 ecy,.int .i64 ex1,.int .i64 ey1]:=fun j v hj=>by
  rw [Nat.zero_add,hL.cell .here];simpa using hj
 clear q0 q1 q2
 have hwr:IntKind.i64.wrap (n+T)=n+T:=by rw [IntKind.wrap_i64];omega
 refine wpM_begin (by kernel_rfl) (fun w'=>Below w1.heap.size w1 w') 17 ?_
 refine dsM 0 (.pointer (some ⟨b,0,none⟩)) hK.below ?_
 refine dsM 1 (.pointer (some ⟨b,0,none⟩)) hK.below ?_
 refine dsM 2 (.pointer (some ⟨b,2,none⟩)) hK.below ?_
 refine drM 3 (.int .i64 n) hK.below ?_ ?_;(· exact fun w' hw=>(load_cell (cell_later hw r2)))
 refine drM 4 (.agg #[.int .i64 ex0,.int .i64 ey0,.bool bt,.int .i64 ecx,.int .i64 ecy,.int .i64 ex1,.int .i64 ey1]) hK.below ?_ ?_;(· exact fun w' hw=>(load_range rfl (rangeAt_below r3 hw)))
 refine dsM 5 (.pointer (some ⟨b,0,none⟩)) hK.below ?_
 refine dsM 6 (.pointer (some ⟨b,0,none⟩)) hK.below ?_
 refine dsM 7 (.pointer (some ⟨b,0,none⟩)) hK.below ?_
 refine drM 8 (.int .i64 x) hK.below ?_ ?_;(· exact fun w' hw=>(load_cell (cell_later hw r0)))
 refine dsM 9 (.pointer (some ⟨b,0,none⟩)) hK.below ?_
 refine dsM 10 (.pointer (some ⟨b,0,none⟩)) hK.below ?_
 refine dsM 11 (.pointer (some ⟨b,1,none⟩)) hK.below ?_
 refine drM 12 (.int .i64 y) hK.below ?_ ?_;(· exact fun w' hw=>(load_cell (cell_later hw r1)))
 refine wpM_one (i:=13) (by kernel_rfl) (wpOf ?_)
 refine st_call rfl 240 #[.agg #[.int .i64 ex0,.int .i64 ey0,.bool bt,.int .i64 ecx,.int .i64 ecy,.int .i64 ex1,.int .i64 ey1],.int .i64 x,.int .i64 y] (by go_simp) (HT.out _) ?_
 rintro e w5 ⟨rfl,hb⟩
 replace hK:=hK.call hb
 clear hb
 refine ⟨_,rfl,fun _=>hK.below,?_⟩
 simp only [Act.put,setP]
 refine dsM 14 (.int .i64 (n+T)) hK.below ?_
 refine stO (i:=15) (.pointer (some ⟨b,0,none⟩)) hK.below ?_ ?_;(· exact fun w'=>(by go_simp));simp only [Act.put,setP]
 refine dsM 16 (.pointer (some ⟨b,2,none⟩)) hK.below ?_
 have hB:Below w.heap.size w w5:=hL.below.trans (hK.below.mono hL.size)
 refine wpM_one (i:=17) (by kernel_rfl) (wpOf ?_)
 refine st_store rfl _ _ _ rfl ⟨b,2,none⟩ rfl (.int .i64 (n+T)) rfl (storeAt_old rfl rfl ((hB.block b hblt).trans Hp.out) (by simp) ?_)
 refine ⟨fun h=>absurd rfl h,wpM_done (by kernel_rfl) ?_⟩
 simp only [Act.put]
 go_wp2
 exact bodyPost_end (results_none rfl _ _ _) rfl ⟨rfl,w5,hB,rfl⟩
set_option maxRecDepth 100000 in
set_option maxHeartbeats 2000000 in
theorem windAtG_calls (w:World) (v:Value) (l:List Edg) (hv:EdgesAt w v l) (hlen:l.length≤1152921504606846976) (x y:Int) :
  Calls Tryz.prog 235 #[v,.int .i64 x,.int .i64 y] w fun r w'=>r=.returned (.int .i64 (windG l x y))∧Below w.heap.size w w':=by
 obtain ⟨a,cap,rfl,hlc,hcm,hel⟩:=hv.parts
 clear hv
 unfold maxLen at hcm
 have Hel:=Lib.hid hel;clear hel
 have hL:=Holds.start w
 have n1:True:=trivial
 go_enter Tryz.func235,Tryz.ntmps235
 go_wp2_with (first|(with_reducible (clear hL n1;intro b1 w1 hL))|((with_reducible refine goJ rfl ?_);refine goW ?_))
 generalize b1=bp at *
 go_loopw [19] (fun s19 wr=>∃ (k:Nat),k≤l.length∧s19=.int .i64 k∧Holds w wr [blk bp #[.int .i64 x,.int .i64 y,.int .i64 (windG (l.take k) x y)] 283] [])
  (fun s19 wr=>l.length-(intOf s19).toNat)
 case atStart=>exact ⟨0,by omega,rfl,hL⟩
 case round =>
  clear hL
  obtain ⟨k,hk,rfl,hL⟩:=hrel
  by_cases hkt:k<l.length
  ·obtain ⟨b,o,rfl,hc⟩:=Hel.out k hkt
   have hstep:=windG_step hkt x y
   have hbd:=windG_bd x y (l.take k)
   rw [List.length_take] at hbd
   have hlk:((min k l.length:Nat):Int)≤l.length:=by omega
   have hpa:=fun w0 hp hn1 hn2=>pointAddG_calls w0 bp x y (windG (l.take k) x y) 283 hp (l.getD k default) hn1 hn2
   have Hstep:=Lib.hid hstep;clear hstep
   generalize windG (l.take k) x y=S0 at *
   generalize l.getD k default=e at *
   obtain ⟨ex0,ey0,bt,ecx,ecy,ex1,ey1⟩:=e
   unfold edgeV at hpa
   unfold edgeC at hc
   dsimp only at hpa hc
   generalize turnG ⟨ex0,ey0,bt,ecx,ecy,ex1,ey1⟩ x y=T at *
   have Hpa:=Lib.hid hpa
   clear hpa
   have hkb:(k:Int)<(l.length:Int):=by omega
   obtain ⟨g1,g2⟩:=hbd
   obtain ⟨n1,n2⟩:=tok2
   go_wp2_with (first|(go_at_call 237;(with_reducible refine (Hpa.out _ (hL.row atO) (by omega) (by omega)).mono ?_);rintro e _ ⟨rfl,w9,hb,rfl⟩;replace hL:=(hL.call hb).setCell (b:=bp) (o:=2) (v:=.int .i64 (S0+T)) updO;clear hb;simp only [setP] at hL)|(with_reducible first|(clear hL n1;intro b1 w1 hL)|(clear hL;intro _ hL))|((with_reducible refine goJ rfl ?_);refine goW ?_))
   go_roundw
   case rel=>exact ⟨k+1,by omega,by go_num,by rw [show windG (l.take (k+1)) x y=S0+T from Hstep.out];exact hL.drop .here⟩
   case measure=>simp [intOf];omega
  ·have e:k=l.length:=by omega
   subst e
   rw [List.take_length] at hL
   go_wp2_with ((with_reducible refine goJ rfl ?_);refine goW ?_)
   go_ret
   exact ⟨rfl,hL.below⟩
open Go.RowKit
theorem bne_decX (a:Int):(a != 0)=decide (a≠0):=by by_cases h:a=0 <;> simp [h]
theorem and_bitX (n:Int):bits .and .i64 n 1=n%2:=by
 have h1:(BitVec.ofInt 64 1).toNat=2^1-1:=by decide
 have key:(BitVec.ofInt 64 n &&& BitVec.ofInt 64 1).toNat=(n%((2^64:Nat):Int)).toNat%2^1:=by
  rw [BitVec.toNat_and,BitVec.toNat_ofInt,h1,Nat.and_two_pow_sub_one_eq_mod]
 show IntKind.i64.wrap ((BitVec.ofInt 64 n &&& BitVec.ofInt 64 1).toNat:Nat)=n%2
 rw [key,IntKind.wrap_i64]
 omega
set_option maxRecDepth 100000 in
theorem windInX_calls (w:World) (v:Value) (l:List Edg) (hv:EdgesAt w v l) (hlen:l.length≤1152921504606846976) (rule x y:Int) :
  Calls Tryz.prog 231 #[v,.int .i64 rule,.int .i64 x,.int .i64 y] w fun r w'=>r=.returned (.bool (isIn rule (windG l x y)))∧Below w.heap.size w w':=by
 have HA:=Lib.hid (windAtG_calls w v l hv hlen x y)
 clear hv hlen
 generalize windG l x y=n at *
 have eb:=and_bitX n
 have hL:=Holds.start w
 rcases (by omega:rule=0∨rule=1∨(rule≠0∧rule≠1)) with h|h|⟨h,h2⟩
 ·subst h
  go_enter Tryz.func231,Tryz.ntmps231
  go_wp2_with (go_at_call 235;(with_reducible refine HA.out.mono ?_);rintro e _ ⟨rfl,hb⟩;replace hL:=hL.call hb;clear hb)
  go_ret
  exact ⟨ret_bool (by show (n != 0)=decide (n≠0);exact bne_decX n),hL.below⟩
 ·subst h
  go_enter Tryz.func231,Tryz.ntmps231
  go_wp2_with (go_at_call 235;(with_reducible refine HA.out.mono ?_);rintro e _ ⟨rfl,hb⟩;replace hL:=hL.call hb;clear hb)
  go_ret
  exact ⟨ret_bool (by show _=decide (n%2≠0);first|exact bne_decX _|(rw [eb];exact bne_decX _)),hL.below⟩
 ·have d1:(rule == 0)=false:=by simp [h]
  have d2:(rule == 1)=false:=by simp [h2]
  have HI:=Lib.hid (show isIn rule n=false by simp [isIn,h,h2])
  go_enter Tryz.func231,Tryz.ntmps231
  go_wp2_with (go_at_call 235;(with_reducible refine HA.out.mono ?_);rintro e _ ⟨rfl,hb⟩;replace hL:=hL.call hb;clear hb)
  go_ret
  exact ⟨ret_bool HI.out.symm,hL.below⟩
end Go.Proofs.YtmnoeoecjfhhbaaGreat
