/- Package bow: straight edges. -/
import Derived.Test.YtmnoeoecjfhhbaaGreatArmM
namespace Go.Proofs.YtmnoeoecjfhhbaaGreat
open Go.RowKit
def sgn (p:Int):Int:=if p<0 then -1 else if 0<p then 1 else 0
theorem rootSgn_calls (p:Int) (w:World):Calls Tryz.prog 220 #[.int .i64 p] w fun e w'=>e=.returned (.int .i64 (sgn p))∧w=w':=by
 rcases (by omega:p<0∨p=0∨0<p) with h|h|h
 ·go_enter Tryz.func220,Tryz.ntmps220
  go_wp2
  go_ret
  exact ⟨ret_int (by unfold sgn;rw [if_pos h]),rfl⟩
 ·subst h
  go_enter Tryz.func220,Tryz.ntmps220
  go_wp2
  go_ret
  exact ⟨ret_int (by unfold sgn;rfl),rfl⟩
 ·go_enter Tryz.func220,Tryz.ntmps220
  go_wp2
  go_ret
  exact ⟨ret_int (by unfold sgn;rw [if_neg (by omega),if_pos h]),rfl⟩
theorem near_calls (w:World) (v:Value) (l:List Int) (hv:NumsAt w v l):Calls Tryz.prog 202 #[v] w fun e w'=>e=.returned (.bool (l.all near1))∧Below w.heap.size w w':=by
 obtain ⟨a,cap,rfl,hlc,hcm,hel⟩:=hv.parts
 clear hv
 unfold maxLen at hcm
 have Hel:=Lib.hid hel;clear hel
 have hL:=Holds.start w
 go_enter Tryz.func202,Tryz.ntmps202
 go_wp2_with (first|((with_reducible refine goJ rfl ?_);refine goW ?_))
 go_loopw [7] (fun s7 wr=>∃ k:Nat,k≤l.length∧s7=.int .i64 k∧(l.take k).all near1=true∧Holds w wr [] [])
  (fun s7 wr=>l.length-(intOf s7).toNat)
 case atStart=>exact ⟨0,by omega,rfl,by simp,hL⟩
 case round =>
  clear hL
  obtain ⟨k,hk,rfl,hall,hL⟩:=hrel
  by_cases hkt:k<l.length
  ·obtain ⟨b,o,rfl,hc⟩:=Hel.out k hkt
   have hstep:(l.take (k+1)).all near1=((l.take k).all near1&&near1 (l.getD k 0)):=by
    rw [List.take_succ_eq_append_getElem hkt,List.all_append];simp [hkt]
   have hin:near1 (l.getD k 0)=false→l.all near1=false:=by
    intro h
    rw [List.all_eq_false]
    refine ⟨l[k],List.getElem_mem hkt,?_⟩
    rw [show l[k]=l.getD k 0 by simp [hkt],h];simp
   generalize l.getD k 0=z at *
   have Hstep:=Lib.hid hstep;have Hin:=Lib.hid hin;have Hall:=Lib.hid hall
   clear hstep hin hall
   have hkb:(k:Int)<(l.length:Int):=by omega
   rcases (by omega:z < -8191∨8191<z∨(-8191≤z∧z≤8191)) with hz|hz|⟨hz,hz2⟩
   ·go_wp2_with ((with_reducible refine goJ rfl ?_);refine goW ?_)
    go_ret
    exact ⟨ret_bool (Hin.out (by simp [near1];omega)).symm,hL.below⟩
   ·go_wp2_with ((with_reducible refine goJ rfl ?_);refine goW ?_)
    go_ret
    exact ⟨ret_bool (Hin.out (by simp [near1];omega)).symm,hL.below⟩
   ·go_wp2_with ((with_reducible refine goJ rfl ?_);refine goW ?_)
    go_roundw
    case rel=>exact ⟨k+1,by omega,by go_num,by rw [Hstep.out,Hall.out];simp [near1];omega,hL⟩
    case measure=>simp [intOf];omega
  ·have e:k=l.length:=by omega
   subst e
   rw [List.take_length] at hall
   have Hall:=Lib.hid hall;clear hall
   go_wp2_with (first|((with_reducible refine goJ rfl ?_);refine goW ?_))
   go_ret
   exact ⟨ret_bool Hall.out.symm,hL.below⟩
open Go.RowKit
class ArrS (P:Program) (T:TypeId) (n:outParam Nat) (e:outParam TypeId) (k:outParam Nat):Prop where
 out:P.underlying T=some (.array n e)
 agg:∀ w,(isAgg e).run P w=.ok true w
 size:(P.info? e).map (·.size)=some k
theorem indexS {P:Program} {w:World} {K:Value→Prop} {T e:TypeId} {n k:Nat} {i:Int} {cs vs:Array Value} [hT:ArrS P T n e k] (h:K (.agg vs)) (h0:0≤i:=by omega) (h1:i<(n:Int):=by omega) (hv:cs.extract (i.toNat*k) (i.toNat*k+k)=vs:=by rfl):IndexAt P T (.agg cs) i w K:=by
 refine ⟨.agg vs,?_,h⟩
 have hs:=hT.size
 cases hq:P.info? e with
 | none=>simp [hq] at hs
 | some i' =>
  have hs':i'.size=k:=by simpa [hq] using hs
  subst hv
  simp [Instr.index,asIntOf,run_underlying hT.out,Sem.run_bind,h0,h1,part,hT.agg,sizeOf,typeInfo,hq,hs']
instance : ArrS Tryz.prog 254 2 253 5 := ⟨Tryz.underlying254, fun w => by kernel_rfl, by kernel_rfl⟩
theorem Holds.numsLit {w0 w:World} {M:List Res} {Φ:List (World→Prop)} {b:Nat} {cs:Array Value} {T:TypeId} (l:List Int) (hL:Holds w0 w M Φ) (k:At M (blk b cs T)) (hcs:cs=(l.map fun n=>Value.int .i64 n).toArray) (hm:l.length≤maxLen:=by (unfold maxLen;simp only [List.length_cons,List.length_nil];omega)):NumsAt w (.slice (some ⟨b,0,none⟩) l.length l.length) l:=by
 refine ⟨some ⟨b,0,none⟩,l.length,by simp,by simp,hm,fun i hi=>⟨b,0,rfl,fun j v hj=>?_⟩⟩
 simp only [List.length_map] at hi
 rcases j with _|j
 ·rw [Nat.zero_add,Nat.mul_one,Nat.add_zero,hL.cell k,hcs]
  simp only [List.getElem_map,List.getElem?_cons_zero,Option.some.injEq] at hj
  simp [hi,←hj]
 ·simp at hj
theorem mul_bd {a b A B:Int} (h1 : -A≤a) (h2:a≤A) (h3 : -B≤b) (h4:b≤B) : -(A*B)≤a*b∧a*b≤A*B:=by
 have k1:=Int.mul_nonneg (show 0≤A-a by omega) (show 0≤B+b by omega)
 have k2:=Int.mul_nonneg (show 0≤A+a by omega) (show 0≤B-b by omega)
 have k3:=Int.mul_nonneg (show 0≤A-a by omega) (show 0≤B-b by omega)
 have k4:=Int.mul_nonneg (show 0≤A+a by omega) (show 0≤B+b by omega)
 have e1:(A-a)*(B+b)+(A+a)*(B-b)=2*(A*B)-2*(a*b):=by grind
 have e2:(A-a)*(B-b)+(A+a)*(B+b)=2*(A*B)+2*(a*b):=by grind
 omega
set_option maxRecDepth 100000 in
set_option maxHeartbeats 1000000 in
theorem bowMay_calls (e:Edg) (w:World):Calls Tryz.prog 201 #[edgeV e] w fun r w'=>r=.returned (.bool (mayE e))∧Below w.heap.size w w':=by
 obtain ⟨x0,y0,bt,cx,cy,x1,y1⟩:=e
 unfold edgeV
 dsimp only
 have hL:=Holds.start w
 have HM:=Lib.hid (show mayE ⟨x0,y0,bt,cx,cy,x1,y1⟩=([x0,y0,cx,cy,x1,y1].all near1&&(bt || (decide (cx=0)&&decide (cy=0)))) by simp [mayE,Bool.and_assoc])
 cases hn:[x0,y0,cx,cy,x1,y1].all near1 with
 | false =>
  have Hn:=Lib.hid hn;clear hn
  obtain ⟨n1,n2⟩:=tok2
  go_enter Tryz.func201,Tryz.ntmps201
  go_wp2_with (first|(go_at_call 202;(refine (near_calls _ _ [x0,y0,cx,cy,x1,y1] (hL.numsLit [x0,y0,cx,cy,x1,y1] atO (by rfl))).mono ?_);rintro e _ ⟨rfl,hb⟩;rw [Hn.out];replace hL:=hL.call hb;clear hb)|(with_reducible first|(clear hL n1;intro b1 w1 hL)|(clear hL n2;intro b2 w2 hL))|((with_reducible refine wpA_lit rfl _ _ _ rfl ?_);first|refine litA1 hL ?_|refine litA2 hL ?_|refine litA3 hL ?_|refine litA4 hL ?_|refine litA6 hL ?_)|((with_reducible refine goJ rfl ?_);refine goW ?_))
  go_ret
  exact ⟨ret_bool (by rw [HM.out,Hn.out];rfl),hL.below⟩
 | true =>
  have Hn:=Lib.hid hn;clear hn
  cases bt with
  | true =>
   obtain ⟨n1,n2⟩:=tok2
   go_enter Tryz.func201,Tryz.ntmps201
   go_wp2_with (first|(go_at_call 202;(refine (near_calls _ _ [x0,y0,cx,cy,x1,y1] (hL.numsLit [x0,y0,cx,cy,x1,y1] atO (by rfl))).mono ?_);rintro e _ ⟨rfl,hb⟩;rw [Hn.out];replace hL:=hL.call hb;clear hb)|(with_reducible first|(clear hL n1;intro b1 w1 hL)|(clear hL n2;intro b2 w2 hL))|((with_reducible refine wpA_lit rfl _ _ _ rfl ?_);first|refine litA1 hL ?_|refine litA2 hL ?_|refine litA3 hL ?_|refine litA4 hL ?_|refine litA6 hL ?_)|((with_reducible refine goJ rfl ?_);refine goW ?_))
   go_ret
   exact ⟨ret_bool (by rw [HM.out,Hn.out];rfl),hL.below⟩
  | false =>
   rcases (by omega:cx≠0∨(cx=0∧cy≠0)∨(cx=0∧cy=0)) with h|⟨h,h2⟩|⟨h,h2⟩
   ·have HR:=Lib.hid (show (true&&(false || (decide (cx=0)&&decide (cy=0))))=false by simp [h])
    obtain ⟨n1,n2⟩:=tok2
    go_enter Tryz.func201,Tryz.ntmps201
    go_wp2_with (first|(go_at_call 202;(refine (near_calls _ _ [x0,y0,cx,cy,x1,y1] (hL.numsLit [x0,y0,cx,cy,x1,y1] atO (by rfl))).mono ?_);rintro e _ ⟨rfl,hb⟩;rw [Hn.out];replace hL:=hL.call hb;clear hb)|(with_reducible first|(clear hL n1;intro b1 w1 hL)|(clear hL n2;intro b2 w2 hL))|((with_reducible refine wpA_lit rfl _ _ _ rfl ?_);first|refine litA1 hL ?_|refine litA2 hL ?_|refine litA3 hL ?_|refine litA4 hL ?_|refine litA6 hL ?_)|((with_reducible refine goJ rfl ?_);refine goW ?_))
    go_ret
    exact ⟨ret_bool (by rw [HM.out,Hn.out,HR.out]),hL.below⟩
   ·subst h
    have d1:(cy == 0)=false:=by simp [h2]
    have HR:=Lib.hid (show (true&&(false || (decide ((0:Int)=0)&&decide (cy=0))))=false by simp [h2])
    obtain ⟨n1,n2⟩:=tok2
    go_enter Tryz.func201,Tryz.ntmps201
    go_wp2_with (first|(go_at_call 202;(refine (near_calls _ _ [x0,y0,0,cy,x1,y1] (hL.numsLit [x0,y0,0,cy,x1,y1] atO (by rfl))).mono ?_);rintro e _ ⟨rfl,hb⟩;rw [Hn.out];replace hL:=hL.call hb;clear hb)|(with_reducible first|(clear hL n1;intro b1 w1 hL)|(clear hL n2;intro b2 w2 hL))|((with_reducible refine wpA_lit rfl _ _ _ rfl ?_);first|refine litA1 hL ?_|refine litA2 hL ?_|refine litA3 hL ?_|refine litA4 hL ?_|refine litA6 hL ?_)|((with_reducible refine goJ rfl ?_);refine goW ?_))
    go_ret
    exact ⟨ret_bool (by rw [HM.out,Hn.out,HR.out]),hL.below⟩
   ·subst h;subst h2
    obtain ⟨n1,n2⟩:=tok2
    go_enter Tryz.func201,Tryz.ntmps201
    go_wp2_with (first|(go_at_call 202;(refine (near_calls _ _ [x0,y0,0,0,x1,y1] (hL.numsLit [x0,y0,0,0,x1,y1] atO (by rfl))).mono ?_);rintro e _ ⟨rfl,hb⟩;rw [Hn.out];replace hL:=hL.call hb;clear hb)|(with_reducible first|(clear hL n1;intro b1 w1 hL)|(clear hL n2;intro b2 w2 hL))|((with_reducible refine wpA_lit rfl _ _ _ rfl ?_);first|refine litA1 hL ?_|refine litA2 hL ?_|refine litA3 hL ?_|refine litA4 hL ?_|refine litA6 hL ?_)|((with_reducible refine goJ rfl ?_);refine goW ?_))
    go_ret
    exact ⟨ret_bool (by rw [HM.out,Hn.out];rfl),hL.below⟩
def spT (e:Edg) (y:Int):Int:=if y<min e.y0 e.y1∨max e.y0 e.y1≤y then 0 else if e.y1-e.y0<0 then -1 else 1
def spP (e:Edg) (y:Int):Int:=if y<min e.y0 e.y1∨max e.y0 e.y1≤y then 0 else if e.y1-e.y0<0 then -(e.x0*(e.y1-e.y0)+(e.x1-e.x0)*(y-e.y0)) else e.x0*(e.y1-e.y0)+(e.x1-e.x0)*(y-e.y0)
def spM (e:Edg) (y:Int):Int:=if y<min e.y0 e.y1∨max e.y0 e.y1≤y then 0 else if e.y1-e.y0<0 then -(e.y1-e.y0) else e.y1-e.y0
structure Small (e:Edg) (y:Int):Prop where
 a0 : -8191≤e.x0
 a1:e.x0≤8191
 b0 : -8191≤e.y0
 b1:e.y0≤8191
 c0 : -8191≤e.x1
 c1:e.x1≤8191
 d0 : -8191≤e.y1
 d1:e.y1≤8191
 f0 : -8191≤y
 f1:y≤8191
set_option maxRecDepth 100000 in
set_option maxHeartbeats 1000000 in
theorem straight_calls (e:Edg) (y:Int) (hs:Small e y) (w:World):Calls Tryz.prog 212 #[edgeV e,.int .i64 y] w fun r w'=>r=.returned (.agg #[.int .i64 (spT e y),.int .i64 (spP e y),.int .i64 0,.int .i64 0,.int .i64 (spM e y)])∧Below w.heap.size w w':=by
 obtain ⟨x0,y0,bt,cx,cy,x1,y1⟩:=e
 obtain ⟨a0,a1,b0,b1,c0,c1,d0,d1,f0,f1⟩:=hs
 unfold edgeV spT spP spM
 dsimp only at *
 have hL:=Holds.start w
 obtain ⟨p1,p2⟩:=mul_bd (a:=x0) (b:=y1-y0) (A:=8191) (B:=16382) (by omega) (by omega) (by omega) (by omega)
 obtain ⟨p3,p4⟩:=mul_bd (a:=x1-x0) (b:=y-y0) (A:=16382) (B:=16382) (by omega) (by omega) (by omega) (by omega)
 rcases (by omega:y<min y0 y1∨(¬y<min y0 y1∧max y0 y1≤y)∨(¬y<min y0 y1∧¬max y0 y1≤y)) with h|⟨h,h2⟩|⟨h,h2⟩
 ·rw [if_pos (.inl h),if_pos (.inl h),if_pos (.inl h)]
  obtain ⟨n1,n2⟩:=tok2
  go_enter Tryz.func212,Tryz.ntmps212
  go_wp2_with (first|(with_reducible first|(clear hL n1;intro b1 w1 hL)|(clear hL n2;intro b2 w2 hL)|(clear hL;intro _ hL))|((with_reducible refine goJ rfl ?_);refine goW ?_))
  exact bodyPost_ret (results_row inferInstance rfl _ hL b2 rfl _ _ .here rfl) rfl ⟨rfl,hL.below⟩
 ·rw [if_pos (.inr h2),if_pos (.inr h2),if_pos (.inr h2)]
  obtain ⟨n1,n2⟩:=tok2
  go_enter Tryz.func212,Tryz.ntmps212
  go_wp2_with (first|(with_reducible first|(clear hL n1;intro b1 w1 hL)|(clear hL n2;intro b2 w2 hL)|(clear hL;intro _ hL))|((with_reducible refine goJ rfl ?_);refine goW ?_))
  exact bodyPost_ret (results_row inferInstance rfl _ hL b2 rfl _ _ .here rfl) rfl ⟨rfl,hL.below⟩
 ·have hno:¬(y<min y0 y1∨max y0 y1≤y):=by omega
  simp only [if_neg hno]
  clear hno
  rcases (by omega:y1-y0<0∨¬y1-y0<0) with h3|h3
  ·simp only [if_pos h3]
   obtain ⟨n1,n2,n3⟩:=tok3
   go_enter Tryz.func212,Tryz.ntmps212
   go_wp2_with (first|(with_reducible first|(clear hL n1;intro b1 w1 hL)|(clear hL n2;intro b2 w2 hL)|(clear hL n3;intro b3 w3 hL)|(clear hL;intro _ hL))|((with_reducible refine goJ rfl ?_);refine goW ?_))
   exact bodyPost_ret (results_row inferInstance rfl _ hL b2 rfl _ _ (.there .here) rfl) rfl ⟨rfl,hL.below⟩
  ·simp only [if_neg h3]
   obtain ⟨n1,n2,n3⟩:=tok3
   go_enter Tryz.func212,Tryz.ntmps212
   go_wp2_with (first|(with_reducible first|(clear hL n1;intro b1 w1 hL)|(clear hL n2;intro b2 w2 hL)|(clear hL n3;intro b3 w3 hL)|(clear hL;intro _ hL))|((with_reducible refine goJ rfl ?_);refine goW ?_))
   exact bodyPost_ret (results_row inferInstance rfl _ hL b2 rfl _ _ (.there .here) rfl) rfl ⟨rfl,hL.below⟩
set_option maxRecDepth 100000 in
set_option maxHeartbeats 1000000 in
theorem spots_calls (e:Edg) (hbt:e.bent=false) (y:Int) (hs:Small e y) (w:World):Calls Tryz.prog 203 #[edgeV e,.int .i64 y] w fun r w'=>r=.returned (.agg #[.int .i64 (spT e y),.int .i64 (spP e y),.int .i64 0,.int .i64 0,.int .i64 (spM e y),.int .i64 0,.int .i64 0,.int .i64 0,.int .i64 0,.int .i64 0])∧Below w.heap.size w w':=by
 have hL:=Holds.start w
 have HS:=Lib.hid (fun w=>straight_calls e y hs w)
 obtain ⟨x0,y0,bt,cx,cy,x1,y1⟩:=e
 dsimp only at hbt
 subst hbt
 generalize spT ⟨x0,y0,false,cx,cy,x1,y1⟩ y=t at *
 generalize spP ⟨x0,y0,false,cx,cy,x1,y1⟩ y=p at *
 generalize spM ⟨x0,y0,false,cx,cy,x1,y1⟩ y=m at *
 unfold edgeV at *
 dsimp only at *
 clear hs
 obtain ⟨n1,n2⟩:=tok2
 go_enter Tryz.func203,Tryz.ntmps203
 go_wp2_with (first|(go_at_call 212;(with_reducible refine (HS.out _).mono ?_);rintro e _ ⟨rfl,hb⟩;replace hL:=hL.call hb;clear hb)|(with_reducible first|(clear hL n1;intro b1 w1 hL)|(clear hL n2;intro b2 w2 hL)|(clear hL;intro _ hL))|((with_reducible refine goJ rfl ?_);refine goW ?_))
 exact bodyPost_ret (results_row inferInstance rfl _ hL b2 rfl _ _ .here rfl) rfl ⟨rfl,hL.below⟩
end Go.Proofs.YtmnoeoecjfhhbaaGreat
