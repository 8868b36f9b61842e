/- The document's strokes: what a contour's stroke covers. -/
import Derived.Test.YtmnoeoecjfhhbaaGreatStM
import Derived.Test.YtmnoeoecjfhhbaaGreatRf1
import Derived.Deep.CutRange
namespace Go.Proofs.YtmnoeoecjfhhbaaGreat
open Go.RowKit
set_option maxRecDepth 100000 in
theorem rStr33_calls (w:World) (v:Value) (l:List Sg) (hv:SegsAt w v l):Calls Tryz.prog 54 #[v] w fun e w'=>e=.returned (.bool (straightS l))∧Below w.heap.size w w':=by
 have Hv:=Lib.hid hv
 obtain ⟨a,cap,rfl,hlc,hcm,hel⟩:=hv.parts
 clear hv
 unfold maxLen at hcm
 have Hel:=Lib.hid hel;clear hel
 have hL:=Holds.start w
 have HNo:=Lib.hid (show ∀ k,k<l.length→(l.getD k default).kind=3→straightS l=false by
  intro k hk h
  have:(l.all fun s=>decide (s.kind≠3))=false:=by
   rw [List.all_eq_false]
   refine ⟨l[k],List.getElem_mem hk,?_⟩
   rw [show l[k]=l.getD k default by simp [hk],h];simp
  unfold straightS
  rw [this];simp)
 have HYes:=Lib.hid (show (∀ i,i<l.length→(l.getD i default).kind≠3)→straightS l=pathMay l by
  intro h
  have:(l.all fun s=>decide (s.kind≠3))=true:=by
   rw [List.all_eq_true]
   intro x hx
   obtain ⟨i,hi,rfl⟩:=List.getElem_of_mem hx
   have:=h i hi
   rw [show l.getD i default=l[i] by simp [hi]] at this
   simpa using this
  unfold straightS
  rw [this,Bool.and_true])
 have HPm:=Lib.hid (fun w' (hb:Below w.heap.size w w')=>rMay_calls w' (.slice a l.length cap) l (SliceAt.below Hv.out hb))
 have hno2:pathMay l=false→straightS l=false:=fun h=>by unfold straightS;rw [h];rfl
 generalize straightS l=st at *
 generalize hpm:pathMay l=pm at *
 clear hpm
 cases pm
 ·have HF:=Lib.hid (hno2 rfl)
  clear hno2
  go_enter Tryz.func54,Tryz.ntmps54
  go_wp2_with (go_at_call 52;(with_reducible refine (HPm.out _ hL.below).mono ?_);rintro e _ ⟨rfl,hb⟩;replace hL:=hL.call hb;clear hb)
  go_ret
  exact ⟨ret_bool HF.out.symm,hL.below⟩
 clear hno2
 go_enter Tryz.func54,Tryz.ntmps54
 go_wp2_with (go_at_call 52;(with_reducible refine (HPm.out _ hL.below).mono ?_);rintro e _ ⟨rfl,hb⟩;replace hL:=hL.call hb;clear hb)
 go_loopw [3] (fun s3 wr=>∃ k:Nat,k≤l.length∧s3=.int .i64 k∧(∀ i,i<k→(l.getD i default).kind≠3)∧Holds w wr [] [])
  (fun s3 wr=>l.length-(intOf s3).toNat)
 case atStart=>exact ⟨0,by omega,rfl,fun i hi=>absurd hi (by omega),hL⟩
 case round =>
  clear hL
  obtain ⟨k,hk,rfl,hall,hL⟩:=hrel
  by_cases hkt:k<l.length
  ·obtain ⟨b,o,rfl,hc⟩:=Hel.out k hkt
   have hkb:(k:Int)<(l.length:Int):=by omega
   have HN:=Lib.hid (HNo.out k hkt)
   have HST:=Lib.hid (show (l.getD k default).kind≠3→∀ i,i<k+1→(l.getD i default).kind≠3 from fun h i hi=>by
    rcases (by omega:i<k∨i=k) with h2|rfl
    ·exact hall i h2
    ·exact h)
   clear hall
   generalize l.getD k default=q at *
   obtain ⟨kind,x,y,cx,cy⟩:=q
   unfold segC at hc
   dsimp only at hc HN HST
   have hcell:=hc 0 _ rfl
   rw [Nat.add_zero] at hcell
   by_cases h3:kind=3
   ·have HF:=Lib.hid (HN.out h3)
    subst h3
    go_wp2_with ((with_reducible refine goJ rfl ?_);refine goW ?_)
    go_ret
    exact ⟨ret_bool HF.out.symm,hL.below⟩
   ·have HS3:=Lib.hid (HST.out h3)
    have e3:(kind == 3)=false:=by simp [h3]
    clear h3
    go_wp2_with ((with_reducible refine goJ rfl ?_);refine goW ?_)
    go_roundw
    case rel=>exact ⟨k+1,by omega,by go_num,HS3.out,hL⟩
    case measure=>simp [intOf];omega
  ·have e:k=l.length:=by omega
   subst e
   have HF:=Lib.hid (HYes.out hall)
   clear hall
   go_wp2_with ((with_reducible refine goJ rfl ?_);refine goW ?_)
   go_ret
   exact ⟨ret_bool HF.out.symm,hL.below⟩
theorem six_bools:∀ b0 b1 b2 b3 b4 _b5:Bool,b0=false∨(b0=true∧b1=false)∨(b0=true∧b1=true∧b2=false)∨(b0=true∧b1=true∧b2=true∧b3=false)∨(b0=true∧b1=true∧b2=true∧b3=true∧b4=false)∨(b0=true∧b1=true∧b2=true∧b3=true∧b4=true):=by
 intro b0 b1 b2 b3 b4 b5
 cases b0 <;> cases b1 <;> cases b2 <;> cases b3 <;> cases b4 <;> simp
set_option maxRecDepth 100000 in
set_option maxHeartbeats 4000000 in
theorem rMayY_calls (s:Sty) (w:World):Calls Tryz.prog 55 #[.agg #[.int .i64 s.wide,.int .i64 s.cap,.int .i64 s.join]] w fun e w'=>e=.returned (.bool (mayY s))∧Below w.heap.size w w':=by
 have hL:=Holds.start w
 have hR:mayY s=(decide (0≤s.wide)&&(decide (s.wide≤2048)&&(decide (0≤s.cap)&&(decide (s.cap≤2)&&(decide (0≤s.join)&&decide (s.join≤1)))))):=rfl
 generalize mayY s=R at *
 obtain ⟨wd,cap,join⟩:=s
 dsimp only at *
 obtain ⟨b0,d0⟩:∃ b,decide (0≤wd)=b:=⟨_,rfl⟩
 obtain ⟨b1,d1⟩:∃ b,decide (wd≤2048)=b:=⟨_,rfl⟩
 obtain ⟨b2,d2⟩:∃ b,decide (0≤cap)=b:=⟨_,rfl⟩
 obtain ⟨b3,d3⟩:∃ b,decide (cap≤2)=b:=⟨_,rfl⟩
 obtain ⟨b4,d4⟩:∃ b,decide (0≤join)=b:=⟨_,rfl⟩
 obtain ⟨b5,d5⟩:∃ b,decide (join≤1)=b:=⟨_,rfl⟩
 rw [d0,d1,d2,d3,d4,d5] at hR
 rcases six_bools b0 b1 b2 b3 b4 b5 with rfl|⟨rfl,rfl⟩|⟨rfl,rfl,rfl⟩|⟨rfl,rfl,rfl,rfl⟩|⟨rfl,rfl,rfl,rfl,rfl⟩|⟨rfl,rfl,rfl,rfl,rfl⟩
 all_goals
  have HR:=Lib.hid hR
  clear hR
  have n1:True:=trivial
  go_enter Tryz.func55,Tryz.ntmps55
  go_wp2_with (first|(clear hL n1;with_reducible intro bx wx hL)|((with_reducible refine goJ rfl ?_);refine goW ?_))
  go_ret
  exact ⟨ret_bool (by rw [HR.out];rfl),hL.below⟩
set_option maxRecDepth 100000 in
theorem rDisc_calls (px py wide x y:Int) (h1 : -8191≤px∧px≤8191) (h2 : -8191≤py∧py≤8191) (hw:0≤wide∧wide≤2048) (hx : -8191≤x∧x≤8191) (hy : -8191≤y∧y≤8191) (w:World) :
  Calls Tryz.prog 142 #[.int .i64 px,.int .i64 py,.int .i64 wide,.int .i64 x,.int .i64 y] w fun e w'=>e=.returned (.bool (discIn px py wide x y))∧Below w.heap.size w w':=by
 have hL:=Holds.start w
 have hR:discIn px py wide x y=decide (4*((x-px)*(x-px)+(y-py)*(y-py))≤wide*wide):=rfl
 generalize discIn px py wide x y=R at *
 have bV : -16382≤x-px∧x-px≤16382:=by omega
 have bZ : -16382≤y-py∧y-py≤16382:=by omega
 generalize hVX:x-px=VX at *
 generalize hVY:y-py=VY at *
 have bXX:=mul_bd bV.1 bV.2 bV.1 bV.2
 have bYY:=mul_bd bZ.1 bZ.2 bZ.1 bZ.2
 have bWW:=mul_bd (a:=wide) (b:=wide) (A:=2048) (B:=2048) (by omega) (by omega) (by omega) (by omega)
 generalize hXX:VX*VX=XX at *
 generalize hYY:VY*VY=YY at *
 generalize hWW:wide*wide=WW at *
 have HR:=Lib.hid hR
 clear hR
 go_enter Tryz.func142,Tryz.ntmps142
 go_wp2_with ((with_reducible refine goJ rfl ?_);refine goW ?_)
 go_ret
 exact ⟨ret_bool HR.out.symm,hL.below⟩
def armU (e:Edg) (x y:Int):Int:=(x-e.x0)*(e.x1-e.x0)+(y-e.y0)*(e.y1-e.y0)
def armK (e:Edg) (x y:Int):Int:=(x-e.x0)*(e.y1-e.y0)-(y-e.y0)*(e.x1-e.x0)
def armL (e:Edg):Int:=(e.x1-e.x0)*(e.x1-e.x0)+(e.y1-e.y0)*(e.y1-e.y0)
structure ArmBd (U K L:Int):Prop where
 u0 : -536739848≤U
 u1:U≤536739848
 k0 : -536739848≤K
 k1:K≤536739848
 l0:0≤L
 l1:L≤536739848
theorem arm_bd {e:Edg} (he:NearE' e) {x y:Int} (hx : -8191≤x∧x≤8191) (hy : -8191≤y∧y≤8191):ArmBd (armU e x y) (armK e x y) (armL e):=by
 obtain ⟨⟨h1,h2⟩,h3,h4⟩:=he
 have bX : -16382≤e.x1-e.x0∧e.x1-e.x0≤16382:=by omega
 have bY : -16382≤e.y1-e.y0∧e.y1-e.y0≤16382:=by omega
 have bV : -16382≤x-e.x0∧x-e.x0≤16382:=by omega
 have bZ : -16382≤y-e.y0∧y-e.y0≤16382:=by omega
 have bXX:=mul_bd bX.1 bX.2 bX.1 bX.2
 have bYY:=mul_bd bY.1 bY.2 bY.1 bY.2
 have bA1:=mul_bd bV.1 bV.2 bX.1 bX.2
 have bA2:=mul_bd bZ.1 bZ.2 bY.1 bY.2
 have bK1:=mul_bd bV.1 bV.2 bY.1 bY.2
 have bK2:=mul_bd bZ.1 bZ.2 bX.1 bX.2
 have nXX:0≤(e.x1-e.x0)*(e.x1-e.x0):=by rw [←Int.natAbs_mul_self];omega
 have nYY:0≤(e.y1-e.y0)*(e.y1-e.y0):=by rw [←Int.natAbs_mul_self];omega
 unfold armU armK armL
 exact ⟨by omega,by omega,by omega,by omega,by omega,by omega⟩
set_option maxRecDepth 100000 in
set_option maxHeartbeats 4000000 in
theorem rArm_calls (e:Edg) (he:NearE' e) (x y:Int) (hx : -8191≤x∧x≤8191) (hy : -8191≤y∧y≤8191) (w:World) :
  Calls Tryz.prog 140 #[.agg (edgeC e).toArray,.int .i64 x,.int .i64 y] w fun r w'=>r=.returned (.agg #[.int .i64 (armU e x y),.int .i64 (armK e x y),.int .i64 (armL e)])∧Below w.heap.size w w':=by
 have hL:=Holds.start w
 obtain ⟨⟨h1,h2⟩,h3,h4⟩:=he
 obtain ⟨x0,y0,bt,cx,cy,x1,y1⟩:=e
 unfold edgeC
 dsimp only at *
 have hU:armU ⟨x0,y0,bt,cx,cy,x1,y1⟩ x y=(x-x0)*(x1-x0)+(y-y0)*(y1-y0):=rfl
 have hK:armK ⟨x0,y0,bt,cx,cy,x1,y1⟩ x y=(x-x0)*(y1-y0)-(y-y0)*(x1-x0):=rfl
 have hLn:armL ⟨x0,y0,bt,cx,cy,x1,y1⟩=(x1-x0)*(x1-x0)+(y1-y0)*(y1-y0):=rfl
 generalize armU ⟨x0,y0,bt,cx,cy,x1,y1⟩ x y=U at *
 generalize armK ⟨x0,y0,bt,cx,cy,x1,y1⟩ x y=K at *
 generalize armL ⟨x0,y0,bt,cx,cy,x1,y1⟩=LL at *
 have wDX:IntKind.i64.wrap (x1-x0)=x1-x0:=by rw [IntKind.wrap_i64];omega
 have wDY:IntKind.i64.wrap (y1-y0)=y1-y0:=by rw [IntKind.wrap_i64];omega
 have wVX:IntKind.i64.wrap (x-x0)=x-x0:=by rw [IntKind.wrap_i64];omega
 have wVY:IntKind.i64.wrap (y-y0)=y-y0:=by rw [IntKind.wrap_i64];omega
 have bX : -16382≤x1-x0∧x1-x0≤16382:=by omega
 have bY : -16382≤y1-y0∧y1-y0≤16382:=by omega
 have bV : -16382≤x-x0∧x-x0≤16382:=by omega
 have bZ : -16382≤y-y0∧y-y0≤16382:=by omega
 generalize hDX:x1-x0=DX at *
 generalize hDY:y1-y0=DY at *
 generalize hVX:x-x0=VX at *
 generalize hVY:y-y0=VY at *
 have bXX:=mul_bd bX.1 bX.2 bX.1 bX.2
 have bYY:=mul_bd bY.1 bY.2 bY.1 bY.2
 have bA1:=mul_bd bV.1 bV.2 bX.1 bX.2
 have bA2:=mul_bd bZ.1 bZ.2 bY.1 bY.2
 have bK1:=mul_bd bV.1 bV.2 bY.1 bY.2
 have bK2:=mul_bd bZ.1 bZ.2 bX.1 bX.2
 generalize hXX:DX*DX=XX at *
 generalize hYY:DY*DY=YY at *
 generalize hA1:VX*DX=A1 at *
 generalize hA2:VY*DY=A2 at *
 generalize hK1:VX*DY=K1 at *
 generalize hK2:VY*DX=K2 at *
 have HU:=Lib.hid hU;have HK:=Lib.hid hK;have HLn:=Lib.hid hLn
 clear hU hK hLn
 obtain ⟨n1,n2⟩:=tok2
 go_enter Tryz.func140,Tryz.ntmps140
 go_wp2_with (first|(with_reducible first|(clear hL n1;intro b1 w1 hL)|(clear hL n2;intro b2 w2 hL)|(clear hL;intro _ hL))|((with_reducible refine goJ rfl ?_);refine goW ?_))
 replace hL:=hL.drew
 have hS:(fun w':World=>w'.rangeAt b1 0 [.int .i64 x0,.int .i64 y0,.bool bt,.int .i64 cx,.int .i64 cy,.int .i64 x1,.int .i64 y1]) _:=hL.range (by (repeat (first|with_reducible exact At.here|with_reducible apply At.there)))
 refine wpH_begin (by kernel_rfl) (fun w':World=>w'.rangeAt b1 0 [.int .i64 x0,.int .i64 y0,.bool bt,.int .i64 cx,.int .i64 cy,.int .i64 x1,.int .i64 y1]) ?_
 refine dsH 0 (.pointer (some ⟨b1,5,none⟩)) hS ?_
 refine drH 1 (.int .i64 x1) hS ?_ ?_;(· exact fun w' hw=>(load_cell (hw 5 _ rfl)))
 refine dsH 2 (.pointer (some ⟨b1,0,none⟩)) hS ?_
 refine drH 3 (.int .i64 x0) hS ?_ ?_;(· exact fun w' hw=>(load_cell (hw 0 _ rfl)))
 refine dsH 4 (.int .i64 DX) hS ?_
 refine dsH 5 (.pointer (some ⟨b1,6,none⟩)) hS ?_
 refine drH 6 (.int .i64 y1) hS ?_ ?_;(· exact fun w' hw=>(load_cell (hw 6 _ rfl)))
 refine dsH 7 (.pointer (some ⟨b1,1,none⟩)) hS ?_
 refine drH 8 (.int .i64 y0) hS ?_ ?_;(· exact fun w' hw=>(load_cell (hw 1 _ rfl)))
 refine dsH 9 (.int .i64 DY) hS ?_
 refine dsH 10 (.int .i64 DX) hS ?_
 refine dsH 11 (.int .i64 DY) hS ?_
 refine wpAnyH_done (by kernel_rfl) ?_ _
 clear hS
 go_wp2_with (first|(with_reducible first|(clear hL n1;intro b1 w1 hL)|(clear hL n2;intro b2 w2 hL)|(clear hL;intro _ hL))|((with_reducible refine goJ rfl ?_);refine goW ?_))
 replace hL:=hL.drew
 have hS:(fun w':World=>w'.rangeAt b1 0 [.int .i64 x0,.int .i64 y0,.bool bt,.int .i64 cx,.int .i64 cy,.int .i64 x1,.int .i64 y1]) _:=hL.range (by (repeat (first|with_reducible exact At.here|with_reducible apply At.there)))
 refine wpH_begin (by kernel_rfl) (fun w':World=>w'.rangeAt b1 0 [.int .i64 x0,.int .i64 y0,.bool bt,.int .i64 cx,.int .i64 cy,.int .i64 x1,.int .i64 y1]) ?_
 refine dsH 0 (.int .i64 x) hS ?_
 refine dsH 1 (.pointer (some ⟨b1,0,none⟩)) hS ?_
 refine drH 2 (.int .i64 x0) hS ?_ ?_;(· exact fun w' hw=>(load_cell (hw 0 _ rfl)))
 refine dsH 3 (.int .i64 VX) hS ?_
 refine dsH 4 (.int .i64 y) hS ?_
 refine dsH 5 (.pointer (some ⟨b1,1,none⟩)) hS ?_
 refine drH 6 (.int .i64 y0) hS ?_ ?_;(· exact fun w' hw=>(load_cell (hw 1 _ rfl)))
 refine dsH 7 (.int .i64 VY) hS ?_
 refine dsH 8 (.int .i64 VX) hS ?_
 refine dsH 9 (.int .i64 VY) hS ?_
 refine wpAnyH_done (by kernel_rfl) ?_ _
 clear hS
 go_wp2_with (first|(with_reducible first|(clear hL n1;intro b1 w1 hL)|(clear hL n2;intro b2 w2 hL)|(clear hL;intro _ hL))|((with_reducible refine goJ rfl ?_);refine goW ?_))
 rw [HU.out,HK.out,HLn.out]
 exact bodyPost_ret (results_row inferInstance rfl _ hL b2 rfl _ _ (by (repeat (first|with_reducible exact At.here|with_reducible apply At.there))) rfl) rfl ⟨rfl,hL.below⟩
def nearA (K L w:Int):Bool:=decide (4*(K*K)≤w*w*L)
set_option maxRecDepth 100000 in
theorem armNear_calls (U K L:Int) (hb:ArmBd U K L) (wide:Int) (hw:0≤wide∧wide≤2048) (w:World):Calls Tryz.prog 148 #[.agg #[.int .i64 U,.int .i64 K,.int .i64 L],.int .i64 wide] w fun e w'=>e=.returned (.bool (nearA K L wide))∧Below w.heap.size w w':=by
 have hL:=Holds.start w
 obtain ⟨u0,u1,k0,k1,l0,l1⟩:=hb
 have hR:nearA K L wide=decide (4*K*K≤wide*wide*L):=by unfold nearA;rw [Int.mul_assoc 4 K K]
 generalize nearA K L wide=R at *
 have bQ:=mul_bd (a:=4*K) (b:=K) (A:=2146959392) (B:=536739848) (by omega) (by omega) (by omega) (by omega)
 have bWW:=mul_bd (a:=wide) (b:=wide) (A:=2048) (B:=2048) (by omega) (by omega) (by omega) (by omega)
 have bWL:=mul_bd (a:=wide*wide) (b:=L) (A:=4194304) (B:=536739848) (by omega) (by omega) (by omega) (by omega)
 generalize hWW:wide*wide=WW at *
 generalize hQ:4*K*K=Q at *
 generalize hN:WW*L=N at *
 have HR:=Lib.hid hR
 clear hR
 have n1:True:=trivial
 go_enter Tryz.func148,Tryz.ntmps148
 go_wp2_with (first|(with_reducible (clear hL n1;intro b1 w1 hL))|((with_reducible refine goJ rfl ?_);refine goW ?_))
 go_ret
 exact ⟨ret_bool HR.out.symm,hL.below⟩
def onA (U K L w:Int):Bool:=nearA K L w&&(decide (0≤U)&&decide (U≤L))
def aheadA (U K L w:Int):Bool:=nearA K L w&&(decide (U≤0)&&decide (4*(U*U)≤w*w*L))
def behindA (U K L w:Int):Bool:=nearA K L w&&(decide (L≤U)&&decide (4*((U-L)*(U-L))≤w*w*L))
set_option maxRecDepth 100000 in
theorem armOn_calls (U K L:Int) (hb:ArmBd U K L) (wide:Int) (hw:0≤wide∧wide≤2048) (w:World):Calls Tryz.prog 141 #[.agg #[.int .i64 U,.int .i64 K,.int .i64 L],.int .i64 wide] w fun e w'=>e=.returned (.bool (onA U K L wide))∧Below w.heap.size w w':=by
 have hL:=Holds.start w
 have HNe:=Lib.hid (fun w=>armNear_calls U K L hb wide hw w)
 obtain ⟨u0,u1,k0,k1,l0,l1⟩:=hb
 have hR:onA U K L wide=(nearA K L wide&&(decide (0≤U)&&decide (U≤L))):=rfl
 generalize onA U K L wide=R at *
 generalize nearA K L wide=nb at *
 rcases (by omega:¬0≤U∨0≤U) with g|g
 all_goals
  first
  | have d0:decide (0≤U)=true:=decide_eq_true g
  | have d0:decide (0≤U)=false:=decide_eq_false g
  rw [d0] at hR
  cases nb
 all_goals
  have HR:=Lib.hid hR
  clear hR
  have n1:True:=trivial
  go_enter Tryz.func141,Tryz.ntmps141
  go_wp2_with (first|(clear hL n1;with_reducible intro bx wx hL)|(go_at_call 148;(with_reducible refine (HNe.out _).mono ?_);rintro e _ ⟨rfl,hb⟩;replace hL:=hL.call hb;clear hb)|((with_reducible refine goJ rfl ?_);refine goW ?_))
  go_ret
  exact ⟨ret_bool (by rw [HR.out];first|rfl|simp),hL.below⟩
set_option maxRecDepth 100000 in
theorem armAhead_calls (U K L:Int) (hb:ArmBd U K L) (wide:Int) (hw:0≤wide∧wide≤2048) (w:World):Calls Tryz.prog 149 #[.agg #[.int .i64 U,.int .i64 K,.int .i64 L],.int .i64 wide] w fun e w'=>e=.returned (.bool (aheadA U K L wide))∧Below w.heap.size w w':=by
 have hL:=Holds.start w
 have HNe:=Lib.hid (fun w=>armNear_calls U K L hb wide hw w)
 obtain ⟨u0,u1,k0,k1,l0,l1⟩:=hb
 have hR:aheadA U K L wide=(nearA K L wide&&(decide (U≤0)&&decide (4*(U*U)≤wide*wide*L))):=rfl
 have hsg:U≤0→decide (4*(U*U)≤wide*wide*L)=decide (0≤sgR (2*U) wide L):=fun h=>by
  rw [decide_eq_decide,sgn_ahead (by omega) hw.1 l0,show 2*U*(2*U)=4*(U*U) by grind]
 have HS:=Lib.hid (fun w=>refSign_calls (2*U) wide L ⟨by omega,by omega,by omega,by omega,by omega,by omega⟩ w)
 generalize aheadA U K L wide=R at *
 generalize nearA K L wide=nb at *
 rcases (by omega:¬U≤0∨U≤0) with g|g
 ·have d0:decide (U≤0)=false:=decide_eq_false g
  rw [d0] at hR
  cases nb
  all_goals
   have HR:=Lib.hid hR
   clear hR hsg
   have n1:True:=trivial
   go_enter Tryz.func149,Tryz.ntmps149
   go_wp2_with (first|(clear hL n1;with_reducible intro bx wx hL)|(go_at_call 148;(with_reducible refine (HNe.out _).mono ?_);rintro e _ ⟨rfl,hb⟩;replace hL:=hL.call hb;clear hb)|((with_reducible refine goJ rfl ?_);refine goW ?_))
   go_ret
   exact ⟨ret_bool (by rw [HR.out];rfl),hL.below⟩
 ·have d0:decide (U≤0)=true:=decide_eq_true g
  rw [d0,hsg g] at hR
  generalize sgR (2*U) wide L=G at *
  cases nb
  all_goals
   have HR:=Lib.hid hR
   clear hR hsg
   have n1:True:=trivial
   go_enter Tryz.func149,Tryz.ntmps149
   go_wp2_with (first|(clear hL n1;with_reducible intro bx wx hL)|(go_at_call 148;(with_reducible refine (HNe.out _).mono ?_);rintro e _ ⟨rfl,hb⟩;replace hL:=hL.call hb;clear hb)|(go_at_call 157;(with_reducible refine (HS.out _).mono ?_);rintro e _ ⟨rfl,hb⟩;replace hL:=hL.call hb;clear hb)|((with_reducible refine goJ rfl ?_);refine goW ?_))
   go_ret
   exact ⟨ret_bool (by rw [HR.out];simp),hL.below⟩
set_option maxRecDepth 100000 in
theorem armBehind_calls (U K L:Int) (hb:ArmBd U K L) (wide:Int) (hw:0≤wide∧wide≤2048) (w:World):Calls Tryz.prog 150 #[.agg #[.int .i64 U,.int .i64 K,.int .i64 L],.int .i64 wide] w fun e w'=>e=.returned (.bool (behindA U K L wide))∧Below w.heap.size w w':=by
 have hL:=Holds.start w
 have HNe:=Lib.hid (fun w=>armNear_calls U K L hb wide hw w)
 obtain ⟨u0,u1,k0,k1,l0,l1⟩:=hb
 have hR:behindA U K L wide=(nearA K L wide&&(decide (L≤U)&&decide (4*((U-L)*(U-L))≤wide*wide*L))):=rfl
 have hsg:L≤U→decide (4*((U-L)*(U-L))≤wide*wide*L)=decide (sgR (2*(U-L)) (-wide) L≤0):=fun h=>by
  rw [decide_eq_decide,sgn_behind (by omega) hw.1 l0,show 2*(U-L)*(2*(U-L))=4*((U-L)*(U-L)) by grind]
 have HS:=Lib.hid (fun w=>refSign_calls (2*(U-L)) (-wide) L ⟨by omega,by omega,by omega,by omega,by omega,by omega⟩ w)
 generalize behindA U K L wide=R at *
 generalize nearA K L wide=nb at *
 rcases (by omega:¬L≤U∨L≤U) with g|g
 ·have d0:decide (L≤U)=false:=decide_eq_false g
  rw [d0] at hR
  cases nb
  all_goals
   have HR:=Lib.hid hR
   clear hR hsg
   have n1:True:=trivial
   go_enter Tryz.func150,Tryz.ntmps150
   go_wp2_with (first|(clear hL n1;with_reducible intro bx wx hL)|(go_at_call 148;(with_reducible refine (HNe.out _).mono ?_);rintro e _ ⟨rfl,hb⟩;replace hL:=hL.call hb;clear hb)|((with_reducible refine goJ rfl ?_);refine goW ?_))
   go_ret
   exact ⟨ret_bool (by rw [HR.out];rfl),hL.below⟩
 ·have d0:decide (L≤U)=true:=decide_eq_true g
  rw [d0,hsg g] at hR
  generalize sgR (2*(U-L)) (-wide) L=G at *
  cases nb
  all_goals
   have HR:=Lib.hid hR
   clear hR hsg
   have n1:True:=trivial
   go_enter Tryz.func150,Tryz.ntmps150
   go_wp2_with (first|(clear hL n1;with_reducible intro bx wx hL)|(go_at_call 148;(with_reducible refine (HNe.out _).mono ?_);rintro e _ ⟨rfl,hb⟩;replace hL:=hL.call hb;clear hb)|(go_at_call 157;(with_reducible refine (HS.out _).mono ?_);rintro e _ ⟨rfl,hb⟩;replace hL:=hL.call hb;clear hb)|((with_reducible refine goJ rfl ?_);refine goW ?_))
   go_ret
   exact ⟨ret_bool (by rw [HR.out];simp),hL.below⟩
open Go.RowKit
def isDot (c:Ct):Bool:=decide ((piecesC c).length=0)&&(c.shut || decide (0<c.edges.length))
def PiecesOut (c:Ct) (w:World) (e:Ending) (w':World):Prop:=∃ v,e=.returned (.tuple #[v,.bool (isDot c)])∧Below w.heap.size w w'∧Fresh w w' (fun w=>EdgesAt w v (piecesC c))
set_option maxRecDepth 100000 in
set_option maxHeartbeats 8000000 in
theorem rPieces_calls (w:World) (v:Value) (c:Ct) (hv:EdgesAt w v c.edges) (hlen:c.edges.length≤300):Calls Tryz.prog 138 #[.agg #[.int .i64 c.x,.int .i64 c.y,v,.bool c.shut]] w (PiecesOut c w):=by
 obtain ⟨ea,ec,rfl,hlc,hcm,hel⟩:=EdgesAt.parts hv
 clear hv
 unfold maxLen at hcm
 have Hel:=Lib.hid hel;clear hel
 have hL:=Holds.start w
 have hPc:piecesC c=(c.edges.take c.edges.length).filter goes++(if c.shut&&(decide ((posE c.x c.y (c.edges.take c.edges.length)).1≠c.x) || decide ((posE c.x c.y (c.edges.take c.edges.length)).2≠c.y)) then [⟨(posE c.x c.y (c.edges.take c.edges.length)).1,(posE c.x c.y (c.edges.take c.edges.length)).2,false,0,0,c.x,c.y⟩] else []):=by
  rw [List.take_length]
  unfold piecesC shutE
  congr 1
  simp
 have HPc:=Lib.hid hPc
 clear hPc
 have hpl:=pieces_len c
 unfold PiecesOut isDot
 generalize piecesC c=R at *
 obtain ⟨cx,cy,es,sh⟩:=c
 dsimp only at *
 obtain ⟨m,hm⟩:∃ m,es.length=m:=⟨_,rfl⟩
 rw [hm] at hlc hlen hpl Hel ⊢
 have HM:=Lib.hid hm
 clear hm
 have n1:True:=trivial
 go_enter Tryz.func138,Tryz.ntmps138
 go_wp2_with (first|(with_reducible (clear hL n1;intro b1 w1 hL))|((with_reducible refine wpA_lit rfl _ _ _ rfl ?_);first|refine litA1 hL ?_|refine litA2 hL ?_|refine litA3 hL ?_|refine litA4 hL ?_|refine litA6 hL ?_)|((with_reducible refine goJ rfl ?_);refine goW ?_))
 replace hL:=hL.drew
 have hS:(fun w':World=>w'.rangeAt b1 0 [.int .i64 cx,.int .i64 cy,.slice ea m ec,.bool sh]) _:=hL.range (by (repeat (first|with_reducible exact At.here|with_reducible apply At.there)))
 refine wpH_begin (by kernel_rfl) (fun w':World=>w'.rangeAt b1 0 [.int .i64 cx,.int .i64 cy,.slice ea m ec,.bool sh]) ?_
 refine dsH 0 (.pointer (some ⟨b1,0,none⟩)) hS ?_
 refine drH 1 (.int .i64 cx) hS ?_ ?_;(· exact fun w' hw=>(load_cell (hw 0 _ rfl)))
 refine dsH 2 (.pointer (some ⟨b1,1,none⟩)) hS ?_
 refine drH 3 (.int .i64 cy) hS ?_ ?_;(· exact fun w' hw=>(load_cell (hw 1 _ rfl)))
 refine dsH 4 (.int .i64 cx) hS ?_
 refine dsH 5 (.int .i64 cy) hS ?_
 refine wpAnyH_done (by kernel_rfl) ?_ _
 clear hS
 go_wp2_with (first|(with_reducible (clear hL n1;intro b1 w1 hL))|((with_reducible refine wpA_lit rfl _ _ _ rfl ?_);first|refine litA1 hL ?_|refine litA2 hL ?_|refine litA3 hL ?_|refine litA4 hL ?_|refine litA6 hL ?_)|((with_reducible refine goJ rfl ?_);refine goW ?_))
 go_loopw [4,5,6,7] (fun s4 s5 s6 s7 wr=>∃ (k:Nat) (acc:List Edg) (x y:Int),k≤m∧s7=.int .i64 k∧s5=.int .i64 x∧s6=.int .i64 y∧acc=(es.take k).filter goes∧(x,y)=posE cx cy (es.take k)∧Holds w wr [own w.heap.size 177 7 s4 acc.length (acc.map edgeC).flatten,blk b1 #[.int .i64 cx,.int .i64 cy,.slice ea m ec,.bool sh] 173] [])
  (fun s4 s5 s6 s7 wr=>m-(intOf s7).toNat)
 case atStart=>exact ⟨0,[],cx,cy,by omega,rfl,rfl,rfl,rfl,rfl,hL.newOwn⟩
 case round =>
  clear hL
  obtain ⟨k,acc,x,y,hk,rfl,rfl,rfl,hacc,hpos,hL⟩:=hrel
  obtain ⟨ga,gc,rfl⟩:=own_slice hL .here
  have hal:acc.length≤k:=by
   have h1:=List.length_filter_le goes (es.take k)
   rw [List.length_take] at h1
   rw [hacc]
   omega
  by_cases hkt:k<m
  ·obtain ⟨be,oe,rfl,hc⟩:=Hel.out k hkt
   have hkb:(k:Int)<(m:Int):=by omega
   have hstep:es.take (k+1)=es.take k++[es.getD k default]:=by
    have hkt2:k<es.length:=by rw [HM.out];exact hkt
    rw [List.take_succ_eq_append_getElem hkt2];simp [hkt2]
   have hp:((es.getD k default).x1,(es.getD k default).y1)=posE cx cy (es.take (k+1)):=by rw [hstep,posE_snoc]
   have hfl:(es.take (k+1)).filter goes=acc++(if goes (es.getD k default) then [es.getD k default] else []):=by
    rw [hstep,List.filter_append,←hacc]
    congr 1
    rw [List.filter_cons,List.filter_nil]
   have HP:=Lib.hid hp
   clear hstep hp hpos hacc
   generalize es.getD k default=e at *
   obtain ⟨x0,y0,bt,dx,dy,x1,y1⟩:=e
   unfold edgeC at hc
   unfold goes at hfl
   dsimp only at hc hfl HP
   rcases (by omega:x0≠x1∨(x0=x1∧y0≠y1)∨(x0=x1∧y0=y1)) with h|⟨h,h2⟩|⟨h,h2⟩
   ·have HA:=Lib.hid (show acc++[⟨x0,y0,bt,dx,dy,x1,y1⟩]=List.filter goes (es.take (k+1)) by unfold goes;rw [hfl];simp [h])
    have e1:(x0 != x1)=true:=by simp [h]
    clear hfl h
    obtain ⟨n1,n2,n3⟩:=tok3
    clear n1
    go_wp2_with (first|(with_reducible first|(clear hL;intro _ _ _ hL;try dsimp only at hL)|(clear hL n2;intro b2 w2 hL)|(clear hL n3;intro b3 w3 hL)|(clear hL;intro _ hL))|((with_reducible refine wpA_lit rfl _ _ _ rfl ?_);first|refine litA1 hL ?_|refine litA2 hL ?_|refine litA3 hL ?_|refine litA4 hL ?_|refine litA6 hL ?_)|((with_reducible refine goJ rfl ?_);refine goW ?_))
    replace hL:=hL.drew
    have hS:(fun w':World=>w'.rangeAt b2 0 [.int .i64 x0,.int .i64 y0,.bool bt,.int .i64 dx,.int .i64 dy,.int .i64 x1,.int .i64 y1]) _:=hL.range (by (repeat (first|with_reducible exact At.here|with_reducible apply At.there)))
    refine wpH_begin (by kernel_rfl) (fun w':World=>w'.rangeAt b2 0 [.int .i64 x0,.int .i64 y0,.bool bt,.int .i64 dx,.int .i64 dy,.int .i64 x1,.int .i64 y1]) ?_
    refine dsH 0 (.pointer (some ⟨b2,5,none⟩)) hS ?_
    refine drH 1 (.int .i64 x1) hS ?_ ?_;(· exact fun w' hw=>(load_cell (hw 5 _ rfl)))
    refine dsH 2 (.pointer (some ⟨b2,6,none⟩)) hS ?_
    refine drH 3 (.int .i64 y1) hS ?_ ?_;(· exact fun w' hw=>(load_cell (hw 6 _ rfl)))
    refine dsH 4 (.int .i64 x1) hS ?_
    refine dsH 5 (.int .i64 y1) hS ?_
    refine wpAnyH_done (by kernel_rfl) ?_ _
    clear hS
    go_wp2_with (first|(with_reducible first|(clear hL;intro _ _ _ hL;try dsimp only at hL)|(clear hL n2;intro b2 w2 hL)|(clear hL n3;intro b3 w3 hL)|(clear hL;intro _ hL))|((with_reducible refine wpA_lit rfl _ _ _ rfl ?_);first|refine litA1 hL ?_|refine litA2 hL ?_|refine litA3 hL ?_|refine litA4 hL ?_|refine litA6 hL ?_)|((with_reducible refine goJ rfl ?_);refine goW ?_))
    go_roundw
    case rel =>
     refine ⟨k+1,acc++[⟨x0,y0,bt,dx,dy,x1,y1⟩],x1,y1,by omega,by go_num,rfl,rfl,HA.out,HP.out,?_⟩
     rw [List.length_append,List.map_append,List.flatten_append]
     exact hL.drop .here
    case measure=>simp [intOf];omega
   ·have HA:=Lib.hid (show acc++[⟨x0,y0,bt,dx,dy,x1,y1⟩]=List.filter goes (es.take (k+1)) by unfold goes;rw [hfl];simp [h,h2])
    have e1:(x0 != x1)=false:=by simp [h]
    have e2:(y0 != y1)=true:=by simp [h2]
    clear hfl h h2
    obtain ⟨n1,n2,n3⟩:=tok3
    clear n1
    go_wp2_with (first|(with_reducible first|(clear hL;intro _ _ _ hL;try dsimp only at hL)|(clear hL n2;intro b2 w2 hL)|(clear hL n3;intro b3 w3 hL)|(clear hL;intro _ hL))|((with_reducible refine wpA_lit rfl _ _ _ rfl ?_);first|refine litA1 hL ?_|refine litA2 hL ?_|refine litA3 hL ?_|refine litA4 hL ?_|refine litA6 hL ?_)|((with_reducible refine goJ rfl ?_);refine goW ?_))
    replace hL:=hL.drew
    have hS:(fun w':World=>w'.rangeAt b2 0 [.int .i64 x0,.int .i64 y0,.bool bt,.int .i64 dx,.int .i64 dy,.int .i64 x1,.int .i64 y1]) _:=hL.range (by (repeat (first|with_reducible exact At.here|with_reducible apply At.there)))
    refine wpH_begin (by kernel_rfl) (fun w':World=>w'.rangeAt b2 0 [.int .i64 x0,.int .i64 y0,.bool bt,.int .i64 dx,.int .i64 dy,.int .i64 x1,.int .i64 y1]) ?_
    refine dsH 0 (.pointer (some ⟨b2,5,none⟩)) hS ?_
    refine drH 1 (.int .i64 x1) hS ?_ ?_;(· exact fun w' hw=>(load_cell (hw 5 _ rfl)))
    refine dsH 2 (.pointer (some ⟨b2,6,none⟩)) hS ?_
    refine drH 3 (.int .i64 y1) hS ?_ ?_;(· exact fun w' hw=>(load_cell (hw 6 _ rfl)))
    refine dsH 4 (.int .i64 x1) hS ?_
    refine dsH 5 (.int .i64 y1) hS ?_
    refine wpAnyH_done (by kernel_rfl) ?_ _
    clear hS
    go_wp2_with (first|(with_reducible first|(clear hL;intro _ _ _ hL;try dsimp only at hL)|(clear hL n2;intro b2 w2 hL)|(clear hL n3;intro b3 w3 hL)|(clear hL;intro _ hL))|((with_reducible refine wpA_lit rfl _ _ _ rfl ?_);first|refine litA1 hL ?_|refine litA2 hL ?_|refine litA3 hL ?_|refine litA4 hL ?_|refine litA6 hL ?_)|((with_reducible refine goJ rfl ?_);refine goW ?_))
    go_roundw
    case rel =>
     refine ⟨k+1,acc++[⟨x0,y0,bt,dx,dy,x1,y1⟩],x1,y1,by omega,by go_num,rfl,rfl,HA.out,HP.out,?_⟩
     rw [List.length_append,List.map_append,List.flatten_append]
     exact hL.drop .here
    case measure=>simp [intOf];omega
   ·have HA:=Lib.hid (show acc=List.filter goes (es.take (k+1)) by unfold goes;rw [hfl];simp [h,h2])
    have e1:(x0 != x1)=false:=by simp [h]
    have e2:(y0 != y1)=false:=by simp [h2]
    clear hfl h h2
    obtain ⟨n1,n2,n3⟩:=tok3
    clear n1
    go_wp2_with (first|(with_reducible first|(clear hL;intro _ _ _ hL;try dsimp only at hL)|(clear hL n2;intro b2 w2 hL)|(clear hL n3;intro b3 w3 hL)|(clear hL;intro _ hL))|((with_reducible refine wpA_lit rfl _ _ _ rfl ?_);first|refine litA1 hL ?_|refine litA2 hL ?_|refine litA3 hL ?_|refine litA4 hL ?_|refine litA6 hL ?_)|((with_reducible refine goJ rfl ?_);refine goW ?_))
    replace hL:=hL.drew
    have hS:(fun w':World=>w'.rangeAt b2 0 [.int .i64 x0,.int .i64 y0,.bool bt,.int .i64 dx,.int .i64 dy,.int .i64 x1,.int .i64 y1]) _:=hL.range (by (repeat (first|with_reducible exact At.here|with_reducible apply At.there)))
    refine wpH_begin (by kernel_rfl) (fun w':World=>w'.rangeAt b2 0 [.int .i64 x0,.int .i64 y0,.bool bt,.int .i64 dx,.int .i64 dy,.int .i64 x1,.int .i64 y1]) ?_
    refine dsH 0 (.pointer (some ⟨b2,5,none⟩)) hS ?_
    refine drH 1 (.int .i64 x1) hS ?_ ?_;(· exact fun w' hw=>(load_cell (hw 5 _ rfl)))
    refine dsH 2 (.pointer (some ⟨b2,6,none⟩)) hS ?_
    refine drH 3 (.int .i64 y1) hS ?_ ?_;(· exact fun w' hw=>(load_cell (hw 6 _ rfl)))
    refine dsH 4 (.int .i64 x1) hS ?_
    refine dsH 5 (.int .i64 y1) hS ?_
    refine wpAnyH_done (by kernel_rfl) ?_ _
    clear hS
    go_wp2_with (first|(with_reducible first|(clear hL;intro _ _ _ hL;try dsimp only at hL)|(clear hL n2;intro b2 w2 hL)|(clear hL n3;intro b3 w3 hL)|(clear hL;intro _ hL))|((with_reducible refine wpA_lit rfl _ _ _ rfl ?_);first|refine litA1 hL ?_|refine litA2 hL ?_|refine litA3 hL ?_|refine litA4 hL ?_|refine litA6 hL ?_)|((with_reducible refine goJ rfl ?_);refine goW ?_))
    go_roundw
    case rel=>exact ⟨k+1,acc,x1,y1,by omega,by go_num,rfl,rfl,HA.out,HP.out,hL.drop .here⟩
    case measure=>simp [intOf];omega
  ·have e:m=k:=by omega
   subst e
   have hPc:=HPc.out
   rw [HM.out,←hpos,←hacc] at hPc
   dsimp only at hPc
   clear HPc hpos hacc
   obtain ⟨d1,hd1⟩:∃ d,(x != cx)=d:=⟨_,rfl⟩
   obtain ⟨d2,hd2⟩:∃ d,(y != cy)=d:=⟨_,rfl⟩
   rw [show decide (x≠cx)=d1 by rw [←hd1];by_cases h:x=cx <;> simp [h],show decide (y≠cy)=d2 by rw [←hd2];by_cases h:y=cy <;> simp [h]] at hPc
   obtain ⟨cb,hcb⟩:∃ b,(sh&&(d1 || d2))=b:=⟨_,rfl⟩
   rw [hcb] at hPc
   have HCB:=Lib.hid hcb
   have HPc:=Lib.hid hPc
   clear hcb hPc
   go_upto_region 10 with (first|((with_reducible refine wpA_lit rfl _ _ _ rfl ?_);first|refine litA1 hL ?_|refine litA2 hL ?_|refine litA3 hL ?_|refine litA4 hL ?_|refine litA6 hL ?_)|((with_reducible refine goJ rfl ?_);refine goW ?_))
   go_cut [56] from 43 to 80 (fun s56 wc=>s56=.bool cb∧Holds w wc [own w.heap.size 177 7 (.slice ga acc.length gc) acc.length (acc.map edgeC).flatten,blk b1 #[.int .i64 cx,.int .i64 cy,.slice ea m ec,.bool sh] 173] [])
   case first =>
    cases sh
    ·go_wp2_with (first|((with_reducible refine wpA_lit rfl _ _ _ rfl ?_);first|refine litA1 hL ?_|refine litA2 hL ?_|refine litA3 hL ?_|refine litA4 hL ?_|refine litA6 hL ?_)|((with_reducible refine goJ rfl ?_);refine goW ?_))
     go_meet
     case rel=>exact ⟨by rw [←HCB.out];rfl,hL⟩
    ·cases d1
     ·go_wp2_with (first|((with_reducible refine wpA_lit rfl _ _ _ rfl ?_);first|refine litA1 hL ?_|refine litA2 hL ?_|refine litA3 hL ?_|refine litA4 hL ?_|refine litA6 hL ?_)|((with_reducible refine goJ rfl ?_);refine goW ?_))
      go_meet
      case rel=>exact ⟨by rw [←HCB.out];rfl,hL⟩
     ·go_wp2_with (first|((with_reducible refine wpA_lit rfl _ _ _ rfl ?_);first|refine litA1 hL ?_|refine litA2 hL ?_|refine litA3 hL ?_|refine litA4 hL ?_|refine litA6 hL ?_)|((with_reducible refine goJ rfl ?_);refine goW ?_))
      go_meet
      case rel=>exact ⟨by rw [←HCB.out];rfl,hL⟩
   case rest =>
    clear hL HCB
    obtain ⟨rfl,hL⟩:=hcut
    go_upto_if 56 with (fail)
    go_cut [4] from 43 to 80 (fun s4 wc=>Holds w wc [own w.heap.size 177 7 s4 R.length (R.map edgeC).flatten,blk b1 #[.int .i64 cx,.int .i64 cy,.slice ea m ec,.bool sh] 173] [])
    case first =>
     cases cb
     ·have HR:=Lib.hid (show R=acc by rw [HPc.out];simp)
      go_wp2_with (first|(with_reducible first|(clear hL;intro _ _ _ hL;try dsimp only at hL)|(clear hL n2;intro b2 w2 hL)|(clear hL n3;intro b3 w3 hL)|(clear hL;intro _ hL))|((with_reducible refine wpA_lit rfl _ _ _ rfl ?_);first|refine litA1 hL ?_|refine litA2 hL ?_|refine litA3 hL ?_|refine litA4 hL ?_|refine litA6 hL ?_)|((with_reducible refine goJ rfl ?_);refine goW ?_))
      go_meet
      case rel =>
       rw [HR.out]
       exact hL
     ·have HR:=Lib.hid (show R=acc++[⟨x,y,false,0,0,cx,cy⟩] by rw [HPc.out];simp)
      obtain ⟨n1,n2,n3⟩:=tok3
      clear n1 n2
      go_wp2_with (first|(with_reducible first|(clear hL;intro _ _ _ hL;try dsimp only at hL)|(clear hL n2;intro b2 w2 hL)|(clear hL n3;intro b3 w3 hL)|(clear hL;intro _ hL))|((with_reducible refine wpA_lit rfl _ _ _ rfl ?_);first|refine litA1 hL ?_|refine litA2 hL ?_|refine litA3 hL ?_|refine litA4 hL ?_|refine litA6 hL ?_)|((with_reducible refine goJ rfl ?_);refine goW ?_))
      go_meet
      case rel =>
       rw [HR.out,List.length_append,List.map_append,List.flatten_append]
       exact hL
    case rest =>
     clear hL HPc
     have hL:=hcut
     clear hcut
     obtain ⟨gr,gc,rfl⟩:=own_slice hL .here
     obtain ⟨n,hn⟩:∃ n,R.length=n:=⟨_,rfl⟩
     have HN:=Lib.hid hn
     rw [hn] at hL hpl ⊢
     clear hn
     have HF:=Lib.hid (hL.settle .here (φ:=fun w=>EdgesAt w (.slice gr n gc) R) fun w h=>own_sliceAt h (by rw [List.length_map,HN.out]) rfl (edgeC_len _)).fresh
     go_upto_region 12 with (fail)
     rcases (by omega:n≠0∨n=0) with h0|h0
     ·have e0:((n:Int) == 0)=false:=beq_eq_false_iff_ne.2 (by omega)
      have HZ:=Lib.hid h0
      clear h0
      replace hL:=hL.drew
      have hS:(fun w':World=>w'.rangeAt b1 0 [.int .i64 cx,.int .i64 cy,.slice ea m ec,.bool sh]) _:=hL.range (by (repeat (first|with_reducible exact At.here|with_reducible apply At.there)))
      refine wpH_begin (by kernel_rfl) (fun w':World=>w'.rangeAt b1 0 [.int .i64 cx,.int .i64 cy,.slice ea m ec,.bool sh]) ?_
      refine dsH 0 (.slice gr n gc) hS ?_
      refine dsH 1 (.slice gr n gc) hS ?_
      refine dsH 2 (.int .i64 (n:Nat)) hS ?_
      refine dsH 3 (.bool false) hS ?_
      refine dsH 4 (.bool false) hS ?_
      refine skH (i:=5) hS ?_
      simp only [Act.put,setP]
      refine skH (i:=6) hS ?_
      simp only [Act.put,setP]
      refine skH (i:=7) hS ?_
      simp only [Act.put,setP]
      refine skH (i:=8) hS ?_
      simp only [Act.put,setP]
      refine skH (i:=9) hS ?_
      simp only [Act.put,setP]
      refine skH (i:=10) hS ?_
      simp only [Act.put,setP]
      refine skH (i:=11) hS ?_
      simp only [Act.put,setP]
      refine skH (i:=12) hS ?_
      simp only [Act.put,setP]
      refine dsH 13 (.bool false) hS ?_
      refine dsH 14 (.slice gr n gc) hS ?_
      refine dsH 15 (.bool false) hS ?_
      refine wpAnyH_done (by kernel_rfl) ?_ _
      clear hS
      go_wp2
      go_ret2
      exact ⟨.slice gr n gc,by rw [HN.out,decide_eq_false HZ.out];rfl,hL.below,HF.out⟩
     ·have e0:((n:Int) == 0)=true:=by rw [h0];rfl
      have HZ:=Lib.hid h0
      clear h0
      cases sh
      ·rcases (by omega:m=0∨0<m) with h1|h1
       ·subst h1
        replace hL:=hL.drew
        have hS:(fun w':World=>w'.rangeAt b1 0 [.int .i64 cx,.int .i64 cy,.slice ea 0 ec,.bool false]) _:=hL.range (by (repeat (first|with_reducible exact At.here|with_reducible apply At.there)))
        refine wpH_begin (by kernel_rfl) (fun w':World=>w'.rangeAt b1 0 [.int .i64 cx,.int .i64 cy,.slice ea 0 ec,.bool false]) ?_
        refine dsH 0 (.slice gr n gc) hS ?_
        refine dsH 1 (.slice gr n gc) hS ?_
        refine dsH 2 (.int .i64 (n:Nat)) hS ?_
        refine dsH 3 (.bool true) hS ?_
        refine dsH 4 (.bool true) hS ?_
        refine dsH 5 (.pointer (some ⟨b1,3,none⟩)) hS ?_
        refine drH 6 (.bool false) hS ?_ ?_;(· exact fun w' hw=>(load_cell (hw 3 _ rfl)))
        refine dsH 7 (.bool false) hS ?_
        refine dsH 8 (.pointer (some ⟨b1,2,none⟩)) hS ?_
        refine drH 9 (.slice ea 0 ec) hS ?_ ?_;(· exact fun w' hw=>(load_cell (hw 2 _ rfl)))
        refine dsH 10 (.int .i64 0) hS ?_
        refine dsH 11 (.bool false) hS ?_
        refine dsH 12 (.bool false) hS ?_
        refine dsH 13 (.bool false) hS ?_
        refine dsH 14 (.slice gr n gc) hS ?_
        refine dsH 15 (.bool false) hS ?_
        refine wpAnyH_done (by kernel_rfl) ?_ _
        clear hS
        go_wp2
        go_ret2
        exact ⟨.slice gr n gc,by rw [HN.out,decide_eq_true HZ.out];rfl,hL.below,HF.out⟩
       ·have e1:(0:Int)<(m:Int):=by omega
        replace hL:=hL.drew
        have hS:(fun w':World=>w'.rangeAt b1 0 [.int .i64 cx,.int .i64 cy,.slice ea m ec,.bool false]) _:=hL.range (by (repeat (first|with_reducible exact At.here|with_reducible apply At.there)))
        refine wpH_begin (by kernel_rfl) (fun w':World=>w'.rangeAt b1 0 [.int .i64 cx,.int .i64 cy,.slice ea m ec,.bool false]) ?_
        refine dsH 0 (.slice gr n gc) hS ?_
        refine dsH 1 (.slice gr n gc) hS ?_
        refine dsH 2 (.int .i64 (n:Nat)) hS ?_
        refine dsH 3 (.bool true) hS ?_
        refine dsH 4 (.bool true) hS ?_
        refine dsH 5 (.pointer (some ⟨b1,3,none⟩)) hS ?_
        refine drH 6 (.bool false) hS ?_ ?_;(· exact fun w' hw=>(load_cell (hw 3 _ rfl)))
        refine dsH 7 (.bool false) hS ?_
        refine dsH 8 (.pointer (some ⟨b1,2,none⟩)) hS ?_
        refine drH 9 (.slice ea m ec) hS ?_ ?_;(· exact fun w' hw=>(load_cell (hw 2 _ rfl)))
        refine dsH 10 (.int .i64 (m:Nat)) hS ?_
        refine dsH 11 (.bool true) hS ?_
        refine dsH 12 (.bool true) hS ?_
        refine dsH 13 (.bool true) hS ?_
        refine dsH 14 (.slice gr n gc) hS ?_
        refine dsH 15 (.bool true) hS ?_
        refine wpAnyH_done (by kernel_rfl) ?_ _
        clear hS
        go_wp2
        go_ret2
        exact ⟨.slice gr n gc,by rw [HN.out,decide_eq_true HZ.out,decide_eq_true h1];rfl,hL.below,HF.out⟩
      ·skip
       replace hL:=hL.drew
       have hS:(fun w':World=>w'.rangeAt b1 0 [.int .i64 cx,.int .i64 cy,.slice ea m ec,.bool true]) _:=hL.range (by (repeat (first|with_reducible exact At.here|with_reducible apply At.there)))
       refine wpH_begin (by kernel_rfl) (fun w':World=>w'.rangeAt b1 0 [.int .i64 cx,.int .i64 cy,.slice ea m ec,.bool true]) ?_
       refine dsH 0 (.slice gr n gc) hS ?_
       refine dsH 1 (.slice gr n gc) hS ?_
       refine dsH 2 (.int .i64 (n:Nat)) hS ?_
       refine dsH 3 (.bool true) hS ?_
       refine dsH 4 (.bool true) hS ?_
       refine dsH 5 (.pointer (some ⟨b1,3,none⟩)) hS ?_
       refine drH 6 (.bool true) hS ?_ ?_;(· exact fun w' hw=>(load_cell (hw 3 _ rfl)))
       refine dsH 7 (.bool true) hS ?_
       refine skH (i:=8) hS ?_
       simp only [Act.put,setP]
       refine skH (i:=9) hS ?_
       simp only [Act.put,setP]
       refine skH (i:=10) hS ?_
       simp only [Act.put,setP]
       refine skH (i:=11) hS ?_
       simp only [Act.put,setP]
       refine dsH 12 (.bool true) hS ?_
       refine dsH 13 (.bool true) hS ?_
       refine dsH 14 (.slice gr n gc) hS ?_
       refine dsH 15 (.bool true) hS ?_
       refine wpAnyH_done (by kernel_rfl) ?_ _
       clear hS
       go_wp2
       go_ret2
       exact ⟨.slice gr n gc,by rw [HN.out,decide_eq_true HZ.out];rfl,hL.below,HF.out⟩
open Go.RowKit
theorem Holds.swapQ {w0 w:World} {r s:Res} {M:List Res} {Φ:List (World→Prop)} (h:Holds w0 w (r::s::M) Φ):Holds w0 w (s::r::M) Φ:=by
 have hp:=List.pairwise_cons.1 h.apart
 have hp2:=List.pairwise_cons.1 hp.2
 have mem:∀ t,t∈s::r::M→t∈r::s::M:=by
  intro t ht
  rcases List.mem_cons.1 ht with rfl|ht
  ·exact .tail _ (.head _)
  ·rcases List.mem_cons.1 ht with rfl|ht
   ·exact .head _
   ·exact .tail _ (.tail _ ht)
 refine ⟨h.below,fun t ht=>h.ok t (mem t ht),fun t ht=>h.low t (mem t ht),?_,fun φ hφ=>?_⟩
 ·refine List.Pairwise.cons (fun t ht b hb e=>?_) (List.Pairwise.cons (fun t ht=>hp.1 t (.tail _ ht)) hp2.2)
  rcases List.mem_cons.1 ht with rfl|ht
  ·exact hp.1 s (.head _) b e hb
  ·exact hp2.1 t ht b hb e
 ·obtain ⟨F,h1,h2⟩:=h.firm φ hφ
  exact ⟨F,fun b hb=>⟨(h1 b hb).1,(h1 b hb).2.1,fun t ht=>(h1 b hb).2.2 t (mem t ht)⟩,h2⟩
section
variable {P : Program} {w0 w : World} {M : List Res} {Φ : List (World → Prop)} {ops : Array Oper} {o : Oper} {a : Act} {Q : Exit → Act → World → Prop} {K : Act → World → Prop}
theorem st_allocQ (hgd:Region.wanted o (yielded ops a.tmps)=true) (T:TypeId) (ho:o.op=.alloc T) {z:Value} {cs:Array Value} [hz:ZeroT P T z cs]
  (hL:Holds w0 w M Φ) (h:∀ b w',Holds w0 w' (blk b cs T::M) Φ→K (a.put o.dst (.pointer (some ⟨b,0,none⟩))) w'):wpStep P ops Q o K a w:=by
 obtain ⟨hz1,hz2⟩:=hz
 subst hz2
 refine st_run hgd (.pointer (some ⟨w.heap.size,0,none⟩)) (w.alloc (.cells z.cells T)) ?_ (h _ _ (hL.alloc _ _))
 unfold execOp
 have:(Instr.alloc T true (.tuple #[])).run P w=.ok (.pointer (some ⟨w.heap.size,0,none⟩)) (w.alloc (.cells z.cells T)):=by
  unfold Instr.alloc
  rw [Sem.run_bind,hz1]
  rfl
 simp only [ho,Sem.run_bind,this,Result.andThen_ok]
 rfl
theorem load_rangeO {T:TypeId} {b f n:Nat} {cs:Array Value} {w:World} [hT:RowT P T n] (hn:n=cs.size) (hc:w.rangeAt b f cs.toList):LoadAt P T ⟨b,f,none⟩ w fun u=>u=.agg cs:=loadAt_cells hT cs.toList hc (by simpa using hn) (by simp)
end
theorem exContQ {G:Prop} {H P:Nat→Nat→World→Prop} (h1:(∀ a b w,H a b w→P a b w)→G) (h2:∀ a b w,H a b w→P a b w):G:=h1 h2
def dotIn (c:Ct) (s:Sty) (x y:Int):Bool:=if s.cap=1 then discIn c.x c.y s.wide x y else if s.cap=2 then squareIn c.x c.y s.wide x y else false
set_option maxRecDepth 100000 in
set_option maxHeartbeats 4000000 in
theorem rDot_calls (v:Value) (cx cy:Int) (es:List Edg) (sh:Bool) (h1 : -8191≤cx∧cx≤8191) (h2 : -8191≤cy∧cy≤8191) (wd cap join:Int) (hw:0≤wd∧wd≤2048) (hcap:cap=0∨cap=1∨cap=2) (x y:Int) (hx : -8191≤x∧x≤8191) (hy : -8191≤y∧y≤8191) (w:World) :
  Calls Tryz.prog 139 #[.agg #[.int .i64 cx,.int .i64 cy,v,.bool sh],.agg #[.int .i64 wd,.int .i64 cap,.int .i64 join],.int .i64 x,.int .i64 y] w fun e w'=>e=.returned (.bool (dotIn ⟨cx,cy,es,sh⟩ ⟨wd,cap,join⟩ x y))∧Below w.heap.size w w':=by
 have hL:=Holds.start w
 have HD:=Lib.hid (fun w=>rDisc_calls cx cy wd x y h1 h2 hw hx hy w)
 have hR:dotIn ⟨cx,cy,es,sh⟩ ⟨wd,cap,join⟩ x y=if cap=1 then discIn cx cy wd x y else if cap=2 then ((decide (2*(x-cx)≤wd)&&decide (2*(cx-x)≤wd))&&(decide (2*(y-cy)≤wd)&&decide (2*(cy-y)≤wd))) else false:=rfl
 generalize dotIn ⟨cx,cy,es,sh⟩ ⟨wd,cap,join⟩ x y=R at *
 rcases hcap with rfl|rfl|rfl
 ·rw [if_neg (by decide),if_neg (by decide)] at hR
  subst hR
  clear HD
  obtain ⟨n1,n2⟩:=tok2
  go_enter Tryz.func139,Tryz.ntmps139
  go_wp2_with (first|(with_reducible first|(clear hL n1;intro b1 w1 hL)|(clear hL n2;intro b2 w2 hL))|((with_reducible refine goJ rfl ?_);refine goW ?_))
  go_ret
  exact ⟨rfl,hL.below⟩
 ·rw [if_pos rfl] at hR
  generalize discIn cx cy wd x y=d at *
  subst hR
  obtain ⟨n1,n2⟩:=tok2
  go_enter Tryz.func139,Tryz.ntmps139
  go_wp2_with (first|(go_at_call 142;(with_reducible refine (HD.out _).mono ?_);rintro e _ ⟨rfl,hb⟩;replace hL:=hL.call hb;clear hb)|(with_reducible first|(clear hL n1;intro b1 w1 hL)|(clear hL n2;intro b2 w2 hL))|((with_reducible refine goJ rfl ?_);refine goW ?_))
  go_ret
  exact ⟨rfl,hL.below⟩
 ·rw [if_neg (by decide),if_pos rfl] at hR
  clear HD
  obtain ⟨m,hm⟩:∃ m,max (x-cx) (cx-x)=m:=⟨_,rfl⟩
  obtain ⟨n,hn⟩:∃ n,max (y-cy) (cy-y)=n:=⟨_,rfl⟩
  rcases (by omega:¬2*m≤wd∨(2*m≤wd∧¬2*n≤wd)∨(2*m≤wd∧2*n≤wd)) with g|⟨g,g1⟩|⟨g,g1⟩
  ·have HR:=Lib.hid (show R=false by rw [hR];simp;omega)
   have d1:decide (2*m≤wd)=false:=decide_eq_false g
   clear hR
   obtain ⟨n1,n2⟩:=tok2
   go_enter Tryz.func139,Tryz.ntmps139
   go_wp2_with (first|(with_reducible first|(clear hL n1;intro b1 w1 hL)|(clear hL n2;intro b2 w2 hL))|((with_reducible refine goJ rfl ?_);refine goW ?_))
   go_ret
   exact ⟨ret_bool HR.out.symm,hL.below⟩
  ·have HR:=Lib.hid (show R=false by rw [hR];simp;omega)
   have d1:decide (2*m≤wd)=true:=decide_eq_true g
   have d2:decide (2*n≤wd)=false:=decide_eq_false g1
   clear hR
   obtain ⟨n1,n2⟩:=tok2
   go_enter Tryz.func139,Tryz.ntmps139
   go_wp2_with (first|(with_reducible first|(clear hL n1;intro b1 w1 hL)|(clear hL n2;intro b2 w2 hL))|((with_reducible refine goJ rfl ?_);refine goW ?_))
   go_ret
   exact ⟨ret_bool HR.out.symm,hL.below⟩
  ·have HR:=Lib.hid (show R=true by rw [hR];simp;omega)
   have d1:decide (2*m≤wd)=true:=decide_eq_true g
   have d2:decide (2*n≤wd)=true:=decide_eq_true g1
   clear hR
   obtain ⟨n1,n2⟩:=tok2
   go_enter Tryz.func139,Tryz.ntmps139
   go_wp2_with (first|(with_reducible first|(clear hL n1;intro b1 w1 hL)|(clear hL n2;intro b2 w2 hL))|((with_reducible refine goJ rfl ?_);refine goW ?_))
   go_ret
   exact ⟨ret_bool HR.out.symm,hL.below⟩
def endsIn (l:List Edg) (s:Sty) (x y:Int):Bool:=if s.cap=1 then discIn (l.getD 0 default).x0 (l.getD 0 default).y0 s.wide x y || discIn (l.getD (l.length-1) default).x1 (l.getD (l.length-1) default).y1 s.wide x y
 else if s.cap=2 then aheadA (armU (l.getD 0 default) x y) (armK (l.getD 0 default) x y) (armL (l.getD 0 default)) s.wide || behindA (armU (l.getD (l.length-1) default) x y) (armK (l.getD (l.length-1) default) x y) (armL (l.getD (l.length-1) default)) s.wide else false
set_option maxRecDepth 100000 in
set_option maxHeartbeats 8000000 in
theorem rEnds_calls (w:World) (v:Value) (l:List Edg) (hv:EdgesAt w v l) (hl:l.length≠0) (hg:∀ e∈l,NearE' e) (wd cap join:Int) (hw:0≤wd∧wd≤2048) (hcap:cap=0∨cap=1∨cap=2) (x y:Int) (hx : -8191≤x∧x≤8191) (hy : -8191≤y∧y≤8191) :
  Calls Tryz.prog 143 #[v,.agg #[.int .i64 wd,.int .i64 cap,.int .i64 join],.int .i64 x,.int .i64 y] w fun e w'=>e=.returned (.bool (endsIn l ⟨wd,cap,join⟩ x y))∧Below w.heap.size w w':=by
 obtain ⟨ea,ec,rfl,hlc,hcm,hel⟩:=EdgesAt.parts hv
 clear hv
 unfold maxLen at hcm
 obtain ⟨m,hm⟩:∃ m,l.length=m+1:=⟨l.length-1,by omega⟩
 obtain ⟨be,oe,rfl,hcA⟩:=hel 0 (by omega)
 obtain ⟨be2,oe2,e2,hcZ⟩:=hel m (by omega)
 injection e2 with e2
 injection e2 with e2 e3
 subst e2;subst e3
 have gA:=hg (l.getD 0 default) (by rw [show l.getD 0 default=l[0]'(by omega) by simp [show 0<l.length by omega]];exact List.getElem_mem _)
 have gZ:=hg (l.getD m default) (by rw [show l.getD m default=l[m]'(by omega) by simp [show m<l.length by omega]];exact List.getElem_mem _)
 have hR:endsIn l ⟨wd,cap,join⟩ x y=if cap=1 then discIn (l.getD 0 default).x0 (l.getD 0 default).y0 wd x y || discIn (l.getD m default).x1 (l.getD m default).y1 wd x y
   else if cap=2 then aheadA (armU (l.getD 0 default) x y) (armK (l.getD 0 default) x y) (armL (l.getD 0 default)) wd || behindA (armU (l.getD m default) x y) (armK (l.getD m default) x y) (armL (l.getD m default)) wd else false:=by
  unfold endsIn
  rw [show l.length-1=m by omega]
 generalize endsIn l ⟨wd,cap,join⟩ x y=R at *
 rw [Nat.zero_mul,Nat.add_zero] at hcA
 rw [hm] at hlc ⊢
 clear hel hg hm hl
 generalize l.getD 0 default=eA at *
 generalize l.getD m default=eZ at *
 have HAa:=Lib.hid (fun w=>rArm_calls eA gA x y hx hy w)
 have HAz:=Lib.hid (fun w=>rArm_calls eZ gZ x y hx hy w)
 have HAh:=Lib.hid (fun w=>armAhead_calls _ _ _ (arm_bd gA hx hy) wd hw w)
 have HBe:=Lib.hid (fun w=>armBehind_calls _ _ _ (arm_bd gZ hx hy) wd hw w)
 have HD1:=Lib.hid (fun w=>rDisc_calls eA.x0 eA.y0 wd x y gA.1.1 gA.1.2 hw hx hy w)
 have HD2:=Lib.hid (fun w=>rDisc_calls eZ.x1 eZ.y1 wd x y gZ.2.1 gZ.2.2 hw hx hy w)
 clear gA gZ
 generalize armU eA x y=U1 at *
 generalize armK eA x y=K1 at *
 generalize armL eA=L1 at *
 generalize armU eZ x y=U2 at *
 generalize armK eZ x y=K2 at *
 generalize armL eZ=L2 at *
 generalize aheadA U1 K1 L1 wd=h1 at *
 generalize behindA U2 K2 L2 wd=h2 at *
 obtain ⟨ax0,ay0,abt,adx,ady,ax1,ay1⟩:=eA
 obtain ⟨zx0,zy0,zbt,zdx,zdy,zx1,zy1⟩:=eZ
 unfold edgeC at hcA hcZ HAa HAz
 dsimp only at *
 generalize discIn ax0 ay0 wd x y=d1 at *
 generalize discIn zx1 zy1 wd x y=d2 at *
 have HcA:=Lib.hid hcA
 have HcZ:=Lib.hid hcZ
 clear hcA hcZ
 have wm:IntKind.i64.wrap ((m+1:Nat):Int)=((m+1:Nat):Int):=by rw [IntKind.wrap_i64];omega
 have wm2:IntKind.i64.wrap (m:Int)=(m:Int):=by rw [IntKind.wrap_i64];omega
 have hm1:(m:Int)<(m:Int)+1:=by omega
 have hL:=Holds.start w
 have HR:=Lib.hid hR
 clear hR
 have n1:True:=trivial
 go_enter Tryz.func143,Tryz.ntmps143
 go_wp2_with (first|(with_reducible (clear hL n1;intro b1 w1 hL))|((with_reducible refine goJ rfl ?_);refine goW ?_))
 replace hL:=hL.drew
 apply exContQ (H:=fun ba bz w8=>Holds w w8 [blk bz #[.int .i64 zx0,.int .i64 zy0,.bool zbt,.int .i64 zdx,.int .i64 zdy,.int .i64 zx1,.int .i64 zy1] 177,blk ba #[.int .i64 ax0,.int .i64 ay0,.bool abt,.int .i64 adx,.int .i64 ady,.int .i64 ax1,.int .i64 ay1] 177,blk b1 #[.int .i64 wd,.int .i64 cap,.int .i64 join] 24] [])
 ·intro hcont
  have hS:=(show (fun w':World=>w'.rangeAt be oe #[.int .i64 ax0,.int .i64 ay0,.bool abt,.int .i64 adx,.int .i64 ady,.int .i64 ax1,.int .i64 ay1].toList∧w'.rangeAt be (oe+m*7) #[.int .i64 zx0,.int .i64 zy0,.bool zbt,.int .i64 zdx,.int .i64 zdy,.int .i64 zx1,.int .i64 zy1].toList) _ from ⟨hL.olds HcA.out,hL.olds HcZ.out⟩)
  refine wpH_begin (by kernel_rfl) (fun w':World=>w'.rangeAt be oe #[.int .i64 ax0,.int .i64 ay0,.bool abt,.int .i64 adx,.int .i64 ady,.int .i64 ax1,.int .i64 ay1].toList∧w'.rangeAt be (oe+m*7) #[.int .i64 zx0,.int .i64 zy0,.bool zbt,.int .i64 zdx,.int .i64 zdy,.int .i64 zx1,.int .i64 zy1].toList) ?_
  refine dsH 0 (.slice (some ⟨be,oe,none⟩) (m+1) ec) hS ?_
  refine dsH 1 (.pointer (some ⟨be,oe,none⟩)) hS ?_
  refine drH 2 (.agg #[.int .i64 ax0,.int .i64 ay0,.bool abt,.int .i64 adx,.int .i64 ady,.int .i64 ax1,.int .i64 ay1]) hS ?_ ?_;(· exact fun w' hw=>(load_rangeO (cs:=#[.int .i64 ax0,.int .i64 ay0,.bool abt,.int .i64 adx,.int .i64 ady,.int .i64 ax1,.int .i64 ay1]) rfl hw.1))
  refine dsH 3 (.slice (some ⟨be,oe,none⟩) (m+1) ec) hS ?_
  refine dsH 4 (.slice (some ⟨be,oe,none⟩) (m+1) ec) hS ?_
  refine dsH 5 (.int .i64 ((m+1:Nat):Int)) hS ?_
  refine dsH 6 (.int .i64 (m:Int)) hS ?_
  refine dsH 7 (.pointer (some ⟨be,oe+m*7,none⟩)) hS ?_
  refine drH 8 (.agg #[.int .i64 zx0,.int .i64 zy0,.bool zbt,.int .i64 zdx,.int .i64 zdy,.int .i64 zx1,.int .i64 zy1]) hS ?_ ?_;(· exact fun w' hw=>(load_rangeO (cs:=#[.int .i64 zx0,.int .i64 zy0,.bool zbt,.int .i64 zdx,.int .i64 zdy,.int .i64 zx1,.int .i64 zy1]) rfl hw.2))
  refine wpH_two (i:=9) (j:=10) (by kernel_rfl) (wpOf ?_) (wpOf ?_)
  ·refine st_allocQ rfl _ rfl hL ?_
   intro p1 wq hL
   have hS:=(show (fun w':World=>w'.rangeAt be oe #[.int .i64 ax0,.int .i64 ay0,.bool abt,.int .i64 adx,.int .i64 ady,.int .i64 ax1,.int .i64 ay1].toList∧w'.rangeAt be (oe+m*7) #[.int .i64 zx0,.int .i64 zy0,.bool zbt,.int .i64 zdx,.int .i64 zdy,.int .i64 zx1,.int .i64 zy1].toList) _ from ⟨hL.olds HcA.out,hL.olds HcZ.out⟩)
   refine ⟨hS,?_⟩
   simp only [Act.put,setP]
   refine wpH_one (i:=10) (by kernel_rfl) (wpOf ?_)
   refine st_allocQ rfl _ rfl hL ?_
   intro p2 wq hL
   have hS:=(show (fun w':World=>w'.rangeAt be oe #[.int .i64 ax0,.int .i64 ay0,.bool abt,.int .i64 adx,.int .i64 ady,.int .i64 ax1,.int .i64 ay1].toList∧w'.rangeAt be (oe+m*7) #[.int .i64 zx0,.int .i64 zy0,.bool zbt,.int .i64 zdx,.int .i64 zdy,.int .i64 zx1,.int .i64 zy1].toList) _ from ⟨hL.olds HcA.out,hL.olds HcZ.out⟩)
   refine ⟨hS,?_⟩
   simp only [Act.put,setP]
   refine wpH_one (i:=11) (by kernel_rfl) (wpOf ?_)
   refine st_store rfl _ _ _ rfl ⟨p1,0,none⟩ rfl (.agg #[.int .i64 ax0,.int .i64 ay0,.bool abt,.int .i64 adx,.int .i64 ady,.int .i64 ax1,.int .i64 ay1]) rfl (storeR hL ?_)
   intro w9 hL
   have hS:=(show (fun w':World=>w'.rangeAt be oe #[.int .i64 ax0,.int .i64 ay0,.bool abt,.int .i64 adx,.int .i64 ady,.int .i64 ax1,.int .i64 ay1].toList∧w'.rangeAt be (oe+m*7) #[.int .i64 zx0,.int .i64 zy0,.bool zbt,.int .i64 zdx,.int .i64 zdy,.int .i64 zx1,.int .i64 zy1].toList) _ from ⟨hL.olds HcA.out,hL.olds HcZ.out⟩)
   refine ⟨hS,?_⟩
   simp only [Act.put]
   refine wpH_one (i:=12) (by kernel_rfl) (wpOf ?_)
   refine st_store rfl _ _ _ rfl ⟨p2,0,none⟩ rfl (.agg #[.int .i64 zx0,.int .i64 zy0,.bool zbt,.int .i64 zdx,.int .i64 zdy,.int .i64 zx1,.int .i64 zy1]) rfl (storeR hL ?_)
   intro w9 hL
   have hS:=(show (fun w':World=>w'.rangeAt be oe #[.int .i64 ax0,.int .i64 ay0,.bool abt,.int .i64 adx,.int .i64 ady,.int .i64 ax1,.int .i64 ay1].toList∧w'.rangeAt be (oe+m*7) #[.int .i64 zx0,.int .i64 zy0,.bool zbt,.int .i64 zdx,.int .i64 zdy,.int .i64 zx1,.int .i64 zy1].toList) _ from ⟨hL.olds HcA.out,hL.olds HcZ.out⟩)
   refine ⟨hS,?_⟩
   simp only [Act.put]
   refine wpAnyH_done (by kernel_rfl) ?_ _
   clear hS
   exact hcont p1 p2 _ hL
  ·refine st_allocQ rfl _ rfl hL ?_
   intro p1 wq hL
   have hS:=(show (fun w':World=>w'.rangeAt be oe #[.int .i64 ax0,.int .i64 ay0,.bool abt,.int .i64 adx,.int .i64 ady,.int .i64 ax1,.int .i64 ay1].toList∧w'.rangeAt be (oe+m*7) #[.int .i64 zx0,.int .i64 zy0,.bool zbt,.int .i64 zdx,.int .i64 zdy,.int .i64 zx1,.int .i64 zy1].toList) _ from ⟨hL.olds HcA.out,hL.olds HcZ.out⟩)
   refine ⟨hS,?_⟩
   simp only [Act.put,setP]
   refine wpH_one (i:=9) (by kernel_rfl) (wpOf ?_)
   refine st_allocQ rfl _ rfl hL ?_
   intro p2 wq hL
   have hS:=(show (fun w':World=>w'.rangeAt be oe #[.int .i64 ax0,.int .i64 ay0,.bool abt,.int .i64 adx,.int .i64 ady,.int .i64 ax1,.int .i64 ay1].toList∧w'.rangeAt be (oe+m*7) #[.int .i64 zx0,.int .i64 zy0,.bool zbt,.int .i64 zdx,.int .i64 zdy,.int .i64 zx1,.int .i64 zy1].toList) _ from ⟨hL.olds HcA.out,hL.olds HcZ.out⟩)
   refine ⟨hS,?_⟩
   simp only [Act.put,setP]
   refine wpH_one (i:=11) (by kernel_rfl) (wpOf ?_)
   refine st_store rfl _ _ _ rfl ⟨p2,0,none⟩ rfl (.agg #[.int .i64 ax0,.int .i64 ay0,.bool abt,.int .i64 adx,.int .i64 ady,.int .i64 ax1,.int .i64 ay1]) rfl (storeR hL ?_)
   intro w9 hL
   have hS:=(show (fun w':World=>w'.rangeAt be oe #[.int .i64 ax0,.int .i64 ay0,.bool abt,.int .i64 adx,.int .i64 ady,.int .i64 ax1,.int .i64 ay1].toList∧w'.rangeAt be (oe+m*7) #[.int .i64 zx0,.int .i64 zy0,.bool zbt,.int .i64 zdx,.int .i64 zdy,.int .i64 zx1,.int .i64 zy1].toList) _ from ⟨hL.olds HcA.out,hL.olds HcZ.out⟩)
   refine ⟨hS,?_⟩
   simp only [Act.put]
   refine wpH_one (i:=12) (by kernel_rfl) (wpOf ?_)
   refine st_store rfl _ _ _ rfl ⟨p1,0,none⟩ rfl (.agg #[.int .i64 zx0,.int .i64 zy0,.bool zbt,.int .i64 zdx,.int .i64 zdy,.int .i64 zx1,.int .i64 zy1]) rfl (storeR hL ?_)
   intro w9 hL
   have hS:=(show (fun w':World=>w'.rangeAt be oe #[.int .i64 ax0,.int .i64 ay0,.bool abt,.int .i64 adx,.int .i64 ady,.int .i64 ax1,.int .i64 ay1].toList∧w'.rangeAt be (oe+m*7) #[.int .i64 zx0,.int .i64 zy0,.bool zbt,.int .i64 zdx,.int .i64 zdy,.int .i64 zx1,.int .i64 zy1].toList) _ from ⟨hL.olds HcA.out,hL.olds HcZ.out⟩)
   refine ⟨hS,?_⟩
   simp only [Act.put]
   refine wpAnyH_done (by kernel_rfl) ?_ _
   clear hS
   exact hcont p2 p1 _ hL.swapQ
 intro ba bz w8 hL
 rcases hcap with rfl|rfl|rfl
 ·rw [if_neg (by decide),if_neg (by decide)] at HR
  go_wp2_with (first|(with_reducible (clear hL n1;intro b1 w1 hL))|((with_reducible refine goJ rfl ?_);refine goW ?_))
  go_ret
  exact ⟨ret_bool HR.out.symm,hL.below⟩
 ·rw [if_pos rfl] at HR
  cases d1
  ·go_wp2_with (first|(go_at_call 142;(with_reducible refine (HD1.out _).mono ?_);rintro e _ ⟨rfl,hb⟩;replace hL:=hL.call hb;clear hb)|(go_at_call 142;(with_reducible refine (HD2.out _).mono ?_);rintro e _ ⟨rfl,hb⟩;replace hL:=hL.call hb;clear hb)|((with_reducible refine goJ rfl ?_);refine goW ?_))
   go_ret
   exact ⟨ret_bool (by rw [HR.out];rfl),hL.below⟩
  ·go_wp2_with (first|(go_at_call 142;(with_reducible refine (HD1.out _).mono ?_);rintro e _ ⟨rfl,hb⟩;replace hL:=hL.call hb;clear hb)|(go_at_call 142;(with_reducible refine (HD2.out _).mono ?_);rintro e _ ⟨rfl,hb⟩;replace hL:=hL.call hb;clear hb)|((with_reducible refine goJ rfl ?_);refine goW ?_))
   go_ret
   exact ⟨ret_bool (by rw [HR.out];rfl),hL.below⟩
 ·rw [if_neg (by decide),if_pos rfl] at HR
  cases h1
  ·go_wp2_with ((with_reducible refine goJ rfl ?_);refine goW ?_)
   replace hL:=hL.drew
   have hS:=(show (fun w':World=>w'.rangeAt ba 0 #[.int .i64 ax0,.int .i64 ay0,.bool abt,.int .i64 adx,.int .i64 ady,.int .i64 ax1,.int .i64 ay1].toList∧(w'.rangeAt bz 0 #[.int .i64 zx0,.int .i64 zy0,.bool zbt,.int .i64 zdx,.int .i64 zdy,.int .i64 zx1,.int .i64 zy1].toList∧w'.rangeAt b1 0 #[.int .i64 wd,.int .i64 2,.int .i64 join].toList)) _ from ⟨hL.range (by (repeat (first|with_reducible exact At.here|with_reducible apply At.there))),hL.range (by (repeat (first|with_reducible exact At.here|with_reducible apply At.there))),hL.range (by (repeat (first|with_reducible exact At.here|with_reducible apply At.there)))⟩)
   refine wpH_begin (by kernel_rfl) (fun w':World=>w'.rangeAt ba 0 #[.int .i64 ax0,.int .i64 ay0,.bool abt,.int .i64 adx,.int .i64 ady,.int .i64 ax1,.int .i64 ay1].toList∧(w'.rangeAt bz 0 #[.int .i64 zx0,.int .i64 zy0,.bool zbt,.int .i64 zdx,.int .i64 zdy,.int .i64 zx1,.int .i64 zy1].toList∧w'.rangeAt b1 0 #[.int .i64 wd,.int .i64 2,.int .i64 join].toList)) ?_
   refine drH 0 (.agg #[.int .i64 ax0,.int .i64 ay0,.bool abt,.int .i64 adx,.int .i64 ady,.int .i64 ax1,.int .i64 ay1]) hS ?_ ?_;(· exact fun w' hw=>(load_range (cs:=#[.int .i64 ax0,.int .i64 ay0,.bool abt,.int .i64 adx,.int .i64 ady,.int .i64 ax1,.int .i64 ay1]) rfl hw.1))
   refine dsH 1 (.int .i64 x) hS ?_
   refine dsH 2 (.int .i64 y) hS ?_
   refine dsH 4 (.pointer (some ⟨b1,0,none⟩)) hS ?_
   refine drH 5 (.int .i64 wd) hS ?_ ?_;(· exact fun w' hw=>(load_cell (hw.2.2 0 _ rfl)))
   refine wpH_one (i:=3) (by kernel_rfl) (wpOf ?_)
   refine st_call rfl 140 #[.agg #[.int .i64 ax0,.int .i64 ay0,.bool abt,.int .i64 adx,.int .i64 ady,.int .i64 ax1,.int .i64 ay1],.int .i64 x,.int .i64 y] (by go_simp) (HAa.out _) ?_
   rintro e _ ⟨rfl,hb⟩
   replace hL:=hL.call hb
   clear hb
   have hS:=(show (fun w':World=>w'.rangeAt ba 0 #[.int .i64 ax0,.int .i64 ay0,.bool abt,.int .i64 adx,.int .i64 ady,.int .i64 ax1,.int .i64 ay1].toList∧(w'.rangeAt bz 0 #[.int .i64 zx0,.int .i64 zy0,.bool zbt,.int .i64 zdx,.int .i64 zdy,.int .i64 zx1,.int .i64 zy1].toList∧w'.rangeAt b1 0 #[.int .i64 wd,.int .i64 2,.int .i64 join].toList)) _ from ⟨hL.range (by (repeat (first|with_reducible exact At.here|with_reducible apply At.there))),hL.range (by (repeat (first|with_reducible exact At.here|with_reducible apply At.there))),hL.range (by (repeat (first|with_reducible exact At.here|with_reducible apply At.there)))⟩)
   refine ⟨_,rfl,hS,?_⟩
   simp only [Act.put,setP]
   refine wpH_one (i:=6) (by kernel_rfl) (wpOf ?_)
   refine st_call rfl 149 #[.agg #[.int .i64 U1,.int .i64 K1,.int .i64 L1],.int .i64 wd] (by go_simp) (HAh.out _) ?_
   rintro e _ ⟨rfl,hb⟩
   replace hL:=hL.call hb
   clear hb
   have hS:=(show (fun w':World=>w'.rangeAt ba 0 #[.int .i64 ax0,.int .i64 ay0,.bool abt,.int .i64 adx,.int .i64 ady,.int .i64 ax1,.int .i64 ay1].toList∧(w'.rangeAt bz 0 #[.int .i64 zx0,.int .i64 zy0,.bool zbt,.int .i64 zdx,.int .i64 zdy,.int .i64 zx1,.int .i64 zy1].toList∧w'.rangeAt b1 0 #[.int .i64 wd,.int .i64 2,.int .i64 join].toList)) _ from ⟨hL.range (by (repeat (first|with_reducible exact At.here|with_reducible apply At.there))),hL.range (by (repeat (first|with_reducible exact At.here|with_reducible apply At.there))),hL.range (by (repeat (first|with_reducible exact At.here|with_reducible apply At.there)))⟩)
   refine ⟨_,rfl,hS,?_⟩
   simp only [Act.put,setP]
   refine dsH 7 (.bool false) hS ?_
   refine drH 8 (.agg #[.int .i64 zx0,.int .i64 zy0,.bool zbt,.int .i64 zdx,.int .i64 zdy,.int .i64 zx1,.int .i64 zy1]) hS ?_ ?_;(· exact fun w' hw=>(load_range (cs:=#[.int .i64 zx0,.int .i64 zy0,.bool zbt,.int .i64 zdx,.int .i64 zdy,.int .i64 zx1,.int .i64 zy1]) rfl hw.2.1))
   refine dsH 9 (.int .i64 x) hS ?_
   refine dsH 10 (.int .i64 y) hS ?_
   refine dsH 12 (.pointer (some ⟨b1,0,none⟩)) hS ?_
   refine drH 13 (.int .i64 wd) hS ?_ ?_;(· exact fun w' hw=>(load_cell (hw.2.2 0 _ rfl)))
   refine wpH_one (i:=11) (by kernel_rfl) (wpOf ?_)
   refine st_call rfl 140 #[.agg #[.int .i64 zx0,.int .i64 zy0,.bool zbt,.int .i64 zdx,.int .i64 zdy,.int .i64 zx1,.int .i64 zy1],.int .i64 x,.int .i64 y] (by go_simp) (HAz.out _) ?_
   rintro e _ ⟨rfl,hb⟩
   replace hL:=hL.call hb
   clear hb
   have hS:=(show (fun w':World=>w'.rangeAt ba 0 #[.int .i64 ax0,.int .i64 ay0,.bool abt,.int .i64 adx,.int .i64 ady,.int .i64 ax1,.int .i64 ay1].toList∧(w'.rangeAt bz 0 #[.int .i64 zx0,.int .i64 zy0,.bool zbt,.int .i64 zdx,.int .i64 zdy,.int .i64 zx1,.int .i64 zy1].toList∧w'.rangeAt b1 0 #[.int .i64 wd,.int .i64 2,.int .i64 join].toList)) _ from ⟨hL.range (by (repeat (first|with_reducible exact At.here|with_reducible apply At.there))),hL.range (by (repeat (first|with_reducible exact At.here|with_reducible apply At.there))),hL.range (by (repeat (first|with_reducible exact At.here|with_reducible apply At.there)))⟩)
   refine ⟨_,rfl,hS,?_⟩
   simp only [Act.put,setP]
   refine wpH_one (i:=14) (by kernel_rfl) (wpOf ?_)
   refine st_call rfl 150 #[.agg #[.int .i64 U2,.int .i64 K2,.int .i64 L2],.int .i64 wd] (by go_simp) (HBe.out _) ?_
   rintro e _ ⟨rfl,hb⟩
   replace hL:=hL.call hb
   clear hb
   have hS:=(show (fun w':World=>w'.rangeAt ba 0 #[.int .i64 ax0,.int .i64 ay0,.bool abt,.int .i64 adx,.int .i64 ady,.int .i64 ax1,.int .i64 ay1].toList∧(w'.rangeAt bz 0 #[.int .i64 zx0,.int .i64 zy0,.bool zbt,.int .i64 zdx,.int .i64 zdy,.int .i64 zx1,.int .i64 zy1].toList∧w'.rangeAt b1 0 #[.int .i64 wd,.int .i64 2,.int .i64 join].toList)) _ from ⟨hL.range (by (repeat (first|with_reducible exact At.here|with_reducible apply At.there))),hL.range (by (repeat (first|with_reducible exact At.here|with_reducible apply At.there))),hL.range (by (repeat (first|with_reducible exact At.here|with_reducible apply At.there)))⟩)
   refine ⟨_,rfl,hS,?_⟩
   simp only [Act.put,setP]
   refine dsH 15 (.bool h2) hS ?_
   refine dsH 16 (.bool h2) hS ?_
   refine wpAnyH_done (by kernel_rfl) ?_ _
   clear hS
   go_wp2
   go_ret
   exact ⟨ret_bool (by rw [HR.out];first|rfl|simp),hL.below⟩
  ·go_wp2_with ((with_reducible refine goJ rfl ?_);refine goW ?_)
   replace hL:=hL.drew
   have hS:=(show (fun w':World=>w'.rangeAt ba 0 #[.int .i64 ax0,.int .i64 ay0,.bool abt,.int .i64 adx,.int .i64 ady,.int .i64 ax1,.int .i64 ay1].toList∧(w'.rangeAt bz 0 #[.int .i64 zx0,.int .i64 zy0,.bool zbt,.int .i64 zdx,.int .i64 zdy,.int .i64 zx1,.int .i64 zy1].toList∧w'.rangeAt b1 0 #[.int .i64 wd,.int .i64 2,.int .i64 join].toList)) _ from ⟨hL.range (by (repeat (first|with_reducible exact At.here|with_reducible apply At.there))),hL.range (by (repeat (first|with_reducible exact At.here|with_reducible apply At.there))),hL.range (by (repeat (first|with_reducible exact At.here|with_reducible apply At.there)))⟩)
   refine wpH_begin (by kernel_rfl) (fun w':World=>w'.rangeAt ba 0 #[.int .i64 ax0,.int .i64 ay0,.bool abt,.int .i64 adx,.int .i64 ady,.int .i64 ax1,.int .i64 ay1].toList∧(w'.rangeAt bz 0 #[.int .i64 zx0,.int .i64 zy0,.bool zbt,.int .i64 zdx,.int .i64 zdy,.int .i64 zx1,.int .i64 zy1].toList∧w'.rangeAt b1 0 #[.int .i64 wd,.int .i64 2,.int .i64 join].toList)) ?_
   refine drH 0 (.agg #[.int .i64 ax0,.int .i64 ay0,.bool abt,.int .i64 adx,.int .i64 ady,.int .i64 ax1,.int .i64 ay1]) hS ?_ ?_;(· exact fun w' hw=>(load_range (cs:=#[.int .i64 ax0,.int .i64 ay0,.bool abt,.int .i64 adx,.int .i64 ady,.int .i64 ax1,.int .i64 ay1]) rfl hw.1))
   refine dsH 1 (.int .i64 x) hS ?_
   refine dsH 2 (.int .i64 y) hS ?_
   refine dsH 4 (.pointer (some ⟨b1,0,none⟩)) hS ?_
   refine drH 5 (.int .i64 wd) hS ?_ ?_;(· exact fun w' hw=>(load_cell (hw.2.2 0 _ rfl)))
   refine wpH_one (i:=3) (by kernel_rfl) (wpOf ?_)
   refine st_call rfl 140 #[.agg #[.int .i64 ax0,.int .i64 ay0,.bool abt,.int .i64 adx,.int .i64 ady,.int .i64 ax1,.int .i64 ay1],.int .i64 x,.int .i64 y] (by go_simp) (HAa.out _) ?_
   rintro e _ ⟨rfl,hb⟩
   replace hL:=hL.call hb
   clear hb
   have hS:=(show (fun w':World=>w'.rangeAt ba 0 #[.int .i64 ax0,.int .i64 ay0,.bool abt,.int .i64 adx,.int .i64 ady,.int .i64 ax1,.int .i64 ay1].toList∧(w'.rangeAt bz 0 #[.int .i64 zx0,.int .i64 zy0,.bool zbt,.int .i64 zdx,.int .i64 zdy,.int .i64 zx1,.int .i64 zy1].toList∧w'.rangeAt b1 0 #[.int .i64 wd,.int .i64 2,.int .i64 join].toList)) _ from ⟨hL.range (by (repeat (first|with_reducible exact At.here|with_reducible apply At.there))),hL.range (by (repeat (first|with_reducible exact At.here|with_reducible apply At.there))),hL.range (by (repeat (first|with_reducible exact At.here|with_reducible apply At.there)))⟩)
   refine ⟨_,rfl,hS,?_⟩
   simp only [Act.put,setP]
   refine wpH_one (i:=6) (by kernel_rfl) (wpOf ?_)
   refine st_call rfl 149 #[.agg #[.int .i64 U1,.int .i64 K1,.int .i64 L1],.int .i64 wd] (by go_simp) (HAh.out _) ?_
   rintro e _ ⟨rfl,hb⟩
   replace hL:=hL.call hb
   clear hb
   have hS:=(show (fun w':World=>w'.rangeAt ba 0 #[.int .i64 ax0,.int .i64 ay0,.bool abt,.int .i64 adx,.int .i64 ady,.int .i64 ax1,.int .i64 ay1].toList∧(w'.rangeAt bz 0 #[.int .i64 zx0,.int .i64 zy0,.bool zbt,.int .i64 zdx,.int .i64 zdy,.int .i64 zx1,.int .i64 zy1].toList∧w'.rangeAt b1 0 #[.int .i64 wd,.int .i64 2,.int .i64 join].toList)) _ from ⟨hL.range (by (repeat (first|with_reducible exact At.here|with_reducible apply At.there))),hL.range (by (repeat (first|with_reducible exact At.here|with_reducible apply At.there))),hL.range (by (repeat (first|with_reducible exact At.here|with_reducible apply At.there)))⟩)
   refine ⟨_,rfl,hS,?_⟩
   simp only [Act.put,setP]
   refine dsH 7 (.bool true) hS ?_
   refine skH (i:=8) hS ?_
   simp only [Act.put,setP]
   refine skH (i:=9) hS ?_
   simp only [Act.put,setP]
   refine skH (i:=10) hS ?_
   simp only [Act.put,setP]
   refine skH (i:=11) hS ?_
   simp only [Act.put,setP]
   refine skH (i:=12) hS ?_
   simp only [Act.put,setP]
   refine skH (i:=13) hS ?_
   simp only [Act.put,setP]
   refine skH (i:=14) hS ?_
   simp only [Act.put,setP]
   refine dsH 15 (.bool true) hS ?_
   refine dsH 16 (.bool true) hS ?_
   refine wpAnyH_done (by kernel_rfl) ?_ _
   clear hS
   go_wp2
   go_ret
   exact ⟨ret_bool (by rw [HR.out];first|rfl|simp),hL.below⟩
open Go.RowKit
theorem laterQ {w w':World} {p:Addr} {v:Value} (h:Below w.heap.size w w') (hc:w.cell? p=some v):w'.cell? p=some v:=(Holds.start w).call h |>.old hc
theorem edge_at {w:World} {be oe n pc:Nat} {P:List Edg} (h:EdgesAt w (.slice (some ⟨be,oe,none⟩) n pc) P) {k:Nat} (hk:k<P.length):w.rangeAt be (oe+k*7) (edgeC (P.getD k default)):=by
 obtain ⟨a',c',he,_,_,hel⟩:=EdgesAt.parts h
 injection he with he _ _
 subst he
 obtain ⟨b',o',e',hr⟩:=hel k hk
 injection e' with e'
 injection e' with e1 e2
 subst e1;subst e2
 exact hr
def onB (sh:Bool) (s:Sty) (P:List Edg) (x y:Int) (k:Nat):Bool :=
 onA (armU (P.getD k default) x y) (armK (P.getD k default) x y) (armL (P.getD k default)) s.wide || ((decide (s.join=1)&&(decide (0<k) || sh))&&discIn (P.getD k default).x0 (P.getD k default).y0 s.wide x y)
def coversR (c:Ct) (s:Sty) (x y:Int):Bool:=if isDot c then dotIn c s x y else if (piecesC c).length=0 then false else (List.range (piecesC c).length).any (onB c.shut s (piecesC c) x y) || (!c.shut&&endsIn (piecesC c) s x y)
set_option maxRecDepth 100000 in
set_option maxHeartbeats 8000000 in
theorem rCovers_calls (w:World) (v:Value) (c:Ct) (hv:EdgesAt w v c.edges) (hlen:c.edges.length≤300) (hg:GoodC c) (s:Sty) (hs:mayY s=true) (x y:Int) (hx : -8191≤x∧x≤8191) (hy : -8191≤y∧y≤8191) :
  Calls Tryz.prog 135 #[.agg #[.int .i64 c.x,.int .i64 c.y,v,.bool c.shut],.agg #[.int .i64 s.wide,.int .i64 s.cap,.int .i64 s.join],.int .i64 x,.int .i64 y] w fun e w'=>e=.returned (.bool (coversR c s x y))∧Below w.heap.size w w':=by
 obtain ⟨k1,k2,k3,k4,k5,k6⟩:=mayY_bd hs
 have hw:0≤s.wide∧s.wide≤2048:=⟨k1,k2⟩
 have hcap:s.cap=0∨s.cap=1∨s.cap=2:=by omega
 have Hv:=Lib.hid hv
 obtain ⟨ea,ec,rfl,hlc,hcm,_⟩:=EdgesAt.parts hv
 clear hv
 have hL:=Holds.start w
 have HPi:=Lib.hid (fun w' (hb:Below w.heap.size w w')=>rPieces_calls w' (.slice ea c.edges.length ec) c (SliceAt.below Hv.out hb) hlen)
 have hgp:=pieces_near hg
 have hpl:=pieces_len c
 have hR:coversR c s x y=if isDot c then dotIn c s x y else if (piecesC c).length=0 then false else (List.range (piecesC c).length).any (onB c.shut s (piecesC c) x y) || (!c.shut&&endsIn (piecesC c) s x y):=rfl
 generalize coversR c s x y=R at *
 unfold PiecesOut at HPi
 obtain ⟨cx,cy,es,sh⟩:=c
 obtain ⟨wd,cap,join⟩:=s
 dsimp only at *
 have HDo:=Lib.hid (fun w=>rDot_calls (.slice ea es.length ec) cx cy es sh hg.1.1 hg.1.2 wd cap join hw hcap x y hx hy w)
 generalize dotIn ⟨cx,cy,es,sh⟩ ⟨wd,cap,join⟩ x y=dv at *
 generalize isDot ⟨cx,cy,es,sh⟩=dt at *
 generalize piecesC ⟨cx,cy,es,sh⟩=P at *
 obtain ⟨m,hm⟩:∃ m,es.length=m:=⟨_,rfl⟩
 rw [hm] at hlc hpl HPi HDo hlen
 have HEn:=Lib.hid (fun w v hv h0=>rEnds_calls w v P hv h0 hgp wd cap join hw hcap x y hx hy)
 have HGp:=Lib.hid hgp
 rw [hm]
 clear hgp hg hcap k3 k4 k5 k6 hm
 obtain ⟨n,hn⟩:∃ n,P.length=n:=⟨_,rfl⟩
 have HN:=Lib.hid hn
 rw [hn] at hR hpl
 clear hn
 cases dt
 rotate_left
 ·rw [if_pos rfl] at hR
  have HR:=Lib.hid hR
  clear hR HEn HGp
  obtain ⟨n1,n2⟩:=tok2
  go_enter Tryz.func135,Tryz.ntmps135
  go_wp2_with (first|(go_at_call 138;(with_reducible refine (HPi.out _ hL.below).mono ?_);rintro e _ ⟨vp,rfl,hb,hf⟩;obtain ⟨pa,pc,hvp,_⟩:=EdgesAt.parts hf.now;rw [HN.out] at hvp;subst hvp;replace hL:=hL.callF hb hf;clear hb hf)|(go_at_call 139;(with_reducible refine (HDo.out _).mono ?_);rintro e _ ⟨rfl,hb⟩;replace hL:=hL.call hb;clear hb)|(with_reducible first|(clear hL n1;intro b1 w1 hL)|(clear hL n2;intro b2 w2 hL))|((with_reducible refine goJ rfl ?_);refine goW ?_))
  go_ret
  exact ⟨ret_bool HR.out.symm,hL.below⟩
 rw [if_neg (by simp)] at hR
 clear HDo
 by_cases h0:n=0
 ·rw [if_pos h0] at hR
  have HR:=Lib.hid hR
  have e0:((n:Int) == 0)=true:=by rw [h0];rfl
  clear hR HEn HGp h0
  obtain ⟨n1,n2⟩:=tok2
  go_enter Tryz.func135,Tryz.ntmps135
  go_wp2_with (first|(go_at_call 138;(with_reducible refine (HPi.out _ hL.below).mono ?_);rintro e _ ⟨vp,rfl,hb,hf⟩;obtain ⟨pa,pc,hvp,_⟩:=EdgesAt.parts hf.now;rw [HN.out] at hvp;subst hvp;replace hL:=hL.callF hb hf;clear hb hf)|(with_reducible first|(clear hL n1;intro b1 w1 hL)|(clear hL n2;intro b2 w2 hL))|((with_reducible refine goJ rfl ?_);refine goW ?_))
  go_ret
  exact ⟨ret_bool HR.out.symm,hL.below⟩
 rw [if_neg h0] at hR
 have e0:((n:Int) == 0)=false:=beq_eq_false_iff_ne.2 (by omega)
 have HZ:=Lib.hid (show P.length≠0 by rw [HN.out];exact h0)
 clear h0
 have HYes:=Lib.hid (show ∀ k,k<n→onB sh ⟨wd,cap,join⟩ P x y k=true→R=true from fun k hk h=>by
  rw [hR,List.any_eq_true.2 ⟨k,List.mem_range.2 hk,h⟩];rfl)
 have HNo:=Lib.hid (show (∀ i,i<n→onB sh ⟨wd,cap,join⟩ P x y i=false)→R=(!sh&&endsIn P ⟨wd,cap,join⟩ x y) from fun h=>by
  rw [hR,List.any_eq_false.2 (fun i hi=>by rw [h i (List.mem_range.1 hi)];simp)];rfl)
 clear hR
 generalize endsIn P ⟨wd,cap,join⟩ x y=ev at *
 obtain ⟨n1,n2⟩:=tok2
 go_enter Tryz.func135,Tryz.ntmps135
 go_wp2_with (first|(go_at_call 138;(with_reducible refine (HPi.out _ hL.below).mono ?_);rintro e _ ⟨vp,rfl,hb,hf⟩;obtain ⟨pa,pc,hvp,_⟩:=EdgesAt.parts hf.now;rw [HN.out] at hvp;subst hvp;replace hL:=hL.callF hb hf;clear hb hf)|(with_reducible first|(clear hL n1;intro b1 w1 hL)|(clear hL n2;intro b2 w2 hL))|((with_reducible refine goJ rfl ?_);refine goW ?_))
 go_loopw [11] (fun s11 wr=>∃ k:Nat,k≤n∧s11=.int .i64 k∧(∀ i,i<k→onB sh ⟨wd,cap,join⟩ P x y i=false)∧Holds w wr [blk b2 #[.int .i64 wd,.int .i64 cap,.int .i64 join] 24,blk b1 #[.int .i64 cx,.int .i64 cy,.slice ea m ec,.bool sh] 173] [fun w=>EdgesAt w (.slice pa n pc) P])
  (fun s11 wr=>n-(intOf s11).toNat)
 case atStart=>exact ⟨0,by omega,rfl,fun i hi=>absurd hi (by omega),hL⟩
 case round =>
  clear hL
  obtain ⟨k,hk,rfl,hall,hL⟩:=hrel
  by_cases hkt:k<n
  ·obtain ⟨be,oe,rfl,hc⟩:∃ be oe,pa=some ⟨be,oe,none⟩∧World.rangeAt _ be (oe+k*7) (edgeC (P.getD k default)):=by
    obtain ⟨a',c',he,_,_,hel⟩:=EdgesAt.parts hL.fact0
    injection he with he _ _
    subst he
    exact hel k (by rw [HN.out];exact hkt)
   have hkb:(k:Int)<(n:Int):=by omega
   have hk0:(0:Int)≤(k:Int):=by omega
   have hge:=HGp.out (P.getD k default) (by
    have hk2:k<P.length:=by rw [HN.out];exact hkt
    rw [show P.getD k default=P[k] by simp [hk2]];exact List.getElem_mem hk2)
   have HY:=Lib.hid (HYes.out k hkt)
   have HST:=Lib.hid (show onB sh ⟨wd,cap,join⟩ P x y k=false→∀ i,i<k+1→onB sh ⟨wd,cap,join⟩ P x y i=false from fun h i hi=>by
    rcases (by omega:i<k∨i=k) with h2|rfl
    ·exact hall i h2
    ·exact h)
   have hB:onB sh ⟨wd,cap,join⟩ P x y k=(onA (armU (P.getD k default) x y) (armK (P.getD k default) x y) (armL (P.getD k default)) wd || (((join == 1)&&(decide (0<k) || sh))&&discIn (P.getD k default).x0 (P.getD k default).y0 wd x y)):=rfl
   generalize onB sh ⟨wd,cap,join⟩ P x y k=bv at *
   clear hall
   obtain ⟨eg,heg⟩:∃ eg,P.getD k default=eg:=⟨_,rfl⟩
   rw [heg] at hc hge hB
   have HEg:=Lib.hid heg
   clear heg
   have HAr:=Lib.hid (fun w=>rArm_calls eg hge x y hx hy w)
   have HOn:=Lib.hid (fun w=>armOn_calls _ _ _ (arm_bd hge hx hy) wd hw w)
   have HDi:=Lib.hid (fun w=>rDisc_calls eg.x0 eg.y0 wd x y hge.1.1 hge.1.2 hw hx hy w)
   clear hge
   generalize armU eg x y=U at *
   generalize armK eg x y=K at *
   generalize armL eg=L at *
   generalize onA U K L wd=ov at *
   obtain ⟨x0,y0,bt,dx,dy,x1,y1⟩:=eg
   unfold edgeC at hc HAr
   dsimp only at hc HAr HDi hB
   generalize discIn x0 y0 wd x y=dd at *
   have Hc:=Lib.hid hc
   have Kc:=Lib.hid (hL.range (.there .here))
   have Ks:=Lib.hid (hL.range .here)
   clear hc
   obtain ⟨j1,hj1⟩:∃ j,(join == 1)=j:=⟨_,rfl⟩
   rw [hj1] at hB
   have HB:=Lib.hid hB
   clear hB
   go_wp2_with (first|(with_reducible first|(clear hL n1;intro b1 w1 hL)|(clear hL n2;intro b2 w2 hL))|((with_reducible refine goJ rfl ?_);refine goW ?_))
   refine wpH_laterN (by kernel_rfl) fun hS=>?_
   replace hL:=hL.drew
   refine dsH 0 (.slice (some ⟨be,oe,none⟩) n pc) hS ?_
   refine dsH 1 (.int .i64 (k:Int)) hS ?_
   refine dsH 2 (.pointer (some ⟨be,oe+k*7,none⟩)) hS ?_
   refine drH 3 (.agg #[.int .i64 x0,.int .i64 y0,.bool bt,.int .i64 dx,.int .i64 dy,.int .i64 x1,.int .i64 y1]) hS ?_ ?_;(· exact fun w' hw=>(load_rangeO (cs:=#[.int .i64 x0,.int .i64 y0,.bool bt,.int .i64 dx,.int .i64 dy,.int .i64 x1,.int .i64 y1]) rfl (rangeAt_below Hc.out hw)))
   refine dsH 4 (.int .i64 x) hS ?_
   refine dsH 5 (.int .i64 y) hS ?_
   refine dsH 7 (.pointer (some ⟨b2,0,none⟩)) hS ?_
   refine drH 8 (.int .i64 wd) hS ?_ ?_;(· exact fun w' hw=>(load_cell (laterQ hw (Ks.out 0 _ rfl))))
   refine wpH_one (i:=6) (by kernel_rfl) (wpOf ?_)
   refine st_call rfl 140 #[.agg #[.int .i64 x0,.int .i64 y0,.bool bt,.int .i64 dx,.int .i64 dy,.int .i64 x1,.int .i64 y1],.int .i64 x,.int .i64 y] (by go_simp) (HAr.out _) ?_
   rintro e _ ⟨rfl,hb⟩
   replace hL:=hL.call hb
   replace hS:=hS.trans (hb.mono hS.size)
   clear hb
   refine ⟨_,rfl,hS,?_⟩
   simp only [Act.put,setP]
   refine wpH_one (i:=9) (by kernel_rfl) (wpOf ?_)
   refine st_call rfl 141 #[.agg #[.int .i64 U,.int .i64 K,.int .i64 L],.int .i64 wd] (by go_simp) (HOn.out _) ?_
   rintro e _ ⟨rfl,hb⟩
   replace hL:=hL.call hb
   replace hS:=hS.trans (hb.mono hS.size)
   clear hb
   refine ⟨_,rfl,hS,?_⟩
   simp only [Act.put,setP]
   refine wpAnyH_done (by kernel_rfl) ?_ _
   clear hS
   cases ov
   rotate_left
   ·go_wp2
    go_ret
    exact ⟨ret_bool (HY.out (by rw [HB.out];rfl)).symm,hL.below⟩
   obtain ⟨gb,hgb⟩:∃ g,((j1&&(decide (0<k) || sh))&&dd)=g:=⟨_,rfl⟩
   rw [Bool.false_or,hgb] at HB
   have HGb:=Lib.hid hgb
   clear hgb
   go_upto_region 11 with (fail)
   go_cut [69] from 42 to 69 (fun s69 wc=>s69=.bool gb∧Holds w wc [blk b2 #[.int .i64 wd,.int .i64 cap,.int .i64 join] 24,blk b1 #[.int .i64 cx,.int .i64 cy,.slice ea m ec,.bool sh] 173] [fun w=>EdgesAt w (.slice (some ⟨be,oe,none⟩) n pc) P])
   case first =>
    have Kc:=Lib.hid (hL.range (.there .here))
    have Ks:=Lib.hid (hL.range .here)
    have hc:=edge_at hL.fact0 (show k<P.length by rw [HN.out];exact hkt)
    rw [HEg.out] at hc
    unfold edgeC at hc
    dsimp only at hc
    have Hc2:=Lib.hid hc
    clear hc
    cases j1
    ·refine wpH_laterN (by kernel_rfl) fun hS=>?_
     replace hL:=hL.drew
     refine dsH 0 (.pointer (some ⟨b2,2,none⟩)) hS ?_
     refine drH 1 (.int .i64 join) hS ?_ ?_;(· exact fun w' hw=>(load_cell (laterQ hw (Ks.out 2 _ rfl))))
     refine dsH 2 (.bool false) hS ?_
     refine dsH 3 (.bool false) hS ?_
     refine skH (i:=4) hS ?_
     simp only [Act.put,setP]
     refine skH (i:=5) hS ?_
     simp only [Act.put,setP]
     refine skH (i:=6) hS ?_
     simp only [Act.put,setP]
     refine skH (i:=7) hS ?_
     simp only [Act.put,setP]
     refine skH (i:=8) hS ?_
     simp only [Act.put,setP]
     refine skH (i:=9) hS ?_
     simp only [Act.put,setP]
     refine dsH 10 (.bool false) hS ?_
     refine dsH 11 (.bool false) hS ?_
     refine skH (i:=12) hS ?_
     simp only [Act.put,setP]
     refine skH (i:=13) hS ?_
     simp only [Act.put,setP]
     refine skH (i:=14) hS ?_
     simp only [Act.put,setP]
     refine skH (i:=15) hS ?_
     simp only [Act.put,setP]
     refine skH (i:=16) hS ?_
     simp only [Act.put,setP]
     refine skH (i:=17) hS ?_
     simp only [Act.put,setP]
     refine skH (i:=18) hS ?_
     simp only [Act.put,setP]
     refine skH (i:=19) hS ?_
     simp only [Act.put,setP]
     refine skH (i:=20) hS ?_
     simp only [Act.put,setP]
     refine skH (i:=21) hS ?_
     simp only [Act.put,setP]
     refine skH (i:=22) hS ?_
     simp only [Act.put,setP]
     refine skH (i:=23) hS ?_
     simp only [Act.put,setP]
     refine skH (i:=24) hS ?_
     simp only [Act.put,setP]
     refine skH (i:=25) hS ?_
     simp only [Act.put,setP]
     refine skH (i:=26) hS ?_
     simp only [Act.put,setP]
     refine dsH 27 (.bool false) hS ?_
     refine wpAnyH_done (by kernel_rfl) ?_ _
     clear hS
     go_wp2
     go_meet
     case rel=>exact ⟨by rw [←HGb.out];first|rfl|(simp;done)|(simp [hk1];done)|(simp [hk2];done),hL⟩
    ·rcases (by omega:0<k∨k=0) with hk1|hk1
     ·have ek:(0:Int)<(k:Int):=by omega
      refine wpH_laterN (by kernel_rfl) fun hS=>?_
      replace hL:=hL.drew
      refine dsH 0 (.pointer (some ⟨b2,2,none⟩)) hS ?_
      refine drH 1 (.int .i64 join) hS ?_ ?_;(· exact fun w' hw=>(load_cell (laterQ hw (Ks.out 2 _ rfl))))
      refine dsH 2 (.bool true) hS ?_
      refine dsH 3 (.bool true) hS ?_
      refine dsH 4 (.int .i64 (k:Int)) hS ?_
      refine dsH 5 (.bool true) hS ?_
      refine dsH 6 (.bool true) hS ?_
      refine skH (i:=7) hS ?_
      simp only [Act.put,setP]
      refine skH (i:=8) hS ?_
      simp only [Act.put,setP]
      refine dsH 9 (.bool true) hS ?_
      refine dsH 10 (.bool true) hS ?_
      refine dsH 11 (.bool true) hS ?_
      refine dsH 12 (.slice (some ⟨be,oe,none⟩) n pc) hS ?_
      refine dsH 13 (.int .i64 (k:Int)) hS ?_
      refine dsH 14 (.pointer (some ⟨be,oe+k*7,none⟩)) hS ?_
      refine dsH 15 (.pointer (some ⟨be,oe+k*7,none⟩)) hS ?_
      refine drH 16 (.int .i64 x0) hS ?_ ?_;(· exact fun w' hw=>(load_cell (laterQ hw (Hc2.out 0 _ rfl))))
      refine dsH 17 (.slice (some ⟨be,oe,none⟩) n pc) hS ?_
      refine dsH 18 (.int .i64 (k:Int)) hS ?_
      refine dsH 19 (.pointer (some ⟨be,oe+k*7,none⟩)) hS ?_
      refine dsH 20 (.pointer (some ⟨be,oe+k*7+1,none⟩)) hS ?_
      refine drH 21 (.int .i64 y0) hS ?_ ?_;(· exact fun w' hw=>(load_cell (laterQ hw (Hc2.out 1 _ rfl))))
      refine dsH 22 (.pointer (some ⟨b2,0,none⟩)) hS ?_
      refine drH 23 (.int .i64 wd) hS ?_ ?_;(· exact fun w' hw=>(load_cell (laterQ hw (Ks.out 0 _ rfl))))
      refine dsH 24 (.int .i64 x) hS ?_
      refine dsH 25 (.int .i64 y) hS ?_
      refine wpH_one (i:=26) (by kernel_rfl) (wpOf ?_)
      refine st_call rfl 142 #[.int .i64 x0,.int .i64 y0,.int .i64 wd,.int .i64 x,.int .i64 y] (by go_simp) (HDi.out _) ?_
      rintro e _ ⟨rfl,hb⟩
      replace hL:=hL.call hb
      replace hS:=hS.trans (hb.mono hS.size)
      clear hb
      refine ⟨_,rfl,hS,?_⟩
      simp only [Act.put,setP]
      refine dsH 27 (.bool dd) hS ?_
      refine wpAnyH_done (by kernel_rfl) ?_ _
      clear hS
      go_wp2
      go_meet
      case rel=>exact ⟨by rw [←HGb.out];first|rfl|(simp;done)|(simp [hk1];done)|(simp [hk2];done),hL⟩
     ·have ek:¬(0:Int)<(k:Int):=by omega
      have hk2:¬0<k:=by omega
      clear hk1
      cases sh
      ·refine wpH_laterN (by kernel_rfl) fun hS=>?_
       replace hL:=hL.drew
       refine dsH 0 (.pointer (some ⟨b2,2,none⟩)) hS ?_
       refine drH 1 (.int .i64 join) hS ?_ ?_;(· exact fun w' hw=>(load_cell (laterQ hw (Ks.out 2 _ rfl))))
       refine dsH 2 (.bool true) hS ?_
       refine dsH 3 (.bool true) hS ?_
       refine dsH 4 (.int .i64 (k:Int)) hS ?_
       refine dsH 5 (.bool false) hS ?_
       refine dsH 6 (.bool false) hS ?_
       refine dsH 7 (.pointer (some ⟨b1,3,none⟩)) hS ?_
       refine drH 8 (.bool false) hS ?_ ?_;(· exact fun w' hw=>(load_cell (laterQ hw (Kc.out 3 _ rfl))))
       refine dsH 9 (.bool false) hS ?_
       refine dsH 10 (.bool false) hS ?_
       refine dsH 11 (.bool false) hS ?_
       refine skH (i:=12) hS ?_
       simp only [Act.put,setP]
       refine skH (i:=13) hS ?_
       simp only [Act.put,setP]
       refine skH (i:=14) hS ?_
       simp only [Act.put,setP]
       refine skH (i:=15) hS ?_
       simp only [Act.put,setP]
       refine skH (i:=16) hS ?_
       simp only [Act.put,setP]
       refine skH (i:=17) hS ?_
       simp only [Act.put,setP]
       refine skH (i:=18) hS ?_
       simp only [Act.put,setP]
       refine skH (i:=19) hS ?_
       simp only [Act.put,setP]
       refine skH (i:=20) hS ?_
       simp only [Act.put,setP]
       refine skH (i:=21) hS ?_
       simp only [Act.put,setP]
       refine skH (i:=22) hS ?_
       simp only [Act.put,setP]
       refine skH (i:=23) hS ?_
       simp only [Act.put,setP]
       refine skH (i:=24) hS ?_
       simp only [Act.put,setP]
       refine skH (i:=25) hS ?_
       simp only [Act.put,setP]
       refine skH (i:=26) hS ?_
       simp only [Act.put,setP]
       refine dsH 27 (.bool false) hS ?_
       refine wpAnyH_done (by kernel_rfl) ?_ _
       clear hS
       go_wp2
       go_meet
       case rel=>exact ⟨by rw [←HGb.out];first|rfl|(simp;done)|(simp [hk1];done)|(simp [hk2];done),hL⟩
      ·refine wpH_laterN (by kernel_rfl) fun hS=>?_
       replace hL:=hL.drew
       refine dsH 0 (.pointer (some ⟨b2,2,none⟩)) hS ?_
       refine drH 1 (.int .i64 join) hS ?_ ?_;(· exact fun w' hw=>(load_cell (laterQ hw (Ks.out 2 _ rfl))))
       refine dsH 2 (.bool true) hS ?_
       refine dsH 3 (.bool true) hS ?_
       refine dsH 4 (.int .i64 (k:Int)) hS ?_
       refine dsH 5 (.bool false) hS ?_
       refine dsH 6 (.bool false) hS ?_
       refine dsH 7 (.pointer (some ⟨b1,3,none⟩)) hS ?_
       refine drH 8 (.bool true) hS ?_ ?_;(· exact fun w' hw=>(load_cell (laterQ hw (Kc.out 3 _ rfl))))
       refine dsH 9 (.bool true) hS ?_
       refine dsH 10 (.bool true) hS ?_
       refine dsH 11 (.bool true) hS ?_
       refine dsH 12 (.slice (some ⟨be,oe,none⟩) n pc) hS ?_
       refine dsH 13 (.int .i64 (k:Int)) hS ?_
       refine dsH 14 (.pointer (some ⟨be,oe+k*7,none⟩)) hS ?_
       refine dsH 15 (.pointer (some ⟨be,oe+k*7,none⟩)) hS ?_
       refine drH 16 (.int .i64 x0) hS ?_ ?_;(· exact fun w' hw=>(load_cell (laterQ hw (Hc2.out 0 _ rfl))))
       refine dsH 17 (.slice (some ⟨be,oe,none⟩) n pc) hS ?_
       refine dsH 18 (.int .i64 (k:Int)) hS ?_
       refine dsH 19 (.pointer (some ⟨be,oe+k*7,none⟩)) hS ?_
       refine dsH 20 (.pointer (some ⟨be,oe+k*7+1,none⟩)) hS ?_
       refine drH 21 (.int .i64 y0) hS ?_ ?_;(· exact fun w' hw=>(load_cell (laterQ hw (Hc2.out 1 _ rfl))))
       refine dsH 22 (.pointer (some ⟨b2,0,none⟩)) hS ?_
       refine drH 23 (.int .i64 wd) hS ?_ ?_;(· exact fun w' hw=>(load_cell (laterQ hw (Ks.out 0 _ rfl))))
       refine dsH 24 (.int .i64 x) hS ?_
       refine dsH 25 (.int .i64 y) hS ?_
       refine wpH_one (i:=26) (by kernel_rfl) (wpOf ?_)
       refine st_call rfl 142 #[.int .i64 x0,.int .i64 y0,.int .i64 wd,.int .i64 x,.int .i64 y] (by go_simp) (HDi.out _) ?_
       rintro e _ ⟨rfl,hb⟩
       replace hL:=hL.call hb
       replace hS:=hS.trans (hb.mono hS.size)
       clear hb
       refine ⟨_,rfl,hS,?_⟩
       simp only [Act.put,setP]
       refine dsH 27 (.bool dd) hS ?_
       refine wpAnyH_done (by kernel_rfl) ?_ _
       clear hS
       go_wp2
       go_meet
       case rel=>exact ⟨by rw [←HGb.out];first|rfl|(simp;done)|(simp [hk1];done)|(simp [hk2];done),hL⟩
   case rest =>
    clear hL HGb
    obtain ⟨rfl,hL⟩:=hcut
    cases gb
    ·have HN2:=Lib.hid (HST.out HB.out)
     go_wp2_with (first|(with_reducible first|(clear hL n1;intro b1 w1 hL)|(clear hL n2;intro b2 w2 hL))|((with_reducible refine goJ rfl ?_);refine goW ?_))
     go_roundw
     case rel=>exact ⟨k+1,by omega,by go_num,HN2.out,hL⟩
     case measure=>simp [intOf];omega
    ·have HT:=Lib.hid (HY.out HB.out)
     go_wp2_with (first|(with_reducible first|(clear hL n1;intro b1 w1 hL)|(clear hL n2;intro b2 w2 hL))|((with_reducible refine goJ rfl ?_);refine goW ?_))
     go_ret
     exact ⟨ret_bool HT.out.symm,hL.below⟩
  ·have e:n=k:=by omega
   subst e
   have HF:=Lib.hid (HNo.out hall)
   clear hall
   cases sh
   ·go_wp2_with (first|(go_at_call 143;(with_reducible refine (HEn.out _ _ hL.fact0 HZ.out).mono ?_);rintro e _ ⟨rfl,hb⟩;replace hL:=hL.call hb;clear hb)|((with_reducible refine goJ rfl ?_);refine goW ?_))
    go_ret
    exact ⟨ret_bool (by rw [HF.out];rfl),hL.below⟩
   ·go_wp2_with ((with_reducible refine goJ rfl ?_);refine goW ?_)
    go_ret
    exact ⟨ret_bool (by rw [HF.out];rfl),hL.below⟩
end Go.Proofs.YtmnoeoecjfhhbaaGreat
